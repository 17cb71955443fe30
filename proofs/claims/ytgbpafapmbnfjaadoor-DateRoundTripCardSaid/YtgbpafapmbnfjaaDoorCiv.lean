/- ToCivil of both packages, walked -/
import Derived.Laws.Rows
import Derived.Test.YtgbpafapmbnfjaaDoorCw
namespace Go.Proofs
open Go.RowKit
set_option linter.unusedVariables false
set_option linter.unusedSimpArgs false
namespace TK
abbrev ic (x : Int) : Value := .int .i64 x
def civv (c : Int × Int × Int × Int × Int) : Value := .agg #[ic c.1, ic c.2.1, ic c.2.2.1, ic c.2.2.2.1, ic c.2.2.2.2]
def tcv (t : Int) : Value := if Cal.valid t = true then .tuple #[civv (Cal.civ t), ic 0] else .tuple #[civv (0, 0, 0, 0, 0), ic 2]
theorem cells5 {W : World} {b : Nat} {a0 a1 a2 a3 a4 : Value} {T : TypeId} (h : W.heap[b]? = some (.cells #[a0, a1, a2, a3, a4] T (0, 0))) :
    W.cell? ⟨b, 0, none⟩ = some a0 ∧ W.cell? ⟨b, 1, none⟩ = some a1 ∧ W.cell? ⟨b, 2, none⟩ = some a2 ∧ W.cell? ⟨b, 3, none⟩ = some a3 ∧ W.cell? ⟨b, 4, none⟩ = some a4 ∧
    W.frozen? ⟨b, 0, none⟩ = false ∧ W.frozen? ⟨b, 1, none⟩ = false ∧ W.frozen? ⟨b, 2, none⟩ = false ∧ W.frozen? ⟨b, 3, none⟩ = false ∧ W.frozen? ⟨b, 4, none⟩ = false := by
  refine ⟨?_, ?_, ?_, ?_, ?_, frozen_of_row _ _ _ _ _ h, frozen_of_row _ _ _ _ _ h, frozen_of_row _ _ _ _ _ h, frozen_of_row _ _ _ _ _ h, frozen_of_row _ _ _ _ _ h⟩ <;> rw [Go.cell_of_row _ _ _ _ _ _ h] <;> rfl
end TK
open TK
set_option maxRecDepth 100000 in
set_option maxHeartbeats 1000000 in
theorem Tryd.dToCivil_bad (t : Int) (h : Cal.valid t = false) (w : World) : Calls Tryd.prog 11 #[.int .i64 t] w fun e w' => e = .returned (tcv t) ∧ Below w.heap.size w w' := by
  have hc := Tryd.dValid t
  rw [h] at hc
  have ht : Hid (tcv t = .tuple #[civv (0, 0, 0, 0, 0), ic 2]) := Lib.hid (by unfold tcv; rw [if_neg (by rw [h]; decide)])
  have hHc := Lib.hid hc
  clear h hc
  go_enter Tryd.func11, Tryd.ntmps11
  go_wp2_with (go_at_call 13; refine (hHc.out _).mono ?_; rintro e w' ⟨rfl, rfl⟩)
  exact bodyPost_ret (v := .tuple #[civv (0, 0, 0, 0, 0), ic 2]) (by simp [results, Tryd.results11, go_sem, civv]) rfl ⟨by rw [ht.out], (Below.refl _ _).alloc (Nat.le_refl _) _⟩
set_option maxRecDepth 100000 in
set_option maxHeartbeats 4000000 in
theorem Tryd.dToCivil_good (t : Int) (h : Cal.valid t = true) (w : World) : Calls Tryd.prog 11 #[.int .i64 t] w fun e w' => e = .returned (tcv t) ∧ Below w.heap.size w w' := by
  have hc := Tryd.dValid t
  rw [h] at hc
  have ht : Hid (tcv t = .tuple #[civv (Cal.civ t), ic 0]) := Lib.hid (by unfold tcv; rw [if_pos h])
  have hHc := Lib.hid hc
  obtain ⟨t0, t1⟩ := Cal.valid_iff.1 h
  clear h hc
  obtain ⟨kk, jj, hkk, hjj, b1, b2, b3, b4⟩ := Cal.ymd_ex (D := t / 1440) (by omega) (by omega)
  have hymd := Lib.hid (Cal.ymd_at hkk hjj b1 b2 b3 b4)
  go_enter Tryd.func11, Tryd.ntmps11
  go_wp2_with (go_at_call 13; refine (hHc.out _).mono ?_; rintro e w' ⟨rfl, rfl⟩)
  have e60 : t % 1440 % 60 = t % 60 := by omega
  try rw [e60]
  clear e60
  go_loopw [4] (fun s4 wr => ∃ k : Nat, k ≤ kk ∧ s4 = .int .i64 (t / 1440 - Cal.dby k) ∧ wr = (w.alloc (.cells #[.int .i64 0, .int .i64 0, .int .i64 0, .int .i64 0, .int .i64 0] 24)).alloc (.cells #[.int .i64 (2000 + k), .int .i64 1, .int .i64 0, .int .i64 (t % 1440 / 60), .int .i64 (t % 60)] 24)) (fun s4 _ => (intOf s4).toNat)
  case atStart => exact ⟨0, Nat.zero_le _, by rw [show Cal.dby 0 = 0 from rfl, Int.sub_zero], by simp⟩
  case round =>
    obtain ⟨k, hk, rfl, rfl⟩ := hrel
    by_cases hkl : k < kk
    ·
      have hyc := Lib.hid (fun W => Tryd.dYearDays (2000 + (k : Int)) (by omega) (by omega) W)
      have hq := Cal.yd_pos (2000 + (k : Int))
      have hHe0 : Cal.dby (k + 1) = Cal.dby k + Cal.yd (2000 + k) := rfl
      have hHe := Lib.hid hHe0
      clear hHe0
      have hdk : 0 ≤ Cal.dby k := Cal.dby_mono (Nat.zero_le k)
      generalize Cal.yd (2000 + (k : Int)) = q at hyc hq hHe
      have hge : q ≤ t / 1440 - Cal.dby k := by
        have := Cal.dby_mono (show k + 1 ≤ kk by omega)
        have := hHe.out
        omega
      go_wp2_with (go_at_call 27; refine (hyc.out _).mono ?_; rintro e w' ⟨rfl, rfl⟩)
      go_roundw
      case rel => exact ⟨k + 1, by omega, by rw [hHe.out]; congr 1; omega, by first | rfl | (congr 1; simp; omega) | (simp; omega)⟩
      case measure => simp [intOf]; omega
    · obtain rfl : k = kk := by omega
      have hyc := Lib.hid (fun W => Tryd.dYearDays (2000 + (k : Int)) (by omega) (by omega) W)
      have hq := Cal.yd_pos (2000 + (k : Int))
      have hHe0 : Cal.dby (k + 1) = Cal.dby k + Cal.yd (2000 + k) := rfl
      have hHe := Lib.hid hHe0
      clear hHe0
      have hdk : 0 ≤ Cal.dby k := Cal.dby_mono (Nat.zero_le k)
      generalize Cal.yd (2000 + (k : Int)) = q at hyc hq hHe
      have hlt : t / 1440 - Cal.dby k < q := by
        have := hHe.out
        omega
      go_wp2_with (go_at_call 27; refine (hyc.out _).mono ?_; rintro e w' ⟨rfl, rfl⟩)
      go_loopw [4] (fun s4 wr => ∃ j : Nat, j ≤ jj ∧ s4 = .int .i64 (t / 1440 - Cal.dby k - Cal.cum (2000 + k) j) ∧ Hid (wr.heap[w.heap.size + 1]? = some (.cells #[.int .i64 (2000 + k), .int .i64 (1 + j), .int .i64 0, .int .i64 (t % 1440 / 60), .int .i64 (t % 60)] 24 (0, 0))) ∧ Hid (wr.heap[w.heap.size]? = some (.cells #[.int .i64 0, .int .i64 0, .int .i64 0, .int .i64 0, .int .i64 0] 24 (0, 0))) ∧ Hid (Below w.heap.size w wr) ∧ Hid (w.heap.size + 2 ≤ wr.heap.size)) (fun s4 _ => (intOf s4).toNat)
      case atStart => exact ⟨0, Nat.zero_le _, by rw [show Cal.cum (2000 + k) 0 = 0 from rfl, Int.sub_zero], Lib.hid (by simpa using Go.heap_alloc2_new w _ _), Lib.hid (Go.heap_alloc2_old w _ _), Lib.hid (((Below.refl _ _).alloc (Nat.le_refl _) _).alloc (by simp) _), Lib.hid (by simp)⟩
      case round =>
        obtain ⟨j, hj, rfl, hr2, hr1, hB, hsz⟩ := hrel
        have hmc := Lib.hid (fun W => Tryd.dMonthDays (2000 + (k : Int)) (1 + (j : Int)) (by omega) (by omega) (by omega) (by omega) W)
        have hm := Cal.md_pos (2000 + (k : Int)) (1 + (j : Int)) (by omega) (by omega)
        have hce0 : Cal.cum (2000 + k) (j + 1) = Cal.cum (2000 + k) j + Cal.md (2000 + k) (1 + j) := rfl
        have hce := Lib.hid hce0
        clear hce0
        have hck : 0 ≤ Cal.cum (2000 + k) j := Cal.cum_mono (2000 + k) (show j ≤ 12 by omega) (Nat.zero_le j)
        obtain ⟨q0, q1, -, -, -, -, -, -, -, -⟩ := cells5 hr2.out
        by_cases hjl : j < jj
        · have hge : Cal.md (2000 + (k : Int)) (1 + (j : Int)) ≤ t / 1440 - Cal.dby k - Cal.cum (2000 + k) j := by
            have := Cal.cum_mono (2000 + k) (show jj ≤ 12 by omega) (show j + 1 ≤ jj by omega)
            have := hce.out
            omega
          generalize Cal.md (2000 + (k : Int)) (1 + (j : Int)) = q at hmc hm hce hge
          generalize Cal.cum (2000 + k) j = c0 at hce hge hck ⊢
          go_wp2_with fail
          refine (hmc.out _).mono ?_
          rintro e W1 ⟨rfl, hb1⟩
          have hr21 := Lib.hid ((hb1.block _ (by have := hsz.out; omega)).trans hr2.out)
          have hr11 := Lib.hid ((hb1.block _ (by have := hsz.out; omega)).trans hr1.out)
          have hB1 := Lib.hid (hB.out.trans (hb1.mono hB.out.size))
          have hsz1 := Lib.hid (Nat.le_trans hsz.out hb1.size)
          clear q0 q1 hr2 hr1 hB hsz hb1
          obtain ⟨q0, q1, -, -, -, -, -, -, -, -⟩ := cells5 hr21.out
          go_wp2_with fail
          refine (hmc.out _).mono ?_
          rintro e W2 ⟨rfl, hb2⟩
          have hr22 := Lib.hid ((hb2.block _ (by have := hsz1.out; omega)).trans hr21.out)
          have hr12 := Lib.hid ((hb2.block _ (by have := hsz1.out; omega)).trans hr11.out)
          have hB2 := Lib.hid (hB1.out.trans (hb2.mono hB1.out.size))
          have hsz2 := Lib.hid (Nat.le_trans hsz1.out hb2.size)
          clear q0 q1 hr21 hr11 hB1 hsz1 hb2
          obtain ⟨q0, q1, -, -, -, f0, f1, -, -, -⟩ := cells5 hr22.out
          go_wp2_with fail
          go_roundw
          case rel => exact ⟨j + 1, by omega, by rw [hce.out]; congr 1; omega, Lib.hid (by
            have h := heap_setCell_same W2 (w.heap.size + 1) 1 _ 24 (.int .i64 (1 + ((j + 1 : Nat) : Int))) hr22.out
            have e1 : (1 : Int) + ((j + 1 : Nat) : Int) = 1 + (j : Int) + 1 := by omega
            rw [e1] at h ⊢
            exact h), Lib.hid ((Below.heap_setCell W2 _ _ _ (by show w.heap.size ≠ w.heap.size + 1; omega)).trans hr12.out), Lib.hid (hB2.out.setCell (by show w.heap.size ≤ w.heap.size + 1; omega) _), Lib.hid (by rw [World.size_setCell]; exact hsz2.out)⟩
          case measure => simp [intOf]; omega
        · obtain rfl : j = jj := by omega
          have hlt : t / 1440 - Cal.dby k - Cal.cum (2000 + k) j < Cal.md (2000 + (k : Int)) (1 + (j : Int)) := by
            have := hce.out
            omega
          have hfin : Hid (civv (Cal.civ t) = .agg #[.int .i64 (2000 + k), .int .i64 (1 + j), .int .i64 (t / 1440 - Cal.dby k - Cal.cum (2000 + k) j + 1), .int .i64 (t % 1440 / 60), .int .i64 (t % 60)]) := Lib.hid (by
            unfold civv Cal.civ
            rw [hymd.out])
          generalize Cal.md (2000 + (k : Int)) (1 + (j : Int)) = q at hmc hm hce hlt
          generalize Cal.cum (2000 + k) j = c0 at hce hlt hfin hck b3 b4 hymd ⊢
          go_wp2_with fail
          refine (hmc.out _).mono ?_
          rintro e W1 ⟨rfl, hb1⟩
          have hr21 := Lib.hid ((hb1.block _ (by have := hsz.out; omega)).trans hr2.out)
          have hr11 := Lib.hid ((hb1.block _ (by have := hsz.out; omega)).trans hr1.out)
          have hB1 := Lib.hid (hB.out.trans (hb1.mono hB.out.size))
          clear q0 q1 hr2 hr1 hB hsz hb1
          obtain ⟨q0, q1, q2, q3, q4, f0, f1, f2, f3, f4⟩ := cells5 hr21.out
          obtain ⟨z0, z1, z2, z3, z4, g0, g1, g2, g3, g4⟩ := cells5 hr11.out
          go_wp2_with fail
          exact bodyPost_ret (v := .tuple #[.agg #[.int .i64 (2000 + k), .int .i64 (1 + j), .int .i64 (t / 1440 - Cal.dby k - c0 + 1), .int .i64 (t % 1440 / 60), .int .i64 (t % 60)], .int .i64 0]) (by simp [results, Tryd.results11, go_sem, q0, q1, q2, q3, q4, f0, f1, f2, f3, f4, z0, z1, z2, z3, z4, g0, g1, g2, g3, g4]) rfl ⟨by rw [ht.out, hfin.out], (((((hB1.out.setCell (by simp) _).setCell (by simp) _).setCell (by simp) _).setCell (by simp) _).setCell (by simp) _).setCell (by simp) _⟩
set_option maxRecDepth 100000 in
set_option maxHeartbeats 1000000 in
theorem Tryd.qToCivil_bad (t : Int) (h : Cal.valid t = false) (w : World) : Calls Tryd.prog 12 #[.int .i64 t] w fun e w' => e = .returned (tcv t) ∧ Below w.heap.size w w' := by
  have hc := Tryd.qValid t
  rw [h] at hc
  have ht : Hid (tcv t = .tuple #[civv (0, 0, 0, 0, 0), ic 2]) := Lib.hid (by unfold tcv; rw [if_neg (by rw [h]; decide)])
  have hHc := Lib.hid hc
  clear h hc
  go_enter Tryd.func12, Tryd.ntmps12
  go_wp2_with (go_at_call 19; refine (hHc.out _).mono ?_; rintro e w' ⟨rfl, rfl⟩)
  exact bodyPost_ret (v := .tuple #[civv (0, 0, 0, 0, 0), ic 2]) (by simp [results, Tryd.results12, go_sem, civv]) rfl ⟨by rw [ht.out], (Below.refl _ _).alloc (Nat.le_refl _) _⟩
set_option maxRecDepth 100000 in
set_option maxHeartbeats 4000000 in
theorem Tryd.qToCivil_good (t : Int) (h : Cal.valid t = true) (w : World) : Calls Tryd.prog 12 #[.int .i64 t] w fun e w' => e = .returned (tcv t) ∧ Below w.heap.size w w' := by
  have hc := Tryd.qValid t
  rw [h] at hc
  have ht : Hid (tcv t = .tuple #[civv (Cal.civ t), ic 0]) := Lib.hid (by unfold tcv; rw [if_pos h])
  have hHc := Lib.hid hc
  obtain ⟨t0, t1⟩ := Cal.valid_iff.1 h
  clear h hc
  obtain ⟨kk, jj, hkk, hjj, b1, b2, b3, b4⟩ := Cal.ymd_ex (D := t / 1440) (by omega) (by omega)
  have hymd := Lib.hid (Cal.ymd_at hkk hjj b1 b2 b3 b4)
  go_enter Tryd.func12, Tryd.ntmps12
  go_wp2_with (go_at_call 19; refine (hHc.out _).mono ?_; rintro e w' ⟨rfl, rfl⟩)
  have e60 : t % 1440 % 60 = t % 60 := by omega
  try rw [e60]
  clear e60
  go_loopw [4] (fun s4 wr => ∃ k : Nat, k ≤ kk ∧ s4 = .int .i64 (t / 1440 - Cal.dby k) ∧ wr = (w.alloc (.cells #[.int .i64 0, .int .i64 0, .int .i64 0, .int .i64 0, .int .i64 0] 28)).alloc (.cells #[.int .i64 (2000 + k), .int .i64 1, .int .i64 0, .int .i64 (t % 1440 / 60), .int .i64 (t % 60)] 28)) (fun s4 _ => (intOf s4).toNat)
  case atStart => exact ⟨0, Nat.zero_le _, by rw [show Cal.dby 0 = 0 from rfl, Int.sub_zero], by simp⟩
  case round =>
    obtain ⟨k, hk, rfl, rfl⟩ := hrel
    by_cases hkl : k < kk
    ·
      have hyc0 := fun W => Tryd.qLeap (2000 + (k : Int)) (by omega) (by omega) W
      have hHe0 : Cal.dby (k + 1) = Cal.dby k + Cal.yd (2000 + k) := rfl
      have hHe := Lib.hid hHe0
      clear hHe0
      have hdk : 0 ≤ Cal.dby k := Cal.dby_mono (Nat.zero_le k)
      cases hlp : Cal.lp (2000 + (k : Int))
      · rw [hlp] at hyc0
        have hyc := Lib.hid hyc0
        have hqe : Cal.yd (2000 + (k : Int)) = 365 := by unfold Cal.yd; rw [hlp]; rfl
        rw [hqe] at hHe
        clear hyc0 hlp hqe
        have hq : (365 : Int) ≤ 365 := by omega
        have hge : 365 ≤ t / 1440 - Cal.dby k := by
          have := Cal.dby_mono (show k + 1 ≤ kk by omega)
          have := hHe.out
          omega
        go_wp2_with (go_at_call 29; refine (hyc.out _).mono ?_; rintro e w' ⟨rfl, rfl⟩)
        go_roundw
        case rel => exact ⟨k + 1, by omega, by rw [hHe.out]; congr 1; omega, by first | rfl | (congr 1; simp; omega) | (simp; omega)⟩
        case measure => simp [intOf]; omega
      · rw [hlp] at hyc0
        have hyc := Lib.hid hyc0
        have hqe : Cal.yd (2000 + (k : Int)) = 366 := by unfold Cal.yd; rw [hlp]; rfl
        rw [hqe] at hHe
        clear hyc0 hlp hqe
        have hq : (365 : Int) ≤ 366 := by omega
        have hge : 366 ≤ t / 1440 - Cal.dby k := by
          have := Cal.dby_mono (show k + 1 ≤ kk by omega)
          have := hHe.out
          omega
        go_wp2_with (go_at_call 29; refine (hyc.out _).mono ?_; rintro e w' ⟨rfl, rfl⟩)
        go_roundw
        case rel => exact ⟨k + 1, by omega, by rw [hHe.out]; congr 1; omega, by first | rfl | (congr 1; simp; omega) | (simp; omega)⟩
        case measure => simp [intOf]; omega
    · obtain rfl : k = kk := by omega
      have hyc0 := fun W => Tryd.qLeap (2000 + (k : Int)) (by omega) (by omega) W
      have hHe0 : Cal.dby (k + 1) = Cal.dby k + Cal.yd (2000 + k) := rfl
      have hHe := Lib.hid hHe0
      clear hHe0
      have hdk : 0 ≤ Cal.dby k := Cal.dby_mono (Nat.zero_le k)
      cases hlp : Cal.lp (2000 + (k : Int))
      · rw [hlp] at hyc0
        have hyc := Lib.hid hyc0
        have hqe : Cal.yd (2000 + (k : Int)) = 365 := by unfold Cal.yd; rw [hlp]; rfl
        rw [hqe] at hHe
        clear hyc0 hlp hqe
        have hq : (365 : Int) ≤ 365 := by omega
        have hlt : t / 1440 - Cal.dby k < 365 := by
          have := hHe.out
          omega
        go_wp2_with (go_at_call 29; refine (hyc.out _).mono ?_; rintro e w' ⟨rfl, rfl⟩)
        go_loopw [4] (fun s4 wr => ∃ j : Nat, j ≤ jj ∧ s4 = .int .i64 (t / 1440 - Cal.dby k - Cal.cum (2000 + k) j) ∧ Hid (wr.heap[w.heap.size + 1]? = some (.cells #[.int .i64 (2000 + k), .int .i64 (1 + j), .int .i64 0, .int .i64 (t % 1440 / 60), .int .i64 (t % 60)] 28 (0, 0))) ∧ Hid (wr.heap[w.heap.size]? = some (.cells #[.int .i64 0, .int .i64 0, .int .i64 0, .int .i64 0, .int .i64 0] 28 (0, 0))) ∧ Hid (Below w.heap.size w wr) ∧ Hid (w.heap.size + 2 ≤ wr.heap.size)) (fun s4 _ => (intOf s4).toNat)
        case atStart => exact ⟨0, Nat.zero_le _, by rw [show Cal.cum (2000 + k) 0 = 0 from rfl, Int.sub_zero], Lib.hid (by simpa using Go.heap_alloc2_new w _ _), Lib.hid (Go.heap_alloc2_old w _ _), Lib.hid (((Below.refl _ _).alloc (Nat.le_refl _) _).alloc (by simp) _), Lib.hid (by simp)⟩
        case round =>
          obtain ⟨j, hj, rfl, hr2, hr1, hB, hsz⟩ := hrel
          have hmc := Lib.hid (fun W => Tryd.qDays (2000 + (k : Int)) (1 + (j : Int)) (by omega) (by omega) (by omega) (by omega) W)
          have hm := Cal.md_pos (2000 + (k : Int)) (1 + (j : Int)) (by omega) (by omega)
          have hce0 : Cal.cum (2000 + k) (j + 1) = Cal.cum (2000 + k) j + Cal.md (2000 + k) (1 + j) := rfl
          have hce := Lib.hid hce0
          clear hce0
          have hck : 0 ≤ Cal.cum (2000 + k) j := Cal.cum_mono (2000 + k) (show j ≤ 12 by omega) (Nat.zero_le j)
          obtain ⟨q0, q1, -, -, -, -, -, -, -, -⟩ := cells5 hr2.out
          by_cases hjl : j < jj
          · have hge : Cal.md (2000 + (k : Int)) (1 + (j : Int)) ≤ t / 1440 - Cal.dby k - Cal.cum (2000 + k) j := by
              have := Cal.cum_mono (2000 + k) (show jj ≤ 12 by omega) (show j + 1 ≤ jj by omega)
              have := hce.out
              omega
            generalize Cal.md (2000 + (k : Int)) (1 + (j : Int)) = q at hmc hm hce hge
            generalize Cal.cum (2000 + k) j = c0 at hce hge hck ⊢
            go_wp2_with fail
            refine (hmc.out _).mono ?_
            rintro e W1 ⟨rfl, hb1⟩
            have hr21 := Lib.hid ((hb1.block _ (by have := hsz.out; omega)).trans hr2.out)
            have hr11 := Lib.hid ((hb1.block _ (by have := hsz.out; omega)).trans hr1.out)
            have hB1 := Lib.hid (hB.out.trans (hb1.mono hB.out.size))
            have hsz1 := Lib.hid (Nat.le_trans hsz.out hb1.size)
            clear q0 q1 hr2 hr1 hB hsz hb1
            obtain ⟨q0, q1, -, -, -, -, -, -, -, -⟩ := cells5 hr21.out
            go_wp2_with fail
            refine (hmc.out _).mono ?_
            rintro e W2 ⟨rfl, hb2⟩
            have hr22 := Lib.hid ((hb2.block _ (by have := hsz1.out; omega)).trans hr21.out)
            have hr12 := Lib.hid ((hb2.block _ (by have := hsz1.out; omega)).trans hr11.out)
            have hB2 := Lib.hid (hB1.out.trans (hb2.mono hB1.out.size))
            have hsz2 := Lib.hid (Nat.le_trans hsz1.out hb2.size)
            clear q0 q1 hr21 hr11 hB1 hsz1 hb2
            obtain ⟨q0, q1, -, -, -, f0, f1, -, -, -⟩ := cells5 hr22.out
            go_wp2_with fail
            go_roundw
            case rel => exact ⟨j + 1, by omega, by rw [hce.out]; congr 1; omega, Lib.hid (by
              have h := heap_setCell_same W2 (w.heap.size + 1) 1 _ 28 (.int .i64 (1 + ((j + 1 : Nat) : Int))) hr22.out
              have e1 : (1 : Int) + ((j + 1 : Nat) : Int) = 1 + (j : Int) + 1 := by omega
              rw [e1] at h ⊢
              exact h), Lib.hid ((Below.heap_setCell W2 _ _ _ (by show w.heap.size ≠ w.heap.size + 1; omega)).trans hr12.out), Lib.hid (hB2.out.setCell (by show w.heap.size ≤ w.heap.size + 1; omega) _), Lib.hid (by rw [World.size_setCell]; exact hsz2.out)⟩
            case measure => simp [intOf]; omega
          · obtain rfl : j = jj := by omega
            have hlt : t / 1440 - Cal.dby k - Cal.cum (2000 + k) j < Cal.md (2000 + (k : Int)) (1 + (j : Int)) := by
              have := hce.out
              omega
            have hfin : Hid (civv (Cal.civ t) = .agg #[.int .i64 (2000 + k), .int .i64 (1 + j), .int .i64 (t / 1440 - Cal.dby k - Cal.cum (2000 + k) j + 1), .int .i64 (t % 1440 / 60), .int .i64 (t % 60)]) := Lib.hid (by
              unfold civv Cal.civ
              rw [hymd.out])
            generalize Cal.md (2000 + (k : Int)) (1 + (j : Int)) = q at hmc hm hce hlt
            generalize Cal.cum (2000 + k) j = c0 at hce hlt hfin hck b3 b4 hymd ⊢
            go_wp2_with fail
            refine (hmc.out _).mono ?_
            rintro e W1 ⟨rfl, hb1⟩
            have hr21 := Lib.hid ((hb1.block _ (by have := hsz.out; omega)).trans hr2.out)
            have hr11 := Lib.hid ((hb1.block _ (by have := hsz.out; omega)).trans hr1.out)
            have hB1 := Lib.hid (hB.out.trans (hb1.mono hB.out.size))
            clear q0 q1 hr2 hr1 hB hsz hb1
            obtain ⟨q0, q1, q2, q3, q4, f0, f1, f2, f3, f4⟩ := cells5 hr21.out
            obtain ⟨z0, z1, z2, z3, z4, g0, g1, g2, g3, g4⟩ := cells5 hr11.out
            go_wp2_with fail
            exact bodyPost_ret (v := .tuple #[.agg #[.int .i64 (2000 + k), .int .i64 (1 + j), .int .i64 (t / 1440 - Cal.dby k - c0 + 1), .int .i64 (t % 1440 / 60), .int .i64 (t % 60)], .int .i64 0]) (by simp [results, Tryd.results12, go_sem, q0, q1, q2, q3, q4, f0, f1, f2, f3, f4, z0, z1, z2, z3, z4, g0, g1, g2, g3, g4]) rfl ⟨by rw [ht.out, hfin.out], (((((hB1.out.setCell (by simp) _).setCell (by simp) _).setCell (by simp) _).setCell (by simp) _).setCell (by simp) _).setCell (by simp) _⟩
      · rw [hlp] at hyc0
        have hyc := Lib.hid hyc0
        have hqe : Cal.yd (2000 + (k : Int)) = 366 := by unfold Cal.yd; rw [hlp]; rfl
        rw [hqe] at hHe
        clear hyc0 hlp hqe
        have hq : (365 : Int) ≤ 366 := by omega
        have hlt : t / 1440 - Cal.dby k < 366 := by
          have := hHe.out
          omega
        go_wp2_with (go_at_call 29; refine (hyc.out _).mono ?_; rintro e w' ⟨rfl, rfl⟩)
        go_loopw [4] (fun s4 wr => ∃ j : Nat, j ≤ jj ∧ s4 = .int .i64 (t / 1440 - Cal.dby k - Cal.cum (2000 + k) j) ∧ Hid (wr.heap[w.heap.size + 1]? = some (.cells #[.int .i64 (2000 + k), .int .i64 (1 + j), .int .i64 0, .int .i64 (t % 1440 / 60), .int .i64 (t % 60)] 28 (0, 0))) ∧ Hid (wr.heap[w.heap.size]? = some (.cells #[.int .i64 0, .int .i64 0, .int .i64 0, .int .i64 0, .int .i64 0] 28 (0, 0))) ∧ Hid (Below w.heap.size w wr) ∧ Hid (w.heap.size + 2 ≤ wr.heap.size)) (fun s4 _ => (intOf s4).toNat)
        case atStart => exact ⟨0, Nat.zero_le _, by rw [show Cal.cum (2000 + k) 0 = 0 from rfl, Int.sub_zero], Lib.hid (by simpa using Go.heap_alloc2_new w _ _), Lib.hid (Go.heap_alloc2_old w _ _), Lib.hid (((Below.refl _ _).alloc (Nat.le_refl _) _).alloc (by simp) _), Lib.hid (by simp)⟩
        case round =>
          obtain ⟨j, hj, rfl, hr2, hr1, hB, hsz⟩ := hrel
          have hmc := Lib.hid (fun W => Tryd.qDays (2000 + (k : Int)) (1 + (j : Int)) (by omega) (by omega) (by omega) (by omega) W)
          have hm := Cal.md_pos (2000 + (k : Int)) (1 + (j : Int)) (by omega) (by omega)
          have hce0 : Cal.cum (2000 + k) (j + 1) = Cal.cum (2000 + k) j + Cal.md (2000 + k) (1 + j) := rfl
          have hce := Lib.hid hce0
          clear hce0
          have hck : 0 ≤ Cal.cum (2000 + k) j := Cal.cum_mono (2000 + k) (show j ≤ 12 by omega) (Nat.zero_le j)
          obtain ⟨q0, q1, -, -, -, -, -, -, -, -⟩ := cells5 hr2.out
          by_cases hjl : j < jj
          · have hge : Cal.md (2000 + (k : Int)) (1 + (j : Int)) ≤ t / 1440 - Cal.dby k - Cal.cum (2000 + k) j := by
              have := Cal.cum_mono (2000 + k) (show jj ≤ 12 by omega) (show j + 1 ≤ jj by omega)
              have := hce.out
              omega
            generalize Cal.md (2000 + (k : Int)) (1 + (j : Int)) = q at hmc hm hce hge
            generalize Cal.cum (2000 + k) j = c0 at hce hge hck ⊢
            go_wp2_with fail
            refine (hmc.out _).mono ?_
            rintro e W1 ⟨rfl, hb1⟩
            have hr21 := Lib.hid ((hb1.block _ (by have := hsz.out; omega)).trans hr2.out)
            have hr11 := Lib.hid ((hb1.block _ (by have := hsz.out; omega)).trans hr1.out)
            have hB1 := Lib.hid (hB.out.trans (hb1.mono hB.out.size))
            have hsz1 := Lib.hid (Nat.le_trans hsz.out hb1.size)
            clear q0 q1 hr2 hr1 hB hsz hb1
            obtain ⟨q0, q1, -, -, -, -, -, -, -, -⟩ := cells5 hr21.out
            go_wp2_with fail
            refine (hmc.out _).mono ?_
            rintro e W2 ⟨rfl, hb2⟩
            have hr22 := Lib.hid ((hb2.block _ (by have := hsz1.out; omega)).trans hr21.out)
            have hr12 := Lib.hid ((hb2.block _ (by have := hsz1.out; omega)).trans hr11.out)
            have hB2 := Lib.hid (hB1.out.trans (hb2.mono hB1.out.size))
            have hsz2 := Lib.hid (Nat.le_trans hsz1.out hb2.size)
            clear q0 q1 hr21 hr11 hB1 hsz1 hb2
            obtain ⟨q0, q1, -, -, -, f0, f1, -, -, -⟩ := cells5 hr22.out
            go_wp2_with fail
            go_roundw
            case rel => exact ⟨j + 1, by omega, by rw [hce.out]; congr 1; omega, Lib.hid (by
              have h := heap_setCell_same W2 (w.heap.size + 1) 1 _ 28 (.int .i64 (1 + ((j + 1 : Nat) : Int))) hr22.out
              have e1 : (1 : Int) + ((j + 1 : Nat) : Int) = 1 + (j : Int) + 1 := by omega
              rw [e1] at h ⊢
              exact h), Lib.hid ((Below.heap_setCell W2 _ _ _ (by show w.heap.size ≠ w.heap.size + 1; omega)).trans hr12.out), Lib.hid (hB2.out.setCell (by show w.heap.size ≤ w.heap.size + 1; omega) _), Lib.hid (by rw [World.size_setCell]; exact hsz2.out)⟩
            case measure => simp [intOf]; omega
          · obtain rfl : j = jj := by omega
            have hlt : t / 1440 - Cal.dby k - Cal.cum (2000 + k) j < Cal.md (2000 + (k : Int)) (1 + (j : Int)) := by
              have := hce.out
              omega
            have hfin : Hid (civv (Cal.civ t) = .agg #[.int .i64 (2000 + k), .int .i64 (1 + j), .int .i64 (t / 1440 - Cal.dby k - Cal.cum (2000 + k) j + 1), .int .i64 (t % 1440 / 60), .int .i64 (t % 60)]) := Lib.hid (by
              unfold civv Cal.civ
              rw [hymd.out])
            generalize Cal.md (2000 + (k : Int)) (1 + (j : Int)) = q at hmc hm hce hlt
            generalize Cal.cum (2000 + k) j = c0 at hce hlt hfin hck b3 b4 hymd ⊢
            go_wp2_with fail
            refine (hmc.out _).mono ?_
            rintro e W1 ⟨rfl, hb1⟩
            have hr21 := Lib.hid ((hb1.block _ (by have := hsz.out; omega)).trans hr2.out)
            have hr11 := Lib.hid ((hb1.block _ (by have := hsz.out; omega)).trans hr1.out)
            have hB1 := Lib.hid (hB.out.trans (hb1.mono hB.out.size))
            clear q0 q1 hr2 hr1 hB hsz hb1
            obtain ⟨q0, q1, q2, q3, q4, f0, f1, f2, f3, f4⟩ := cells5 hr21.out
            obtain ⟨z0, z1, z2, z3, z4, g0, g1, g2, g3, g4⟩ := cells5 hr11.out
            go_wp2_with fail
            exact bodyPost_ret (v := .tuple #[.agg #[.int .i64 (2000 + k), .int .i64 (1 + j), .int .i64 (t / 1440 - Cal.dby k - c0 + 1), .int .i64 (t % 1440 / 60), .int .i64 (t % 60)], .int .i64 0]) (by simp [results, Tryd.results12, go_sem, q0, q1, q2, q3, q4, f0, f1, f2, f3, f4, z0, z1, z2, z3, z4, g0, g1, g2, g3, g4]) rfl ⟨by rw [ht.out, hfin.out], (((((hB1.out.setCell (by simp) _).setCell (by simp) _).setCell (by simp) _).setCell (by simp) _).setCell (by simp) _).setCell (by simp) _⟩
theorem Tryd.dToCivil (t : Int) (w : World) : Calls Tryd.prog 11 #[.int .i64 t] w fun e w' => e = .returned (tcv t) ∧ Below w.heap.size w w' := by
  cases h : Cal.valid t
  · exact Tryd.dToCivil_bad t h w
  · exact Tryd.dToCivil_good t h w
theorem Tryd.qToCivil (t : Int) (w : World) : Calls Tryd.prog 12 #[.int .i64 t] w fun e w' => e = .returned (tcv t) ∧ Below w.heap.size w w' := by
  cases h : Cal.valid t
  · exact Tryd.qToCivil_bad t h w
  · exact Tryd.qToCivil_good t h w
end Go.Proofs
