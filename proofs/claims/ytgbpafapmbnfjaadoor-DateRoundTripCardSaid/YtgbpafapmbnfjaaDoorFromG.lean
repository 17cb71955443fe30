/- FromCivil of both packages at a date that is good, walked -/
import Derived.Test.YtgbpafapmbnfjaaDoorFrom
namespace Go.Proofs
open Go.RowKit
set_option linter.unusedVariables false
set_option linter.unusedSimpArgs false
open TK
set_option maxRecDepth 100000 in
set_option maxHeartbeats 2000000 in
theorem Tryd.dFromCivil_good (y m d h mi q : Int) (hq : Hid (Cal.md y m = q)) (hq3 : q ≤ 31) (g1 : 2000 ≤ y) (g2 : y ≤ 2199) (g3 : 1 ≤ m) (g4 : m ≤ 12) (d0 : 1 ≤ d) (d1 : d ≤ q) (h0 : 0 ≤ h) (h1 : h ≤ 23) (i0 : 0 ≤ mi) (i1 : mi ≤ 59) (w : World) :
    Calls Tryd.prog 14 #[.agg #[.int .i64 y, .int .i64 m, .int .i64 d, .int .i64 h, .int .i64 mi]] w fun e w' => e = .returned (.tuple #[.int .i64 (Cal.day y m d * 1440 + h * 60 + mi), .int .i64 0]) ∧ Below w.heap.size w w' := by
  have n1 : decide (y < 2000) = false := decide_eq_false (by omega)
  have n2 : decide (2199 < y) = false := decide_eq_false (by omega)
  have n3 : decide (m < 1) = false := decide_eq_false (by omega)
  have n4 : decide (12 < m) = false := decide_eq_false (by omega)
  have b0 : decide (d < 1) = false := decide_eq_false (by omega)
  have b1 : decide (q < d) = false := decide_eq_false (by omega)
  have b2 : decide (h < 0) = false := decide_eq_false (by omega)
  have b3 : decide (23 < h) = false := decide_eq_false (by omega)
  have b4 : decide (mi < 0) = false := decide_eq_false (by omega)
  have b5 : decide (59 < mi) = false := decide_eq_false (by omega)
  go_enter Tryd.func14, Tryd.ntmps14
  go_wp2_with fail
  have hV0 : Below w.heap.size w (w.alloc (.cells #[.int .i64 y, .int .i64 m, .int .i64 d, .int .i64 h, .int .i64 mi] 24)) := (Below.refl _ _).alloc (Nat.le_refl _) _
  have hR0 : (w.alloc (.cells #[.int .i64 y, .int .i64 m, .int .i64 d, .int .i64 h, .int .i64 mi] 24)).heap[w.heap.size]? = some (.cells #[.int .i64 y, .int .i64 m, .int .i64 d, .int .i64 h, .int .i64 mi] 24 (0, 0)) := Go.heap_alloc_new w _
  have hs0 : w.heap.size < (w.alloc (.cells #[.int .i64 y, .int .i64 m, .int .i64 d, .int .i64 h, .int .i64 mi] 24)).heap.size := by simp
  generalize w.alloc (.cells #[.int .i64 y, .int .i64 m, .int .i64 d, .int .i64 h, .int .i64 mi] 24) = V at hV0 hR0 hs0 ⊢
  generalize hB : w.heap.size = B at hV0 hR0 hs0 ⊢
  have hHB := Lib.hid hB
  clear hB
  obtain ⟨C, k1, kV, kb, kr⟩ : ∃ C : World → Prop, C { V with drawn := V.drawn + 1 } ∧ (∀ W, C W → Below V.heap.size V W) ∧ (∀ W W', C W → Below W.heap.size W W' → C W') ∧ (∀ W, C W → W.heap[B]? = some (.cells #[.int .i64 y, .int .i64 m, .int .i64 d, .int .i64 h, .int .i64 mi] 24 (0, 0))) :=
    ⟨fun W => Below V.heap.size V W, (Below.refl _ _).drew, fun W h => h, fun W W' h hb => h.trans (hb.mono h.size), fun W h => (h.block _ hs0).trans hR0⟩
  have hcm : Hid (∀ W, C W → Calls Tryd.prog 28 #[.int .i64 y, .int .i64 m] W fun e w' => e = .returned (.int .i64 q) ∧ C w') := Lib.hid fun W hW => (Tryd.dMonthDays y m (by omega) (by omega) (by omega) (by omega) W).mono fun e w' h => ⟨by rw [← hq.out]; exact h.1, kb W w' hW h.2⟩
  have c0 := Lib.hid (fun W hW => (cells5 (kr W hW)).1)
  have c1 := Lib.hid (fun W hW => (cells5 (kr W hW)).2.1)
  have c2 := Lib.hid (fun W hW => (cells5 (kr W hW)).2.2.1)
  have c3 := Lib.hid (fun W hW => (cells5 (kr W hW)).2.2.2.1)
  have c4 := Lib.hid (fun W hW => (cells5 (kr W hW)).2.2.2.2.1)
  have hC1 := Lib.hid k1
  have hCV := Lib.hid kV
  have hRV := Lib.hid hR0
  have hsV := Lib.hid hs0
  have hVV := Lib.hid hV0
  clear k1 kV kb kr hR0 hs0 hV0
  refine q_region C (by kernel_rfl) (by kernel_rfl) hC1.out ?_
  with_reducible refine wpQuiet_step ?_
  intro K hK
  go_simp
  first
  | (refine hK _ ?_; clear hK K)
  | (apply Exists.intro
     refine ⟨fun W hW => ?_, hK _ ?_⟩
     first
     | exact rfl
     | exact ⟨rfl, rfl⟩
     | (with_reducible exact hcm.out W hW)
     clear hK K)
  with_reducible refine q_lds Tryd.isAgg3 (.tmp 25) ?_ ?_ ⟨B, 2, none⟩ ?_ (.int .i64 d) c2.out ?_
  · rfl
  · rfl
  · rfl
  try simp only [Act.put, List.getElem_toArray, List.getElem_cons_zero, List.getElem_cons_succ, List.setIfInBounds_toArray, List.set_cons_zero, List.set_cons_succ]
  with_reducible refine wpQuiet_step ?_
  intro K hK
  go_simp
  first
  | (refine hK _ ?_; clear hK K)
  | (apply Exists.intro
     refine ⟨fun W hW => ?_, hK _ ?_⟩
     first
     | exact rfl
     | exact ⟨rfl, rfl⟩
     | (with_reducible exact hcm.out W hW)
     clear hK K)
  with_reducible refine wpQuiet_step ?_
  intro K hK
  go_simp
  first
  | (refine hK _ ?_; clear hK K)
  | (apply Exists.intro
     refine ⟨fun W hW => ?_, hK _ ?_⟩
     first
     | exact rfl
     | exact ⟨rfl, rfl⟩
     | (with_reducible exact hcm.out W hW)
     clear hK K)
  with_reducible refine wpQuiet_step ?_
  intro K hK
  go_simp
  first
  | (refine hK _ ?_; clear hK K)
  | (apply Exists.intro
     refine ⟨fun W hW => ?_, hK _ ?_⟩
     first
     | exact rfl
     | exact ⟨rfl, rfl⟩
     | (with_reducible exact hcm.out W hW)
     clear hK K)
  with_reducible refine q_lds Tryd.isAgg3 (.tmp 29) ?_ ?_ ⟨B, 2, none⟩ ?_ (.int .i64 d) c2.out ?_
  · rfl
  · rfl
  · rfl
  try simp only [Act.put, List.getElem_toArray, List.getElem_cons_zero, List.getElem_cons_succ, List.setIfInBounds_toArray, List.set_cons_zero, List.set_cons_succ]
  with_reducible refine wpQuiet_step ?_
  intro K hK
  go_simp
  first
  | (refine hK _ ?_; clear hK K)
  | (apply Exists.intro
     refine ⟨fun W hW => ?_, hK _ ?_⟩
     first
     | exact rfl
     | exact ⟨rfl, rfl⟩
     | (with_reducible exact hcm.out W hW)
     clear hK K)
  with_reducible refine q_lds Tryd.isAgg3 (.tmp 31) ?_ ?_ ⟨B, 0, none⟩ ?_ (.int .i64 y) c0.out ?_
  · rfl
  · rfl
  · rfl
  try simp only [Act.put, List.getElem_toArray, List.getElem_cons_zero, List.getElem_cons_succ, List.setIfInBounds_toArray, List.set_cons_zero, List.set_cons_succ]
  with_reducible refine wpQuiet_step ?_
  intro K hK
  go_simp
  first
  | (refine hK _ ?_; clear hK K)
  | (apply Exists.intro
     refine ⟨fun W hW => ?_, hK _ ?_⟩
     first
     | exact rfl
     | exact ⟨rfl, rfl⟩
     | (with_reducible exact hcm.out W hW)
     clear hK K)
  with_reducible refine q_lds Tryd.isAgg3 (.tmp 33) ?_ ?_ ⟨B, 1, none⟩ ?_ (.int .i64 m) c1.out ?_
  · rfl
  · rfl
  · rfl
  try simp only [Act.put, List.getElem_toArray, List.getElem_cons_zero, List.getElem_cons_succ, List.setIfInBounds_toArray, List.set_cons_zero, List.set_cons_succ]
  with_reducible refine wpQuiet_step ?_
  intro K hK
  go_simp
  first
  | (refine hK _ ?_; clear hK K)
  | (apply Exists.intro
     refine ⟨fun W hW => ?_, hK _ ?_⟩
     first
     | exact rfl
     | exact ⟨rfl, rfl⟩
     | (with_reducible exact hcm.out W hW)
     clear hK K)
  with_reducible refine wpQuiet_step ?_
  intro K hK
  go_simp
  first
  | (refine hK _ ?_; clear hK K)
  | (apply Exists.intro
     refine ⟨fun W hW => ?_, hK _ ?_⟩
     first
     | exact rfl
     | exact ⟨rfl, rfl⟩
     | (with_reducible exact hcm.out W hW)
     clear hK K)
  with_reducible refine wpQuiet_step ?_
  intro K hK
  go_simp
  first
  | (refine hK _ ?_; clear hK K)
  | (apply Exists.intro
     refine ⟨fun W hW => ?_, hK _ ?_⟩
     first
     | exact rfl
     | exact ⟨rfl, rfl⟩
     | (with_reducible exact hcm.out W hW)
     clear hK K)
  with_reducible refine wpQuiet_step ?_
  intro K hK
  go_simp
  first
  | (refine hK _ ?_; clear hK K)
  | (apply Exists.intro
     refine ⟨fun W hW => ?_, hK _ ?_⟩
     first
     | exact rfl
     | exact ⟨rfl, rfl⟩
     | (with_reducible exact hcm.out W hW)
     clear hK K)
  with_reducible refine wpQuiet_step ?_
  intro K hK
  go_simp
  first
  | (refine hK _ ?_; clear hK K)
  | (apply Exists.intro
     refine ⟨fun W hW => ?_, hK _ ?_⟩
     first
     | exact rfl
     | exact ⟨rfl, rfl⟩
     | (with_reducible exact hcm.out W hW)
     clear hK K)
  with_reducible refine q_lds Tryd.isAgg3 (.tmp 39) ?_ ?_ ⟨B, 3, none⟩ ?_ (.int .i64 h) c3.out ?_
  · rfl
  · rfl
  · rfl
  try simp only [Act.put, List.getElem_toArray, List.getElem_cons_zero, List.getElem_cons_succ, List.setIfInBounds_toArray, List.set_cons_zero, List.set_cons_succ]
  with_reducible refine wpQuiet_step ?_
  intro K hK
  go_simp
  first
  | (refine hK _ ?_; clear hK K)
  | (apply Exists.intro
     refine ⟨fun W hW => ?_, hK _ ?_⟩
     first
     | exact rfl
     | exact ⟨rfl, rfl⟩
     | (with_reducible exact hcm.out W hW)
     clear hK K)
  with_reducible refine wpQuiet_step ?_
  intro K hK
  go_simp
  first
  | (refine hK _ ?_; clear hK K)
  | (apply Exists.intro
     refine ⟨fun W hW => ?_, hK _ ?_⟩
     first
     | exact rfl
     | exact ⟨rfl, rfl⟩
     | (with_reducible exact hcm.out W hW)
     clear hK K)
  with_reducible refine wpQuiet_step ?_
  intro K hK
  go_simp
  first
  | (refine hK _ ?_; clear hK K)
  | (apply Exists.intro
     refine ⟨fun W hW => ?_, hK _ ?_⟩
     first
     | exact rfl
     | exact ⟨rfl, rfl⟩
     | (with_reducible exact hcm.out W hW)
     clear hK K)
  with_reducible refine wpQuiet_step ?_
  intro K hK
  go_simp
  first
  | (refine hK _ ?_; clear hK K)
  | (apply Exists.intro
     refine ⟨fun W hW => ?_, hK _ ?_⟩
     first
     | exact rfl
     | exact ⟨rfl, rfl⟩
     | (with_reducible exact hcm.out W hW)
     clear hK K)
  with_reducible refine q_lds Tryd.isAgg3 (.tmp 44) ?_ ?_ ⟨B, 3, none⟩ ?_ (.int .i64 h) c3.out ?_
  · rfl
  · rfl
  · rfl
  try simp only [Act.put, List.getElem_toArray, List.getElem_cons_zero, List.getElem_cons_succ, List.setIfInBounds_toArray, List.set_cons_zero, List.set_cons_succ]
  with_reducible refine wpQuiet_step ?_
  intro K hK
  go_simp
  first
  | (refine hK _ ?_; clear hK K)
  | (apply Exists.intro
     refine ⟨fun W hW => ?_, hK _ ?_⟩
     first
     | exact rfl
     | exact ⟨rfl, rfl⟩
     | (with_reducible exact hcm.out W hW)
     clear hK K)
  with_reducible refine wpQuiet_step ?_
  intro K hK
  go_simp
  first
  | (refine hK _ ?_; clear hK K)
  | (apply Exists.intro
     refine ⟨fun W hW => ?_, hK _ ?_⟩
     first
     | exact rfl
     | exact ⟨rfl, rfl⟩
     | (with_reducible exact hcm.out W hW)
     clear hK K)
  with_reducible refine wpQuiet_step ?_
  intro K hK
  go_simp
  first
  | (refine hK _ ?_; clear hK K)
  | (apply Exists.intro
     refine ⟨fun W hW => ?_, hK _ ?_⟩
     first
     | exact rfl
     | exact ⟨rfl, rfl⟩
     | (with_reducible exact hcm.out W hW)
     clear hK K)
  with_reducible refine wpQuiet_step ?_
  intro K hK
  go_simp
  first
  | (refine hK _ ?_; clear hK K)
  | (apply Exists.intro
     refine ⟨fun W hW => ?_, hK _ ?_⟩
     first
     | exact rfl
     | exact ⟨rfl, rfl⟩
     | (with_reducible exact hcm.out W hW)
     clear hK K)
  with_reducible refine q_lds Tryd.isAgg3 (.tmp 49) ?_ ?_ ⟨B, 4, none⟩ ?_ (.int .i64 mi) c4.out ?_
  · rfl
  · rfl
  · rfl
  try simp only [Act.put, List.getElem_toArray, List.getElem_cons_zero, List.getElem_cons_succ, List.setIfInBounds_toArray, List.set_cons_zero, List.set_cons_succ]
  with_reducible refine wpQuiet_step ?_
  intro K hK
  go_simp
  first
  | (refine hK _ ?_; clear hK K)
  | (apply Exists.intro
     refine ⟨fun W hW => ?_, hK _ ?_⟩
     first
     | exact rfl
     | exact ⟨rfl, rfl⟩
     | (with_reducible exact hcm.out W hW)
     clear hK K)
  with_reducible refine wpQuiet_step ?_
  intro K hK
  go_simp
  first
  | (refine hK _ ?_; clear hK K)
  | (apply Exists.intro
     refine ⟨fun W hW => ?_, hK _ ?_⟩
     first
     | exact rfl
     | exact ⟨rfl, rfl⟩
     | (with_reducible exact hcm.out W hW)
     clear hK K)
  with_reducible refine wpQuiet_step ?_
  intro K hK
  go_simp
  first
  | (refine hK _ ?_; clear hK K)
  | (apply Exists.intro
     refine ⟨fun W hW => ?_, hK _ ?_⟩
     first
     | exact rfl
     | exact ⟨rfl, rfl⟩
     | (with_reducible exact hcm.out W hW)
     clear hK K)
  with_reducible refine wpQuiet_step ?_
  intro K hK
  go_simp
  first
  | (refine hK _ ?_; clear hK K)
  | (apply Exists.intro
     refine ⟨fun W hW => ?_, hK _ ?_⟩
     first
     | exact rfl
     | exact ⟨rfl, rfl⟩
     | (with_reducible exact hcm.out W hW)
     clear hK K)
  with_reducible refine q_lds Tryd.isAgg3 (.tmp 54) ?_ ?_ ⟨B, 4, none⟩ ?_ (.int .i64 mi) c4.out ?_
  · rfl
  · rfl
  · rfl
  try simp only [Act.put, List.getElem_toArray, List.getElem_cons_zero, List.getElem_cons_succ, List.setIfInBounds_toArray, List.set_cons_zero, List.set_cons_succ]
  with_reducible refine wpQuiet_step ?_
  intro K hK
  go_simp
  first
  | (refine hK _ ?_; clear hK K)
  | (apply Exists.intro
     refine ⟨fun W hW => ?_, hK _ ?_⟩
     first
     | exact rfl
     | exact ⟨rfl, rfl⟩
     | (with_reducible exact hcm.out W hW)
     clear hK K)
  with_reducible refine wpQuiet_step ?_
  intro K hK
  go_simp
  first
  | (refine hK _ ?_; clear hK K)
  | (apply Exists.intro
     refine ⟨fun W hW => ?_, hK _ ?_⟩
     first
     | exact rfl
     | exact ⟨rfl, rfl⟩
     | (with_reducible exact hcm.out W hW)
     clear hK K)
  refine wpQuiet_nil ?_
  intro V1 hV1
  have hB1 := Lib.hid (hCV.out V1 hV1)
  clear hV1 hcm hC1
  have hR1 := Lib.hid ((hB1.out.block _ hsV.out).trans hRV.out)
  have hBw := Lib.hid (hVV.out.trans (hB1.out.mono (Nat.le_of_lt hsV.out)))
  have hs1 := Lib.hid (Nat.lt_of_lt_of_le hsV.out hB1.out.size)
  clear hB1 hCV hRV hsV hVV c0 c1 c2 c3 c4
  obtain ⟨c0, c1, c2, c3, c4, -, -, -, -, -⟩ := cells5 hR1.out
  go_wp2
  go_loop [4, 5] (fun s4 s5 => ∃ k : Nat, 2000 + (k : Int) ≤ y ∧ s5 = .int .i64 (2000 + k) ∧ s4 = .int .i64 (d - 1 + Cal.dby k)) (fun _ s5 => (y - intOf s5).toNat)
  case atStart => exact ⟨0, by omega, rfl, by rw [show Cal.dby 0 = 0 from rfl, Int.add_zero]⟩
  case round =>
    obtain ⟨k, hk, rfl, rfl⟩ := hrel
    have hHe0 : Cal.dby (k + 1) = Cal.dby k + Cal.yd (2000 + k) := rfl
    have hHe := Lib.hid hHe0
    clear hHe0
    have hdk : 0 ≤ Cal.dby k := Cal.dby_mono (Nat.zero_le k)
    have hdk2 : Cal.dby k ≤ 73049 := by rw [← Cal.dby_200]; exact Cal.dby_mono (by omega)
    by_cases hlt : 2000 + (k : Int) < y
    ·
      have hyc := Lib.hid (fun W => Tryd.dYearDays (2000 + (k : Int)) (by omega) (by omega) W)
      have hq2 := Cal.yd_pos (2000 + (k : Int))
      generalize Cal.yd (2000 + (k : Int)) = q2 at hyc hq2 hHe
      go_wp2_with (go_at_call 27; refine (hyc.out _).mono ?_; rintro e w' ⟨rfl, rfl⟩)
      go_round
      case rel => exact ⟨k + 1, by omega, by go_num, by rw [hHe.out]; congr 1; omega⟩
      case measure => simp [intOf]; omega
    · have hky : y = 2000 + (k : Int) := by omega
      have hdn : Hid (Cal.dby (y - 2000).toNat = Cal.dby k) := Lib.hid (by rw [hky, show ((2000 : Int) + (k : Int) - 2000).toNat = k by omega])
      have hHk := Lib.hid hky
      clear hky hHe
      generalize Cal.dby k = Y at hdn hdk hdk2 ⊢
      go_wp2
      go_loopw [4, 6] (fun s4 s6 wr => ∃ j : Nat, 1 + (j : Int) ≤ m ∧ s6 = .int .i64 (1 + j) ∧ s4 = .int .i64 (d - 1 + Y + Cal.cum y j) ∧ Hid (wr.heap[B]? = some (.cells #[.int .i64 y, .int .i64 m, .int .i64 d, .int .i64 h, .int .i64 mi] 24 (0, 0))) ∧ Hid (B < wr.heap.size) ∧ Hid (Below B w wr)) (fun _ s6 _ => (m - intOf s6).toNat)
      case atStart => exact ⟨0, by omega, rfl, by rw [show Cal.cum y 0 = 0 from rfl, Int.add_zero], hR1, hs1, hBw⟩
      case round =>
        clear hR1 hs1 hBw c0 c1 c2 c3 c4
        obtain ⟨j, hj, rfl, rfl, hR, hs, hBr⟩ := hrel
        obtain ⟨c0, c1, c2, c3, c4, -, -, -, -, -⟩ := cells5 hR.out
        have hck : 0 ≤ Cal.cum y j := Cal.cum_mono y (show j ≤ 12 by omega) (Nat.zero_le j)
        have hck2 : Cal.cum y j ≤ 366 := by
          have e1 := Cal.cum_mono y (show 12 ≤ 12 by omega) (show j ≤ 12 by omega)
          rw [Cal.cum_12] at e1
          have := Cal.yd_pos y
          omega
        by_cases hltj : 1 + (j : Int) < m
        · have hHe0 : Cal.cum y (j + 1) = Cal.cum y j + Cal.md y (1 + j) := rfl
          have hHe := Lib.hid hHe0
          clear hHe0
          have hmc := Lib.hid (fun W => Tryd.dMonthDays y (1 + (j : Int)) (by omega) (by omega) (by omega) (by omega) W)
          have hm := Cal.md_pos y (1 + (j : Int)) (by omega) (by omega)
          generalize Cal.md y (1 + (j : Int)) = q2 at hmc hm hHe
          generalize Cal.cum y j = c at hHe hck hck2 ⊢
          go_wp2_with fail
          refine (hmc.out _).mono ?_
          rintro e W1 ⟨rfl, hb1⟩
          have hR2 := Lib.hid ((hb1.block _ hs.out).trans hR.out)
          have hs2 := Lib.hid (Nat.lt_of_lt_of_le hs.out hb1.size)
          have hBr2 := Lib.hid (hBr.out.trans (hb1.mono (Nat.le_of_lt hs.out)))
          clear hR hs hBr hb1 c0 c1 c2 c3 c4
          go_wp2
          go_roundw
          case rel => exact ⟨j + 1, by omega, by go_num, by rw [hHe.out]; congr 1; omega, hR2, hs2, hBr2⟩
          case measure => simp [intOf]; omega
        · have hjm : Hid (Cal.day y m d = d - 1 + Y + Cal.cum y j) := Lib.hid (by
            unfold Cal.day
            rw [hdn.out, show (m - 1).toNat = j by omega])
          generalize Cal.cum y j = c at hjm hck hck2 ⊢
          go_wp2
          go_ret2
          exact ⟨by rw [hjm.out]; rfl, by rw [hHB.out]; exact hBr.out⟩
theorem Tryd.dFromCivil (y m d h mi : Int) (hy : I64 y) (hm : I64 m) (hd : I64 d) (hh : I64 h) (hmi : I64 mi) (w : World) :
    Calls Tryd.prog 14 #[.agg #[.int .i64 y, .int .i64 m, .int .i64 d, .int .i64 h, .int .i64 mi]] w fun e w' => e = .returned (fcv y m d h mi) ∧ Below w.heap.size w w' := by
  by_cases hr : y < 2000 ∨ 2199 < y ∨ m < 1 ∨ 12 < m
  · exact Tryd.dFromCivil_range y m d h mi hy hm hr w
  · have g1 : 2000 ≤ y := by omega
    have g2 : y ≤ 2199 := by omega
    have g3 : 1 ≤ m := by omega
    have g4 : m ≤ 12 := by omega
    have hp := Cal.md_pos y m g3 g4
    have hq := Lib.hid (rfl : Cal.md y m = Cal.md y m)
    by_cases hr2 : d < 1 ∨ Cal.md y m < d ∨ h < 0 ∨ 23 < h ∨ mi < 0 ∨ 59 < mi
    · have hf : Hid (fcv y m d h mi = .tuple #[.int .i64 0, .int .i64 13]) := Lib.hid (by unfold fcv Cal.from_; rw [if_neg hr, if_pos hr2])
      have dt : ∀ {p : Prop} [Decidable p], p → decide p = true := fun h => decide_eq_true h
      have df : ∀ {p : Prop} [Decidable p], ¬ p → decide p = false := fun h => decide_eq_false h
      by_cases a0 : d < 1
      · exact Tryd.dFromCivil_date0 y m d h mi _ hq hd hh hmi g1 g2 g3 g4 hf (dt a0) w
      by_cases a1 : Cal.md y m < d
      · exact Tryd.dFromCivil_date1 y m d h mi _ hq hd hh hmi g1 g2 g3 g4 hf (df a0) (dt a1) w
      by_cases a2 : h < 0
      · exact Tryd.dFromCivil_date2 y m d h mi _ hq hd hh hmi g1 g2 g3 g4 hf (df a0) (df a1) (dt a2) w
      by_cases a3 : 23 < h
      · exact Tryd.dFromCivil_date3 y m d h mi _ hq hd hh hmi g1 g2 g3 g4 hf (df a0) (df a1) (df a2) (dt a3) w
      by_cases a4 : mi < 0
      · exact Tryd.dFromCivil_date4 y m d h mi _ hq hd hh hmi g1 g2 g3 g4 hf (df a0) (df a1) (df a2) (df a3) (dt a4) w
      · exact Tryd.dFromCivil_date5 y m d h mi _ hq hd hh hmi g1 g2 g3 g4 hf (df a0) (df a1) (df a2) (df a3) (df a4) (dt (by omega)) w
    · have hf : fcv y m d h mi = .tuple #[.int .i64 (Cal.day y m d * 1440 + h * 60 + mi), .int .i64 0] := by unfold fcv Cal.from_; rw [if_neg hr, if_neg hr2]
      rw [hf]
      exact Tryd.dFromCivil_good y m d h mi _ hq hp.2 g1 g2 g3 g4 (by omega) (by omega) (by omega) (by omega) (by omega) (by omega) w
set_option maxRecDepth 100000 in
set_option maxHeartbeats 2000000 in
theorem Tryd.qFromCivil_good (y m d h mi q : Int) (hq : Hid (Cal.md y m = q)) (hq3 : q ≤ 31) (g1 : 2000 ≤ y) (g2 : y ≤ 2199) (g3 : 1 ≤ m) (g4 : m ≤ 12) (d0 : 1 ≤ d) (d1 : d ≤ q) (h0 : 0 ≤ h) (h1 : h ≤ 23) (i0 : 0 ≤ mi) (i1 : mi ≤ 59) (w : World) :
    Calls Tryd.prog 15 #[.agg #[.int .i64 y, .int .i64 m, .int .i64 d, .int .i64 h, .int .i64 mi]] w fun e w' => e = .returned (.tuple #[.int .i64 (Cal.day y m d * 1440 + h * 60 + mi), .int .i64 0]) ∧ Below w.heap.size w w' := by
  have n1 : decide (y < 2000) = false := decide_eq_false (by omega)
  have n2 : decide (2199 < y) = false := decide_eq_false (by omega)
  have n3 : decide (m < 1) = false := decide_eq_false (by omega)
  have n4 : decide (12 < m) = false := decide_eq_false (by omega)
  have b0 : decide (d < 1) = false := decide_eq_false (by omega)
  have b1 : decide (q < d) = false := decide_eq_false (by omega)
  have b2 : decide (h < 0) = false := decide_eq_false (by omega)
  have b3 : decide (23 < h) = false := decide_eq_false (by omega)
  have b4 : decide (mi < 0) = false := decide_eq_false (by omega)
  have b5 : decide (59 < mi) = false := decide_eq_false (by omega)
  go_enter Tryd.func15, Tryd.ntmps15
  go_wp2_with fail
  have hV0 : Below w.heap.size w (w.alloc (.cells #[.int .i64 y, .int .i64 m, .int .i64 d, .int .i64 h, .int .i64 mi] 28)) := (Below.refl _ _).alloc (Nat.le_refl _) _
  have hR0 : (w.alloc (.cells #[.int .i64 y, .int .i64 m, .int .i64 d, .int .i64 h, .int .i64 mi] 28)).heap[w.heap.size]? = some (.cells #[.int .i64 y, .int .i64 m, .int .i64 d, .int .i64 h, .int .i64 mi] 28 (0, 0)) := Go.heap_alloc_new w _
  have hs0 : w.heap.size < (w.alloc (.cells #[.int .i64 y, .int .i64 m, .int .i64 d, .int .i64 h, .int .i64 mi] 28)).heap.size := by simp
  generalize w.alloc (.cells #[.int .i64 y, .int .i64 m, .int .i64 d, .int .i64 h, .int .i64 mi] 28) = V at hV0 hR0 hs0 ⊢
  generalize hB : w.heap.size = B at hV0 hR0 hs0 ⊢
  have hHB := Lib.hid hB
  clear hB
  obtain ⟨C, k1, kV, kb, kr⟩ : ∃ C : World → Prop, C { V with drawn := V.drawn + 1 } ∧ (∀ W, C W → Below V.heap.size V W) ∧ (∀ W W', C W → Below W.heap.size W W' → C W') ∧ (∀ W, C W → W.heap[B]? = some (.cells #[.int .i64 y, .int .i64 m, .int .i64 d, .int .i64 h, .int .i64 mi] 28 (0, 0))) :=
    ⟨fun W => Below V.heap.size V W, (Below.refl _ _).drew, fun W h => h, fun W W' h hb => h.trans (hb.mono h.size), fun W h => (h.block _ hs0).trans hR0⟩
  have hcm : Hid (∀ W, C W → Calls Tryd.prog 30 #[.int .i64 y, .int .i64 m] W fun e w' => e = .returned (.int .i64 q) ∧ C w') := Lib.hid fun W hW => (Tryd.qDays y m (by omega) (by omega) (by omega) (by omega) W).mono fun e w' h => ⟨by rw [← hq.out]; exact h.1, kb W w' hW h.2⟩
  have c0 := Lib.hid (fun W hW => (cells5 (kr W hW)).1)
  have c1 := Lib.hid (fun W hW => (cells5 (kr W hW)).2.1)
  have c2 := Lib.hid (fun W hW => (cells5 (kr W hW)).2.2.1)
  have c3 := Lib.hid (fun W hW => (cells5 (kr W hW)).2.2.2.1)
  have c4 := Lib.hid (fun W hW => (cells5 (kr W hW)).2.2.2.2.1)
  have hC1 := Lib.hid k1
  have hCV := Lib.hid kV
  have hRV := Lib.hid hR0
  have hsV := Lib.hid hs0
  have hVV := Lib.hid hV0
  clear k1 kV kb kr hR0 hs0 hV0
  refine q_region C (by kernel_rfl) (by kernel_rfl) hC1.out ?_
  with_reducible refine wpQuiet_step ?_
  intro K hK
  go_simp
  first
  | (refine hK _ ?_; clear hK K)
  | (apply Exists.intro
     refine ⟨fun W hW => ?_, hK _ ?_⟩
     first
     | exact rfl
     | exact ⟨rfl, rfl⟩
     | (with_reducible exact hcm.out W hW)
     clear hK K)
  with_reducible refine q_lds Tryd.isAgg3 (.tmp 25) ?_ ?_ ⟨B, 2, none⟩ ?_ (.int .i64 d) c2.out ?_
  · rfl
  · rfl
  · rfl
  try simp only [Act.put, List.getElem_toArray, List.getElem_cons_zero, List.getElem_cons_succ, List.setIfInBounds_toArray, List.set_cons_zero, List.set_cons_succ]
  with_reducible refine wpQuiet_step ?_
  intro K hK
  go_simp
  first
  | (refine hK _ ?_; clear hK K)
  | (apply Exists.intro
     refine ⟨fun W hW => ?_, hK _ ?_⟩
     first
     | exact rfl
     | exact ⟨rfl, rfl⟩
     | (with_reducible exact hcm.out W hW)
     clear hK K)
  with_reducible refine wpQuiet_step ?_
  intro K hK
  go_simp
  first
  | (refine hK _ ?_; clear hK K)
  | (apply Exists.intro
     refine ⟨fun W hW => ?_, hK _ ?_⟩
     first
     | exact rfl
     | exact ⟨rfl, rfl⟩
     | (with_reducible exact hcm.out W hW)
     clear hK K)
  with_reducible refine wpQuiet_step ?_
  intro K hK
  go_simp
  first
  | (refine hK _ ?_; clear hK K)
  | (apply Exists.intro
     refine ⟨fun W hW => ?_, hK _ ?_⟩
     first
     | exact rfl
     | exact ⟨rfl, rfl⟩
     | (with_reducible exact hcm.out W hW)
     clear hK K)
  with_reducible refine q_lds Tryd.isAgg3 (.tmp 29) ?_ ?_ ⟨B, 2, none⟩ ?_ (.int .i64 d) c2.out ?_
  · rfl
  · rfl
  · rfl
  try simp only [Act.put, List.getElem_toArray, List.getElem_cons_zero, List.getElem_cons_succ, List.setIfInBounds_toArray, List.set_cons_zero, List.set_cons_succ]
  with_reducible refine wpQuiet_step ?_
  intro K hK
  go_simp
  first
  | (refine hK _ ?_; clear hK K)
  | (apply Exists.intro
     refine ⟨fun W hW => ?_, hK _ ?_⟩
     first
     | exact rfl
     | exact ⟨rfl, rfl⟩
     | (with_reducible exact hcm.out W hW)
     clear hK K)
  with_reducible refine q_lds Tryd.isAgg3 (.tmp 31) ?_ ?_ ⟨B, 0, none⟩ ?_ (.int .i64 y) c0.out ?_
  · rfl
  · rfl
  · rfl
  try simp only [Act.put, List.getElem_toArray, List.getElem_cons_zero, List.getElem_cons_succ, List.setIfInBounds_toArray, List.set_cons_zero, List.set_cons_succ]
  with_reducible refine wpQuiet_step ?_
  intro K hK
  go_simp
  first
  | (refine hK _ ?_; clear hK K)
  | (apply Exists.intro
     refine ⟨fun W hW => ?_, hK _ ?_⟩
     first
     | exact rfl
     | exact ⟨rfl, rfl⟩
     | (with_reducible exact hcm.out W hW)
     clear hK K)
  with_reducible refine q_lds Tryd.isAgg3 (.tmp 33) ?_ ?_ ⟨B, 1, none⟩ ?_ (.int .i64 m) c1.out ?_
  · rfl
  · rfl
  · rfl
  try simp only [Act.put, List.getElem_toArray, List.getElem_cons_zero, List.getElem_cons_succ, List.setIfInBounds_toArray, List.set_cons_zero, List.set_cons_succ]
  with_reducible refine wpQuiet_step ?_
  intro K hK
  go_simp
  first
  | (refine hK _ ?_; clear hK K)
  | (apply Exists.intro
     refine ⟨fun W hW => ?_, hK _ ?_⟩
     first
     | exact rfl
     | exact ⟨rfl, rfl⟩
     | (with_reducible exact hcm.out W hW)
     clear hK K)
  with_reducible refine wpQuiet_step ?_
  intro K hK
  go_simp
  first
  | (refine hK _ ?_; clear hK K)
  | (apply Exists.intro
     refine ⟨fun W hW => ?_, hK _ ?_⟩
     first
     | exact rfl
     | exact ⟨rfl, rfl⟩
     | (with_reducible exact hcm.out W hW)
     clear hK K)
  with_reducible refine wpQuiet_step ?_
  intro K hK
  go_simp
  first
  | (refine hK _ ?_; clear hK K)
  | (apply Exists.intro
     refine ⟨fun W hW => ?_, hK _ ?_⟩
     first
     | exact rfl
     | exact ⟨rfl, rfl⟩
     | (with_reducible exact hcm.out W hW)
     clear hK K)
  with_reducible refine wpQuiet_step ?_
  intro K hK
  go_simp
  first
  | (refine hK _ ?_; clear hK K)
  | (apply Exists.intro
     refine ⟨fun W hW => ?_, hK _ ?_⟩
     first
     | exact rfl
     | exact ⟨rfl, rfl⟩
     | (with_reducible exact hcm.out W hW)
     clear hK K)
  with_reducible refine wpQuiet_step ?_
  intro K hK
  go_simp
  first
  | (refine hK _ ?_; clear hK K)
  | (apply Exists.intro
     refine ⟨fun W hW => ?_, hK _ ?_⟩
     first
     | exact rfl
     | exact ⟨rfl, rfl⟩
     | (with_reducible exact hcm.out W hW)
     clear hK K)
  with_reducible refine q_lds Tryd.isAgg3 (.tmp 39) ?_ ?_ ⟨B, 3, none⟩ ?_ (.int .i64 h) c3.out ?_
  · rfl
  · rfl
  · rfl
  try simp only [Act.put, List.getElem_toArray, List.getElem_cons_zero, List.getElem_cons_succ, List.setIfInBounds_toArray, List.set_cons_zero, List.set_cons_succ]
  with_reducible refine wpQuiet_step ?_
  intro K hK
  go_simp
  first
  | (refine hK _ ?_; clear hK K)
  | (apply Exists.intro
     refine ⟨fun W hW => ?_, hK _ ?_⟩
     first
     | exact rfl
     | exact ⟨rfl, rfl⟩
     | (with_reducible exact hcm.out W hW)
     clear hK K)
  with_reducible refine wpQuiet_step ?_
  intro K hK
  go_simp
  first
  | (refine hK _ ?_; clear hK K)
  | (apply Exists.intro
     refine ⟨fun W hW => ?_, hK _ ?_⟩
     first
     | exact rfl
     | exact ⟨rfl, rfl⟩
     | (with_reducible exact hcm.out W hW)
     clear hK K)
  with_reducible refine wpQuiet_step ?_
  intro K hK
  go_simp
  first
  | (refine hK _ ?_; clear hK K)
  | (apply Exists.intro
     refine ⟨fun W hW => ?_, hK _ ?_⟩
     first
     | exact rfl
     | exact ⟨rfl, rfl⟩
     | (with_reducible exact hcm.out W hW)
     clear hK K)
  with_reducible refine wpQuiet_step ?_
  intro K hK
  go_simp
  first
  | (refine hK _ ?_; clear hK K)
  | (apply Exists.intro
     refine ⟨fun W hW => ?_, hK _ ?_⟩
     first
     | exact rfl
     | exact ⟨rfl, rfl⟩
     | (with_reducible exact hcm.out W hW)
     clear hK K)
  with_reducible refine q_lds Tryd.isAgg3 (.tmp 44) ?_ ?_ ⟨B, 3, none⟩ ?_ (.int .i64 h) c3.out ?_
  · rfl
  · rfl
  · rfl
  try simp only [Act.put, List.getElem_toArray, List.getElem_cons_zero, List.getElem_cons_succ, List.setIfInBounds_toArray, List.set_cons_zero, List.set_cons_succ]
  with_reducible refine wpQuiet_step ?_
  intro K hK
  go_simp
  first
  | (refine hK _ ?_; clear hK K)
  | (apply Exists.intro
     refine ⟨fun W hW => ?_, hK _ ?_⟩
     first
     | exact rfl
     | exact ⟨rfl, rfl⟩
     | (with_reducible exact hcm.out W hW)
     clear hK K)
  with_reducible refine wpQuiet_step ?_
  intro K hK
  go_simp
  first
  | (refine hK _ ?_; clear hK K)
  | (apply Exists.intro
     refine ⟨fun W hW => ?_, hK _ ?_⟩
     first
     | exact rfl
     | exact ⟨rfl, rfl⟩
     | (with_reducible exact hcm.out W hW)
     clear hK K)
  with_reducible refine wpQuiet_step ?_
  intro K hK
  go_simp
  first
  | (refine hK _ ?_; clear hK K)
  | (apply Exists.intro
     refine ⟨fun W hW => ?_, hK _ ?_⟩
     first
     | exact rfl
     | exact ⟨rfl, rfl⟩
     | (with_reducible exact hcm.out W hW)
     clear hK K)
  with_reducible refine wpQuiet_step ?_
  intro K hK
  go_simp
  first
  | (refine hK _ ?_; clear hK K)
  | (apply Exists.intro
     refine ⟨fun W hW => ?_, hK _ ?_⟩
     first
     | exact rfl
     | exact ⟨rfl, rfl⟩
     | (with_reducible exact hcm.out W hW)
     clear hK K)
  with_reducible refine q_lds Tryd.isAgg3 (.tmp 49) ?_ ?_ ⟨B, 4, none⟩ ?_ (.int .i64 mi) c4.out ?_
  · rfl
  · rfl
  · rfl
  try simp only [Act.put, List.getElem_toArray, List.getElem_cons_zero, List.getElem_cons_succ, List.setIfInBounds_toArray, List.set_cons_zero, List.set_cons_succ]
  with_reducible refine wpQuiet_step ?_
  intro K hK
  go_simp
  first
  | (refine hK _ ?_; clear hK K)
  | (apply Exists.intro
     refine ⟨fun W hW => ?_, hK _ ?_⟩
     first
     | exact rfl
     | exact ⟨rfl, rfl⟩
     | (with_reducible exact hcm.out W hW)
     clear hK K)
  with_reducible refine wpQuiet_step ?_
  intro K hK
  go_simp
  first
  | (refine hK _ ?_; clear hK K)
  | (apply Exists.intro
     refine ⟨fun W hW => ?_, hK _ ?_⟩
     first
     | exact rfl
     | exact ⟨rfl, rfl⟩
     | (with_reducible exact hcm.out W hW)
     clear hK K)
  with_reducible refine wpQuiet_step ?_
  intro K hK
  go_simp
  first
  | (refine hK _ ?_; clear hK K)
  | (apply Exists.intro
     refine ⟨fun W hW => ?_, hK _ ?_⟩
     first
     | exact rfl
     | exact ⟨rfl, rfl⟩
     | (with_reducible exact hcm.out W hW)
     clear hK K)
  with_reducible refine wpQuiet_step ?_
  intro K hK
  go_simp
  first
  | (refine hK _ ?_; clear hK K)
  | (apply Exists.intro
     refine ⟨fun W hW => ?_, hK _ ?_⟩
     first
     | exact rfl
     | exact ⟨rfl, rfl⟩
     | (with_reducible exact hcm.out W hW)
     clear hK K)
  with_reducible refine q_lds Tryd.isAgg3 (.tmp 54) ?_ ?_ ⟨B, 4, none⟩ ?_ (.int .i64 mi) c4.out ?_
  · rfl
  · rfl
  · rfl
  try simp only [Act.put, List.getElem_toArray, List.getElem_cons_zero, List.getElem_cons_succ, List.setIfInBounds_toArray, List.set_cons_zero, List.set_cons_succ]
  with_reducible refine wpQuiet_step ?_
  intro K hK
  go_simp
  first
  | (refine hK _ ?_; clear hK K)
  | (apply Exists.intro
     refine ⟨fun W hW => ?_, hK _ ?_⟩
     first
     | exact rfl
     | exact ⟨rfl, rfl⟩
     | (with_reducible exact hcm.out W hW)
     clear hK K)
  with_reducible refine wpQuiet_step ?_
  intro K hK
  go_simp
  first
  | (refine hK _ ?_; clear hK K)
  | (apply Exists.intro
     refine ⟨fun W hW => ?_, hK _ ?_⟩
     first
     | exact rfl
     | exact ⟨rfl, rfl⟩
     | (with_reducible exact hcm.out W hW)
     clear hK K)
  refine wpQuiet_nil ?_
  intro V1 hV1
  have hB1 := Lib.hid (hCV.out V1 hV1)
  clear hV1 hcm hC1
  have hR1 := Lib.hid ((hB1.out.block _ hsV.out).trans hRV.out)
  have hBw := Lib.hid (hVV.out.trans (hB1.out.mono (Nat.le_of_lt hsV.out)))
  have hs1 := Lib.hid (Nat.lt_of_lt_of_le hsV.out hB1.out.size)
  clear hB1 hCV hRV hsV hVV c0 c1 c2 c3 c4
  obtain ⟨c0, c1, c2, c3, c4, -, -, -, -, -⟩ := cells5 hR1.out
  go_wp2
  go_loop [4, 5] (fun s4 s5 => ∃ k : Nat, 2000 + (k : Int) ≤ y ∧ s5 = .int .i64 (2000 + k) ∧ s4 = .int .i64 (d - 1 + Cal.dby k)) (fun _ s5 => (y - intOf s5).toNat)
  case atStart => exact ⟨0, by omega, rfl, by rw [show Cal.dby 0 = 0 from rfl, Int.add_zero]⟩
  case round =>
    obtain ⟨k, hk, rfl, rfl⟩ := hrel
    have hHe0 : Cal.dby (k + 1) = Cal.dby k + Cal.yd (2000 + k) := rfl
    have hHe := Lib.hid hHe0
    clear hHe0
    have hdk : 0 ≤ Cal.dby k := Cal.dby_mono (Nat.zero_le k)
    have hdk2 : Cal.dby k ≤ 73049 := by rw [← Cal.dby_200]; exact Cal.dby_mono (by omega)
    by_cases hlt : 2000 + (k : Int) < y
    ·
      have hyc0 := fun W => Tryd.qLeap (2000 + (k : Int)) (by omega) (by omega) W
      cases hlp : Cal.lp (2000 + (k : Int))
      · rw [hlp] at hyc0
        have hyc := Lib.hid hyc0
        have hqe : Cal.yd (2000 + (k : Int)) = 365 := by unfold Cal.yd; rw [hlp]; rfl
        rw [hqe] at hHe
        clear hyc0 hlp hqe
        go_wp2_with (go_at_call 29; refine (hyc.out _).mono ?_; rintro e w' ⟨rfl, rfl⟩)
        go_round
        case rel => exact ⟨k + 1, by omega, by go_num, by rw [hHe.out]; congr 1; omega⟩
        case measure => simp [intOf]; omega
      · rw [hlp] at hyc0
        have hyc := Lib.hid hyc0
        have hqe : Cal.yd (2000 + (k : Int)) = 366 := by unfold Cal.yd; rw [hlp]; rfl
        rw [hqe] at hHe
        clear hyc0 hlp hqe
        go_wp2_with (go_at_call 29; refine (hyc.out _).mono ?_; rintro e w' ⟨rfl, rfl⟩)
        go_round
        case rel => exact ⟨k + 1, by omega, by go_num, by rw [hHe.out]; congr 1; omega⟩
        case measure => simp [intOf]; omega
    · have hky : y = 2000 + (k : Int) := by omega
      have hdn : Hid (Cal.dby (y - 2000).toNat = Cal.dby k) := Lib.hid (by rw [hky, show ((2000 : Int) + (k : Int) - 2000).toNat = k by omega])
      have hHk := Lib.hid hky
      clear hky hHe
      generalize Cal.dby k = Y at hdn hdk hdk2 ⊢
      go_wp2
      go_loopw [4, 6] (fun s4 s6 wr => ∃ j : Nat, 1 + (j : Int) ≤ m ∧ s6 = .int .i64 (1 + j) ∧ s4 = .int .i64 (d - 1 + Y + Cal.cum y j) ∧ Hid (wr.heap[B]? = some (.cells #[.int .i64 y, .int .i64 m, .int .i64 d, .int .i64 h, .int .i64 mi] 28 (0, 0))) ∧ Hid (B < wr.heap.size) ∧ Hid (Below B w wr)) (fun _ s6 _ => (m - intOf s6).toNat)
      case atStart => exact ⟨0, by omega, rfl, by rw [show Cal.cum y 0 = 0 from rfl, Int.add_zero], hR1, hs1, hBw⟩
      case round =>
        clear hR1 hs1 hBw c0 c1 c2 c3 c4
        obtain ⟨j, hj, rfl, rfl, hR, hs, hBr⟩ := hrel
        obtain ⟨c0, c1, c2, c3, c4, -, -, -, -, -⟩ := cells5 hR.out
        have hck : 0 ≤ Cal.cum y j := Cal.cum_mono y (show j ≤ 12 by omega) (Nat.zero_le j)
        have hck2 : Cal.cum y j ≤ 366 := by
          have e1 := Cal.cum_mono y (show 12 ≤ 12 by omega) (show j ≤ 12 by omega)
          rw [Cal.cum_12] at e1
          have := Cal.yd_pos y
          omega
        by_cases hltj : 1 + (j : Int) < m
        · have hHe0 : Cal.cum y (j + 1) = Cal.cum y j + Cal.md y (1 + j) := rfl
          have hHe := Lib.hid hHe0
          clear hHe0
          have hmc := Lib.hid (fun W => Tryd.qDays y (1 + (j : Int)) (by omega) (by omega) (by omega) (by omega) W)
          have hm := Cal.md_pos y (1 + (j : Int)) (by omega) (by omega)
          generalize Cal.md y (1 + (j : Int)) = q2 at hmc hm hHe
          generalize Cal.cum y j = c at hHe hck hck2 ⊢
          go_wp2_with fail
          refine (hmc.out _).mono ?_
          rintro e W1 ⟨rfl, hb1⟩
          have hR2 := Lib.hid ((hb1.block _ hs.out).trans hR.out)
          have hs2 := Lib.hid (Nat.lt_of_lt_of_le hs.out hb1.size)
          have hBr2 := Lib.hid (hBr.out.trans (hb1.mono (Nat.le_of_lt hs.out)))
          clear hR hs hBr hb1 c0 c1 c2 c3 c4
          go_wp2
          go_roundw
          case rel => exact ⟨j + 1, by omega, by go_num, by rw [hHe.out]; congr 1; omega, hR2, hs2, hBr2⟩
          case measure => simp [intOf]; omega
        · have hjm : Hid (Cal.day y m d = d - 1 + Y + Cal.cum y j) := Lib.hid (by
            unfold Cal.day
            rw [hdn.out, show (m - 1).toNat = j by omega])
          generalize Cal.cum y j = c at hjm hck hck2 ⊢
          go_wp2
          go_ret2
          exact ⟨by rw [hjm.out]; rfl, by rw [hHB.out]; exact hBr.out⟩
theorem Tryd.qFromCivil (y m d h mi : Int) (hy : I64 y) (hm : I64 m) (hd : I64 d) (hh : I64 h) (hmi : I64 mi) (w : World) :
    Calls Tryd.prog 15 #[.agg #[.int .i64 y, .int .i64 m, .int .i64 d, .int .i64 h, .int .i64 mi]] w fun e w' => e = .returned (fcv y m d h mi) ∧ Below w.heap.size w w' := by
  by_cases hr : y < 2000 ∨ 2199 < y ∨ m < 1 ∨ 12 < m
  · exact Tryd.qFromCivil_range y m d h mi hy hm hr w
  · have g1 : 2000 ≤ y := by omega
    have g2 : y ≤ 2199 := by omega
    have g3 : 1 ≤ m := by omega
    have g4 : m ≤ 12 := by omega
    have hp := Cal.md_pos y m g3 g4
    have hq := Lib.hid (rfl : Cal.md y m = Cal.md y m)
    by_cases hr2 : d < 1 ∨ Cal.md y m < d ∨ h < 0 ∨ 23 < h ∨ mi < 0 ∨ 59 < mi
    · have hf : Hid (fcv y m d h mi = .tuple #[.int .i64 0, .int .i64 13]) := Lib.hid (by unfold fcv Cal.from_; rw [if_neg hr, if_pos hr2])
      have dt : ∀ {p : Prop} [Decidable p], p → decide p = true := fun h => decide_eq_true h
      have df : ∀ {p : Prop} [Decidable p], ¬ p → decide p = false := fun h => decide_eq_false h
      by_cases a0 : d < 1
      · exact Tryd.qFromCivil_date0 y m d h mi _ hq hd hh hmi g1 g2 g3 g4 hf (dt a0) w
      by_cases a1 : Cal.md y m < d
      · exact Tryd.qFromCivil_date1 y m d h mi _ hq hd hh hmi g1 g2 g3 g4 hf (df a0) (dt a1) w
      by_cases a2 : h < 0
      · exact Tryd.qFromCivil_date2 y m d h mi _ hq hd hh hmi g1 g2 g3 g4 hf (df a0) (df a1) (dt a2) w
      by_cases a3 : 23 < h
      · exact Tryd.qFromCivil_date3 y m d h mi _ hq hd hh hmi g1 g2 g3 g4 hf (df a0) (df a1) (df a2) (dt a3) w
      by_cases a4 : mi < 0
      · exact Tryd.qFromCivil_date4 y m d h mi _ hq hd hh hmi g1 g2 g3 g4 hf (df a0) (df a1) (df a2) (df a3) (dt a4) w
      · exact Tryd.qFromCivil_date5 y m d h mi _ hq hd hh hmi g1 g2 g3 g4 hf (df a0) (df a1) (df a2) (df a3) (df a4) (dt (by omega)) w
    · have hf : fcv y m d h mi = .tuple #[.int .i64 (Cal.day y m d * 1440 + h * 60 + mi), .int .i64 0] := by unfold fcv Cal.from_; rw [if_neg hr, if_neg hr2]
      rw [hf]
      exact Tryd.qFromCivil_good y m d h mi _ hq hp.2 g1 g2 g3 g4 (by omega) (by omega) (by omega) (by omega) (by omega) (by omega) w
end Go.Proofs
