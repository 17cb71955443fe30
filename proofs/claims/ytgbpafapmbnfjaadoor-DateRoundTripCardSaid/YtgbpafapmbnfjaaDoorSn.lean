/- the scan of date: properties of bytes, number, blanks -/
import Derived.Test.YtgbpafapmbnfjaaDoorSc
namespace Go.Proofs
open Go.RowKit Go.Shelf
set_option linter.unusedVariables false
set_option linter.unusedSimpArgs false
namespace TK
def isDg (c : Nat) : Bool := decide (48 ≤ c) && decide (c ≤ 57)
def isBl (c : Nat) : Bool := decide (c = 32) || decide (c = 9)
def isLt (c : Nat) : Bool := (decide (97 ≤ c) && decide (c ≤ 122)) || (decide (65 ≤ c) && decide (c ≤ 90))
def dgv (b : Nat) : Nat := (b + 208) % 256
/-- all further blanks -/
def sskip (s : ByteArray) : Nat → Nat × Nat → Nat × Nat
  | 0, x => x
  | f + 1, x => if spk isBl s x = true then sskip s f (x.1 + 1, x.2) else x
def sbl (opt : Bool) (s : ByteArray) (x : Nat × Nat) : Nat × Nat := sskip s 65 (if opt = true then x else stk isBl s x)
def rdAt (W : World) (X : Nat) : Nat := match W.cell? ⟨X, 1, none⟩ with
  | some (.int _ n) => n.toNat
  | _ => 0
theorem Scn.rdAt {W : World} {X : Nat} {s : ByteArray} {x : Nat × Nat} (h : Scn W X s x) : TK.rdAt W X = x.1 := by
  unfold TK.rdAt
  rw [h.c.2.1]
  simp
/-- a number of so many digits -/
def snum (s : ByteArray) : Nat → (Nat × Nat) × Nat → (Nat × Nat) × Nat
  | 0, y => y
  | k + 1, y => snum s k (stk isDg s y.1, 10 * y.2 + dgv (sby isDg s y.1))
end TK
open TK
theorem Tryd.cfDigit (args : Array Value) (w : World) : (callFunc 53 args).run Tryd.prog w = .ok (.enter 53 args) w := enters_of Tryd.func53 (by kernel_rfl) rfl args w
theorem Tryd.cfBlank (args : Array Value) (w : World) : (callFunc 66 args).run Tryd.prog w = .ok (.enter 66 args) w := enters_of Tryd.func66 (by kernel_rfl) rfl args w
theorem Tryd.cfLetter (args : Array Value) (w : World) : (callFunc 47 args).run Tryd.prog w = .ok (.enter 47 args) w := enters_of Tryd.func47 (by kernel_rfl) rfl args w
theorem Tryd.cfJustK (args : Array Value) (w : World) : (callFunc 65 args).run Tryd.prog w = .ok (.enter 65 args) w := enters_of Tryd.func65 (by kernel_rfl) rfl args w
theorem Tryd.pDigit (c : Nat) (w : World) : Calls Tryd.prog 53 (#[.int .u8 (c : Int)] ++ #[]) w fun e w' => e = .returned (.bool (isDg c)) ∧ w' = w :=
  (Tryd.dDigit c w).mono fun e w' h => ⟨h.1.trans (by rw [show isDg c = (decide (48 ≤ (c : Int)) && decide ((c : Int) ≤ 57)) by unfold isDg; congr 1 <;> exact decide_eq_decide.2 (by omega)]), h.2⟩
theorem Tryd.pBlank (c : Nat) (w : World) : Calls Tryd.prog 66 (#[.int .u8 (c : Int)] ++ #[]) w fun e w' => e = .returned (.bool (isBl c)) ∧ w' = w :=
  (Tryd.dBlank c w).mono fun e w' h => ⟨h.1.trans (by rw [show isBl c = (decide ((c : Int) = 32) || decide ((c : Int) = 9)) by unfold isBl; congr 1 <;> exact decide_eq_decide.2 (by omega)]), h.2⟩
set_option maxRecDepth 100000 in
theorem Tryd.pLetter (c : Nat) (w : World) : Calls Tryd.prog 47 (#[.int .u8 (c : Int)] ++ #[]) w fun e w' => e = .returned (.bool (isLt c)) ∧ w' = w := by
  by_cases h1 : 97 ≤ c
  · have b1 : decide (97 ≤ (c : Int)) = true := decide_eq_true (by omega)
    by_cases h2 : c ≤ 122
    · have b2 : decide ((c : Int) ≤ 122) = true := decide_eq_true (by omega)
      have hf : Hid (isLt c = true) := Lib.hid (by simp [isLt, h1, h2])
      clear h1 h2
      go_enter Tryd.func47, Tryd.ntmps47
      go_wp2
      go_ret
      exact ⟨by rw [hf.out]; rfl, rfl⟩
    · have b2 : decide ((c : Int) ≤ 122) = false := decide_eq_false (by omega)
      have b3 : decide (65 ≤ (c : Int)) = true := decide_eq_true (by omega)
      have b4 : decide ((c : Int) ≤ 90) = false := decide_eq_false (by omega)
      have hf : Hid (isLt c = false) := Lib.hid (by simp [isLt, h1, h2]; omega)
      clear h1 h2
      go_enter Tryd.func47, Tryd.ntmps47
      go_wp2
      go_ret
      exact ⟨by rw [hf.out]; rfl, rfl⟩
  · have b1 : decide (97 ≤ (c : Int)) = false := decide_eq_false (by omega)
    by_cases h2 : 65 ≤ c
    · have b2 : decide (65 ≤ (c : Int)) = true := decide_eq_true (by omega)
      by_cases h3 : c ≤ 90
      · have b3 : decide ((c : Int) ≤ 90) = true := decide_eq_true (by omega)
        have hf : Hid (isLt c = true) := Lib.hid (by simp [isLt, h1, h2, h3])
        clear h1 h2 h3
        go_enter Tryd.func47, Tryd.ntmps47
        go_wp2
        go_ret
        exact ⟨by rw [hf.out]; rfl, rfl⟩
      · have b3 : decide ((c : Int) ≤ 90) = false := decide_eq_false (by omega)
        have hf : Hid (isLt c = false) := Lib.hid (by simp [isLt, h1, h2, h3])
        clear h1 h2 h3
        go_enter Tryd.func47, Tryd.ntmps47
        go_wp2
        go_ret
        exact ⟨by rw [hf.out]; rfl, rfl⟩
    · have b2 : decide (65 ≤ (c : Int)) = false := decide_eq_false (by omega)
      have hf : Hid (isLt c = false) := Lib.hid (by simp [isLt, h1, h2])
      clear h1 h2
      go_enter Tryd.func47, Tryd.ntmps47
      go_wp2
      go_ret
      exact ⟨by rw [hf.out]; rfl, rfl⟩
set_option maxRecDepth 100000 in
theorem Tryd.pJust (k B : Nat) (c : Nat) (w : World) (h : w.cell? ⟨B, 0, none⟩ = some (.int .u8 (k : Int))) : Calls Tryd.prog 65 (#[.int .u8 (c : Int)] ++ #[.pointer (some ⟨B, 0, none⟩)]) w fun e w' => e = .returned (.bool (decide (c = k))) ∧ w' = w := by
  have hf : Hid (decide (c = k) = ((c : Int) == (k : Int))) := Lib.hid (by
    by_cases h : c = k
    · subst h; simp
    · rw [decide_eq_false h]; symm; exact beq_false_of_ne (by omega))
  go_enter Tryd.func65, Tryd.ntmps65
  go_wp2
  go_ret
  exact ⟨by rw [hf.out]; rfl, rfl⟩
set_option maxRecDepth 100000 in
theorem Tryd.dJust (k : Nat) (w : World) : Calls Tryd.prog 50 #[.int .u8 (k : Int)] w fun e w' => e = .returned (.func (.func 65) #[] #[.pointer (some ⟨w.heap.size, 0, none⟩)]) ∧ w'.cell? ⟨w.heap.size, 0, none⟩ = some (.int .u8 (k : Int)) ∧ Below w.heap.size w w' := by
  go_enter Tryd.func50, Tryd.ntmps50
  go_wp2
  go_ret
  exact ⟨rfl, by rw [Go.cell_of_row _ _ _ _ _ _ (Go.heap_alloc_new _ _)]; rfl, (Below.refl _ _).alloc (Nat.le_refl _) _⟩
set_option maxRecDepth 100000 in
theorem Tryd.dNumber (X : Nat) (s : ByteArray) (x : Nat × Nat) (k : Nat) (hk : k ≤ 4) (w : World) (h0 : Scn w X s x) : Calls Tryd.prog 52 #[.pointer (some ⟨X, 0, none⟩), .int .i64 (k : Int)] w fun z w' => z = .returned (.tuple #[.int .i64 ((snum s k (x, 0)).2 : Int), .int .i64 (x.1 : Int)]) ∧ w.grownBy w' (some X) ∧ Scn w' X s (snum s k (x, 0)).1 := by
  obtain ⟨c0, c1, c2, c3, c4, c5⟩ := h0.c
  have hh := Lib.hid h0
  clear h0
  obtain ⟨r, hr⟩ : ∃ r, snum s k (x, 0) = r := ⟨_, rfl⟩
  rw [hr]
  have hHr := Lib.hid hr
  clear hr
  go_enter Tryd.func52, Tryd.ntmps52
  go_wp2_with fail
  go_loopw [4, 11] (fun s4 s11 wr => ∃ (i : Nat) (y : (Nat × Nat) × Nat), i ≤ k ∧ s11 = .int .i64 i ∧ s4 = .int .i64 (y.2 : Int) ∧ y.2 + 29 ≤ 29 * 10 ^ i ∧ Hid (snum s (k - i) y = r) ∧ Hid (Scn wr X s y.1) ∧ Hid (w.grownBy wr (some X))) (fun _ s11 _ => k - (intOf s11).toNat)
  case atStart => exact ⟨0, (x, 0), Nat.zero_le _, rfl, rfl, by simp, hHr, hh, Lib.hid (World.grownBy.refl _ _)⟩
  case round =>
    obtain ⟨i, ⟨y, n⟩, hi, rfl, rfl, hn, hsn, hS, hB⟩ := hrel
    dsimp only at hn hsn hS ⊢
    have i0 : (0 : Int) ≤ i := by omega
    have hpi : 10 ^ i ≤ 10 ^ 4 := Nat.pow_le_pow_right (by omega) (by omega)
    by_cases hlt : i < k
    · have i3 : decide ((i : Int) < k) = true := by simp; omega
      have hdv : dgv (sby isDg s y) ≤ 255 := by unfold dgv; omega
      have hb0 : sby isDg s y ≤ 255 := by
        unfold sby bt
        have := (s.data.toList.getD y.1 0).toNat_lt
        split <;> first | omega | (split <;> first | omega | (split <;> omega))
      have w1 : IntKind.u8.wrap ((sby isDg s y : Int) - 48) = (dgv (sby isDg s y) : Int) := by
        have h : IntKind.u8.wrap ((sby isDg s y : Int) - 48) = ((sby isDg s y : Int) - 48) % 256 := rfl
        rw [h]; unfold dgv; omega
      have w2 : IntKind.i64.wrap (10 * (n : Int)) = 10 * n := IntWalk.i64_in _ (by omega)
      have w3 : IntKind.i64.wrap (dgv (sby isDg s y) : Int) = dgv (sby isDg s y) := IntWalk.i64_in _ (by omega)
      have w4 : IntKind.i64.wrap (10 * (n : Int) + dgv (sby isDg s y)) = 10 * n + dgv (sby isDg s y) := IntWalk.i64_in _ (by omega)
      have w5 : IntKind.i64.wrap ((i : Int) + 1) = i + 1 := IntWalk.i64_in _ (by omega)
      have hc := Lib.hid (Tryd.dTake 53 #[] isDg X s y wr Tryd.cfDigit (fun W _ c => Tryd.pDigit c W) hS.out)
      have hnx : Hid (snum s (k - (i + 1)) (stk isDg s y, 10 * n + dgv (sby isDg s y)) = r) := by
        have e1 : k - i = (k - (i + 1)) + 1 := by omega
        have h := hsn.out
        rw [e1] at h
        exact Lib.hid h
      have hn2 : 10 * n + dgv (sby isDg s y) + 29 ≤ 29 * 10 ^ (i + 1) := by rw [Nat.pow_succ]; omega
      generalize sby isDg s y = b at *
      generalize dgv b = d at *
      clear hpi hn hb0
      go_wp2_with (go_at_call 49; refine (hc.out).mono ?_; rintro e w' ⟨rfl, hg, hs⟩)
      go_roundw
      case rel => exact ⟨i + 1, (stk isDg s y, 10 * n + d), by omega, by simp, by simp, hn2, hnx, Lib.hid hs, Lib.hid (Lib.grownBy_trans hB.out hg)⟩
      case measure => simp [intOf]; omega
    · obtain rfl : i = k := by omega
      have i3 : decide ((i : Int) < i) = false := by simp
      have hr2 : Hid ((y, n) = r) := by
        have h := hsn.out
        rw [Nat.sub_self] at h
        exact Lib.hid h
      go_wp2_with fail
      go_ret2
      exact ⟨by rw [← hr2.out]; rfl, hB.out, by rw [← hr2.out]; exact hS.out⟩
set_option maxRecDepth 100000 in
theorem Tryd.dBlanks (X : Nat) (s : ByteArray) (x : Nat × Nat) (opt : Bool) (w : World) (h0 : Scn w X s x) : Calls Tryd.prog 51 #[.pointer (some ⟨X, 0, none⟩), .bool opt] w fun z w' => z = .returned (.tuple #[]) ∧ w.grownBy w' (some X) ∧ Scn w' X s (sbl opt s x) := by
  have hc0 := Lib.hid (Tryd.dTake 66 #[] isBl X s x w Tryd.cfBlank (fun W _ c => Tryd.pBlank c W) h0)
  have hh := Lib.hid h0
  clear h0
  obtain ⟨x1, hx1⟩ : ∃ x1, (if opt = true then x else stk isBl s x) = x1 := ⟨_, rfl⟩
  obtain ⟨r, hr⟩ : ∃ r, sskip s 65 x1 = r := ⟨_, rfl⟩
  have hf : Hid (sbl opt s x = r) := Lib.hid (by unfold sbl; rw [hx1]; exact hr)
  rw [hf.out]
  have hHr := Lib.hid hr
  have hHx1 := Lib.hid hx1
  clear hr hf hx1
  go_enter Tryd.func51, Tryd.ntmps51
  cases opt
  · go_wp2_with (go_at_call 49; refine (hc0.out).mono ?_; rintro e w1 ⟨rfl, hG1, hS1⟩)
    have hx1 : stk isBl s x = x1 := by simpa using hHx1.out
    clear hHx1
    subst hx1
    have hHx := Lib.hid trivial
    go_loopw [] (fun wr => ∃ (f : Nat) (y : Nat × Nat), s.size < f + y.1 ∧ Hid (sskip s f y = r) ∧ Hid (Scn wr X s y) ∧ Hid (w.grownBy wr (some X))) (fun wr => s.size - rdAt wr X)
    case atStart => exact ⟨65, stk isBl s x, by have := hS1.2.2; omega, hHr, Lib.hid hS1, Lib.hid hG1⟩
    case round =>
      obtain ⟨f, y, hf, hsk, hS, hB⟩ := hrel
      have hys : y.1 ≤ s.size := hS.out.2.1
      have hs64 : s.size ≤ 64 := hS.out.2.2
      have hc := Lib.hid (Tryd.dPeek 66 #[] isBl X s y wr Tryd.cfBlank (fun W _ c => Tryd.pBlank c W) hS.out)
      have hrd := Lib.hid hS.out.rdAt
      obtain ⟨f, rfl⟩ : ∃ g, f = g + 1 := ⟨f - 1, by omega⟩
      cases hp : spk isBl s y
      · rw [hp] at hc
        have hr2 : Hid (y = r) := by
          have h := hsk.out
          unfold sskip at h
          rw [if_neg (by rw [hp]; decide)] at h
          exact Lib.hid h
        clear hp
        go_wp2_with (go_at_call 46; refine (hc.out).mono ?_; rintro e w2 ⟨rfl, hb⟩)
        refine Great.bodyPost_end0 rfl rfl ?_
        exact ⟨rfl, Lib.grownBy_trans hB.out (up hb _), by rw [← hr2.out]; exact hS.out.below hb⟩
      · rw [hp] at hc
        have hlt : y.1 < s.size := by
          unfold spk at hp
          simp only [Bool.and_eq_true, decide_eq_true_eq] at hp
          exact hp.1.2
        have hr2 : Hid (sskip s f (y.1 + 1, y.2) = r) := by
          have h := hsk.out
          unfold sskip at h
          rw [if_pos hp] at h
          exact Lib.hid h
        clear hp
        have w5 : IntKind.i64.wrap ((y.1 : Int) + 1) = (y.1 : Int) + 1 := IntWalk.i64_in _ (by omega)
        go_wp2_with (go_at_call 46; refine (hc.out).mono ?_; rintro e w2 ⟨rfl, hb⟩; have hS2 := Lib.hid (hS.out.below hb); have hb2 := Lib.hid hb; obtain ⟨b0, b1, b2, b3, b4, b5⟩ := hS2.out.c; clear hb)
        have hS3 : Scn (w2.setCell ⟨X, 1, none⟩ (.int .i64 ((y.1 : Int) + 1))) X s (y.1 + 1, y.2) := hS2.out.put1 (y.1 + 1) (by omega)
        go_roundw
        case rel => exact ⟨f, (y.1 + 1, y.2), by dsimp only; omega, hr2, Lib.hid hS3, Lib.hid (Lib.grownBy_trans (Lib.grownBy_trans hB.out (up hb2.out _)) (Lib.grownBy_setCell _ _ _ _))⟩
        case measure => rw [hS3.rdAt, hrd.out]; omega
  · go_wp2_with fail
    have hx1 : x = x1 := by simpa using hHx1.out
    clear hHx1
    subst hx1
    have hS1 := hh.out
    have hG1 := World.grownBy.refl w (some X)
    go_loopw [] (fun wr => ∃ (f : Nat) (y : Nat × Nat), s.size < f + y.1 ∧ Hid (sskip s f y = r) ∧ Hid (Scn wr X s y) ∧ Hid (w.grownBy wr (some X))) (fun wr => s.size - rdAt wr X)
    case atStart => exact ⟨65, x, by have := hS1.2.2; omega, hHr, Lib.hid hS1, Lib.hid hG1⟩
    case round =>
      obtain ⟨f, y, hf, hsk, hS, hB⟩ := hrel
      have hys : y.1 ≤ s.size := hS.out.2.1
      have hs64 : s.size ≤ 64 := hS.out.2.2
      have hc := Lib.hid (Tryd.dPeek 66 #[] isBl X s y wr Tryd.cfBlank (fun W _ c => Tryd.pBlank c W) hS.out)
      have hrd := Lib.hid hS.out.rdAt
      obtain ⟨f, rfl⟩ : ∃ g, f = g + 1 := ⟨f - 1, by omega⟩
      cases hp : spk isBl s y
      · rw [hp] at hc
        have hr2 : Hid (y = r) := by
          have h := hsk.out
          unfold sskip at h
          rw [if_neg (by rw [hp]; decide)] at h
          exact Lib.hid h
        clear hp
        go_wp2_with (go_at_call 46; refine (hc.out).mono ?_; rintro e w2 ⟨rfl, hb⟩)
        refine Great.bodyPost_end0 rfl rfl ?_
        exact ⟨rfl, Lib.grownBy_trans hB.out (up hb _), by rw [← hr2.out]; exact hS.out.below hb⟩
      · rw [hp] at hc
        have hlt : y.1 < s.size := by
          unfold spk at hp
          simp only [Bool.and_eq_true, decide_eq_true_eq] at hp
          exact hp.1.2
        have hr2 : Hid (sskip s f (y.1 + 1, y.2) = r) := by
          have h := hsk.out
          unfold sskip at h
          rw [if_pos hp] at h
          exact Lib.hid h
        clear hp
        have w5 : IntKind.i64.wrap ((y.1 : Int) + 1) = (y.1 : Int) + 1 := IntWalk.i64_in _ (by omega)
        go_wp2_with (go_at_call 46; refine (hc.out).mono ?_; rintro e w2 ⟨rfl, hb⟩; have hS2 := Lib.hid (hS.out.below hb); have hb2 := Lib.hid hb; obtain ⟨b0, b1, b2, b3, b4, b5⟩ := hS2.out.c; clear hb)
        have hS3 : Scn (w2.setCell ⟨X, 1, none⟩ (.int .i64 ((y.1 : Int) + 1))) X s (y.1 + 1, y.2) := hS2.out.put1 (y.1 + 1) (by omega)
        go_roundw
        case rel => exact ⟨f, (y.1 + 1, y.2), by dsimp only; omega, hr2, Lib.hid hS3, Lib.hid (Lib.grownBy_trans (Lib.grownBy_trans hB.out (up hb2.out _)) (Lib.grownBy_setCell _ _ _ _))⟩
        case measure => rw [hS3.rdAt, hrd.out]; omega
end Go.Proofs
