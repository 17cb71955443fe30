/- the calendar's small functions, walked -/
import Derived.Below
import Derived.Deep.Draws
import Derived.Deep.Quiet
import Derived.WalkKit
import Derived.Deep.QuietTactic
import Derived.BigQuiet
import Derived.Lib.Hide
import Derived.IntWalk
import Derived.KernelRfl
import Derived.Test.YtgbpafapmbnfjaaDoorCal
import Derived.Test.YtgbpafapmbnfjaaDoorProg
namespace Go.Proofs
open Go.RowKit
set_option linter.unusedVariables false
set_option linter.unusedSimpArgs false
theorem Tryd.dLeap (y : Int) (h0 : 0 ≤ y) (h1 : y ≤ 100000) (w : World) : Calls Tryd.prog 40 #[.int .i64 y] w fun e w' => e = .returned (.bool (Cal.lp y)) ∧ w' = w := by
  by_cases h4 : y % 4 = 0
  · by_cases h100 : y % 100 = 0
    · by_cases h400 : y % 400 = 0
      ·
        have e : Hid (Cal.lp y = true) := Lib.hid (by unfold Cal.lp; simp [h400])
        have b4 : (y % 4 == 0) = true := by rw [h4]; rfl
        have b100 : (y % 100 != 0) = false := by rw [h100]; rfl
        have b400 : (y % 400 == 0) = true := by rw [h400]; rfl
        clear h4 h100 h400
        go_enter Tryd.func40, Tryd.ntmps40
        go_wp2
        go_ret
        exact ⟨by rw [e.out]; rfl, rfl⟩
      ·
        have e : Hid (Cal.lp y = false) := Lib.hid (by unfold Cal.lp; simp [h100, h400])
        have b4 : (y % 4 == 0) = true := by rw [h4]; rfl
        have b100 : (y % 100 != 0) = false := by rw [h100]; rfl
        have b400 : (y % 400 == 0) = false := by rw [beq_eq_false_iff_ne]; exact h400
        clear h4 h100 h400
        go_enter Tryd.func40, Tryd.ntmps40
        go_wp2
        go_ret
        exact ⟨by rw [e.out]; rfl, rfl⟩
    ·
      have e : Hid (Cal.lp y = true) := Lib.hid (by unfold Cal.lp; simp [h4, h100])
      have b4 : (y % 4 == 0) = true := by rw [h4]; rfl
      have b100 : (y % 100 != 0) = true := by rw [bne_iff_ne]; exact h100
      clear h4 h100
      go_enter Tryd.func40, Tryd.ntmps40
      go_wp2
      go_ret
      exact ⟨by rw [e.out]; rfl, rfl⟩
  · by_cases h400 : y % 400 = 0
    · omega
    ·
      have e : Hid (Cal.lp y = false) := Lib.hid (by unfold Cal.lp; simp [h4, h400])
      have b4 : (y % 4 == 0) = false := by rw [beq_eq_false_iff_ne]; exact h4
      have b400 : (y % 400 == 0) = false := by rw [beq_eq_false_iff_ne]; exact h400
      clear h4 h400
      go_enter Tryd.func40, Tryd.ntmps40
      go_wp2
      go_ret
      exact ⟨by rw [e.out]; rfl, rfl⟩
theorem Tryd.qLeap (y : Int) (h0 : 0 ≤ y) (h1 : y ≤ 100000) (w : World) : Calls Tryd.prog 29 #[.int .i64 y] w fun e w' => e = .returned (.bool (Cal.lp y)) ∧ w' = w := by
  by_cases h4 : y % 4 = 0
  · by_cases h100 : y % 100 = 0
    · by_cases h400 : y % 400 = 0
      ·
        have e : Hid (Cal.lp y = true) := Lib.hid (by unfold Cal.lp; simp [h400])
        have b4 : (y % 4 == 0) = true := by rw [h4]; rfl
        have b100 : (y % 100 != 0) = false := by rw [h100]; rfl
        have b400 : (y % 400 == 0) = true := by rw [h400]; rfl
        clear h4 h100 h400
        go_enter Tryd.func29, Tryd.ntmps29
        go_wp2
        go_ret
        exact ⟨by rw [e.out]; rfl, rfl⟩
      ·
        have e : Hid (Cal.lp y = false) := Lib.hid (by unfold Cal.lp; simp [h100, h400])
        have b4 : (y % 4 == 0) = true := by rw [h4]; rfl
        have b100 : (y % 100 != 0) = false := by rw [h100]; rfl
        have b400 : (y % 400 == 0) = false := by rw [beq_eq_false_iff_ne]; exact h400
        clear h4 h100 h400
        go_enter Tryd.func29, Tryd.ntmps29
        go_wp2
        go_ret
        exact ⟨by rw [e.out]; rfl, rfl⟩
    ·
      have e : Hid (Cal.lp y = true) := Lib.hid (by unfold Cal.lp; simp [h4, h100])
      have b4 : (y % 4 == 0) = true := by rw [h4]; rfl
      have b100 : (y % 100 != 0) = true := by rw [bne_iff_ne]; exact h100
      clear h4 h100
      go_enter Tryd.func29, Tryd.ntmps29
      go_wp2
      go_ret
      exact ⟨by rw [e.out]; rfl, rfl⟩
  · by_cases h400 : y % 400 = 0
    · omega
    ·
      have e : Hid (Cal.lp y = false) := Lib.hid (by unfold Cal.lp; simp [h4, h400])
      have b4 : (y % 4 == 0) = false := by rw [beq_eq_false_iff_ne]; exact h4
      have b400 : (y % 400 == 0) = false := by rw [beq_eq_false_iff_ne]; exact h400
      clear h4 h400
      go_enter Tryd.func29, Tryd.ntmps29
      go_wp2
      go_ret
      exact ⟨by rw [e.out]; rfl, rfl⟩
theorem Tryd.dYearDays (y : Int) (h0 : 0 ≤ y) (h1 : y ≤ 100000) (w : World) : Calls Tryd.prog 27 #[.int .i64 y] w fun e w' => e = .returned (.int .i64 (Cal.yd y)) ∧ w' = w := by
  have hc := Tryd.dLeap y h0 h1 w
  unfold Cal.yd
  cases h : Cal.lp y
  all_goals
    rw [h] at hc
    clear h
    go_enter Tryd.func27, Tryd.ntmps27
    go_wp2_with (go_at_call 40; refine hc.mono ?_; rintro e w' ⟨rfl, rfl⟩)
    go_ret
    exact ⟨rfl, rfl⟩
set_option maxRecDepth 100000 in
set_option maxHeartbeats 4000000 in
theorem Tryd.dMonthDays (y m : Int) (h0 : 0 ≤ y) (h1 : y ≤ 100000) (m0 : 1 ≤ m) (m1 : m ≤ 12) (w : World) : Calls Tryd.prog 28 #[.int .i64 y, .int .i64 m] w fun e w' => e = .returned (.int .i64 (Cal.md y m)) ∧ Below w.heap.size w w' := by
  have hc := fun W => Tryd.dLeap y h0 h1 W
  have hm : m = 1 ∨ m = 2 ∨ m = 3 ∨ m = 4 ∨ m = 5 ∨ m = 6 ∨ m = 7 ∨ m = 8 ∨ m = 9 ∨ m = 10 ∨ m = 11 ∨ m = 12 := by omega
  clear m0 m1
  rcases hm with rfl | rfl | rfl | rfl | rfl | rfl | rfl | rfl | rfl | rfl | rfl | rfl
  · have e : Hid (Cal.md y 1 = 31) := Lib.hid (by unfold Cal.md; rw [if_neg (fun h => absurd h.1 (by decide))]; rfl)
    go_enter Tryd.func28, Tryd.ntmps28
    go_wp2
    go_ret
    exact ⟨by rw [e.out]; rfl, by first | exact Below.refl _ _ | exact (Below.refl _ _).alloc (Nat.le_refl _) _⟩
  · have e : Hid (Cal.md y 2 = if Cal.lp y = true then 29 else 28) := Lib.hid (by unfold Cal.md; by_cases h : Cal.lp y = true <;> simp [h, Cal.mdl])
    cases h : Cal.lp y
    · rw [h] at hc
      have e2 : Hid (Cal.md y 2 = 28) := Lib.hid (by rw [e.out, h]; rfl)
      clear h e
      go_enter Tryd.func28, Tryd.ntmps28
      go_wp2_with (go_at_call 40; refine (hc _).mono ?_; rintro e w' ⟨rfl, rfl⟩)
      go_ret
      exact ⟨by rw [e2.out]; rfl, by first | exact Below.refl _ _ | exact (Below.refl _ _).alloc (Nat.le_refl _) _⟩
    · rw [h] at hc
      have e2 : Hid (Cal.md y 2 = 29) := Lib.hid (by rw [e.out, h]; rfl)
      clear h e
      go_enter Tryd.func28, Tryd.ntmps28
      go_wp2_with (go_at_call 40; refine (hc _).mono ?_; rintro e w' ⟨rfl, rfl⟩)
      go_ret
      exact ⟨by rw [e2.out]; rfl, by first | exact Below.refl _ _ | exact (Below.refl _ _).alloc (Nat.le_refl _) _⟩
  · have e : Hid (Cal.md y 3 = 31) := Lib.hid (by unfold Cal.md; rw [if_neg (fun h => absurd h.1 (by decide))]; rfl)
    go_enter Tryd.func28, Tryd.ntmps28
    go_wp2
    go_ret
    exact ⟨by rw [e.out]; rfl, by first | exact Below.refl _ _ | exact (Below.refl _ _).alloc (Nat.le_refl _) _⟩
  · have e : Hid (Cal.md y 4 = 30) := Lib.hid (by unfold Cal.md; rw [if_neg (fun h => absurd h.1 (by decide))]; rfl)
    go_enter Tryd.func28, Tryd.ntmps28
    go_wp2
    go_ret
    exact ⟨by rw [e.out]; rfl, by first | exact Below.refl _ _ | exact (Below.refl _ _).alloc (Nat.le_refl _) _⟩
  · have e : Hid (Cal.md y 5 = 31) := Lib.hid (by unfold Cal.md; rw [if_neg (fun h => absurd h.1 (by decide))]; rfl)
    go_enter Tryd.func28, Tryd.ntmps28
    go_wp2
    go_ret
    exact ⟨by rw [e.out]; rfl, by first | exact Below.refl _ _ | exact (Below.refl _ _).alloc (Nat.le_refl _) _⟩
  · have e : Hid (Cal.md y 6 = 30) := Lib.hid (by unfold Cal.md; rw [if_neg (fun h => absurd h.1 (by decide))]; rfl)
    go_enter Tryd.func28, Tryd.ntmps28
    go_wp2
    go_ret
    exact ⟨by rw [e.out]; rfl, by first | exact Below.refl _ _ | exact (Below.refl _ _).alloc (Nat.le_refl _) _⟩
  · have e : Hid (Cal.md y 7 = 31) := Lib.hid (by unfold Cal.md; rw [if_neg (fun h => absurd h.1 (by decide))]; rfl)
    go_enter Tryd.func28, Tryd.ntmps28
    go_wp2
    go_ret
    exact ⟨by rw [e.out]; rfl, by first | exact Below.refl _ _ | exact (Below.refl _ _).alloc (Nat.le_refl _) _⟩
  · have e : Hid (Cal.md y 8 = 31) := Lib.hid (by unfold Cal.md; rw [if_neg (fun h => absurd h.1 (by decide))]; rfl)
    go_enter Tryd.func28, Tryd.ntmps28
    go_wp2
    go_ret
    exact ⟨by rw [e.out]; rfl, by first | exact Below.refl _ _ | exact (Below.refl _ _).alloc (Nat.le_refl _) _⟩
  · have e : Hid (Cal.md y 9 = 30) := Lib.hid (by unfold Cal.md; rw [if_neg (fun h => absurd h.1 (by decide))]; rfl)
    go_enter Tryd.func28, Tryd.ntmps28
    go_wp2
    go_ret
    exact ⟨by rw [e.out]; rfl, by first | exact Below.refl _ _ | exact (Below.refl _ _).alloc (Nat.le_refl _) _⟩
  · have e : Hid (Cal.md y 10 = 31) := Lib.hid (by unfold Cal.md; rw [if_neg (fun h => absurd h.1 (by decide))]; rfl)
    go_enter Tryd.func28, Tryd.ntmps28
    go_wp2
    go_ret
    exact ⟨by rw [e.out]; rfl, by first | exact Below.refl _ _ | exact (Below.refl _ _).alloc (Nat.le_refl _) _⟩
  · have e : Hid (Cal.md y 11 = 30) := Lib.hid (by unfold Cal.md; rw [if_neg (fun h => absurd h.1 (by decide))]; rfl)
    go_enter Tryd.func28, Tryd.ntmps28
    go_wp2
    go_ret
    exact ⟨by rw [e.out]; rfl, by first | exact Below.refl _ _ | exact (Below.refl _ _).alloc (Nat.le_refl _) _⟩
  · have e : Hid (Cal.md y 12 = 31) := Lib.hid (by unfold Cal.md; rw [if_neg (fun h => absurd h.1 (by decide))]; rfl)
    go_enter Tryd.func28, Tryd.ntmps28
    go_wp2
    go_ret
    exact ⟨by rw [e.out]; rfl, by first | exact Below.refl _ _ | exact (Below.refl _ _).alloc (Nat.le_refl _) _⟩
set_option maxRecDepth 100000 in
set_option maxHeartbeats 4000000 in
theorem Tryd.qDays (y m : Int) (h0 : 0 ≤ y) (h1 : y ≤ 100000) (m0 : 1 ≤ m) (m1 : m ≤ 12) (w : World) : Calls Tryd.prog 30 #[.int .i64 y, .int .i64 m] w fun e w' => e = .returned (.int .i64 (Cal.md y m)) ∧ Below w.heap.size w w' := by
  have hc := fun W => Tryd.qLeap y h0 h1 W
  have hm : m = 1 ∨ m = 2 ∨ m = 3 ∨ m = 4 ∨ m = 5 ∨ m = 6 ∨ m = 7 ∨ m = 8 ∨ m = 9 ∨ m = 10 ∨ m = 11 ∨ m = 12 := by omega
  clear m0 m1
  rcases hm with rfl | rfl | rfl | rfl | rfl | rfl | rfl | rfl | rfl | rfl | rfl | rfl
  · have e : Hid (Cal.md y 1 = 31) := Lib.hid (by unfold Cal.md; rw [if_neg (fun h => absurd h.1 (by decide))]; rfl)
    go_enter Tryd.func30, Tryd.ntmps30
    go_wp2
    go_ret
    exact ⟨by rw [e.out]; rfl, by first | exact Below.refl _ _ | exact (Below.refl _ _).alloc (Nat.le_refl _) _⟩
  · have e : Hid (Cal.md y 2 = if Cal.lp y = true then 29 else 28) := Lib.hid (by unfold Cal.md; by_cases h : Cal.lp y = true <;> simp [h, Cal.mdl])
    cases h : Cal.lp y
    · rw [h] at hc
      have e2 : Hid (Cal.md y 2 = 28) := Lib.hid (by rw [e.out, h]; rfl)
      clear h e
      go_enter Tryd.func30, Tryd.ntmps30
      go_wp2_with (go_at_call 29; refine (hc _).mono ?_; rintro e w' ⟨rfl, rfl⟩)
      go_ret
      exact ⟨by rw [e2.out]; rfl, by first | exact Below.refl _ _ | exact (Below.refl _ _).alloc (Nat.le_refl _) _⟩
    · rw [h] at hc
      have e2 : Hid (Cal.md y 2 = 29) := Lib.hid (by rw [e.out, h]; rfl)
      clear h e
      go_enter Tryd.func30, Tryd.ntmps30
      go_wp2_with (go_at_call 29; refine (hc _).mono ?_; rintro e w' ⟨rfl, rfl⟩)
      go_ret
      exact ⟨by rw [e2.out]; rfl, by first | exact Below.refl _ _ | exact (Below.refl _ _).alloc (Nat.le_refl _) _⟩
  · have e : Hid (Cal.md y 3 = 31) := Lib.hid (by unfold Cal.md; rw [if_neg (fun h => absurd h.1 (by decide))]; rfl)
    go_enter Tryd.func30, Tryd.ntmps30
    go_wp2
    go_ret
    exact ⟨by rw [e.out]; rfl, by first | exact Below.refl _ _ | exact (Below.refl _ _).alloc (Nat.le_refl _) _⟩
  · have e : Hid (Cal.md y 4 = 30) := Lib.hid (by unfold Cal.md; rw [if_neg (fun h => absurd h.1 (by decide))]; rfl)
    go_enter Tryd.func30, Tryd.ntmps30
    go_wp2
    go_ret
    exact ⟨by rw [e.out]; rfl, by first | exact Below.refl _ _ | exact (Below.refl _ _).alloc (Nat.le_refl _) _⟩
  · have e : Hid (Cal.md y 5 = 31) := Lib.hid (by unfold Cal.md; rw [if_neg (fun h => absurd h.1 (by decide))]; rfl)
    go_enter Tryd.func30, Tryd.ntmps30
    go_wp2
    go_ret
    exact ⟨by rw [e.out]; rfl, by first | exact Below.refl _ _ | exact (Below.refl _ _).alloc (Nat.le_refl _) _⟩
  · have e : Hid (Cal.md y 6 = 30) := Lib.hid (by unfold Cal.md; rw [if_neg (fun h => absurd h.1 (by decide))]; rfl)
    go_enter Tryd.func30, Tryd.ntmps30
    go_wp2
    go_ret
    exact ⟨by rw [e.out]; rfl, by first | exact Below.refl _ _ | exact (Below.refl _ _).alloc (Nat.le_refl _) _⟩
  · have e : Hid (Cal.md y 7 = 31) := Lib.hid (by unfold Cal.md; rw [if_neg (fun h => absurd h.1 (by decide))]; rfl)
    go_enter Tryd.func30, Tryd.ntmps30
    go_wp2
    go_ret
    exact ⟨by rw [e.out]; rfl, by first | exact Below.refl _ _ | exact (Below.refl _ _).alloc (Nat.le_refl _) _⟩
  · have e : Hid (Cal.md y 8 = 31) := Lib.hid (by unfold Cal.md; rw [if_neg (fun h => absurd h.1 (by decide))]; rfl)
    go_enter Tryd.func30, Tryd.ntmps30
    go_wp2
    go_ret
    exact ⟨by rw [e.out]; rfl, by first | exact Below.refl _ _ | exact (Below.refl _ _).alloc (Nat.le_refl _) _⟩
  · have e : Hid (Cal.md y 9 = 30) := Lib.hid (by unfold Cal.md; rw [if_neg (fun h => absurd h.1 (by decide))]; rfl)
    go_enter Tryd.func30, Tryd.ntmps30
    go_wp2
    go_ret
    exact ⟨by rw [e.out]; rfl, by first | exact Below.refl _ _ | exact (Below.refl _ _).alloc (Nat.le_refl _) _⟩
  · have e : Hid (Cal.md y 10 = 31) := Lib.hid (by unfold Cal.md; rw [if_neg (fun h => absurd h.1 (by decide))]; rfl)
    go_enter Tryd.func30, Tryd.ntmps30
    go_wp2
    go_ret
    exact ⟨by rw [e.out]; rfl, by first | exact Below.refl _ _ | exact (Below.refl _ _).alloc (Nat.le_refl _) _⟩
  · have e : Hid (Cal.md y 11 = 30) := Lib.hid (by unfold Cal.md; rw [if_neg (fun h => absurd h.1 (by decide))]; rfl)
    go_enter Tryd.func30, Tryd.ntmps30
    go_wp2
    go_ret
    exact ⟨by rw [e.out]; rfl, by first | exact Below.refl _ _ | exact (Below.refl _ _).alloc (Nat.le_refl _) _⟩
  · have e : Hid (Cal.md y 12 = 31) := Lib.hid (by unfold Cal.md; rw [if_neg (fun h => absurd h.1 (by decide))]; rfl)
    go_enter Tryd.func30, Tryd.ntmps30
    go_wp2
    go_ret
    exact ⟨by rw [e.out]; rfl, by first | exact Below.refl _ _ | exact (Below.refl _ _).alloc (Nat.le_refl _) _⟩
theorem Tryd.dValid (t : Int) (w : World) : Calls Tryd.prog 13 #[.int .i64 t] w fun e w' => e = .returned (.bool (Cal.valid t)) ∧ w' = w := by
  by_cases h0 : 0 ≤ t
  · by_cases h1 : t ≤ 105190559
    · have e : Hid (Cal.valid t = true) := Lib.hid (Cal.valid_iff.2 ⟨h0, h1⟩)
      have d1 : decide (0 ≤ t) = true := decide_eq_true h0
      go_enter Tryd.func13, Tryd.ntmps13
      go_wp2
      go_ret
      exact ⟨by rw [e.out]; rfl, rfl⟩
    · have e : Hid (Cal.valid t = false) := Lib.hid (by unfold Cal.valid; simp; omega)
      have d1 : decide (0 ≤ t) = true := decide_eq_true h0
      have d2 : decide (t ≤ 105190559) = false := decide_eq_false h1
      go_enter Tryd.func13, Tryd.ntmps13
      go_wp2
      go_ret
      exact ⟨by rw [e.out]; rfl, rfl⟩
  · have e : Hid (Cal.valid t = false) := Lib.hid (by unfold Cal.valid; simp; omega)
    have d1 : decide (0 ≤ t) = false := decide_eq_false h0
    go_enter Tryd.func13, Tryd.ntmps13
    go_wp2
    go_ret
    exact ⟨by rw [e.out]; rfl, rfl⟩
theorem Tryd.qValid (t : Int) (w : World) : Calls Tryd.prog 19 #[.int .i64 t] w fun e w' => e = .returned (.bool (Cal.valid t)) ∧ w' = w := by
  by_cases h0 : 0 ≤ t
  · by_cases h1 : t ≤ 105190559
    · have e : Hid (Cal.valid t = true) := Lib.hid (Cal.valid_iff.2 ⟨h0, h1⟩)
      have d1 : decide (0 ≤ t) = true := decide_eq_true h0
      go_enter Tryd.func19, Tryd.ntmps19
      go_wp2
      go_ret
      exact ⟨by rw [e.out]; rfl, rfl⟩
    · have e : Hid (Cal.valid t = false) := Lib.hid (by unfold Cal.valid; simp; omega)
      have d1 : decide (0 ≤ t) = true := decide_eq_true h0
      have d2 : decide (t ≤ 105190559) = false := decide_eq_false h1
      go_enter Tryd.func19, Tryd.ntmps19
      go_wp2
      go_ret
      exact ⟨by rw [e.out]; rfl, rfl⟩
  · have e : Hid (Cal.valid t = false) := Lib.hid (by unfold Cal.valid; simp; omega)
    have d1 : decide (0 ≤ t) = false := decide_eq_false h0
    go_enter Tryd.func19, Tryd.ntmps19
    go_wp2
    go_ret
    exact ⟨by rw [e.out]; rfl, rfl⟩
theorem Tryd.dWeekday (t : Int) (w : World) : Calls Tryd.prog 24 #[.int .i64 t] w fun e w' => e = .returned (if Cal.valid t = true then .tuple #[.int .i64 (Cal.wd t), .int .i64 0] else .tuple #[.int .i64 0, .int .i64 2]) ∧ w' = w := by
  have hc := Tryd.dValid t w
  cases h : Cal.valid t
  · rw [h] at hc
    clear h
    go_enter Tryd.func24, Tryd.ntmps24
    go_wp2_with (go_at_call 13; refine hc.mono ?_; rintro e w' ⟨rfl, rfl⟩)
    go_ret2
    exact ⟨rfl, rfl⟩
  · rw [h] at hc
    obtain ⟨h0, h1⟩ := Cal.valid_iff.1 h
    clear h
    go_enter Tryd.func24, Tryd.ntmps24
    go_wp2_with (go_at_call 13; refine hc.mono ?_; rintro e w' ⟨rfl, rfl⟩)
    go_ret2
    exact ⟨rfl, rfl⟩
theorem Tryd.dDay (t : Int) (w : World) : Calls Tryd.prog 25 #[.int .i64 t] w fun e w' => e = .returned (if Cal.valid t = true then .tuple #[.int .i64 ((t / 1440)), .int .i64 0] else .tuple #[.int .i64 0, .int .i64 2]) ∧ w' = w := by
  have hc := Tryd.dValid t w
  cases h : Cal.valid t
  · rw [h] at hc
    clear h
    go_enter Tryd.func25, Tryd.ntmps25
    go_wp2_with (go_at_call 13; refine hc.mono ?_; rintro e w' ⟨rfl, rfl⟩)
    go_ret2
    exact ⟨rfl, rfl⟩
  · rw [h] at hc
    obtain ⟨h0, h1⟩ := Cal.valid_iff.1 h
    clear h
    go_enter Tryd.func25, Tryd.ntmps25
    go_wp2_with (go_at_call 13; refine hc.mono ?_; rintro e w' ⟨rfl, rfl⟩)
    go_ret2
    exact ⟨rfl, rfl⟩
theorem Tryd.qWeekday (t : Int) (h0 : 0 ≤ t) (h1 : t ≤ 200000000) (w : World) : Calls Tryd.prog 26 #[.int .i64 t] w fun e w' => e = .returned (.int .i64 (Cal.wd t)) ∧ w' = w := by
  go_enter Tryd.func26, Tryd.ntmps26
  go_wp2
  go_ret
  exact ⟨rfl, rfl⟩
end Go.Proofs
