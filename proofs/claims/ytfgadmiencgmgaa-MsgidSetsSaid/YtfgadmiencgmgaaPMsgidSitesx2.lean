-- PRINTED BY print.sh 35421559b90ae4d0a3588c463048766b98c2df88dd9212a6774a882060cdf62d: not written by this session
import Derived.Test.YtfgadmiencgmgaaPMsgidSitesx0
namespace Go.Proofs.Ytfgadmiencgmgaa.PMsgidSites
open Go.RowKit Go.Proofs.YtfgadmiencgmgaaW.PrintWords Go.Proofs.YtfgadmiencgmgaaW.PrintLast Go.Proofs.YtfgadmiencgmgaaW.PrintMore
attribute [local go_sem] max2_int min2_int max_two min_two max_three min_three max_four min_four   -- for this text's walks alone
set_option linter.unusedVariables false
set_option linter.unusedSimpArgs false

/-! ### bulletinref11_Site: function 20 -/
mutual
def bulletinref11_Site.l0 : Nat → ByteArray → Int → Option (Int × Int)
  | 0, _, _ => none
  | k + 1, x0, x4 => if x4 < (x0.size : Int) then (if 0 ≤ x4 then (if (bt x0 x4) ≥ 97 then (if (bt x0 x4) ≤ 122 then (bulletinref11_Site.l0 k x0 (wrap64 (x4 + 1))) else (if (bt x0 x4) ≥ 48 then (if (bt x0 x4) ≤ 57 then (bulletinref11_Site.l0 k x0 (wrap64 (x4 + 1))) else (if (bt x0 x4) = 45 then (bulletinref11_Site.l0 k x0 (wrap64 (x4 + 1))) else (if ((bt x0 x4) = 46) then (bulletinref11_Site.l0 k x0 (wrap64 (x4 + 1))) else (some (x4, 6))))) else (if (bt x0 x4) = 45 then (bulletinref11_Site.l0 k x0 (wrap64 (x4 + 1))) else (if ((bt x0 x4) = 46) then (bulletinref11_Site.l0 k x0 (wrap64 (x4 + 1))) else (some (x4, 6)))))) else (if (bt x0 x4) ≥ 48 then (if (bt x0 x4) ≤ 57 then (bulletinref11_Site.l0 k x0 (wrap64 (x4 + 1))) else (if (bt x0 x4) = 45 then (bulletinref11_Site.l0 k x0 (wrap64 (x4 + 1))) else (if ((bt x0 x4) = 46) then (bulletinref11_Site.l0 k x0 (wrap64 (x4 + 1))) else (some (x4, 6))))) else (if (bt x0 x4) = 45 then (bulletinref11_Site.l0 k x0 (wrap64 (x4 + 1))) else (if ((bt x0 x4) = 46) then (bulletinref11_Site.l0 k x0 (wrap64 (x4 + 1))) else (some (x4, 6)))))) else (none)) else (bulletinref11_Site.l1 k x0 0)
def bulletinref11_Site.l1 : Nat → ByteArray → Int → Option (Int × Int)
  | 0, _, _ => none
  | k + 1, x0, x6 => if x6 < (x0.size : Int) then (if 0 ≤ x6 then (if (bt x0 x6) ≥ 97 then (if x6 = 0 then (if ((bt x0 x6) ≤ 122) then (if x6 > 0 then (if (bt x0 x6) = 46 then (if 0 ≤ (wrap64 (x6 - 1)) then (if (wrap64 (x6 - 1)) < (x0.size : Int) then (if (bt x0 (wrap64 (x6 - 1))) = 46 then (some (x6, 12)) else (if x6 = (wrap64 ((x0.size : Int) - 1)) then (if (bt x0 x6) = 45 then (some (x6, 12)) else (some (x6, 12))) else (bulletinref11_Site.l1 k x0 (wrap64 (x6 + 1))))) else (none)) else (none)) else (if x6 = (wrap64 ((x0.size : Int) - 1)) then (if (bt x0 x6) = 45 then (some (x6, 12)) else (bulletinref11_Site.l1 k x0 (wrap64 (x6 + 1)))) else (bulletinref11_Site.l1 k x0 (wrap64 (x6 + 1))))) else (if x6 = (wrap64 ((x0.size : Int) - 1)) then (if (bt x0 x6) = 45 then (some (x6, 12)) else (if (bt x0 x6) = 46 then (some (x6, 12)) else (bulletinref11_Site.l1 k x0 (wrap64 (x6 + 1))))) else (bulletinref11_Site.l1 k x0 (wrap64 (x6 + 1))))) else (some (x6, 12))) else (if x6 > 0 then (if (bt x0 x6) = 46 then (if 0 ≤ (wrap64 (x6 - 1)) then (if (wrap64 (x6 - 1)) < (x0.size : Int) then (if (bt x0 (wrap64 (x6 - 1))) = 46 then (some (x6, 12)) else (if x6 = (wrap64 ((x0.size : Int) - 1)) then (if (bt x0 x6) = 45 then (some (x6, 12)) else (some (x6, 12))) else (bulletinref11_Site.l1 k x0 (wrap64 (x6 + 1))))) else (none)) else (none)) else (if x6 = (wrap64 ((x0.size : Int) - 1)) then (if (bt x0 x6) = 45 then (some (x6, 12)) else (bulletinref11_Site.l1 k x0 (wrap64 (x6 + 1)))) else (bulletinref11_Site.l1 k x0 (wrap64 (x6 + 1))))) else (if x6 = (wrap64 ((x0.size : Int) - 1)) then (if (bt x0 x6) = 45 then (some (x6, 12)) else (if (bt x0 x6) = 46 then (some (x6, 12)) else (bulletinref11_Site.l1 k x0 (wrap64 (x6 + 1))))) else (bulletinref11_Site.l1 k x0 (wrap64 (x6 + 1)))))) else (if x6 = 0 then (some (x6, 12)) else (if x6 > 0 then (if (bt x0 x6) = 46 then (if 0 ≤ (wrap64 (x6 - 1)) then (if (wrap64 (x6 - 1)) < (x0.size : Int) then (if (bt x0 (wrap64 (x6 - 1))) = 46 then (some (x6, 12)) else (if x6 = (wrap64 ((x0.size : Int) - 1)) then (if (bt x0 x6) = 45 then (some (x6, 12)) else (some (x6, 12))) else (bulletinref11_Site.l1 k x0 (wrap64 (x6 + 1))))) else (none)) else (none)) else (if x6 = (wrap64 ((x0.size : Int) - 1)) then (if (bt x0 x6) = 45 then (some (x6, 12)) else (bulletinref11_Site.l1 k x0 (wrap64 (x6 + 1)))) else (bulletinref11_Site.l1 k x0 (wrap64 (x6 + 1))))) else (if x6 = (wrap64 ((x0.size : Int) - 1)) then (if (bt x0 x6) = 45 then (some (x6, 12)) else (if (bt x0 x6) = 46 then (some (x6, 12)) else (bulletinref11_Site.l1 k x0 (wrap64 (x6 + 1))))) else (bulletinref11_Site.l1 k x0 (wrap64 (x6 + 1))))))) else (none)) else (some (0, 0))
end
def bulletinref11_Site.f (k : Nat) (a0 : ByteArray) : Option (Int × Int) := if a0.toList = ([] : List UInt8) then (some (0, 4)) else (if (a0.size : Int) > 30 then (some (30, 5)) else (bulletinref11_Site.l0 k a0 0))
theorem bulletinref11_Site.mono_l : ∀ k, (∀ y0 y1, LeO (bulletinref11_Site.l0 k y0 y1) (bulletinref11_Site.l0 (k + 1) y0 y1)) ∧ (∀ y0 y1, LeO (bulletinref11_Site.l1 k y0 y1) (bulletinref11_Site.l1 (k + 1) y0 y1))
  | 0 => ⟨fun _ _ r h => by simp [bulletinref11_Site.l0] at h, fun _ _ r h => by simp [bulletinref11_Site.l1] at h⟩
  | k + 1 => by
    obtain ⟨ih0, ih1⟩ := bulletinref11_Site.mono_l k
    refine ⟨?_, ?_⟩
    · intro y0 y1
      unfold bulletinref11_Site.l0
      repeat' first
      | (with_reducible exact ih0 _ _)
      | (with_reducible exact ih1 _ _)
      | (with_reducible exact LeO.refl _)
      | (with_reducible exact LeO.none _)
      | (with_reducible refine LeO.ite ?_ ?_)
      | (with_reducible refine LeO.bind ?_ (fun _ => ?_))
      | exact ih0 _ _
      | exact ih1 _ _
      | exact LeO.none _
      | refine LeO.ite ?_ ?_
      | refine LeO.bind ?_ (fun _ => ?_)
    · intro y0 y1
      unfold bulletinref11_Site.l1
      repeat' first
      | (with_reducible exact ih0 _ _)
      | (with_reducible exact ih1 _ _)
      | (with_reducible exact LeO.refl _)
      | (with_reducible exact LeO.none _)
      | (with_reducible refine LeO.ite ?_ ?_)
      | (with_reducible refine LeO.bind ?_ (fun _ => ?_))
      | exact ih0 _ _
      | exact ih1 _ _
      | exact LeO.none _
      | refine LeO.ite ?_ ?_
      | refine LeO.bind ?_ (fun _ => ?_)
theorem bulletinref11_Site.mono : ∀ a0 k, LeO (bulletinref11_Site.f k a0) (bulletinref11_Site.f (k + 1) a0) := by
  intro a0 k
  obtain ⟨ih0, ih1⟩ := bulletinref11_Site.mono_l k
  unfold bulletinref11_Site.f
  repeat' first
      | (with_reducible exact ih0 _ _)
      | (with_reducible exact ih1 _ _)
      | (with_reducible exact LeO.refl _)
      | (with_reducible exact LeO.none _)
      | (with_reducible refine LeO.ite ?_ ?_)
      | (with_reducible refine LeO.bind ?_ (fun _ => ?_))
      | exact ih0 _ _
      | exact ih1 _ _
      | exact LeO.none _
      | refine LeO.ite ?_ ?_
      | refine LeO.bind ?_ (fun _ => ?_)
set_option maxHeartbeats 8000000 in
set_option maxRecDepth 100000 in
theorem bulletinref11_Site.calls (k : Nat) (a0 : ByteArray) (r1 : Int) (r2 : Int) (w : World) (h : bulletinref11_Site.f k a0 = some (r1, r2)) :
    Calls Try.prog 20 #[.string a0] w fun e w' => e = .returned (.tuple #[.int .i64 r1, .int .i64 r2]) ∧ Drawn0 w w' := by
  have H : (if a0.toList = ([] : List UInt8) then (some (0, 4)) else (if (a0.size : Int) > 30 then (some (30, 5)) else (bulletinref11_Site.l0 k a0 0))) = some (r1, r2) := h
  clear h
  by_cases c2 : a0.toList = ([] : List UInt8)
  · rw [if_pos c2] at H
    have c2b0 : (a0.toList == ([] : List UInt8)) = true := beq_iff_eq.mpr c2
    have c2b1 : (a0.toList != ([] : List UInt8)) = false := bne_eq_false_iff_eq.mpr c2
    clear c2
    simp only [Option.some.injEq, Prod.mk.injEq] at H
    obtain ⟨rfl, rfl⟩ := H
    go_enter Try.func20, Try.ntmps20
    go_wp2
    go_ret2
    exact ⟨by first | rfl | (simp; done) | (simp [*]; done), by repeat (first | exact Drawn0.refl _ | apply Drawn0.step)⟩
  · rw [if_neg c2] at H
    have c2b0 : (a0.toList == ([] : List UInt8)) = false := beq_eq_false_iff_ne.mpr c2
    have c2b1 : (a0.toList != ([] : List UInt8)) = true := bne_iff_ne.mpr c2
    by_cases c3 : (a0.size : Int) > 30
    · rw [if_pos c3] at H
      have c3b0 : decide (30 < (a0.size : Int)) = true := decide_eq_true c3
      have c3b1 : decide (30 < a0.size) = true := decide_eq_true (by omega)
      clear c3
      simp only [Option.some.injEq, Prod.mk.injEq] at H
      obtain ⟨rfl, rfl⟩ := H
      go_enter Try.func20, Try.ntmps20
      go_wp2
      go_ret2
      exact ⟨by first | rfl | (simp; done) | (simp [*]; done), by repeat (first | exact Drawn0.refl _ | apply Drawn0.step)⟩
    · rw [if_neg c3] at H
      have c3b0 : decide (30 < (a0.size : Int)) = false := decide_eq_false c3
      have c3b1 : decide (30 < a0.size) = false := decide_eq_false (by omega)
      clear c3
      have H' := Aside0.mk H
      clear H
      go_enter Try.func20, Try.ntmps20
      go_wp2
      go_loopg [4] k (fun kq v4 w' => ∃ (x4_1 : Int), v4 = .int .i64 x4_1 ∧ Aside0 (bulletinref11_Site.l0 kq a0 x4_1 = some (r1, r2)) ∧ Aside0 (kq ≤ k) ∧ Drawn0 w w')
      case atStart => exact ⟨(0), (by first | rfl | (simp; done) | (simp [*]; done)), H', ⟨Nat.le_refl _⟩, by repeat (first | exact Drawn0.refl _ | apply Drawn0.step)⟩
      case round =>
        clear H'
        try clear c2
        try clear c2b0
        try clear c2b1
        try clear p2
        try clear c3
        try clear c3b0
        try clear c3b1
        obtain ⟨x4_1, rfl, HA, HK1, ⟨m1, rfl⟩⟩ := hrel
        cases gk with
        | zero => exact absurd HA.out (by simp [bulletinref11_Site.l0])
        | succ k1 =>
          have H := HA.out
          clear HA
          simp only [bulletinref11_Site.l0] at H
          by_cases c4 : x4_1 < (a0.size : Int)
          · rw [if_pos c4] at H
            have c4b0 : decide (x4_1 < (a0.size : Int)) = true := decide_eq_true c4
            clear c4
            by_cases c5 : 0 ≤ x4_1
            · rw [if_pos c5] at H
              have c5b0 : decide (0 ≤ x4_1) = true := decide_eq_true c5
              clear c5
              by_cases c7 : (bt a0 x4_1) ≥ 97
              · rw [if_pos c7] at H
                have c7b0 : decide (97 ≤ (bt a0 x4_1)) = true := decide_eq_true c7
                clear c7
                by_cases c8 : (bt a0 x4_1) ≤ 122
                · rw [if_pos c8] at H
                  have c8b0 : decide ((bt a0 x4_1) ≤ 122) = true := decide_eq_true c8
                  clear c8
                  have H' := Aside0.mk H
                  clear H
                  have p6 : 0 ≤ (x4_1 : Int) := of_decide_eq_true (by first | (with_reducible assumption) | assumption)
                  have q6 : x4_1 < (a0.size : Int) := of_decide_eq_true (by first | (with_reducible assumption) | assumption)
                  have hx6 := bt_at a0 x4_1
                  replace p6 := eq_true p6
                  replace q6 := eq_true q6
                  go_wp2
                  go_roundg k1
                  case measure => have := HK1.out; omega
                  case rel => exact ⟨(wrap64 (x4_1 + 1)), (by first | rfl | (simp; done) | (simp [*]; done)), H', ⟨by have := HK1.out; omega⟩, by repeat (first | exact Drawn0.refl _ | apply Drawn0.step)⟩
                · rw [if_neg c8] at H
                  have c8b0 : decide ((bt a0 x4_1) ≤ 122) = false := decide_eq_false c8
                  clear c8
                  by_cases c9 : (bt a0 x4_1) ≥ 48
                  · rw [if_pos c9] at H
                    have c9b0 : decide (48 ≤ (bt a0 x4_1)) = true := decide_eq_true c9
                    clear c9
                    by_cases c10 : (bt a0 x4_1) ≤ 57
                    · rw [if_pos c10] at H
                      have c10b0 : decide ((bt a0 x4_1) ≤ 57) = true := decide_eq_true c10
                      clear c10
                      have H' := Aside0.mk H
                      clear H
                      have p6 : 0 ≤ (x4_1 : Int) := of_decide_eq_true (by first | (with_reducible assumption) | assumption)
                      have q6 : x4_1 < (a0.size : Int) := of_decide_eq_true (by first | (with_reducible assumption) | assumption)
                      have hx6 := bt_at a0 x4_1
                      replace p6 := eq_true p6
                      replace q6 := eq_true q6
                      go_wp2
                      go_roundg k1
                      case measure => have := HK1.out; omega
                      case rel => exact ⟨(wrap64 (x4_1 + 1)), (by first | rfl | (simp; done) | (simp [*]; done)), H', ⟨by have := HK1.out; omega⟩, by repeat (first | exact Drawn0.refl _ | apply Drawn0.step)⟩
                    · rw [if_neg c10] at H
                      have c10b0 : decide ((bt a0 x4_1) ≤ 57) = false := decide_eq_false c10
                      clear c10
                      by_cases c11 : (bt a0 x4_1) = 45
                      · rw [if_pos c11] at H
                        have c11b0 : ((bt a0 x4_1) == 45) = true := beq_iff_eq.mpr c11
                        have c11b1 : ((bt a0 x4_1) != 45) = false := bne_eq_false_iff_eq.mpr c11
                        clear c11
                        have H' := Aside0.mk H
                        clear H
                        have p6 : 0 ≤ (x4_1 : Int) := of_decide_eq_true (by first | (with_reducible assumption) | assumption)
                        have q6 : x4_1 < (a0.size : Int) := of_decide_eq_true (by first | (with_reducible assumption) | assumption)
                        have hx6 := bt_at a0 x4_1
                        replace p6 := eq_true p6
                        replace q6 := eq_true q6
                        go_wp2
                        go_roundg k1
                        case measure => have := HK1.out; omega
                        case rel => exact ⟨(wrap64 (x4_1 + 1)), (by first | rfl | (simp; done) | (simp [*]; done)), H', ⟨by have := HK1.out; omega⟩, by repeat (first | exact Drawn0.refl _ | apply Drawn0.step)⟩
                      · rw [if_neg c11] at H
                        have c11b0 : ((bt a0 x4_1) == 45) = false := beq_eq_false_iff_ne.mpr c11
                        have c11b1 : ((bt a0 x4_1) != 45) = true := bne_iff_ne.mpr c11
                        by_cases c12 : ((bt a0 x4_1) = 46)
                        · rw [if_pos c12] at H
                          have c12b0 : ((bt a0 x4_1) == 46) = true := beq_iff_eq.mpr c12
                          have c12b1 : ((bt a0 x4_1) != 46) = false := bne_eq_false_iff_eq.mpr c12
                          clear c12
                          have H' := Aside0.mk H
                          clear H
                          have p6 : 0 ≤ (x4_1 : Int) := of_decide_eq_true (by first | (with_reducible assumption) | assumption)
                          have q6 : x4_1 < (a0.size : Int) := of_decide_eq_true (by first | (with_reducible assumption) | assumption)
                          have hx6 := bt_at a0 x4_1
                          replace p6 := eq_true p6
                          replace q6 := eq_true q6
                          go_wp2
                          go_roundg k1
                          case measure => have := HK1.out; omega
                          case rel => exact ⟨(wrap64 (x4_1 + 1)), (by first | rfl | (simp; done) | (simp [*]; done)), H', ⟨by have := HK1.out; omega⟩, by repeat (first | exact Drawn0.refl _ | apply Drawn0.step)⟩
                        · rw [if_neg c12] at H
                          have c12b0 : ((bt a0 x4_1) == 46) = false := beq_eq_false_iff_ne.mpr c12
                          have c12b1 : ((bt a0 x4_1) != 46) = true := bne_iff_ne.mpr c12
                          simp only [Option.some.injEq, Prod.mk.injEq] at H
                          obtain ⟨rfl, rfl⟩ := H
                          have p6 : 0 ≤ (x4_1 : Int) := of_decide_eq_true (by first | (with_reducible assumption) | assumption)
                          have q6 : x4_1 < (a0.size : Int) := of_decide_eq_true (by first | (with_reducible assumption) | assumption)
                          have hx6 := bt_at a0 x4_1
                          replace p6 := eq_true p6
                          replace q6 := eq_true q6
                          go_wp2
                          go_ret2
                          exact ⟨by first | rfl | (simp; done) | (simp [*]; done), by repeat (first | exact Drawn0.refl _ | apply Drawn0.step)⟩
                  · rw [if_neg c9] at H
                    have c9b0 : decide (48 ≤ (bt a0 x4_1)) = false := decide_eq_false c9
                    clear c9
                    by_cases c13 : (bt a0 x4_1) = 45
                    · rw [if_pos c13] at H
                      have c13b0 : ((bt a0 x4_1) == 45) = true := beq_iff_eq.mpr c13
                      have c13b1 : ((bt a0 x4_1) != 45) = false := bne_eq_false_iff_eq.mpr c13
                      clear c13
                      have H' := Aside0.mk H
                      clear H
                      have p6 : 0 ≤ (x4_1 : Int) := of_decide_eq_true (by first | (with_reducible assumption) | assumption)
                      have q6 : x4_1 < (a0.size : Int) := of_decide_eq_true (by first | (with_reducible assumption) | assumption)
                      have hx6 := bt_at a0 x4_1
                      replace p6 := eq_true p6
                      replace q6 := eq_true q6
                      go_wp2
                      go_roundg k1
                      case measure => have := HK1.out; omega
                      case rel => exact ⟨(wrap64 (x4_1 + 1)), (by first | rfl | (simp; done) | (simp [*]; done)), H', ⟨by have := HK1.out; omega⟩, by repeat (first | exact Drawn0.refl _ | apply Drawn0.step)⟩
                    · rw [if_neg c13] at H
                      have c13b0 : ((bt a0 x4_1) == 45) = false := beq_eq_false_iff_ne.mpr c13
                      have c13b1 : ((bt a0 x4_1) != 45) = true := bne_iff_ne.mpr c13
                      by_cases c14 : ((bt a0 x4_1) = 46)
                      · rw [if_pos c14] at H
                        have c14b0 : ((bt a0 x4_1) == 46) = true := beq_iff_eq.mpr c14
                        have c14b1 : ((bt a0 x4_1) != 46) = false := bne_eq_false_iff_eq.mpr c14
                        clear c14
                        have H' := Aside0.mk H
                        clear H
                        have p6 : 0 ≤ (x4_1 : Int) := of_decide_eq_true (by first | (with_reducible assumption) | assumption)
                        have q6 : x4_1 < (a0.size : Int) := of_decide_eq_true (by first | (with_reducible assumption) | assumption)
                        have hx6 := bt_at a0 x4_1
                        replace p6 := eq_true p6
                        replace q6 := eq_true q6
                        go_wp2
                        go_roundg k1
                        case measure => have := HK1.out; omega
                        case rel => exact ⟨(wrap64 (x4_1 + 1)), (by first | rfl | (simp; done) | (simp [*]; done)), H', ⟨by have := HK1.out; omega⟩, by repeat (first | exact Drawn0.refl _ | apply Drawn0.step)⟩
                      · rw [if_neg c14] at H
                        have c14b0 : ((bt a0 x4_1) == 46) = false := beq_eq_false_iff_ne.mpr c14
                        have c14b1 : ((bt a0 x4_1) != 46) = true := bne_iff_ne.mpr c14
                        simp only [Option.some.injEq, Prod.mk.injEq] at H
                        obtain ⟨rfl, rfl⟩ := H
                        have p6 : 0 ≤ (x4_1 : Int) := of_decide_eq_true (by first | (with_reducible assumption) | assumption)
                        have q6 : x4_1 < (a0.size : Int) := of_decide_eq_true (by first | (with_reducible assumption) | assumption)
                        have hx6 := bt_at a0 x4_1
                        replace p6 := eq_true p6
                        replace q6 := eq_true q6
                        go_wp2
                        go_ret2
                        exact ⟨by first | rfl | (simp; done) | (simp [*]; done), by repeat (first | exact Drawn0.refl _ | apply Drawn0.step)⟩
              · rw [if_neg c7] at H
                have c7b0 : decide (97 ≤ (bt a0 x4_1)) = false := decide_eq_false c7
                clear c7
                by_cases c15 : (bt a0 x4_1) ≥ 48
                · rw [if_pos c15] at H
                  have c15b0 : decide (48 ≤ (bt a0 x4_1)) = true := decide_eq_true c15
                  clear c15
                  by_cases c16 : (bt a0 x4_1) ≤ 57
                  · rw [if_pos c16] at H
                    have c16b0 : decide ((bt a0 x4_1) ≤ 57) = true := decide_eq_true c16
                    clear c16
                    have H' := Aside0.mk H
                    clear H
                    have p6 : 0 ≤ (x4_1 : Int) := of_decide_eq_true (by first | (with_reducible assumption) | assumption)
                    have q6 : x4_1 < (a0.size : Int) := of_decide_eq_true (by first | (with_reducible assumption) | assumption)
                    have hx6 := bt_at a0 x4_1
                    replace p6 := eq_true p6
                    replace q6 := eq_true q6
                    go_wp2
                    go_roundg k1
                    case measure => have := HK1.out; omega
                    case rel => exact ⟨(wrap64 (x4_1 + 1)), (by first | rfl | (simp; done) | (simp [*]; done)), H', ⟨by have := HK1.out; omega⟩, by repeat (first | exact Drawn0.refl _ | apply Drawn0.step)⟩
                  · rw [if_neg c16] at H
                    have c16b0 : decide ((bt a0 x4_1) ≤ 57) = false := decide_eq_false c16
                    clear c16
                    by_cases c17 : (bt a0 x4_1) = 45
                    · rw [if_pos c17] at H
                      have c17b0 : ((bt a0 x4_1) == 45) = true := beq_iff_eq.mpr c17
                      have c17b1 : ((bt a0 x4_1) != 45) = false := bne_eq_false_iff_eq.mpr c17
                      clear c17
                      have H' := Aside0.mk H
                      clear H
                      have p6 : 0 ≤ (x4_1 : Int) := of_decide_eq_true (by first | (with_reducible assumption) | assumption)
                      have q6 : x4_1 < (a0.size : Int) := of_decide_eq_true (by first | (with_reducible assumption) | assumption)
                      have hx6 := bt_at a0 x4_1
                      replace p6 := eq_true p6
                      replace q6 := eq_true q6
                      go_wp2
                      go_roundg k1
                      case measure => have := HK1.out; omega
                      case rel => exact ⟨(wrap64 (x4_1 + 1)), (by first | rfl | (simp; done) | (simp [*]; done)), H', ⟨by have := HK1.out; omega⟩, by repeat (first | exact Drawn0.refl _ | apply Drawn0.step)⟩
                    · rw [if_neg c17] at H
                      have c17b0 : ((bt a0 x4_1) == 45) = false := beq_eq_false_iff_ne.mpr c17
                      have c17b1 : ((bt a0 x4_1) != 45) = true := bne_iff_ne.mpr c17
                      by_cases c18 : ((bt a0 x4_1) = 46)
                      · rw [if_pos c18] at H
                        have c18b0 : ((bt a0 x4_1) == 46) = true := beq_iff_eq.mpr c18
                        have c18b1 : ((bt a0 x4_1) != 46) = false := bne_eq_false_iff_eq.mpr c18
                        clear c18
                        have H' := Aside0.mk H
                        clear H
                        have p6 : 0 ≤ (x4_1 : Int) := of_decide_eq_true (by first | (with_reducible assumption) | assumption)
                        have q6 : x4_1 < (a0.size : Int) := of_decide_eq_true (by first | (with_reducible assumption) | assumption)
                        have hx6 := bt_at a0 x4_1
                        replace p6 := eq_true p6
                        replace q6 := eq_true q6
                        go_wp2
                        go_roundg k1
                        case measure => have := HK1.out; omega
                        case rel => exact ⟨(wrap64 (x4_1 + 1)), (by first | rfl | (simp; done) | (simp [*]; done)), H', ⟨by have := HK1.out; omega⟩, by repeat (first | exact Drawn0.refl _ | apply Drawn0.step)⟩
                      · rw [if_neg c18] at H
                        have c18b0 : ((bt a0 x4_1) == 46) = false := beq_eq_false_iff_ne.mpr c18
                        have c18b1 : ((bt a0 x4_1) != 46) = true := bne_iff_ne.mpr c18
                        simp only [Option.some.injEq, Prod.mk.injEq] at H
                        obtain ⟨rfl, rfl⟩ := H
                        have p6 : 0 ≤ (x4_1 : Int) := of_decide_eq_true (by first | (with_reducible assumption) | assumption)
                        have q6 : x4_1 < (a0.size : Int) := of_decide_eq_true (by first | (with_reducible assumption) | assumption)
                        have hx6 := bt_at a0 x4_1
                        replace p6 := eq_true p6
                        replace q6 := eq_true q6
                        go_wp2
                        go_ret2
                        exact ⟨by first | rfl | (simp; done) | (simp [*]; done), by repeat (first | exact Drawn0.refl _ | apply Drawn0.step)⟩
                · rw [if_neg c15] at H
                  have c15b0 : decide (48 ≤ (bt a0 x4_1)) = false := decide_eq_false c15
                  clear c15
                  by_cases c19 : (bt a0 x4_1) = 45
                  · rw [if_pos c19] at H
                    have c19b0 : ((bt a0 x4_1) == 45) = true := beq_iff_eq.mpr c19
                    have c19b1 : ((bt a0 x4_1) != 45) = false := bne_eq_false_iff_eq.mpr c19
                    clear c19
                    have H' := Aside0.mk H
                    clear H
                    have p6 : 0 ≤ (x4_1 : Int) := of_decide_eq_true (by first | (with_reducible assumption) | assumption)
                    have q6 : x4_1 < (a0.size : Int) := of_decide_eq_true (by first | (with_reducible assumption) | assumption)
                    have hx6 := bt_at a0 x4_1
                    replace p6 := eq_true p6
                    replace q6 := eq_true q6
                    go_wp2
                    go_roundg k1
                    case measure => have := HK1.out; omega
                    case rel => exact ⟨(wrap64 (x4_1 + 1)), (by first | rfl | (simp; done) | (simp [*]; done)), H', ⟨by have := HK1.out; omega⟩, by repeat (first | exact Drawn0.refl _ | apply Drawn0.step)⟩
                  · rw [if_neg c19] at H
                    have c19b0 : ((bt a0 x4_1) == 45) = false := beq_eq_false_iff_ne.mpr c19
                    have c19b1 : ((bt a0 x4_1) != 45) = true := bne_iff_ne.mpr c19
                    by_cases c20 : ((bt a0 x4_1) = 46)
                    · rw [if_pos c20] at H
                      have c20b0 : ((bt a0 x4_1) == 46) = true := beq_iff_eq.mpr c20
                      have c20b1 : ((bt a0 x4_1) != 46) = false := bne_eq_false_iff_eq.mpr c20
                      clear c20
                      have H' := Aside0.mk H
                      clear H
                      have p6 : 0 ≤ (x4_1 : Int) := of_decide_eq_true (by first | (with_reducible assumption) | assumption)
                      have q6 : x4_1 < (a0.size : Int) := of_decide_eq_true (by first | (with_reducible assumption) | assumption)
                      have hx6 := bt_at a0 x4_1
                      replace p6 := eq_true p6
                      replace q6 := eq_true q6
                      go_wp2
                      go_roundg k1
                      case measure => have := HK1.out; omega
                      case rel => exact ⟨(wrap64 (x4_1 + 1)), (by first | rfl | (simp; done) | (simp [*]; done)), H', ⟨by have := HK1.out; omega⟩, by repeat (first | exact Drawn0.refl _ | apply Drawn0.step)⟩
                    · rw [if_neg c20] at H
                      have c20b0 : ((bt a0 x4_1) == 46) = false := beq_eq_false_iff_ne.mpr c20
                      have c20b1 : ((bt a0 x4_1) != 46) = true := bne_iff_ne.mpr c20
                      simp only [Option.some.injEq, Prod.mk.injEq] at H
                      obtain ⟨rfl, rfl⟩ := H
                      have p6 : 0 ≤ (x4_1 : Int) := of_decide_eq_true (by first | (with_reducible assumption) | assumption)
                      have q6 : x4_1 < (a0.size : Int) := of_decide_eq_true (by first | (with_reducible assumption) | assumption)
                      have hx6 := bt_at a0 x4_1
                      replace p6 := eq_true p6
                      replace q6 := eq_true q6
                      go_wp2
                      go_ret2
                      exact ⟨by first | rfl | (simp; done) | (simp [*]; done), by repeat (first | exact Drawn0.refl _ | apply Drawn0.step)⟩
            · rw [if_neg c5] at H
              exact absurd H (by simp)
          · rw [if_neg c4] at H
            have c4b0 : decide (x4_1 < (a0.size : Int)) = false := decide_eq_false c4
            clear c4
            have H' := Aside0.mk H
            clear H
            go_wp2
            go_loopg [6] k1 (fun kq v6 w' => ∃ (x6_2 : Int), v6 = .int .i64 x6_2 ∧ Aside0 (bulletinref11_Site.l1 kq a0 x6_2 = some (r1, r2)) ∧ Aside0 (kq ≤ k1) ∧ Drawn0 w w')
            case atStart => exact ⟨(0), (by first | rfl | (simp; done) | (simp [*]; done)), H', ⟨Nat.le_refl _⟩, by repeat (first | exact Drawn0.refl _ | apply Drawn0.step)⟩
            case round =>
              clear H'
              try clear c1
              try clear c2
              try clear c2b0
              try clear c2b1
              try clear p2
              try clear c3
              try clear c3b0
              try clear c3b1
              try clear c4
              try clear c4b0
              try clear c5
              try clear c5b0
              try clear p6
              try clear q6
              try clear hx6
              try clear c7
              try clear c7b0
              try clear c8
              try clear c8b0
              try clear c9
              try clear c9b0
              try clear c10
              try clear c10b0
              try clear c11
              try clear c11b0
              try clear c11b1
              try clear c12
              try clear c12b0
              try clear c12b1
              try clear c13
              try clear c13b0
              try clear c13b1
              try clear c14
              try clear c14b0
              try clear c14b1
              try clear c15
              try clear c15b0
              try clear c16
              try clear c16b0
              try clear c17
              try clear c17b0
              try clear c17b1
              try clear c18
              try clear c18b0
              try clear c18b1
              try clear c19
              try clear c19b0
              try clear c19b1
              try clear c20
              try clear c20b0
              try clear c20b1
              try clear p2
              try clear p6
              try clear q6
              obtain ⟨x6_2, rfl, HA, HK2, ⟨m2, rfl⟩⟩ := hrel
              cases gk with
              | zero => exact absurd HA.out (by simp [bulletinref11_Site.l1])
              | succ k2 =>
                have H := HA.out
                clear HA
                simp only [bulletinref11_Site.l1] at H
                by_cases c21 : x6_2 < (a0.size : Int)
                · rw [if_pos c21] at H
                  have c21b0 : decide (x6_2 < (a0.size : Int)) = true := decide_eq_true c21
                  clear c21
                  by_cases c22 : 0 ≤ x6_2
                  · rw [if_pos c22] at H
                    have c22b0 : decide (0 ≤ x6_2) = true := decide_eq_true c22
                    clear c22
                    by_cases c24 : (bt a0 x6_2) ≥ 97
                    · rw [if_pos c24] at H
                      have c24b0 : decide (97 ≤ (bt a0 x6_2)) = true := decide_eq_true c24
                      clear c24
                      by_cases c25 : x6_2 = 0
                      · rw [if_pos c25] at H
                        have c25b0 : (x6_2 == 0) = true := beq_iff_eq.mpr c25
                        have c25b1 : (x6_2 != 0) = false := bne_eq_false_iff_eq.mpr c25
                        clear c25
                        by_cases c26 : ((bt a0 x6_2) ≤ 122)
                        · rw [if_pos c26] at H
                          have c26b0 : decide ((bt a0 x6_2) ≤ 122) = true := decide_eq_true c26
                          clear c26
                          by_cases c27 : x6_2 > 0
                          · rw [if_pos c27] at H
                            have c27b0 : decide (0 < x6_2) = true := decide_eq_true c27
                            clear c27
                            by_cases c28 : (bt a0 x6_2) = 46
                            · rw [if_pos c28] at H
                              have c28b0 : ((bt a0 x6_2) == 46) = true := beq_iff_eq.mpr c28
                              have c28b1 : ((bt a0 x6_2) != 46) = false := bne_eq_false_iff_eq.mpr c28
                              clear c28
                              obtain ⟨ji29, hji29⟩ : ∃ j_ : Int, (wrap64 (x6_2 - 1)) = j_ := ⟨_, rfl⟩
                              replace H : (if 0 ≤ (ji29) then (if (ji29) < (a0.size : Int) then (if (bt a0 (ji29)) = 46 then (some (x6_2, 12)) else (if x6_2 = (wrap64 ((a0.size : Int) - 1)) then (if (bt a0 x6_2) = 45 then (some (x6_2, 12)) else (some (x6_2, 12))) else (bulletinref11_Site.l1 k2 a0 (wrap64 (x6_2 + 1))))) else (none)) else (none)) = some (r1, r2) := by first | (rw [hji29] at H; exact H) | (simp only [hji29] at H ⊢; exact H)
                              have hji29w : (IntKind.i64.wrap (x6_2 - 1)) = ji29 := (i64_w _).trans hji29
                              by_cases c30 : 0 ≤ (ji29)
                              · rw [if_pos c30] at H
                                have c30b0 : decide (0 ≤ (ji29)) = true := decide_eq_true c30
                                clear c30
                                by_cases c31 : (ji29) < (a0.size : Int)
                                · rw [if_pos c31] at H
                                  have c31b0 : decide ((ji29) < (a0.size : Int)) = true := decide_eq_true c31
                                  clear c31
                                  by_cases c33 : (bt a0 (ji29)) = 46
                                  · rw [if_pos c33] at H
                                    have c33b0 : ((bt a0 (ji29)) == 46) = true := beq_iff_eq.mpr c33
                                    have c33b1 : ((bt a0 (ji29)) != 46) = false := bne_eq_false_iff_eq.mpr c33
                                    clear c33
                                    simp only [Option.some.injEq, Prod.mk.injEq] at H
                                    obtain ⟨rfl, rfl⟩ := H
                                    have p23 : 0 ≤ (x6_2 : Int) := of_decide_eq_true (by first | (with_reducible assumption) | assumption)
                                    have q23 : x6_2 < (a0.size : Int) := of_decide_eq_true (by first | (with_reducible assumption) | assumption)
                                    have hx23 := bt_at a0 x6_2
                                    replace p23 := eq_true p23
                                    replace q23 := eq_true q23
                                    have p32 : 0 ≤ ((ji29) : Int) := of_decide_eq_true (by first | (with_reducible assumption) | assumption)
                                    have q32 : (ji29) < (a0.size : Int) := of_decide_eq_true (by first | (with_reducible assumption) | assumption)
                                    have hx32 := bt_at a0 (ji29)
                                    replace p32 := eq_true p32
                                    replace q32 := eq_true q32
                                    go_wp2
                                    go_ret2
                                    exact ⟨by first | rfl | (simp; done) | (simp only [← hji29] <;> (first | rfl | simp)) | (simp [*]; done), by repeat (first | exact Drawn0.refl _ | apply Drawn0.step)⟩
                                  · rw [if_neg c33] at H
                                    have c33b0 : ((bt a0 (ji29)) == 46) = false := beq_eq_false_iff_ne.mpr c33
                                    have c33b1 : ((bt a0 (ji29)) != 46) = true := bne_iff_ne.mpr c33
                                    by_cases c34 : x6_2 = (wrap64 ((a0.size : Int) - 1))
                                    · rw [if_pos c34] at H
                                      have c34b0 : (x6_2 == (wrap64 ((a0.size : Int) - 1))) = true := beq_iff_eq.mpr c34
                                      have c34b1 : (x6_2 != (wrap64 ((a0.size : Int) - 1))) = false := bne_eq_false_iff_eq.mpr c34
                                      clear c34
                                      by_cases c35 : (bt a0 x6_2) = 45
                                      · rw [if_pos c35] at H
                                        have c35b0 : ((bt a0 x6_2) == 45) = true := beq_iff_eq.mpr c35
                                        have c35b1 : ((bt a0 x6_2) != 45) = false := bne_eq_false_iff_eq.mpr c35
                                        clear c35
                                        simp only [Option.some.injEq, Prod.mk.injEq] at H
                                        obtain ⟨rfl, rfl⟩ := H
                                        have p23 : 0 ≤ (x6_2 : Int) := of_decide_eq_true (by first | (with_reducible assumption) | assumption)
                                        have q23 : x6_2 < (a0.size : Int) := of_decide_eq_true (by first | (with_reducible assumption) | assumption)
                                        have hx23 := bt_at a0 x6_2
                                        replace p23 := eq_true p23
                                        replace q23 := eq_true q23
                                        have p32 : 0 ≤ ((ji29) : Int) := of_decide_eq_true (by first | (with_reducible assumption) | assumption)
                                        have q32 : (ji29) < (a0.size : Int) := of_decide_eq_true (by first | (with_reducible assumption) | assumption)
                                        have hx32 := bt_at a0 (ji29)
                                        replace p32 := eq_true p32
                                        replace q32 := eq_true q32
                                        go_wp2
                                        go_ret2
                                        exact ⟨by first | rfl | (simp; done) | (simp only [← hji29] <;> (first | rfl | simp)) | (simp [*]; done), by repeat (first | exact Drawn0.refl _ | apply Drawn0.step)⟩
                                      · rw [if_neg c35] at H
                                        have c35b0 : ((bt a0 x6_2) == 45) = false := beq_eq_false_iff_ne.mpr c35
                                        have c35b1 : ((bt a0 x6_2) != 45) = true := bne_iff_ne.mpr c35
                                        simp only [Option.some.injEq, Prod.mk.injEq] at H
                                        obtain ⟨rfl, rfl⟩ := H
                                        have p23 : 0 ≤ (x6_2 : Int) := of_decide_eq_true (by first | (with_reducible assumption) | assumption)
                                        have q23 : x6_2 < (a0.size : Int) := of_decide_eq_true (by first | (with_reducible assumption) | assumption)
                                        have hx23 := bt_at a0 x6_2
                                        replace p23 := eq_true p23
                                        replace q23 := eq_true q23
                                        have p32 : 0 ≤ ((ji29) : Int) := of_decide_eq_true (by first | (with_reducible assumption) | assumption)
                                        have q32 : (ji29) < (a0.size : Int) := of_decide_eq_true (by first | (with_reducible assumption) | assumption)
                                        have hx32 := bt_at a0 (ji29)
                                        replace p32 := eq_true p32
                                        replace q32 := eq_true q32
                                        go_wp2
                                        go_ret2
                                        exact ⟨by first | rfl | (simp; done) | (simp only [← hji29] <;> (first | rfl | simp)) | (simp [*]; done), by repeat (first | exact Drawn0.refl _ | apply Drawn0.step)⟩
                                    · rw [if_neg c34] at H
                                      have c34b0 : (x6_2 == (wrap64 ((a0.size : Int) - 1))) = false := beq_eq_false_iff_ne.mpr c34
                                      have c34b1 : (x6_2 != (wrap64 ((a0.size : Int) - 1))) = true := bne_iff_ne.mpr c34
                                      have H' := Aside0.mk H
                                      clear H
                                      have p23 : 0 ≤ (x6_2 : Int) := of_decide_eq_true (by first | (with_reducible assumption) | assumption)
                                      have q23 : x6_2 < (a0.size : Int) := of_decide_eq_true (by first | (with_reducible assumption) | assumption)
                                      have hx23 := bt_at a0 x6_2
                                      replace p23 := eq_true p23
                                      replace q23 := eq_true q23
                                      have p32 : 0 ≤ ((ji29) : Int) := of_decide_eq_true (by first | (with_reducible assumption) | assumption)
                                      have q32 : (ji29) < (a0.size : Int) := of_decide_eq_true (by first | (with_reducible assumption) | assumption)
                                      have hx32 := bt_at a0 (ji29)
                                      replace p32 := eq_true p32
                                      replace q32 := eq_true q32
                                      go_wp2
                                      go_roundg k2
                                      case measure => have := HK1.out; have := HK2.out; omega
                                      case rel => exact ⟨(wrap64 (x6_2 + 1)), (by first | rfl | (simp; done) | (simp [*]; done)), H', ⟨by have := HK1.out; have := HK2.out; omega⟩, by repeat (first | exact Drawn0.refl _ | apply Drawn0.step)⟩
                                · rw [if_neg c31] at H
                                  exact absurd H (by simp)
                              · rw [if_neg c30] at H
                                exact absurd H (by simp)
                            · rw [if_neg c28] at H
                              have c28b0 : ((bt a0 x6_2) == 46) = false := beq_eq_false_iff_ne.mpr c28
                              have c28b1 : ((bt a0 x6_2) != 46) = true := bne_iff_ne.mpr c28
                              by_cases c36 : x6_2 = (wrap64 ((a0.size : Int) - 1))
                              · rw [if_pos c36] at H
                                have c36b0 : (x6_2 == (wrap64 ((a0.size : Int) - 1))) = true := beq_iff_eq.mpr c36
                                have c36b1 : (x6_2 != (wrap64 ((a0.size : Int) - 1))) = false := bne_eq_false_iff_eq.mpr c36
                                clear c36
                                by_cases c37 : (bt a0 x6_2) = 45
                                · rw [if_pos c37] at H
                                  have c37b0 : ((bt a0 x6_2) == 45) = true := beq_iff_eq.mpr c37
                                  have c37b1 : ((bt a0 x6_2) != 45) = false := bne_eq_false_iff_eq.mpr c37
                                  clear c37
                                  simp only [Option.some.injEq, Prod.mk.injEq] at H
                                  obtain ⟨rfl, rfl⟩ := H
                                  have p23 : 0 ≤ (x6_2 : Int) := of_decide_eq_true (by first | (with_reducible assumption) | assumption)
                                  have q23 : x6_2 < (a0.size : Int) := of_decide_eq_true (by first | (with_reducible assumption) | assumption)
                                  have hx23 := bt_at a0 x6_2
                                  replace p23 := eq_true p23
                                  replace q23 := eq_true q23
                                  go_wp2
                                  go_ret2
                                  exact ⟨by first | rfl | (simp; done) | (simp [*]; done), by repeat (first | exact Drawn0.refl _ | apply Drawn0.step)⟩
                                · rw [if_neg c37] at H
                                  have c37b0 : ((bt a0 x6_2) == 45) = false := beq_eq_false_iff_ne.mpr c37
                                  have c37b1 : ((bt a0 x6_2) != 45) = true := bne_iff_ne.mpr c37
                                  have H' := Aside0.mk H
                                  clear H
                                  have p23 : 0 ≤ (x6_2 : Int) := of_decide_eq_true (by first | (with_reducible assumption) | assumption)
                                  have q23 : x6_2 < (a0.size : Int) := of_decide_eq_true (by first | (with_reducible assumption) | assumption)
                                  have hx23 := bt_at a0 x6_2
                                  replace p23 := eq_true p23
                                  replace q23 := eq_true q23
                                  go_wp2
                                  go_roundg k2
                                  case measure => have := HK1.out; have := HK2.out; omega
                                  case rel => exact ⟨(wrap64 (x6_2 + 1)), (by first | rfl | (simp; done) | (simp [*]; done)), H', ⟨by have := HK1.out; have := HK2.out; omega⟩, by repeat (first | exact Drawn0.refl _ | apply Drawn0.step)⟩
                              · rw [if_neg c36] at H
                                have c36b0 : (x6_2 == (wrap64 ((a0.size : Int) - 1))) = false := beq_eq_false_iff_ne.mpr c36
                                have c36b1 : (x6_2 != (wrap64 ((a0.size : Int) - 1))) = true := bne_iff_ne.mpr c36
                                have H' := Aside0.mk H
                                clear H
                                have p23 : 0 ≤ (x6_2 : Int) := of_decide_eq_true (by first | (with_reducible assumption) | assumption)
                                have q23 : x6_2 < (a0.size : Int) := of_decide_eq_true (by first | (with_reducible assumption) | assumption)
                                have hx23 := bt_at a0 x6_2
                                replace p23 := eq_true p23
                                replace q23 := eq_true q23
                                go_wp2
                                go_roundg k2
                                case measure => have := HK1.out; have := HK2.out; omega
                                case rel => exact ⟨(wrap64 (x6_2 + 1)), (by first | rfl | (simp; done) | (simp [*]; done)), H', ⟨by have := HK1.out; have := HK2.out; omega⟩, by repeat (first | exact Drawn0.refl _ | apply Drawn0.step)⟩
                          · rw [if_neg c27] at H
                            have c27b0 : decide (0 < x6_2) = false := decide_eq_false c27
                            clear c27
                            by_cases c38 : x6_2 = (wrap64 ((a0.size : Int) - 1))
                            · rw [if_pos c38] at H
                              have c38b0 : (x6_2 == (wrap64 ((a0.size : Int) - 1))) = true := beq_iff_eq.mpr c38
                              have c38b1 : (x6_2 != (wrap64 ((a0.size : Int) - 1))) = false := bne_eq_false_iff_eq.mpr c38
                              clear c38
                              by_cases c39 : (bt a0 x6_2) = 45
                              · rw [if_pos c39] at H
                                have c39b0 : ((bt a0 x6_2) == 45) = true := beq_iff_eq.mpr c39
                                have c39b1 : ((bt a0 x6_2) != 45) = false := bne_eq_false_iff_eq.mpr c39
                                clear c39
                                simp only [Option.some.injEq, Prod.mk.injEq] at H
                                obtain ⟨rfl, rfl⟩ := H
                                have p23 : 0 ≤ (x6_2 : Int) := of_decide_eq_true (by first | (with_reducible assumption) | assumption)
                                have q23 : x6_2 < (a0.size : Int) := of_decide_eq_true (by first | (with_reducible assumption) | assumption)
                                have hx23 := bt_at a0 x6_2
                                replace p23 := eq_true p23
                                replace q23 := eq_true q23
                                go_wp2
                                go_ret2
                                exact ⟨by first | rfl | (simp; done) | (simp [*]; done), by repeat (first | exact Drawn0.refl _ | apply Drawn0.step)⟩
                              · rw [if_neg c39] at H
                                have c39b0 : ((bt a0 x6_2) == 45) = false := beq_eq_false_iff_ne.mpr c39
                                have c39b1 : ((bt a0 x6_2) != 45) = true := bne_iff_ne.mpr c39
                                by_cases c40 : (bt a0 x6_2) = 46
                                · rw [if_pos c40] at H
                                  have c40b0 : ((bt a0 x6_2) == 46) = true := beq_iff_eq.mpr c40
                                  have c40b1 : ((bt a0 x6_2) != 46) = false := bne_eq_false_iff_eq.mpr c40
                                  clear c40
                                  simp only [Option.some.injEq, Prod.mk.injEq] at H
                                  obtain ⟨rfl, rfl⟩ := H
                                  have p23 : 0 ≤ (x6_2 : Int) := of_decide_eq_true (by first | (with_reducible assumption) | assumption)
                                  have q23 : x6_2 < (a0.size : Int) := of_decide_eq_true (by first | (with_reducible assumption) | assumption)
                                  have hx23 := bt_at a0 x6_2
                                  replace p23 := eq_true p23
                                  replace q23 := eq_true q23
                                  go_wp2
                                  go_ret2
                                  exact ⟨by first | rfl | (simp; done) | (simp [*]; done), by repeat (first | exact Drawn0.refl _ | apply Drawn0.step)⟩
                                · rw [if_neg c40] at H
                                  have c40b0 : ((bt a0 x6_2) == 46) = false := beq_eq_false_iff_ne.mpr c40
                                  have c40b1 : ((bt a0 x6_2) != 46) = true := bne_iff_ne.mpr c40
                                  have H' := Aside0.mk H
                                  clear H
                                  have p23 : 0 ≤ (x6_2 : Int) := of_decide_eq_true (by first | (with_reducible assumption) | assumption)
                                  have q23 : x6_2 < (a0.size : Int) := of_decide_eq_true (by first | (with_reducible assumption) | assumption)
                                  have hx23 := bt_at a0 x6_2
                                  replace p23 := eq_true p23
                                  replace q23 := eq_true q23
                                  go_wp2
                                  go_roundg k2
                                  case measure => have := HK1.out; have := HK2.out; omega
                                  case rel => exact ⟨(wrap64 (x6_2 + 1)), (by first | rfl | (simp; done) | (simp [*]; done)), H', ⟨by have := HK1.out; have := HK2.out; omega⟩, by repeat (first | exact Drawn0.refl _ | apply Drawn0.step)⟩
                            · rw [if_neg c38] at H
                              have c38b0 : (x6_2 == (wrap64 ((a0.size : Int) - 1))) = false := beq_eq_false_iff_ne.mpr c38
                              have c38b1 : (x6_2 != (wrap64 ((a0.size : Int) - 1))) = true := bne_iff_ne.mpr c38
                              have H' := Aside0.mk H
                              clear H
                              have p23 : 0 ≤ (x6_2 : Int) := of_decide_eq_true (by first | (with_reducible assumption) | assumption)
                              have q23 : x6_2 < (a0.size : Int) := of_decide_eq_true (by first | (with_reducible assumption) | assumption)
                              have hx23 := bt_at a0 x6_2
                              replace p23 := eq_true p23
                              replace q23 := eq_true q23
                              go_wp2
                              go_roundg k2
                              case measure => have := HK1.out; have := HK2.out; omega
                              case rel => exact ⟨(wrap64 (x6_2 + 1)), (by first | rfl | (simp; done) | (simp [*]; done)), H', ⟨by have := HK1.out; have := HK2.out; omega⟩, by repeat (first | exact Drawn0.refl _ | apply Drawn0.step)⟩
                        · rw [if_neg c26] at H
                          have c26b0 : decide ((bt a0 x6_2) ≤ 122) = false := decide_eq_false c26
                          clear c26
                          simp only [Option.some.injEq, Prod.mk.injEq] at H
                          obtain ⟨rfl, rfl⟩ := H
                          have p23 : 0 ≤ (x6_2 : Int) := of_decide_eq_true (by first | (with_reducible assumption) | assumption)
                          have q23 : x6_2 < (a0.size : Int) := of_decide_eq_true (by first | (with_reducible assumption) | assumption)
                          have hx23 := bt_at a0 x6_2
                          replace p23 := eq_true p23
                          replace q23 := eq_true q23
                          go_wp2
                          go_ret2
                          exact ⟨by first | rfl | (simp; done) | (simp [*]; done), by repeat (first | exact Drawn0.refl _ | apply Drawn0.step)⟩
                      · rw [if_neg c25] at H
                        have c25b0 : (x6_2 == 0) = false := beq_eq_false_iff_ne.mpr c25
                        have c25b1 : (x6_2 != 0) = true := bne_iff_ne.mpr c25
                        by_cases c41 : x6_2 > 0
                        · rw [if_pos c41] at H
                          have c41b0 : decide (0 < x6_2) = true := decide_eq_true c41
                          clear c41
                          by_cases c42 : (bt a0 x6_2) = 46
                          · rw [if_pos c42] at H
                            have c42b0 : ((bt a0 x6_2) == 46) = true := beq_iff_eq.mpr c42
                            have c42b1 : ((bt a0 x6_2) != 46) = false := bne_eq_false_iff_eq.mpr c42
                            clear c42
                            obtain ⟨ji43, hji43⟩ : ∃ j_ : Int, (wrap64 (x6_2 - 1)) = j_ := ⟨_, rfl⟩
                            replace H : (if 0 ≤ (ji43) then (if (ji43) < (a0.size : Int) then (if (bt a0 (ji43)) = 46 then (some (x6_2, 12)) else (if x6_2 = (wrap64 ((a0.size : Int) - 1)) then (if (bt a0 x6_2) = 45 then (some (x6_2, 12)) else (some (x6_2, 12))) else (bulletinref11_Site.l1 k2 a0 (wrap64 (x6_2 + 1))))) else (none)) else (none)) = some (r1, r2) := by first | (rw [hji43] at H; exact H) | (simp only [hji43] at H ⊢; exact H)
                            have hji43w : (IntKind.i64.wrap (x6_2 - 1)) = ji43 := (i64_w _).trans hji43
                            by_cases c44 : 0 ≤ (ji43)
                            · rw [if_pos c44] at H
                              have c44b0 : decide (0 ≤ (ji43)) = true := decide_eq_true c44
                              clear c44
                              by_cases c45 : (ji43) < (a0.size : Int)
                              · rw [if_pos c45] at H
                                have c45b0 : decide ((ji43) < (a0.size : Int)) = true := decide_eq_true c45
                                clear c45
                                by_cases c47 : (bt a0 (ji43)) = 46
                                · rw [if_pos c47] at H
                                  have c47b0 : ((bt a0 (ji43)) == 46) = true := beq_iff_eq.mpr c47
                                  have c47b1 : ((bt a0 (ji43)) != 46) = false := bne_eq_false_iff_eq.mpr c47
                                  clear c47
                                  simp only [Option.some.injEq, Prod.mk.injEq] at H
                                  obtain ⟨rfl, rfl⟩ := H
                                  have p23 : 0 ≤ (x6_2 : Int) := of_decide_eq_true (by first | (with_reducible assumption) | assumption)
                                  have q23 : x6_2 < (a0.size : Int) := of_decide_eq_true (by first | (with_reducible assumption) | assumption)
                                  have hx23 := bt_at a0 x6_2
                                  replace p23 := eq_true p23
                                  replace q23 := eq_true q23
                                  have p46 : 0 ≤ ((ji43) : Int) := of_decide_eq_true (by first | (with_reducible assumption) | assumption)
                                  have q46 : (ji43) < (a0.size : Int) := of_decide_eq_true (by first | (with_reducible assumption) | assumption)
                                  have hx46 := bt_at a0 (ji43)
                                  replace p46 := eq_true p46
                                  replace q46 := eq_true q46
                                  go_wp2
                                  go_ret2
                                  exact ⟨by first | rfl | (simp; done) | (simp only [← hji43] <;> (first | rfl | simp)) | (simp [*]; done), by repeat (first | exact Drawn0.refl _ | apply Drawn0.step)⟩
                                · rw [if_neg c47] at H
                                  have c47b0 : ((bt a0 (ji43)) == 46) = false := beq_eq_false_iff_ne.mpr c47
                                  have c47b1 : ((bt a0 (ji43)) != 46) = true := bne_iff_ne.mpr c47
                                  by_cases c48 : x6_2 = (wrap64 ((a0.size : Int) - 1))
                                  · rw [if_pos c48] at H
                                    have c48b0 : (x6_2 == (wrap64 ((a0.size : Int) - 1))) = true := beq_iff_eq.mpr c48
                                    have c48b1 : (x6_2 != (wrap64 ((a0.size : Int) - 1))) = false := bne_eq_false_iff_eq.mpr c48
                                    clear c48
                                    by_cases c49 : (bt a0 x6_2) = 45
                                    · rw [if_pos c49] at H
                                      have c49b0 : ((bt a0 x6_2) == 45) = true := beq_iff_eq.mpr c49
                                      have c49b1 : ((bt a0 x6_2) != 45) = false := bne_eq_false_iff_eq.mpr c49
                                      clear c49
                                      simp only [Option.some.injEq, Prod.mk.injEq] at H
                                      obtain ⟨rfl, rfl⟩ := H
                                      have p23 : 0 ≤ (x6_2 : Int) := of_decide_eq_true (by first | (with_reducible assumption) | assumption)
                                      have q23 : x6_2 < (a0.size : Int) := of_decide_eq_true (by first | (with_reducible assumption) | assumption)
                                      have hx23 := bt_at a0 x6_2
                                      replace p23 := eq_true p23
                                      replace q23 := eq_true q23
                                      have p46 : 0 ≤ ((ji43) : Int) := of_decide_eq_true (by first | (with_reducible assumption) | assumption)
                                      have q46 : (ji43) < (a0.size : Int) := of_decide_eq_true (by first | (with_reducible assumption) | assumption)
                                      have hx46 := bt_at a0 (ji43)
                                      replace p46 := eq_true p46
                                      replace q46 := eq_true q46
                                      go_wp2
                                      go_ret2
                                      exact ⟨by first | rfl | (simp; done) | (simp only [← hji43] <;> (first | rfl | simp)) | (simp [*]; done), by repeat (first | exact Drawn0.refl _ | apply Drawn0.step)⟩
                                    · rw [if_neg c49] at H
                                      have c49b0 : ((bt a0 x6_2) == 45) = false := beq_eq_false_iff_ne.mpr c49
                                      have c49b1 : ((bt a0 x6_2) != 45) = true := bne_iff_ne.mpr c49
                                      simp only [Option.some.injEq, Prod.mk.injEq] at H
                                      obtain ⟨rfl, rfl⟩ := H
                                      have p23 : 0 ≤ (x6_2 : Int) := of_decide_eq_true (by first | (with_reducible assumption) | assumption)
                                      have q23 : x6_2 < (a0.size : Int) := of_decide_eq_true (by first | (with_reducible assumption) | assumption)
                                      have hx23 := bt_at a0 x6_2
                                      replace p23 := eq_true p23
                                      replace q23 := eq_true q23
                                      have p46 : 0 ≤ ((ji43) : Int) := of_decide_eq_true (by first | (with_reducible assumption) | assumption)
                                      have q46 : (ji43) < (a0.size : Int) := of_decide_eq_true (by first | (with_reducible assumption) | assumption)
                                      have hx46 := bt_at a0 (ji43)
                                      replace p46 := eq_true p46
                                      replace q46 := eq_true q46
                                      go_wp2
                                      go_ret2
                                      exact ⟨by first | rfl | (simp; done) | (simp only [← hji43] <;> (first | rfl | simp)) | (simp [*]; done), by repeat (first | exact Drawn0.refl _ | apply Drawn0.step)⟩
                                  · rw [if_neg c48] at H
                                    have c48b0 : (x6_2 == (wrap64 ((a0.size : Int) - 1))) = false := beq_eq_false_iff_ne.mpr c48
                                    have c48b1 : (x6_2 != (wrap64 ((a0.size : Int) - 1))) = true := bne_iff_ne.mpr c48
                                    have H' := Aside0.mk H
                                    clear H
                                    have p23 : 0 ≤ (x6_2 : Int) := of_decide_eq_true (by first | (with_reducible assumption) | assumption)
                                    have q23 : x6_2 < (a0.size : Int) := of_decide_eq_true (by first | (with_reducible assumption) | assumption)
                                    have hx23 := bt_at a0 x6_2
                                    replace p23 := eq_true p23
                                    replace q23 := eq_true q23
                                    have p46 : 0 ≤ ((ji43) : Int) := of_decide_eq_true (by first | (with_reducible assumption) | assumption)
                                    have q46 : (ji43) < (a0.size : Int) := of_decide_eq_true (by first | (with_reducible assumption) | assumption)
                                    have hx46 := bt_at a0 (ji43)
                                    replace p46 := eq_true p46
                                    replace q46 := eq_true q46
                                    go_wp2
                                    go_roundg k2
                                    case measure => have := HK1.out; have := HK2.out; omega
                                    case rel => exact ⟨(wrap64 (x6_2 + 1)), (by first | rfl | (simp; done) | (simp [*]; done)), H', ⟨by have := HK1.out; have := HK2.out; omega⟩, by repeat (first | exact Drawn0.refl _ | apply Drawn0.step)⟩
                              · rw [if_neg c45] at H
                                exact absurd H (by simp)
                            · rw [if_neg c44] at H
                              exact absurd H (by simp)
                          · rw [if_neg c42] at H
                            have c42b0 : ((bt a0 x6_2) == 46) = false := beq_eq_false_iff_ne.mpr c42
                            have c42b1 : ((bt a0 x6_2) != 46) = true := bne_iff_ne.mpr c42
                            by_cases c50 : x6_2 = (wrap64 ((a0.size : Int) - 1))
                            · rw [if_pos c50] at H
                              have c50b0 : (x6_2 == (wrap64 ((a0.size : Int) - 1))) = true := beq_iff_eq.mpr c50
                              have c50b1 : (x6_2 != (wrap64 ((a0.size : Int) - 1))) = false := bne_eq_false_iff_eq.mpr c50
                              clear c50
                              by_cases c51 : (bt a0 x6_2) = 45
                              · rw [if_pos c51] at H
                                have c51b0 : ((bt a0 x6_2) == 45) = true := beq_iff_eq.mpr c51
                                have c51b1 : ((bt a0 x6_2) != 45) = false := bne_eq_false_iff_eq.mpr c51
                                clear c51
                                simp only [Option.some.injEq, Prod.mk.injEq] at H
                                obtain ⟨rfl, rfl⟩ := H
                                have p23 : 0 ≤ (x6_2 : Int) := of_decide_eq_true (by first | (with_reducible assumption) | assumption)
                                have q23 : x6_2 < (a0.size : Int) := of_decide_eq_true (by first | (with_reducible assumption) | assumption)
                                have hx23 := bt_at a0 x6_2
                                replace p23 := eq_true p23
                                replace q23 := eq_true q23
                                go_wp2
                                go_ret2
                                exact ⟨by first | rfl | (simp; done) | (simp [*]; done), by repeat (first | exact Drawn0.refl _ | apply Drawn0.step)⟩
                              · rw [if_neg c51] at H
                                have c51b0 : ((bt a0 x6_2) == 45) = false := beq_eq_false_iff_ne.mpr c51
                                have c51b1 : ((bt a0 x6_2) != 45) = true := bne_iff_ne.mpr c51
                                have H' := Aside0.mk H
                                clear H
                                have p23 : 0 ≤ (x6_2 : Int) := of_decide_eq_true (by first | (with_reducible assumption) | assumption)
                                have q23 : x6_2 < (a0.size : Int) := of_decide_eq_true (by first | (with_reducible assumption) | assumption)
                                have hx23 := bt_at a0 x6_2
                                replace p23 := eq_true p23
                                replace q23 := eq_true q23
                                go_wp2
                                go_roundg k2
                                case measure => have := HK1.out; have := HK2.out; omega
                                case rel => exact ⟨(wrap64 (x6_2 + 1)), (by first | rfl | (simp; done) | (simp [*]; done)), H', ⟨by have := HK1.out; have := HK2.out; omega⟩, by repeat (first | exact Drawn0.refl _ | apply Drawn0.step)⟩
                            · rw [if_neg c50] at H
                              have c50b0 : (x6_2 == (wrap64 ((a0.size : Int) - 1))) = false := beq_eq_false_iff_ne.mpr c50
                              have c50b1 : (x6_2 != (wrap64 ((a0.size : Int) - 1))) = true := bne_iff_ne.mpr c50
                              have H' := Aside0.mk H
                              clear H
                              have p23 : 0 ≤ (x6_2 : Int) := of_decide_eq_true (by first | (with_reducible assumption) | assumption)
                              have q23 : x6_2 < (a0.size : Int) := of_decide_eq_true (by first | (with_reducible assumption) | assumption)
                              have hx23 := bt_at a0 x6_2
                              replace p23 := eq_true p23
                              replace q23 := eq_true q23
                              go_wp2
                              go_roundg k2
                              case measure => have := HK1.out; have := HK2.out; omega
                              case rel => exact ⟨(wrap64 (x6_2 + 1)), (by first | rfl | (simp; done) | (simp [*]; done)), H', ⟨by have := HK1.out; have := HK2.out; omega⟩, by repeat (first | exact Drawn0.refl _ | apply Drawn0.step)⟩
                        · rw [if_neg c41] at H
                          have c41b0 : decide (0 < x6_2) = false := decide_eq_false c41
                          clear c41
                          by_cases c52 : x6_2 = (wrap64 ((a0.size : Int) - 1))
                          · rw [if_pos c52] at H
                            have c52b0 : (x6_2 == (wrap64 ((a0.size : Int) - 1))) = true := beq_iff_eq.mpr c52
                            have c52b1 : (x6_2 != (wrap64 ((a0.size : Int) - 1))) = false := bne_eq_false_iff_eq.mpr c52
                            clear c52
                            by_cases c53 : (bt a0 x6_2) = 45
                            · rw [if_pos c53] at H
                              have c53b0 : ((bt a0 x6_2) == 45) = true := beq_iff_eq.mpr c53
                              have c53b1 : ((bt a0 x6_2) != 45) = false := bne_eq_false_iff_eq.mpr c53
                              clear c53
                              simp only [Option.some.injEq, Prod.mk.injEq] at H
                              obtain ⟨rfl, rfl⟩ := H
                              have p23 : 0 ≤ (x6_2 : Int) := of_decide_eq_true (by first | (with_reducible assumption) | assumption)
                              have q23 : x6_2 < (a0.size : Int) := of_decide_eq_true (by first | (with_reducible assumption) | assumption)
                              have hx23 := bt_at a0 x6_2
                              replace p23 := eq_true p23
                              replace q23 := eq_true q23
                              go_wp2
                              go_ret2
                              exact ⟨by first | rfl | (simp; done) | (simp [*]; done), by repeat (first | exact Drawn0.refl _ | apply Drawn0.step)⟩
                            · rw [if_neg c53] at H
                              have c53b0 : ((bt a0 x6_2) == 45) = false := beq_eq_false_iff_ne.mpr c53
                              have c53b1 : ((bt a0 x6_2) != 45) = true := bne_iff_ne.mpr c53
                              by_cases c54 : (bt a0 x6_2) = 46
                              · rw [if_pos c54] at H
                                have c54b0 : ((bt a0 x6_2) == 46) = true := beq_iff_eq.mpr c54
                                have c54b1 : ((bt a0 x6_2) != 46) = false := bne_eq_false_iff_eq.mpr c54
                                clear c54
                                simp only [Option.some.injEq, Prod.mk.injEq] at H
                                obtain ⟨rfl, rfl⟩ := H
                                have p23 : 0 ≤ (x6_2 : Int) := of_decide_eq_true (by first | (with_reducible assumption) | assumption)
                                have q23 : x6_2 < (a0.size : Int) := of_decide_eq_true (by first | (with_reducible assumption) | assumption)
                                have hx23 := bt_at a0 x6_2
                                replace p23 := eq_true p23
                                replace q23 := eq_true q23
                                go_wp2
                                go_ret2
                                exact ⟨by first | rfl | (simp; done) | (simp [*]; done), by repeat (first | exact Drawn0.refl _ | apply Drawn0.step)⟩
                              · rw [if_neg c54] at H
                                have c54b0 : ((bt a0 x6_2) == 46) = false := beq_eq_false_iff_ne.mpr c54
                                have c54b1 : ((bt a0 x6_2) != 46) = true := bne_iff_ne.mpr c54
                                have H' := Aside0.mk H
                                clear H
                                have p23 : 0 ≤ (x6_2 : Int) := of_decide_eq_true (by first | (with_reducible assumption) | assumption)
                                have q23 : x6_2 < (a0.size : Int) := of_decide_eq_true (by first | (with_reducible assumption) | assumption)
                                have hx23 := bt_at a0 x6_2
                                replace p23 := eq_true p23
                                replace q23 := eq_true q23
                                go_wp2
                                go_roundg k2
                                case measure => have := HK1.out; have := HK2.out; omega
                                case rel => exact ⟨(wrap64 (x6_2 + 1)), (by first | rfl | (simp; done) | (simp [*]; done)), H', ⟨by have := HK1.out; have := HK2.out; omega⟩, by repeat (first | exact Drawn0.refl _ | apply Drawn0.step)⟩
                          · rw [if_neg c52] at H
                            have c52b0 : (x6_2 == (wrap64 ((a0.size : Int) - 1))) = false := beq_eq_false_iff_ne.mpr c52
                            have c52b1 : (x6_2 != (wrap64 ((a0.size : Int) - 1))) = true := bne_iff_ne.mpr c52
                            have H' := Aside0.mk H
                            clear H
                            have p23 : 0 ≤ (x6_2 : Int) := of_decide_eq_true (by first | (with_reducible assumption) | assumption)
                            have q23 : x6_2 < (a0.size : Int) := of_decide_eq_true (by first | (with_reducible assumption) | assumption)
                            have hx23 := bt_at a0 x6_2
                            replace p23 := eq_true p23
                            replace q23 := eq_true q23
                            go_wp2
                            go_roundg k2
                            case measure => have := HK1.out; have := HK2.out; omega
                            case rel => exact ⟨(wrap64 (x6_2 + 1)), (by first | rfl | (simp; done) | (simp [*]; done)), H', ⟨by have := HK1.out; have := HK2.out; omega⟩, by repeat (first | exact Drawn0.refl _ | apply Drawn0.step)⟩
                    · rw [if_neg c24] at H
                      have c24b0 : decide (97 ≤ (bt a0 x6_2)) = false := decide_eq_false c24
                      clear c24
                      by_cases c55 : x6_2 = 0
                      · rw [if_pos c55] at H
                        have c55b0 : (x6_2 == 0) = true := beq_iff_eq.mpr c55
                        have c55b1 : (x6_2 != 0) = false := bne_eq_false_iff_eq.mpr c55
                        clear c55
                        simp only [Option.some.injEq, Prod.mk.injEq] at H
                        obtain ⟨rfl, rfl⟩ := H
                        have p23 : 0 ≤ (x6_2 : Int) := of_decide_eq_true (by first | (with_reducible assumption) | assumption)
                        have q23 : x6_2 < (a0.size : Int) := of_decide_eq_true (by first | (with_reducible assumption) | assumption)
                        have hx23 := bt_at a0 x6_2
                        replace p23 := eq_true p23
                        replace q23 := eq_true q23
                        go_wp2
                        go_ret2
                        exact ⟨by first | rfl | (simp; done) | (simp [*]; done), by repeat (first | exact Drawn0.refl _ | apply Drawn0.step)⟩
                      · rw [if_neg c55] at H
                        have c55b0 : (x6_2 == 0) = false := beq_eq_false_iff_ne.mpr c55
                        have c55b1 : (x6_2 != 0) = true := bne_iff_ne.mpr c55
                        by_cases c56 : x6_2 > 0
                        · rw [if_pos c56] at H
                          have c56b0 : decide (0 < x6_2) = true := decide_eq_true c56
                          clear c56
                          by_cases c57 : (bt a0 x6_2) = 46
                          · rw [if_pos c57] at H
                            have c57b0 : ((bt a0 x6_2) == 46) = true := beq_iff_eq.mpr c57
                            have c57b1 : ((bt a0 x6_2) != 46) = false := bne_eq_false_iff_eq.mpr c57
                            clear c57
                            obtain ⟨ji58, hji58⟩ : ∃ j_ : Int, (wrap64 (x6_2 - 1)) = j_ := ⟨_, rfl⟩
                            replace H : (if 0 ≤ (ji58) then (if (ji58) < (a0.size : Int) then (if (bt a0 (ji58)) = 46 then (some (x6_2, 12)) else (if x6_2 = (wrap64 ((a0.size : Int) - 1)) then (if (bt a0 x6_2) = 45 then (some (x6_2, 12)) else (some (x6_2, 12))) else (bulletinref11_Site.l1 k2 a0 (wrap64 (x6_2 + 1))))) else (none)) else (none)) = some (r1, r2) := by first | (rw [hji58] at H; exact H) | (simp only [hji58] at H ⊢; exact H)
                            have hji58w : (IntKind.i64.wrap (x6_2 - 1)) = ji58 := (i64_w _).trans hji58
                            by_cases c59 : 0 ≤ (ji58)
                            · rw [if_pos c59] at H
                              have c59b0 : decide (0 ≤ (ji58)) = true := decide_eq_true c59
                              clear c59
                              by_cases c60 : (ji58) < (a0.size : Int)
                              · rw [if_pos c60] at H
                                have c60b0 : decide ((ji58) < (a0.size : Int)) = true := decide_eq_true c60
                                clear c60
                                by_cases c62 : (bt a0 (ji58)) = 46
                                · rw [if_pos c62] at H
                                  have c62b0 : ((bt a0 (ji58)) == 46) = true := beq_iff_eq.mpr c62
                                  have c62b1 : ((bt a0 (ji58)) != 46) = false := bne_eq_false_iff_eq.mpr c62
                                  clear c62
                                  simp only [Option.some.injEq, Prod.mk.injEq] at H
                                  obtain ⟨rfl, rfl⟩ := H
                                  have p23 : 0 ≤ (x6_2 : Int) := of_decide_eq_true (by first | (with_reducible assumption) | assumption)
                                  have q23 : x6_2 < (a0.size : Int) := of_decide_eq_true (by first | (with_reducible assumption) | assumption)
                                  have hx23 := bt_at a0 x6_2
                                  replace p23 := eq_true p23
                                  replace q23 := eq_true q23
                                  have p61 : 0 ≤ ((ji58) : Int) := of_decide_eq_true (by first | (with_reducible assumption) | assumption)
                                  have q61 : (ji58) < (a0.size : Int) := of_decide_eq_true (by first | (with_reducible assumption) | assumption)
                                  have hx61 := bt_at a0 (ji58)
                                  replace p61 := eq_true p61
                                  replace q61 := eq_true q61
                                  go_wp2
                                  go_ret2
                                  exact ⟨by first | rfl | (simp; done) | (simp only [← hji58] <;> (first | rfl | simp)) | (simp [*]; done), by repeat (first | exact Drawn0.refl _ | apply Drawn0.step)⟩
                                · rw [if_neg c62] at H
                                  have c62b0 : ((bt a0 (ji58)) == 46) = false := beq_eq_false_iff_ne.mpr c62
                                  have c62b1 : ((bt a0 (ji58)) != 46) = true := bne_iff_ne.mpr c62
                                  by_cases c63 : x6_2 = (wrap64 ((a0.size : Int) - 1))
                                  · rw [if_pos c63] at H
                                    have c63b0 : (x6_2 == (wrap64 ((a0.size : Int) - 1))) = true := beq_iff_eq.mpr c63
                                    have c63b1 : (x6_2 != (wrap64 ((a0.size : Int) - 1))) = false := bne_eq_false_iff_eq.mpr c63
                                    clear c63
                                    by_cases c64 : (bt a0 x6_2) = 45
                                    · rw [if_pos c64] at H
                                      have c64b0 : ((bt a0 x6_2) == 45) = true := beq_iff_eq.mpr c64
                                      have c64b1 : ((bt a0 x6_2) != 45) = false := bne_eq_false_iff_eq.mpr c64
                                      clear c64
                                      simp only [Option.some.injEq, Prod.mk.injEq] at H
                                      obtain ⟨rfl, rfl⟩ := H
                                      have p23 : 0 ≤ (x6_2 : Int) := of_decide_eq_true (by first | (with_reducible assumption) | assumption)
                                      have q23 : x6_2 < (a0.size : Int) := of_decide_eq_true (by first | (with_reducible assumption) | assumption)
                                      have hx23 := bt_at a0 x6_2
                                      replace p23 := eq_true p23
                                      replace q23 := eq_true q23
                                      have p61 : 0 ≤ ((ji58) : Int) := of_decide_eq_true (by first | (with_reducible assumption) | assumption)
                                      have q61 : (ji58) < (a0.size : Int) := of_decide_eq_true (by first | (with_reducible assumption) | assumption)
                                      have hx61 := bt_at a0 (ji58)
                                      replace p61 := eq_true p61
                                      replace q61 := eq_true q61
                                      go_wp2
                                      go_ret2
                                      exact ⟨by first | rfl | (simp; done) | (simp only [← hji58] <;> (first | rfl | simp)) | (simp [*]; done), by repeat (first | exact Drawn0.refl _ | apply Drawn0.step)⟩
                                    · rw [if_neg c64] at H
                                      have c64b0 : ((bt a0 x6_2) == 45) = false := beq_eq_false_iff_ne.mpr c64
                                      have c64b1 : ((bt a0 x6_2) != 45) = true := bne_iff_ne.mpr c64
                                      simp only [Option.some.injEq, Prod.mk.injEq] at H
                                      obtain ⟨rfl, rfl⟩ := H
                                      have p23 : 0 ≤ (x6_2 : Int) := of_decide_eq_true (by first | (with_reducible assumption) | assumption)
                                      have q23 : x6_2 < (a0.size : Int) := of_decide_eq_true (by first | (with_reducible assumption) | assumption)
                                      have hx23 := bt_at a0 x6_2
                                      replace p23 := eq_true p23
                                      replace q23 := eq_true q23
                                      have p61 : 0 ≤ ((ji58) : Int) := of_decide_eq_true (by first | (with_reducible assumption) | assumption)
                                      have q61 : (ji58) < (a0.size : Int) := of_decide_eq_true (by first | (with_reducible assumption) | assumption)
                                      have hx61 := bt_at a0 (ji58)
                                      replace p61 := eq_true p61
                                      replace q61 := eq_true q61
                                      go_wp2
                                      go_ret2
                                      exact ⟨by first | rfl | (simp; done) | (simp only [← hji58] <;> (first | rfl | simp)) | (simp [*]; done), by repeat (first | exact Drawn0.refl _ | apply Drawn0.step)⟩
                                  · rw [if_neg c63] at H
                                    have c63b0 : (x6_2 == (wrap64 ((a0.size : Int) - 1))) = false := beq_eq_false_iff_ne.mpr c63
                                    have c63b1 : (x6_2 != (wrap64 ((a0.size : Int) - 1))) = true := bne_iff_ne.mpr c63
                                    have H' := Aside0.mk H
                                    clear H
                                    have p23 : 0 ≤ (x6_2 : Int) := of_decide_eq_true (by first | (with_reducible assumption) | assumption)
                                    have q23 : x6_2 < (a0.size : Int) := of_decide_eq_true (by first | (with_reducible assumption) | assumption)
                                    have hx23 := bt_at a0 x6_2
                                    replace p23 := eq_true p23
                                    replace q23 := eq_true q23
                                    have p61 : 0 ≤ ((ji58) : Int) := of_decide_eq_true (by first | (with_reducible assumption) | assumption)
                                    have q61 : (ji58) < (a0.size : Int) := of_decide_eq_true (by first | (with_reducible assumption) | assumption)
                                    have hx61 := bt_at a0 (ji58)
                                    replace p61 := eq_true p61
                                    replace q61 := eq_true q61
                                    go_wp2
                                    go_roundg k2
                                    case measure => have := HK1.out; have := HK2.out; omega
                                    case rel => exact ⟨(wrap64 (x6_2 + 1)), (by first | rfl | (simp; done) | (simp [*]; done)), H', ⟨by have := HK1.out; have := HK2.out; omega⟩, by repeat (first | exact Drawn0.refl _ | apply Drawn0.step)⟩
                              · rw [if_neg c60] at H
                                exact absurd H (by simp)
                            · rw [if_neg c59] at H
                              exact absurd H (by simp)
                          · rw [if_neg c57] at H
                            have c57b0 : ((bt a0 x6_2) == 46) = false := beq_eq_false_iff_ne.mpr c57
                            have c57b1 : ((bt a0 x6_2) != 46) = true := bne_iff_ne.mpr c57
                            by_cases c65 : x6_2 = (wrap64 ((a0.size : Int) - 1))
                            · rw [if_pos c65] at H
                              have c65b0 : (x6_2 == (wrap64 ((a0.size : Int) - 1))) = true := beq_iff_eq.mpr c65
                              have c65b1 : (x6_2 != (wrap64 ((a0.size : Int) - 1))) = false := bne_eq_false_iff_eq.mpr c65
                              clear c65
                              by_cases c66 : (bt a0 x6_2) = 45
                              · rw [if_pos c66] at H
                                have c66b0 : ((bt a0 x6_2) == 45) = true := beq_iff_eq.mpr c66
                                have c66b1 : ((bt a0 x6_2) != 45) = false := bne_eq_false_iff_eq.mpr c66
                                clear c66
                                simp only [Option.some.injEq, Prod.mk.injEq] at H
                                obtain ⟨rfl, rfl⟩ := H
                                have p23 : 0 ≤ (x6_2 : Int) := of_decide_eq_true (by first | (with_reducible assumption) | assumption)
                                have q23 : x6_2 < (a0.size : Int) := of_decide_eq_true (by first | (with_reducible assumption) | assumption)
                                have hx23 := bt_at a0 x6_2
                                replace p23 := eq_true p23
                                replace q23 := eq_true q23
                                go_wp2
                                go_ret2
                                exact ⟨by first | rfl | (simp; done) | (simp [*]; done), by repeat (first | exact Drawn0.refl _ | apply Drawn0.step)⟩
                              · rw [if_neg c66] at H
                                have c66b0 : ((bt a0 x6_2) == 45) = false := beq_eq_false_iff_ne.mpr c66
                                have c66b1 : ((bt a0 x6_2) != 45) = true := bne_iff_ne.mpr c66
                                have H' := Aside0.mk H
                                clear H
                                have p23 : 0 ≤ (x6_2 : Int) := of_decide_eq_true (by first | (with_reducible assumption) | assumption)
                                have q23 : x6_2 < (a0.size : Int) := of_decide_eq_true (by first | (with_reducible assumption) | assumption)
                                have hx23 := bt_at a0 x6_2
                                replace p23 := eq_true p23
                                replace q23 := eq_true q23
                                go_wp2
                                go_roundg k2
                                case measure => have := HK1.out; have := HK2.out; omega
                                case rel => exact ⟨(wrap64 (x6_2 + 1)), (by first | rfl | (simp; done) | (simp [*]; done)), H', ⟨by have := HK1.out; have := HK2.out; omega⟩, by repeat (first | exact Drawn0.refl _ | apply Drawn0.step)⟩
                            · rw [if_neg c65] at H
                              have c65b0 : (x6_2 == (wrap64 ((a0.size : Int) - 1))) = false := beq_eq_false_iff_ne.mpr c65
                              have c65b1 : (x6_2 != (wrap64 ((a0.size : Int) - 1))) = true := bne_iff_ne.mpr c65
                              have H' := Aside0.mk H
                              clear H
                              have p23 : 0 ≤ (x6_2 : Int) := of_decide_eq_true (by first | (with_reducible assumption) | assumption)
                              have q23 : x6_2 < (a0.size : Int) := of_decide_eq_true (by first | (with_reducible assumption) | assumption)
                              have hx23 := bt_at a0 x6_2
                              replace p23 := eq_true p23
                              replace q23 := eq_true q23
                              go_wp2
                              go_roundg k2
                              case measure => have := HK1.out; have := HK2.out; omega
                              case rel => exact ⟨(wrap64 (x6_2 + 1)), (by first | rfl | (simp; done) | (simp [*]; done)), H', ⟨by have := HK1.out; have := HK2.out; omega⟩, by repeat (first | exact Drawn0.refl _ | apply Drawn0.step)⟩
                        · rw [if_neg c56] at H
                          have c56b0 : decide (0 < x6_2) = false := decide_eq_false c56
                          clear c56
                          by_cases c67 : x6_2 = (wrap64 ((a0.size : Int) - 1))
                          · rw [if_pos c67] at H
                            have c67b0 : (x6_2 == (wrap64 ((a0.size : Int) - 1))) = true := beq_iff_eq.mpr c67
                            have c67b1 : (x6_2 != (wrap64 ((a0.size : Int) - 1))) = false := bne_eq_false_iff_eq.mpr c67
                            clear c67
                            by_cases c68 : (bt a0 x6_2) = 45
                            · rw [if_pos c68] at H
                              have c68b0 : ((bt a0 x6_2) == 45) = true := beq_iff_eq.mpr c68
                              have c68b1 : ((bt a0 x6_2) != 45) = false := bne_eq_false_iff_eq.mpr c68
                              clear c68
                              simp only [Option.some.injEq, Prod.mk.injEq] at H
                              obtain ⟨rfl, rfl⟩ := H
                              have p23 : 0 ≤ (x6_2 : Int) := of_decide_eq_true (by first | (with_reducible assumption) | assumption)
                              have q23 : x6_2 < (a0.size : Int) := of_decide_eq_true (by first | (with_reducible assumption) | assumption)
                              have hx23 := bt_at a0 x6_2
                              replace p23 := eq_true p23
                              replace q23 := eq_true q23
                              go_wp2
                              go_ret2
                              exact ⟨by first | rfl | (simp; done) | (simp [*]; done), by repeat (first | exact Drawn0.refl _ | apply Drawn0.step)⟩
                            · rw [if_neg c68] at H
                              have c68b0 : ((bt a0 x6_2) == 45) = false := beq_eq_false_iff_ne.mpr c68
                              have c68b1 : ((bt a0 x6_2) != 45) = true := bne_iff_ne.mpr c68
                              by_cases c69 : (bt a0 x6_2) = 46
                              · rw [if_pos c69] at H
                                have c69b0 : ((bt a0 x6_2) == 46) = true := beq_iff_eq.mpr c69
                                have c69b1 : ((bt a0 x6_2) != 46) = false := bne_eq_false_iff_eq.mpr c69
                                clear c69
                                simp only [Option.some.injEq, Prod.mk.injEq] at H
                                obtain ⟨rfl, rfl⟩ := H
                                have p23 : 0 ≤ (x6_2 : Int) := of_decide_eq_true (by first | (with_reducible assumption) | assumption)
                                have q23 : x6_2 < (a0.size : Int) := of_decide_eq_true (by first | (with_reducible assumption) | assumption)
                                have hx23 := bt_at a0 x6_2
                                replace p23 := eq_true p23
                                replace q23 := eq_true q23
                                go_wp2
                                go_ret2
                                exact ⟨by first | rfl | (simp; done) | (simp [*]; done), by repeat (first | exact Drawn0.refl _ | apply Drawn0.step)⟩
                              · rw [if_neg c69] at H
                                have c69b0 : ((bt a0 x6_2) == 46) = false := beq_eq_false_iff_ne.mpr c69
                                have c69b1 : ((bt a0 x6_2) != 46) = true := bne_iff_ne.mpr c69
                                have H' := Aside0.mk H
                                clear H
                                have p23 : 0 ≤ (x6_2 : Int) := of_decide_eq_true (by first | (with_reducible assumption) | assumption)
                                have q23 : x6_2 < (a0.size : Int) := of_decide_eq_true (by first | (with_reducible assumption) | assumption)
                                have hx23 := bt_at a0 x6_2
                                replace p23 := eq_true p23
                                replace q23 := eq_true q23
                                go_wp2
                                go_roundg k2
                                case measure => have := HK1.out; have := HK2.out; omega
                                case rel => exact ⟨(wrap64 (x6_2 + 1)), (by first | rfl | (simp; done) | (simp [*]; done)), H', ⟨by have := HK1.out; have := HK2.out; omega⟩, by repeat (first | exact Drawn0.refl _ | apply Drawn0.step)⟩
                          · rw [if_neg c67] at H
                            have c67b0 : (x6_2 == (wrap64 ((a0.size : Int) - 1))) = false := beq_eq_false_iff_ne.mpr c67
                            have c67b1 : (x6_2 != (wrap64 ((a0.size : Int) - 1))) = true := bne_iff_ne.mpr c67
                            have H' := Aside0.mk H
                            clear H
                            have p23 : 0 ≤ (x6_2 : Int) := of_decide_eq_true (by first | (with_reducible assumption) | assumption)
                            have q23 : x6_2 < (a0.size : Int) := of_decide_eq_true (by first | (with_reducible assumption) | assumption)
                            have hx23 := bt_at a0 x6_2
                            replace p23 := eq_true p23
                            replace q23 := eq_true q23
                            go_wp2
                            go_roundg k2
                            case measure => have := HK1.out; have := HK2.out; omega
                            case rel => exact ⟨(wrap64 (x6_2 + 1)), (by first | rfl | (simp; done) | (simp [*]; done)), H', ⟨by have := HK1.out; have := HK2.out; omega⟩, by repeat (first | exact Drawn0.refl _ | apply Drawn0.step)⟩
                  · rw [if_neg c22] at H
                    exact absurd H (by simp)
                · rw [if_neg c21] at H
                  have c21b0 : decide (x6_2 < (a0.size : Int)) = false := decide_eq_false c21
                  clear c21
                  simp only [Option.some.injEq, Prod.mk.injEq] at H
                  obtain ⟨rfl, rfl⟩ := H
                  go_wp2
                  go_ret2
                  exact ⟨by first | rfl | (simp; done) | (simp [*]; done), by repeat (first | exact Drawn0.refl _ | apply Drawn0.step)⟩

end Go.Proofs.Ytfgadmiencgmgaa.PMsgidSites
