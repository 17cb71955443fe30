-- PRINTED BY print.sh 35421559b90ae4d0a3588c463048766b98c2df88dd9212a6774a882060cdf62d: not written by this session
import Derived.Test.YtfgadmiencgmgaaDoorPSitex0
namespace Go.Proofs.YtfgadmiencgmgaaDoor.PSite
open Go.RowKit Go.Proofs.YtfgadmiencgmgaaDoorW.PrintWords Go.Proofs.YtfgadmiencgmgaaDoorW.PrintLast Go.Proofs.YtfgadmiencgmgaaDoorW.PrintMore
attribute [local go_sem] max2_int min2_int max_two min_two max_three min_three max_four min_four   -- for this text's walks alone
set_option linter.unusedVariables false
set_option linter.unusedSimpArgs false

/-! ### ascii_IsLower: function 56 -/
def ascii_IsLower.f (a0 : Int) : Option (Bool) := if a0 ≥ 97 then (some (decide (a0 ≤ 122))) else (some false)
set_option maxHeartbeats 8000000 in
set_option maxRecDepth 100000 in
theorem ascii_IsLower.calls (a0 : Int) (r : Bool) (w : World) (h : ascii_IsLower.f a0 = some r) :
    Calls Tryd.prog 56 #[.int .u8 a0] w fun e w' => e = .returned (.bool r) ∧ Drawn0 w w' := by
  have H : (if a0 ≥ 97 then (some (decide (a0 ≤ 122))) else (some false)) = some r := h
  clear h
  by_cases c2 : a0 ≥ 97
  · rw [if_pos c2] at H
    have c2b0 : decide (97 ≤ a0) = true := decide_eq_true c2
    clear c2
    obtain rfl := Option.some.inj H
    go_enter Tryd.func56, Tryd.ntmps56
    go_wp2
    go_ret
    exact ⟨by first | rfl | (simp; done) | (simp [*]; done), by repeat (first | exact Drawn0.refl _ | apply Drawn0.step)⟩
  · rw [if_neg c2] at H
    have c2b0 : decide (97 ≤ a0) = false := decide_eq_false c2
    clear c2
    obtain rfl := Option.some.inj H
    go_enter Tryd.func56, Tryd.ntmps56
    go_wp2
    go_ret
    exact ⟨by first | rfl | (simp; done) | (simp [*]; done), by repeat (first | exact Drawn0.refl _ | apply Drawn0.step)⟩

/-! ### ascii_IsDigit: function 57 -/
def ascii_IsDigit.f (a0 : Int) : Option (Bool) := if a0 ≥ 48 then (some (decide (a0 ≤ 57))) else (some false)
set_option maxHeartbeats 8000000 in
set_option maxRecDepth 100000 in
theorem ascii_IsDigit.calls (a0 : Int) (r : Bool) (w : World) (h : ascii_IsDigit.f a0 = some r) :
    Calls Tryd.prog 57 #[.int .u8 a0] w fun e w' => e = .returned (.bool r) ∧ Drawn0 w w' := by
  have H : (if a0 ≥ 48 then (some (decide (a0 ≤ 57))) else (some false)) = some r := h
  clear h
  by_cases c2 : a0 ≥ 48
  · rw [if_pos c2] at H
    have c2b0 : decide (48 ≤ a0) = true := decide_eq_true c2
    clear c2
    obtain rfl := Option.some.inj H
    go_enter Tryd.func57, Tryd.ntmps57
    go_wp2
    go_ret
    exact ⟨by first | rfl | (simp; done) | (simp [*]; done), by repeat (first | exact Drawn0.refl _ | apply Drawn0.step)⟩
  · rw [if_neg c2] at H
    have c2b0 : decide (48 ≤ a0) = false := decide_eq_false c2
    clear c2
    obtain rfl := Option.some.inj H
    go_enter Tryd.func57, Tryd.ntmps57
    go_wp2
    go_ret
    exact ⟨by first | rfl | (simp; done) | (simp [*]; done), by repeat (first | exact Drawn0.refl _ | apply Drawn0.step)⟩

/-! ### msgid_permitted: function 41 -/
def msgid_permitted.f (a0 : Int) : Option (Bool) := (ascii_IsLower.f a0).bind fun t101 => (if t101 = true then (some true) else ((ascii_IsDigit.f a0).bind fun t102 => (if t102 = true then (some true) else (if a0 = 45 then (some true) else (some (a0 == 46))))))
set_option maxHeartbeats 8000000 in
set_option maxRecDepth 100000 in
theorem msgid_permitted.calls (a0 : Int) (r : Bool) (w : World) (h : msgid_permitted.f a0 = some r) :
    Calls Tryd.prog 41 #[.int .u8 a0] w fun e w' => e = .returned (.bool r) ∧ Drawn0 w w' := by
  have H : ((ascii_IsLower.f a0).bind fun t101 => (if t101 = true then (some true) else ((ascii_IsDigit.f a0).bind fun t102 => (if t102 = true then (some true) else (if a0 = 45 then (some true) else (some (a0 == 46))))))) = some r := h
  clear h
  replace H := Option.bind_eq_some_iff.mp H
  obtain ⟨t101, A20, H⟩ := H
  replace H : (if t101 = true then (some true) else ((ascii_IsDigit.f a0).bind fun t102 => (if t102 = true then (some true) else (if a0 = 45 then (some true) else (some (a0 == 46)))))) = some r := H
  have A2 := Aside0.mk A20
  clear A20
  by_cases c3 : t101 = true
  · subst c3
    have H1 : (some true) = some r := by rw [if_pos rfl] at H; exact H
    clear H
    have H := H1
    clear H1
    obtain rfl := Option.some.inj H
    go_enter Tryd.func41, Tryd.ntmps41
    go_wp2_with (first | ((with_reducible refine gate_callee (f := 56) rfl ?_); refine goesL_ (some 4) rfl rfl Tryd.func56 (by kernel_rfl) rfl #[.int .u8 a0] rfl (by (try simp only [List.map_toArray, List.map_cons, List.map_nil]); first | done | rfl | (simp only [List.length_drop, List.length_take]; rfl)) ?_; (with_reducible refine (ascii_IsLower.calls a0 true _ A2.out).mono ?_); rintro e w' ⟨rfl, ⟨nd, rfl⟩⟩; refine ⟨_, rfl, ?_⟩))
    go_ret
    exact ⟨by first | rfl | (simp; done) | (simp [*]; done), by repeat (first | exact Drawn0.refl _ | apply Drawn0.step)⟩
  · replace c3 := Bool.eq_false_iff.mpr c3
    subst c3
    have H1 : ((ascii_IsDigit.f a0).bind fun t102 => (if t102 = true then (some true) else (if a0 = 45 then (some true) else (some (a0 == 46))))) = some r := by rw [if_neg (show ¬ (false = true) by decide)] at H; exact H
    clear H
    have H := H1
    clear H1
    replace H := Option.bind_eq_some_iff.mp H
    obtain ⟨t102, A40, H⟩ := H
    replace H : (if t102 = true then (some true) else (if a0 = 45 then (some true) else (some (a0 == 46)))) = some r := H
    have A4 := Aside0.mk A40
    clear A40
    by_cases c5 : t102 = true
    · subst c5
      have H1 : (some true) = some r := by rw [if_pos rfl] at H; exact H
      clear H
      have H := H1
      clear H1
      obtain rfl := Option.some.inj H
      go_enter Tryd.func41, Tryd.ntmps41
      go_wp2_with (first | ((with_reducible refine gate_callee (f := 56) rfl ?_); refine goesL_ (some 4) rfl rfl Tryd.func56 (by kernel_rfl) rfl #[.int .u8 a0] rfl (by (try simp only [List.map_toArray, List.map_cons, List.map_nil]); first | done | rfl | (simp only [List.length_drop, List.length_take]; rfl)) ?_; (with_reducible refine (ascii_IsLower.calls a0 false _ A2.out).mono ?_); rintro e w' ⟨rfl, ⟨nd, rfl⟩⟩; refine ⟨_, rfl, ?_⟩) | (go_at_call 57; (with_reducible refine (ascii_IsDigit.calls a0 true _ A4.out).mono ?_); rintro e w' ⟨rfl, ⟨nd, rfl⟩⟩))
      go_ret
      exact ⟨by first | rfl | (simp; done) | (simp [*]; done), by repeat (first | exact Drawn0.refl _ | apply Drawn0.step)⟩
    · replace c5 := Bool.eq_false_iff.mpr c5
      subst c5
      have H1 : (if a0 = 45 then (some true) else (some (a0 == 46))) = some r := by rw [if_neg (show ¬ (false = true) by decide)] at H; exact H
      clear H
      have H := H1
      clear H1
      by_cases c6 : a0 = 45
      · rw [if_pos c6] at H
        have c6b0 : (a0 == 45) = true := beq_iff_eq.mpr c6
        have c6b1 : (a0 != 45) = false := bne_eq_false_iff_eq.mpr c6
        clear c6
        obtain rfl := Option.some.inj H
        go_enter Tryd.func41, Tryd.ntmps41
        go_wp2_with (first | ((with_reducible refine gate_callee (f := 56) rfl ?_); refine goesL_ (some 4) rfl rfl Tryd.func56 (by kernel_rfl) rfl #[.int .u8 a0] rfl (by (try simp only [List.map_toArray, List.map_cons, List.map_nil]); first | done | rfl | (simp only [List.length_drop, List.length_take]; rfl)) ?_; (with_reducible refine (ascii_IsLower.calls a0 false _ A2.out).mono ?_); rintro e w' ⟨rfl, ⟨nd, rfl⟩⟩; refine ⟨_, rfl, ?_⟩) | (go_at_call 57; (with_reducible refine (ascii_IsDigit.calls a0 false _ A4.out).mono ?_); rintro e w' ⟨rfl, ⟨nd, rfl⟩⟩))
        go_ret
        exact ⟨by first | rfl | (simp; done) | (simp [*]; done), by repeat (first | exact Drawn0.refl _ | apply Drawn0.step)⟩
      · rw [if_neg c6] at H
        have c6b0 : (a0 == 45) = false := beq_eq_false_iff_ne.mpr c6
        have c6b1 : (a0 != 45) = true := bne_iff_ne.mpr c6
        obtain rfl := Option.some.inj H
        go_enter Tryd.func41, Tryd.ntmps41
        go_wp2_with (first | ((with_reducible refine gate_callee (f := 56) rfl ?_); refine goesL_ (some 4) rfl rfl Tryd.func56 (by kernel_rfl) rfl #[.int .u8 a0] rfl (by (try simp only [List.map_toArray, List.map_cons, List.map_nil]); first | done | rfl | (simp only [List.length_drop, List.length_take]; rfl)) ?_; (with_reducible refine (ascii_IsLower.calls a0 false _ A2.out).mono ?_); rintro e w' ⟨rfl, ⟨nd, rfl⟩⟩; refine ⟨_, rfl, ?_⟩) | (go_at_call 57; (with_reducible refine (ascii_IsDigit.calls a0 false _ A4.out).mono ?_); rintro e w' ⟨rfl, ⟨nd, rfl⟩⟩))
        go_ret
        exact ⟨by first | rfl | (simp; done) | (simp [*]; done), by repeat (first | exact Drawn0.refl _ | apply Drawn0.step)⟩

/-! ### msgid_misplaced: function 42 -/
def msgid_misplaced.f (a0 : ByteArray) (a1 : Int) : Option (Bool) := if 0 ≤ a1 then (if a1 < (a0.size : Int) then (if a1 = 0 then ((ascii_IsLower.f (bt a0 a1)).bind fun t103 => (some (!t103))) else (if (bt a0 a1) = 46 then (if 0 ≤ (wrap64 (a1 - 1)) then (if (wrap64 (a1 - 1)) < (a0.size : Int) then (if (bt a0 (wrap64 (a1 - 1))) = 46 then (some true) else (if a1 = (wrap64 ((a0.size : Int) - 1)) then (if (bt a0 a1) = 45 then (some true) else (some ((bt a0 a1) == 46))) else (some false))) else (none)) else (none)) else (if a1 = (wrap64 ((a0.size : Int) - 1)) then (if (bt a0 a1) = 45 then (some true) else (some ((bt a0 a1) == 46))) else (some false)))) else (none)) else (none)
set_option maxHeartbeats 8000000 in
set_option maxRecDepth 100000 in
theorem msgid_misplaced.calls (a0 : ByteArray) (a1 : Int) (r : Bool) (w : World) (h : msgid_misplaced.f a0 a1 = some r) :
    Calls Tryd.prog 42 #[.string a0, .int .i64 a1] w fun e w' => e = .returned (.bool r) ∧ Drawn0 w w' := by
  have H : (if 0 ≤ a1 then (if a1 < (a0.size : Int) then (if a1 = 0 then ((ascii_IsLower.f (bt a0 a1)).bind fun t103 => (some (!t103))) else (if (bt a0 a1) = 46 then (if 0 ≤ (wrap64 (a1 - 1)) then (if (wrap64 (a1 - 1)) < (a0.size : Int) then (if (bt a0 (wrap64 (a1 - 1))) = 46 then (some true) else (if a1 = (wrap64 ((a0.size : Int) - 1)) then (if (bt a0 a1) = 45 then (some true) else (some ((bt a0 a1) == 46))) else (some false))) else (none)) else (none)) else (if a1 = (wrap64 ((a0.size : Int) - 1)) then (if (bt a0 a1) = 45 then (some true) else (some ((bt a0 a1) == 46))) else (some false)))) else (none)) else (none)) = some r := h
  clear h
  by_cases c3 : 0 ≤ a1
  · rw [if_pos c3] at H
    have c3b0 : decide (0 ≤ a1) = true := decide_eq_true c3
    clear c3
    by_cases c4 : a1 < (a0.size : Int)
    · rw [if_pos c4] at H
      have c4b0 : decide (a1 < (a0.size : Int)) = true := decide_eq_true c4
      clear c4
      by_cases c6 : a1 = 0
      · rw [if_pos c6] at H
        have c6b0 : (a1 == 0) = true := beq_iff_eq.mpr c6
        have c6b1 : (a1 != 0) = false := bne_eq_false_iff_eq.mpr c6
        clear c6
        replace H := Option.bind_eq_some_iff.mp H
        obtain ⟨t103, A70, H⟩ := H
        replace H : (some (!t103)) = some r := H
        have A7 := Aside0.mk A70
        clear A70
        obtain rfl := Option.some.inj H
        have p5 : 0 ≤ (a1 : Int) := of_decide_eq_true (by first | (with_reducible assumption) | assumption)
        have q5 : a1 < (a0.size : Int) := of_decide_eq_true (by first | (with_reducible assumption) | assumption)
        have hx5 := bt_at a0 a1
        replace p5 := eq_true p5
        replace q5 := eq_true q5
        go_enter Tryd.func42, Tryd.ntmps42
        go_wp2_with (first | ((with_reducible refine gate_callee (f := 56) rfl ?_); refine goesL_ (some 26) rfl rfl Tryd.func56 (by kernel_rfl) rfl #[.int .u8 (bt a0 a1)] rfl (by (try simp only [List.map_toArray, List.map_cons, List.map_nil]); first | done | rfl | (simp only [List.length_drop, List.length_take]; rfl)) ?_; (with_reducible refine (ascii_IsLower.calls (bt a0 a1) t103 _ A7.out).mono ?_); rintro e w' ⟨rfl, ⟨nd, rfl⟩⟩; refine ⟨_, rfl, ?_⟩))
        go_ret
        exact ⟨by first | rfl | (simp; done) | (simp [*]; done), by repeat (first | exact Drawn0.refl _ | apply Drawn0.step)⟩
      · rw [if_neg c6] at H
        have c6b0 : (a1 == 0) = false := beq_eq_false_iff_ne.mpr c6
        have c6b1 : (a1 != 0) = true := bne_iff_ne.mpr c6
        by_cases c8 : (bt a0 a1) = 46
        · rw [if_pos c8] at H
          have c8b0 : ((bt a0 a1) == 46) = true := beq_iff_eq.mpr c8
          have c8b1 : ((bt a0 a1) != 46) = false := bne_eq_false_iff_eq.mpr c8
          clear c8
          obtain ⟨ji9, hji9⟩ : ∃ j_ : Int, (wrap64 (a1 - 1)) = j_ := ⟨_, rfl⟩
          replace H : (if 0 ≤ (ji9) then (if (ji9) < (a0.size : Int) then (if (bt a0 (ji9)) = 46 then (some true) else (if a1 = (wrap64 ((a0.size : Int) - 1)) then (if (bt a0 a1) = 45 then (some true) else (some ((bt a0 a1) == 46))) else (some false))) else (none)) else (none)) = some r := by first | (rw [hji9] at H; exact H) | (simp only [hji9] at H ⊢; exact H)
          have hji9w : (IntKind.i64.wrap (a1 - 1)) = ji9 := (i64_w _).trans hji9
          by_cases c10 : 0 ≤ (ji9)
          · rw [if_pos c10] at H
            have c10b0 : decide (0 ≤ (ji9)) = true := decide_eq_true c10
            clear c10
            by_cases c11 : (ji9) < (a0.size : Int)
            · rw [if_pos c11] at H
              have c11b0 : decide ((ji9) < (a0.size : Int)) = true := decide_eq_true c11
              clear c11
              by_cases c13 : (bt a0 (ji9)) = 46
              · rw [if_pos c13] at H
                have c13b0 : ((bt a0 (ji9)) == 46) = true := beq_iff_eq.mpr c13
                have c13b1 : ((bt a0 (ji9)) != 46) = false := bne_eq_false_iff_eq.mpr c13
                clear c13
                obtain rfl := Option.some.inj H
                have p5 : 0 ≤ (a1 : Int) := of_decide_eq_true (by first | (with_reducible assumption) | assumption)
                have q5 : a1 < (a0.size : Int) := of_decide_eq_true (by first | (with_reducible assumption) | assumption)
                have hx5 := bt_at a0 a1
                replace p5 := eq_true p5
                replace q5 := eq_true q5
                have p12 : 0 ≤ ((ji9) : Int) := of_decide_eq_true (by first | (with_reducible assumption) | assumption)
                have q12 : (ji9) < (a0.size : Int) := of_decide_eq_true (by first | (with_reducible assumption) | assumption)
                have hx12 := bt_at a0 (ji9)
                replace p12 := eq_true p12
                replace q12 := eq_true q12
                go_enter Tryd.func42, Tryd.ntmps42
                go_wp2
                go_ret
                exact ⟨by first | rfl | (simp; done) | (simp only [← hji9] <;> (first | rfl | simp)) | (simp [*]; done), by repeat (first | exact Drawn0.refl _ | apply Drawn0.step)⟩
              · rw [if_neg c13] at H
                have c13b0 : ((bt a0 (ji9)) == 46) = false := beq_eq_false_iff_ne.mpr c13
                have c13b1 : ((bt a0 (ji9)) != 46) = true := bne_iff_ne.mpr c13
                by_cases c14 : a1 = (wrap64 ((a0.size : Int) - 1))
                · rw [if_pos c14] at H
                  have c14b0 : (a1 == (wrap64 ((a0.size : Int) - 1))) = true := beq_iff_eq.mpr c14
                  have c14b1 : (a1 != (wrap64 ((a0.size : Int) - 1))) = false := bne_eq_false_iff_eq.mpr c14
                  clear c14
                  by_cases c15 : (bt a0 a1) = 45
                  · rw [if_pos c15] at H
                    have c15b0 : ((bt a0 a1) == 45) = true := beq_iff_eq.mpr c15
                    have c15b1 : ((bt a0 a1) != 45) = false := bne_eq_false_iff_eq.mpr c15
                    clear c15
                    obtain rfl := Option.some.inj H
                    have p5 : 0 ≤ (a1 : Int) := of_decide_eq_true (by first | (with_reducible assumption) | assumption)
                    have q5 : a1 < (a0.size : Int) := of_decide_eq_true (by first | (with_reducible assumption) | assumption)
                    have hx5 := bt_at a0 a1
                    replace p5 := eq_true p5
                    replace q5 := eq_true q5
                    have p12 : 0 ≤ ((ji9) : Int) := of_decide_eq_true (by first | (with_reducible assumption) | assumption)
                    have q12 : (ji9) < (a0.size : Int) := of_decide_eq_true (by first | (with_reducible assumption) | assumption)
                    have hx12 := bt_at a0 (ji9)
                    replace p12 := eq_true p12
                    replace q12 := eq_true q12
                    go_enter Tryd.func42, Tryd.ntmps42
                    go_wp2
                    go_ret
                    exact ⟨by first | rfl | (simp; done) | (simp only [← hji9] <;> (first | rfl | simp)) | (simp [*]; done), by repeat (first | exact Drawn0.refl _ | apply Drawn0.step)⟩
                  · rw [if_neg c15] at H
                    have c15b0 : ((bt a0 a1) == 45) = false := beq_eq_false_iff_ne.mpr c15
                    have c15b1 : ((bt a0 a1) != 45) = true := bne_iff_ne.mpr c15
                    obtain rfl := Option.some.inj H
                    have p5 : 0 ≤ (a1 : Int) := of_decide_eq_true (by first | (with_reducible assumption) | assumption)
                    have q5 : a1 < (a0.size : Int) := of_decide_eq_true (by first | (with_reducible assumption) | assumption)
                    have hx5 := bt_at a0 a1
                    replace p5 := eq_true p5
                    replace q5 := eq_true q5
                    have p12 : 0 ≤ ((ji9) : Int) := of_decide_eq_true (by first | (with_reducible assumption) | assumption)
                    have q12 : (ji9) < (a0.size : Int) := of_decide_eq_true (by first | (with_reducible assumption) | assumption)
                    have hx12 := bt_at a0 (ji9)
                    replace p12 := eq_true p12
                    replace q12 := eq_true q12
                    go_enter Tryd.func42, Tryd.ntmps42
                    go_wp2
                    go_ret
                    exact ⟨by first | rfl | (simp; done) | (simp only [← hji9] <;> (first | rfl | simp)) | (simp [*]; done), by repeat (first | exact Drawn0.refl _ | apply Drawn0.step)⟩
                · rw [if_neg c14] at H
                  have c14b0 : (a1 == (wrap64 ((a0.size : Int) - 1))) = false := beq_eq_false_iff_ne.mpr c14
                  have c14b1 : (a1 != (wrap64 ((a0.size : Int) - 1))) = true := bne_iff_ne.mpr c14
                  obtain rfl := Option.some.inj H
                  have p5 : 0 ≤ (a1 : Int) := of_decide_eq_true (by first | (with_reducible assumption) | assumption)
                  have q5 : a1 < (a0.size : Int) := of_decide_eq_true (by first | (with_reducible assumption) | assumption)
                  have hx5 := bt_at a0 a1
                  replace p5 := eq_true p5
                  replace q5 := eq_true q5
                  have p12 : 0 ≤ ((ji9) : Int) := of_decide_eq_true (by first | (with_reducible assumption) | assumption)
                  have q12 : (ji9) < (a0.size : Int) := of_decide_eq_true (by first | (with_reducible assumption) | assumption)
                  have hx12 := bt_at a0 (ji9)
                  replace p12 := eq_true p12
                  replace q12 := eq_true q12
                  go_enter Tryd.func42, Tryd.ntmps42
                  go_wp2
                  go_ret
                  exact ⟨by first | rfl | (simp; done) | (simp only [← hji9] <;> (first | rfl | simp)) | (simp [*]; done), by repeat (first | exact Drawn0.refl _ | apply Drawn0.step)⟩
            · rw [if_neg c11] at H
              exact absurd H (by simp)
          · rw [if_neg c10] at H
            exact absurd H (by simp)
        · rw [if_neg c8] at H
          have c8b0 : ((bt a0 a1) == 46) = false := beq_eq_false_iff_ne.mpr c8
          have c8b1 : ((bt a0 a1) != 46) = true := bne_iff_ne.mpr c8
          by_cases c16 : a1 = (wrap64 ((a0.size : Int) - 1))
          · rw [if_pos c16] at H
            have c16b0 : (a1 == (wrap64 ((a0.size : Int) - 1))) = true := beq_iff_eq.mpr c16
            have c16b1 : (a1 != (wrap64 ((a0.size : Int) - 1))) = false := bne_eq_false_iff_eq.mpr c16
            clear c16
            by_cases c17 : (bt a0 a1) = 45
            · rw [if_pos c17] at H
              have c17b0 : ((bt a0 a1) == 45) = true := beq_iff_eq.mpr c17
              have c17b1 : ((bt a0 a1) != 45) = false := bne_eq_false_iff_eq.mpr c17
              clear c17
              obtain rfl := Option.some.inj H
              have p5 : 0 ≤ (a1 : Int) := of_decide_eq_true (by first | (with_reducible assumption) | assumption)
              have q5 : a1 < (a0.size : Int) := of_decide_eq_true (by first | (with_reducible assumption) | assumption)
              have hx5 := bt_at a0 a1
              replace p5 := eq_true p5
              replace q5 := eq_true q5
              go_enter Tryd.func42, Tryd.ntmps42
              go_wp2
              go_ret
              exact ⟨by first | rfl | (simp; done) | (simp [*]; done), by repeat (first | exact Drawn0.refl _ | apply Drawn0.step)⟩
            · rw [if_neg c17] at H
              have c17b0 : ((bt a0 a1) == 45) = false := beq_eq_false_iff_ne.mpr c17
              have c17b1 : ((bt a0 a1) != 45) = true := bne_iff_ne.mpr c17
              obtain rfl := Option.some.inj H
              have p5 : 0 ≤ (a1 : Int) := of_decide_eq_true (by first | (with_reducible assumption) | assumption)
              have q5 : a1 < (a0.size : Int) := of_decide_eq_true (by first | (with_reducible assumption) | assumption)
              have hx5 := bt_at a0 a1
              replace p5 := eq_true p5
              replace q5 := eq_true q5
              go_enter Tryd.func42, Tryd.ntmps42
              go_wp2
              go_ret
              exact ⟨by first | rfl | (simp; done) | (simp [*]; done), by repeat (first | exact Drawn0.refl _ | apply Drawn0.step)⟩
          · rw [if_neg c16] at H
            have c16b0 : (a1 == (wrap64 ((a0.size : Int) - 1))) = false := beq_eq_false_iff_ne.mpr c16
            have c16b1 : (a1 != (wrap64 ((a0.size : Int) - 1))) = true := bne_iff_ne.mpr c16
            obtain rfl := Option.some.inj H
            have p5 : 0 ≤ (a1 : Int) := of_decide_eq_true (by first | (with_reducible assumption) | assumption)
            have q5 : a1 < (a0.size : Int) := of_decide_eq_true (by first | (with_reducible assumption) | assumption)
            have hx5 := bt_at a0 a1
            replace p5 := eq_true p5
            replace q5 := eq_true q5
            go_enter Tryd.func42, Tryd.ntmps42
            go_wp2
            go_ret
            exact ⟨by first | rfl | (simp; done) | (simp [*]; done), by repeat (first | exact Drawn0.refl _ | apply Drawn0.step)⟩
    · rw [if_neg c4] at H
      exact absurd H (by simp)
  · rw [if_neg c3] at H
    exact absurd H (by simp)

/-! ### msgid_Site: function 22 -/
mutual
def msgid_Site.l0 : Nat → ByteArray → Int → Int → Option (Int × Int)
  | 0, _, _, _ => none
  | k + 1, x0, x14, x15 => if x15 < x14 then (if 0 ≤ x15 then (if x15 < (x0.size : Int) then ((msgid_permitted.f (bt x0 x15)).bind fun t104 => (if t104 = true then (msgid_Site.l0 k x0 x14 (wrap64 (x15 + 1))) else (some (x15, 6)))) else (none)) else (none)) else (msgid_Site.l1 k x0 (x0.size : Int) 0)
def msgid_Site.l1 : Nat → ByteArray → Int → Int → Option (Int × Int)
  | 0, _, _, _ => none
  | k + 1, x0, x26, x27 => if x27 < x26 then ((msgid_misplaced.f x0 x27).bind fun t105 => (if t105 = true then (some (x27, 12)) else (msgid_Site.l1 k x0 x26 (wrap64 (x27 + 1))))) else (some (0, 0))
end
def msgid_Site.f (k : Nat) (a0 : ByteArray) : Option (Int × Int) := if a0.toList = ([] : List UInt8) then (some (0, 4)) else (if (a0.size : Int) > 30 then (some (30, 5)) else (msgid_Site.l0 k a0 (a0.size : Int) 0))
theorem msgid_Site.mono_l : ∀ k, (∀ y0 y1 y2, LeO (msgid_Site.l0 k y0 y1 y2) (msgid_Site.l0 (k + 1) y0 y1 y2)) ∧ (∀ y0 y1 y2, LeO (msgid_Site.l1 k y0 y1 y2) (msgid_Site.l1 (k + 1) y0 y1 y2))
  | 0 => ⟨fun _ _ _ r h => by simp [msgid_Site.l0] at h, fun _ _ _ r h => by simp [msgid_Site.l1] at h⟩
  | k + 1 => by
    obtain ⟨ih0, ih1⟩ := msgid_Site.mono_l k
    refine ⟨?_, ?_⟩
    · intro y0 y1 y2
      unfold msgid_Site.l0
      repeat' first
      | (with_reducible exact ih0 _ _ _)
      | (with_reducible exact ih1 _ _ _)
      | (with_reducible exact LeO.refl _)
      | (with_reducible exact LeO.none _)
      | (with_reducible refine LeO.ite ?_ ?_)
      | (with_reducible refine LeO.bind ?_ (fun _ => ?_))
      | exact ih0 _ _ _
      | exact ih1 _ _ _
      | exact LeO.none _
      | refine LeO.ite ?_ ?_
      | refine LeO.bind ?_ (fun _ => ?_)
    · intro y0 y1 y2
      unfold msgid_Site.l1
      repeat' first
      | (with_reducible exact ih0 _ _ _)
      | (with_reducible exact ih1 _ _ _)
      | (with_reducible exact LeO.refl _)
      | (with_reducible exact LeO.none _)
      | (with_reducible refine LeO.ite ?_ ?_)
      | (with_reducible refine LeO.bind ?_ (fun _ => ?_))
      | exact ih0 _ _ _
      | exact ih1 _ _ _
      | exact LeO.none _
      | refine LeO.ite ?_ ?_
      | refine LeO.bind ?_ (fun _ => ?_)
theorem msgid_Site.mono : ∀ a0 k, LeO (msgid_Site.f k a0) (msgid_Site.f (k + 1) a0) := by
  intro a0 k
  obtain ⟨ih0, ih1⟩ := msgid_Site.mono_l k
  unfold msgid_Site.f
  repeat' first
      | (with_reducible exact ih0 _ _ _)
      | (with_reducible exact ih1 _ _ _)
      | (with_reducible exact LeO.refl _)
      | (with_reducible exact LeO.none _)
      | (with_reducible refine LeO.ite ?_ ?_)
      | (with_reducible refine LeO.bind ?_ (fun _ => ?_))
      | exact ih0 _ _ _
      | exact ih1 _ _ _
      | exact LeO.none _
      | refine LeO.ite ?_ ?_
      | refine LeO.bind ?_ (fun _ => ?_)
set_option maxHeartbeats 8000000 in
set_option maxRecDepth 100000 in
theorem msgid_Site.calls (k : Nat) (a0 : ByteArray) (r1 : Int) (r2 : Int) (w : World) (h : msgid_Site.f k a0 = some (r1, r2)) :
    Calls Tryd.prog 22 #[.string a0] w fun e w' => e = .returned (.tuple #[.int .i64 r1, .int .i64 r2]) ∧ Drawn0 w w' := by
  have H : (if a0.toList = ([] : List UInt8) then (some (0, 4)) else (if (a0.size : Int) > 30 then (some (30, 5)) else (msgid_Site.l0 k a0 (a0.size : Int) 0))) = some (r1, r2) := h
  clear h
  by_cases c2 : a0.toList = ([] : List UInt8)
  · rw [if_pos c2] at H
    have c2b0 : (a0.toList == ([] : List UInt8)) = true := beq_iff_eq.mpr c2
    have c2b1 : (a0.toList != ([] : List UInt8)) = false := bne_eq_false_iff_eq.mpr c2
    clear c2
    simp only [Option.some.injEq, Prod.mk.injEq] at H
    obtain ⟨rfl, rfl⟩ := H
    go_enter Tryd.func22, Tryd.ntmps22
    go_wp2
    go_ret2
    exact ⟨by first | rfl | (simp; done) | (simp [*]; done), by repeat (first | exact Drawn0.refl _ | apply Drawn0.step)⟩
  · rw [if_neg c2] at H
    have c2b0 : (a0.toList == ([] : List UInt8)) = false := beq_eq_false_iff_ne.mpr c2
    have c2b1 : (a0.toList != ([] : List UInt8)) = true := bne_iff_ne.mpr c2
    by_cases c3 : (a0.size : Int) > 30
    · rw [if_pos c3] at H
      have c3b0 : decide (30 < (a0.size : Int)) = true := decide_eq_true c3
      have c3b1 : decide (30 < a0.size) = true := decide_eq_true (by omega)
      clear c3
      simp only [Option.some.injEq, Prod.mk.injEq] at H
      obtain ⟨rfl, rfl⟩ := H
      go_enter Tryd.func22, Tryd.ntmps22
      go_wp2
      go_ret2
      exact ⟨by first | rfl | (simp; done) | (simp [*]; done), by repeat (first | exact Drawn0.refl _ | apply Drawn0.step)⟩
    · rw [if_neg c3] at H
      have c3b0 : decide (30 < (a0.size : Int)) = false := decide_eq_false c3
      have c3b1 : decide (30 < a0.size) = false := decide_eq_false (by omega)
      clear c3
      have H' := Aside0.mk H
      clear H
      go_enter Tryd.func22, Tryd.ntmps22
      go_wp2
      go_loopg [15] k (fun kq v15 w' => ∃ (x15_1 : Int), v15 = .int .i64 x15_1 ∧ Aside0 (msgid_Site.l0 kq a0 (a0.size : Int) x15_1 = some (r1, r2)) ∧ Aside0 (kq ≤ k) ∧ Drawn0 w w')
      case atStart => exact ⟨(0), (by first | rfl | (simp; done) | (simp [*]; done)), H', ⟨Nat.le_refl _⟩, by repeat (first | exact Drawn0.refl _ | apply Drawn0.step)⟩
      case round =>
        clear H'
        try clear c2
        try clear c2b0
        try clear c2b1
        try clear p2
        try clear c3
        try clear c3b0
        try clear c3b1
        obtain ⟨x15_1, rfl, HA, HK1, ⟨m1, rfl⟩⟩ := hrel
        cases gk with
        | zero => exact absurd HA.out (by simp [msgid_Site.l0])
        | succ k1 =>
          have H := HA.out
          clear HA
          simp only [msgid_Site.l0] at H
          by_cases c4 : x15_1 < (a0.size : Int)
          · rw [if_pos c4] at H
            have c4b0 : decide (x15_1 < (a0.size : Int)) = true := decide_eq_true c4
            clear c4
            by_cases c5 : 0 ≤ x15_1
            · rw [if_pos c5] at H
              have c5b0 : decide (0 ≤ x15_1) = true := decide_eq_true c5
              clear c5
              by_cases c6 : x15_1 < (a0.size : Int)
              · rw [if_pos c6] at H
                have c6b0 : decide (x15_1 < (a0.size : Int)) = true := decide_eq_true c6
                clear c6
                replace H := Option.bind_eq_some_iff.mp H
                obtain ⟨t104, A80, H⟩ := H
                replace H : (if t104 = true then (msgid_Site.l0 k1 a0 (a0.size : Int) (wrap64 (x15_1 + 1))) else (some (x15_1, 6))) = some (r1, r2) := H
                have A8 := Aside0.mk A80
                clear A80
                by_cases c9 : t104 = true
                · subst c9
                  have H1 : (msgid_Site.l0 k1 a0 (a0.size : Int) (wrap64 (x15_1 + 1))) = some (r1, r2) := by rw [if_pos rfl] at H; exact H
                  clear H
                  have H := H1
                  clear H1
                  have H' := Aside0.mk H
                  clear H
                  have p7 : 0 ≤ (x15_1 : Int) := of_decide_eq_true (by first | (with_reducible assumption) | assumption)
                  have q7 : x15_1 < (a0.size : Int) := of_decide_eq_true (by first | (with_reducible assumption) | assumption)
                  have hx7 := bt_at a0 x15_1
                  replace p7 := eq_true p7
                  replace q7 := eq_true q7
                  go_wp2_with (first | ((with_reducible refine gate_callee (f := 41) rfl ?_); refine goesL_ (some 21) rfl rfl Tryd.func41 (by kernel_rfl) rfl #[.int .u8 (bt a0 x15_1)] rfl (by (try simp only [List.map_toArray, List.map_cons, List.map_nil]); first | done | rfl | (simp only [List.length_drop, List.length_take]; rfl)) ?_; (with_reducible refine (msgid_permitted.calls (bt a0 x15_1) true _ A8.out).mono ?_); rintro e w' ⟨rfl, ⟨nd, rfl⟩⟩; refine ⟨_, rfl, ?_⟩))
                  go_roundg k1
                  case measure => have := HK1.out; omega
                  case rel => exact ⟨(wrap64 (x15_1 + 1)), (by first | rfl | (simp; done) | (simp [*]; done)), H', ⟨by have := HK1.out; omega⟩, by repeat (first | exact Drawn0.refl _ | apply Drawn0.step)⟩
                · replace c9 := Bool.eq_false_iff.mpr c9
                  subst c9
                  have H1 : (some (x15_1, 6)) = some (r1, r2) := by rw [if_neg (show ¬ (false = true) by decide)] at H; exact H
                  clear H
                  have H := H1
                  clear H1
                  simp only [Option.some.injEq, Prod.mk.injEq] at H
                  obtain ⟨rfl, rfl⟩ := H
                  have p7 : 0 ≤ (x15_1 : Int) := of_decide_eq_true (by first | (with_reducible assumption) | assumption)
                  have q7 : x15_1 < (a0.size : Int) := of_decide_eq_true (by first | (with_reducible assumption) | assumption)
                  have hx7 := bt_at a0 x15_1
                  replace p7 := eq_true p7
                  replace q7 := eq_true q7
                  go_wp2_with (first | ((with_reducible refine gate_callee (f := 41) rfl ?_); refine goesL_ (some 21) rfl rfl Tryd.func41 (by kernel_rfl) rfl #[.int .u8 (bt a0 x15_1)] rfl (by (try simp only [List.map_toArray, List.map_cons, List.map_nil]); first | done | rfl | (simp only [List.length_drop, List.length_take]; rfl)) ?_; (with_reducible refine (msgid_permitted.calls (bt a0 x15_1) false _ A8.out).mono ?_); rintro e w' ⟨rfl, ⟨nd, rfl⟩⟩; refine ⟨_, rfl, ?_⟩))
                  go_ret2
                  exact ⟨by first | rfl | (simp; done) | (simp [*]; done), by repeat (first | exact Drawn0.refl _ | apply Drawn0.step)⟩
              · rw [if_neg c6] at H
                exact absurd H (by simp)
            · rw [if_neg c5] at H
              exact absurd H (by simp)
          · rw [if_neg c4] at H
            have c4b0 : decide (x15_1 < (a0.size : Int)) = false := decide_eq_false c4
            clear c4
            have H' := Aside0.mk H
            clear H
            go_wp2
            go_loopg [27] k1 (fun kq v27 w' => ∃ (x27_2 : Int), v27 = .int .i64 x27_2 ∧ Aside0 (msgid_Site.l1 kq a0 (a0.size : Int) x27_2 = some (r1, r2)) ∧ Aside0 (kq ≤ k1) ∧ Drawn0 w w')
            case atStart => exact ⟨(0), (by first | rfl | (simp; done) | (simp [*]; done)), H', ⟨Nat.le_refl _⟩, by repeat (first | exact Drawn0.refl _ | apply Drawn0.step)⟩
            case round =>
              clear H'
              try clear c2
              try clear c2b0
              try clear c2b1
              try clear p2
              try clear c3
              try clear c3b0
              try clear c3b1
              try clear c4
              try clear c4b0
              try clear c5
              try clear c5b0
              try clear c6
              try clear c6b0
              try clear p6
              try clear p7
              try clear q7
              try clear hx7
              try clear c9
              try clear p2
              try clear p7
              try clear q7
              obtain ⟨x27_2, rfl, HA, HK2, ⟨m2, rfl⟩⟩ := hrel
              cases gk with
              | zero => exact absurd HA.out (by simp [msgid_Site.l1])
              | succ k2 =>
                have H := HA.out
                clear HA
                simp only [msgid_Site.l1] at H
                by_cases c10 : x27_2 < (a0.size : Int)
                · rw [if_pos c10] at H
                  have c10b0 : decide (x27_2 < (a0.size : Int)) = true := decide_eq_true c10
                  clear c10
                  replace H := Option.bind_eq_some_iff.mp H
                  obtain ⟨t105, A110, H⟩ := H
                  replace H : (if t105 = true then (some (x27_2, 12)) else (msgid_Site.l1 k2 a0 (a0.size : Int) (wrap64 (x27_2 + 1)))) = some (r1, r2) := H
                  have A11 := Aside0.mk A110
                  clear A110
                  by_cases c12 : t105 = true
                  · subst c12
                    have H1 : (some (x27_2, 12)) = some (r1, r2) := by rw [if_pos rfl] at H; exact H
                    clear H
                    have H := H1
                    clear H1
                    simp only [Option.some.injEq, Prod.mk.injEq] at H
                    obtain ⟨rfl, rfl⟩ := H
                    go_wp2_with (first | ((with_reducible refine gate_callee (f := 42) rfl ?_); refine goesL_ (some 32) rfl rfl Tryd.func42 (by kernel_rfl) rfl #[.string a0, .int .i64 x27_2] rfl (by (try simp only [List.map_toArray, List.map_cons, List.map_nil]); first | done | rfl | (simp only [List.length_drop, List.length_take]; rfl)) ?_; (with_reducible refine (msgid_misplaced.calls a0 x27_2 true _ A11.out).mono ?_); rintro e w' ⟨rfl, ⟨nd, rfl⟩⟩; refine ⟨_, rfl, ?_⟩))
                    go_ret2
                    exact ⟨by first | rfl | (simp; done) | (simp [*]; done), by repeat (first | exact Drawn0.refl _ | apply Drawn0.step)⟩
                  · replace c12 := Bool.eq_false_iff.mpr c12
                    subst c12
                    have H1 : (msgid_Site.l1 k2 a0 (a0.size : Int) (wrap64 (x27_2 + 1))) = some (r1, r2) := by rw [if_neg (show ¬ (false = true) by decide)] at H; exact H
                    clear H
                    have H := H1
                    clear H1
                    have H' := Aside0.mk H
                    clear H
                    go_wp2_with (first | ((with_reducible refine gate_callee (f := 42) rfl ?_); refine goesL_ (some 32) rfl rfl Tryd.func42 (by kernel_rfl) rfl #[.string a0, .int .i64 x27_2] rfl (by (try simp only [List.map_toArray, List.map_cons, List.map_nil]); first | done | rfl | (simp only [List.length_drop, List.length_take]; rfl)) ?_; (with_reducible refine (msgid_misplaced.calls a0 x27_2 false _ A11.out).mono ?_); rintro e w' ⟨rfl, ⟨nd, rfl⟩⟩; refine ⟨_, rfl, ?_⟩))
                    go_roundg k2
                    case measure => have := HK1.out; have := HK2.out; omega
                    case rel => exact ⟨(wrap64 (x27_2 + 1)), (by first | rfl | (simp; done) | (simp [*]; done)), H', ⟨by have := HK1.out; have := HK2.out; omega⟩, by repeat (first | exact Drawn0.refl _ | apply Drawn0.step)⟩
                · rw [if_neg c10] at H
                  have c10b0 : decide (x27_2 < (a0.size : Int)) = false := decide_eq_false c10
                  clear c10
                  simp only [Option.some.injEq, Prod.mk.injEq] at H
                  obtain ⟨rfl, rfl⟩ := H
                  go_wp2
                  go_ret2
                  exact ⟨by first | rfl | (simp; done) | (simp [*]; done), by repeat (first | exact Drawn0.refl _ | apply Drawn0.step)⟩

end Go.Proofs.YtfgadmiencgmgaaDoor.PSite
