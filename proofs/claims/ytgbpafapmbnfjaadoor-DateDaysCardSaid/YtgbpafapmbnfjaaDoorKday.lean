/- DateDays, walked -/
import Derived.Test.YtgbpafapmbnfjaaDoorKn
namespace Go.Proofs
open Go.RowKit Go.Shelf
set_option linter.unusedVariables false
set_option linter.unusedSimpArgs false
open TK
set_option maxRecDepth 100000 in
set_option maxHeartbeats 2000000 in
theorem Tryd.kDays (t d : Int) (ht : -9223372036854775808 ≤ t ∧ t ≤ 9223372036854775807) (hd : -9223372036854775808 ≤ d ∧ d ≤ 9223372036854775807) (w : World) (hT : Tabs w) : Calls Tryd.prog 9 #[.int .i64 t, .int .i64 d] w fun e w' => e = .returned (.bool true) ∧ Below w.heap.size w w' := by
  have hT0 := Lib.hid hT
  have hB0 := Lib.hid (Below.refl w.heap.size w)
  clear hT
  have f1 := Tryd.dFormatDay d
  have f2 := Tryd.qFormatDay d
  unfold dtv at f1 f2
  generalize dtx d = s1 at f1 f2
  generalize dte d = e1 at f1 f2
  have f3 := Tryd.dWeekday t
  have f4 := Tryd.dDay t
  have f5 := Tryd.qValid t
  have F1 := Lib.hid f1
  have F2 := Lib.hid f2
  clear f1 f2
  cases hv : Cal.valid t
  · rw [hv] at f3 f4 f5
    rw [if_neg (by decide)] at f3 f4
    have F3 := Lib.hid f3
    have F4 := Lib.hid f4
    have F5 := Lib.hid f5
    clear f3 f4 f5 hv
    go_enter Tryd.func9, Tryd.ntmps9
    go_wp2_with fail
    refine (Tryd.kKnown _ hT0.out).mono ?_
    rintro e W1 ⟨rfl, hb⟩
    have hT1 := Lib.hid (hT0.out.below hb)
    have hB1 := Lib.hid (hB0.out.trans (hb.mono hB0.out.size))
    clear hb hT0 hB0
    go_wp2_with fail
    refine (F1.out _ hT1.out).mono ?_
    rintro e W2 ⟨rfl, hb⟩
    have hT2 := Lib.hid (hT1.out.below hb)
    have hB2 := Lib.hid (hB1.out.trans (hb.mono hB1.out.size))
    clear hb hT1 hB1
    go_wp2_with fail
    refine (F2.out _).mono ?_
    rintro e W3 ⟨rfl, hb⟩
    have hT3 := Lib.hid (hT2.out.below hb)
    have hB3 := Lib.hid (hB2.out.trans (hb.mono hB2.out.size))
    clear hb hT2 hB2
    go_wp2_with fail
    refine (F3.out _).mono ?_
    rintro e w9 ⟨rfl, hw9⟩
    rw [hw9]
    clear hw9 w9
    go_wp2_with fail
    refine (F4.out _).mono ?_
    rintro e w9 ⟨rfl, hw9⟩
    rw [hw9]
    clear hw9 w9
    go_wp2_with fail
    refine (F5.out _).mono ?_
    rintro e w9 ⟨rfl, hw9⟩
    rw [hw9]
    clear hw9 w9
    go_wp2_with fail
    go_ret
    exact ⟨by first | rfl | (simp; done), hB3.out⟩
  · rw [hv] at f3 f4 f5
    rw [if_pos rfl] at f3 f4
    obtain ⟨t0, t1⟩ := Cal.valid_iff.1 hv
    have f6 := Tryd.qWeekday t t0 (by omega)
    have f7 := Tryd.dWeekday (t + 1440)
    have f8 := Tryd.qValid (t + 1440)
    have hw0 : 0 ≤ Cal.wd t ∧ Cal.wd t < 7 := by unfold Cal.wd; omega
    have hw1 : Cal.wd (t + 1440) = (Cal.wd t + 1) % 7 := by unfold Cal.wd; omega
    have htd : t.tdiv 1440 = t / 1440 := Int.tdiv_eq_ediv_of_nonneg t0
    have hu : IntKind.i64.wrap (t + 1440) = t + 1440 := IntWalk.i64_in _ (by omega)
    generalize Cal.wd t = wt at f3 f6 hw0 hw1
    have hu2 : IntKind.i64.wrap (wt + 1) = wt + 1 := IntWalk.i64_in _ (by omega)
    have F3 := Lib.hid f3
    have F4 := Lib.hid f4
    have F5 := Lib.hid f5
    have F6 := Lib.hid f6
    clear f3 f4 f5 f6 hv
    cases hv2 : Cal.valid (t + 1440)
    · rw [hv2] at f7 f8
      rw [if_neg (by decide)] at f7
      have F7 := Lib.hid f7
      have F8 := Lib.hid f8
      clear f7 f8 hv2
      clear hw1
      go_enter Tryd.func9, Tryd.ntmps9
      go_wp2_with fail
      refine (Tryd.kKnown _ hT0.out).mono ?_
      rintro e W1 ⟨rfl, hb⟩
      have hT1 := Lib.hid (hT0.out.below hb)
      have hB1 := Lib.hid (hB0.out.trans (hb.mono hB0.out.size))
      clear hb hT0 hB0
      go_wp2_with fail
      refine (F1.out _ hT1.out).mono ?_
      rintro e W2 ⟨rfl, hb⟩
      have hT2 := Lib.hid (hT1.out.below hb)
      have hB2 := Lib.hid (hB1.out.trans (hb.mono hB1.out.size))
      clear hb hT1 hB1
      go_wp2_with fail
      refine (F2.out _).mono ?_
      rintro e W3 ⟨rfl, hb⟩
      have hT3 := Lib.hid (hT2.out.below hb)
      have hB3 := Lib.hid (hB2.out.trans (hb.mono hB2.out.size))
      clear hb hT2 hB2
      go_wp2_with fail
      refine (F3.out _).mono ?_
      rintro e w9 ⟨rfl, hw9⟩
      rw [hw9]
      clear hw9 w9
      go_wp2_with fail
      refine (F4.out _).mono ?_
      rintro e w9 ⟨rfl, hw9⟩
      rw [hw9]
      clear hw9 w9
      go_wp2_with fail
      refine (F5.out _).mono ?_
      rintro e w9 ⟨rfl, hw9⟩
      rw [hw9]
      clear hw9 w9
      go_wp2_with fail
      refine (F6.out _).mono ?_
      rintro e w9 ⟨rfl, hw9⟩
      rw [hw9]
      clear hw9 w9
      go_wp2_with fail
      refine (F7.out _).mono ?_
      rintro e w9 ⟨rfl, hw9⟩
      rw [hw9]
      clear hw9 w9
      go_wp2_with fail
      refine (F8.out _).mono ?_
      rintro e w9 ⟨rfl, hw9⟩
      rw [hw9]
      clear hw9 w9
      go_wp2_with fail
      go_ret
      exact ⟨by first | rfl | (simp; done), hB3.out⟩
    · rw [hv2] at f7 f8
      rw [if_pos rfl] at f7
      have F7 := Lib.hid f7
      have F8 := Lib.hid f8
      clear f7 f8 hv2
      rw [hw1] at F7
      clear hw1
      go_enter Tryd.func9, Tryd.ntmps9
      go_wp2_with fail
      refine (Tryd.kKnown _ hT0.out).mono ?_
      rintro e W1 ⟨rfl, hb⟩
      have hT1 := Lib.hid (hT0.out.below hb)
      have hB1 := Lib.hid (hB0.out.trans (hb.mono hB0.out.size))
      clear hb hT0 hB0
      go_wp2_with fail
      refine (F1.out _ hT1.out).mono ?_
      rintro e W2 ⟨rfl, hb⟩
      have hT2 := Lib.hid (hT1.out.below hb)
      have hB2 := Lib.hid (hB1.out.trans (hb.mono hB1.out.size))
      clear hb hT1 hB1
      go_wp2_with fail
      refine (F2.out _).mono ?_
      rintro e W3 ⟨rfl, hb⟩
      have hT3 := Lib.hid (hT2.out.below hb)
      have hB3 := Lib.hid (hB2.out.trans (hb.mono hB2.out.size))
      clear hb hT2 hB2
      go_wp2_with fail
      refine (F3.out _).mono ?_
      rintro e w9 ⟨rfl, hw9⟩
      rw [hw9]
      clear hw9 w9
      go_wp2_with fail
      refine (F4.out _).mono ?_
      rintro e w9 ⟨rfl, hw9⟩
      rw [hw9]
      clear hw9 w9
      go_wp2_with fail
      refine (F5.out _).mono ?_
      rintro e w9 ⟨rfl, hw9⟩
      rw [hw9]
      clear hw9 w9
      go_wp2_with fail
      refine (F6.out _).mono ?_
      rintro e w9 ⟨rfl, hw9⟩
      rw [hw9]
      clear hw9 w9
      go_wp2_with fail
      refine (F7.out _).mono ?_
      rintro e w9 ⟨rfl, hw9⟩
      rw [hw9]
      clear hw9 w9
      go_wp2_with fail
      refine (F8.out _).mono ?_
      rintro e w9 ⟨rfl, hw9⟩
      rw [hw9]
      clear hw9 w9
      go_wp2_with fail
      go_ret
      exact ⟨by first | rfl | (simp; done), hB3.out⟩
end Go.Proofs
