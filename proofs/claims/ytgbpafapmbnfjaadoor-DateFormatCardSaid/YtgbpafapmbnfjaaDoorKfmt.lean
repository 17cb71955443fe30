/- DateFormat, walked -/
import Derived.Test.YtgbpafapmbnfjaaDoorKn
namespace Go.Proofs
open Go.RowKit Go.Shelf
set_option linter.unusedVariables false
set_option linter.unusedSimpArgs false
open TK
set_option maxRecDepth 100000 in
set_option maxHeartbeats 2000000 in
theorem Tryd.kFormat (t off : Int) (hoff : -9223372036854775808 ≤ off ∧ off ≤ 9223372036854775807) (w : World) (hT : Tabs w) : Calls Tryd.prog 5 #[.int .i64 t, .int .i64 off] w fun e w' => e = .returned (.bool true) ∧ Below w.heap.size w w' := by
  have hT0 := Lib.hid hT
  have hB0 := Lib.hid (Below.refl w.heap.size w)
  clear hT
  have f1 := Tryd.dFormat t
  have f2 := Tryd.qFormatZone t 0 ⟨by omega, by omega⟩
  have f3 := Tryd.dFormatZone t off hoff
  have f4 := Tryd.qFormatZone t off hoff
  rw [fzv_eq] at f1 f2 f3 f4
  have hbig : (off < -100000 ∨ 100000 < off) → fzs t off = ⟨#[]⟩ ∧ fze t off = 2 := fun h => by
    have h0 : okz t off = false := by
      unfold okz
      rw [show decide (off ≤ 840) = decide (off ≤ 840) from rfl]
      by_cases h1 : off ≤ 840
      · rw [decide_eq_false (show ¬ (-840 ≤ off) by omega)]; simp
      · rw [decide_eq_false h1]; simp
    unfold fzs fze
    rw [h0]
    exact ⟨rfl, rfl⟩
  generalize fzs t 0 = s1 at f1 f2
  generalize fze t 0 = e1 at f1 f2
  generalize fzs t off = s2 at f3 f4 hbig
  generalize fze t off = e2 at f3 f4 hbig
  have hbig' := fun (_ : Unit) => hbig
  clear hbig
  have F1 := Lib.hid f1
  have F2 := Lib.hid f2
  have F3 := Lib.hid f3
  have F4 := Lib.hid f4
  clear f1 f2 f3 f4
  by_cases hb : off < -100000 ∨ 100000 < off
  · obtain ⟨rfl, rfl⟩ := hbig' () hb
    clear hbig'
    have g1 : (decide (off < -100000) || decide (100000 < off)) = true := by simpa using hb
    by_cases hb1 : off < -100000
    · have g2 : decide (off < -100000) = true := decide_eq_true hb1
      go_enter Tryd.func5, Tryd.ntmps5
      go_wp2_with fail
      refine (Tryd.kKnown _ hT0.out).mono ?_
      rintro e W1 ⟨rfl, hb⟩
      have hT1 := Lib.hid (hT0.out.below hb)
      have hB1 := Lib.hid (hB0.out.trans (hb.mono hB0.out.size))
      clear hb hT0 hB0
      go_wp2_with fail
      refine (F1.out _ hT1.out).mono ?_
      rintro e W2 ⟨rfl, hb⟩
      have hT2 := Lib.hid (hT1.out.below hb)
      have hB2 := Lib.hid (hB1.out.trans (hb.mono hB1.out.size))
      clear hb hT1 hB1
      go_wp2_with fail
      refine (F2.out _).mono ?_
      rintro e W3 ⟨rfl, hb⟩
      have hT3 := Lib.hid (hT2.out.below hb)
      have hB3 := Lib.hid (hB2.out.trans (hb.mono hB2.out.size))
      clear hb hT2 hB2
      go_wp2_with fail
      refine (F3.out _ hT3.out).mono ?_
      rintro e W4 ⟨rfl, hb⟩
      have hT4 := Lib.hid (hT3.out.below hb)
      have hB4 := Lib.hid (hB3.out.trans (hb.mono hB3.out.size))
      clear hb hT3 hB3
      go_wp2_with fail
      go_ret
      exact ⟨by first | rfl | (simp; done), hB4.out⟩
    · have g2 : decide (off < -100000) = false := decide_eq_false hb1
      have g3 : decide (100000 < off) = true := decide_eq_true (by omega)
      go_enter Tryd.func5, Tryd.ntmps5
      go_wp2_with fail
      refine (Tryd.kKnown _ hT0.out).mono ?_
      rintro e W1 ⟨rfl, hb⟩
      have hT1 := Lib.hid (hT0.out.below hb)
      have hB1 := Lib.hid (hB0.out.trans (hb.mono hB0.out.size))
      clear hb hT0 hB0
      go_wp2_with fail
      refine (F1.out _ hT1.out).mono ?_
      rintro e W2 ⟨rfl, hb⟩
      have hT2 := Lib.hid (hT1.out.below hb)
      have hB2 := Lib.hid (hB1.out.trans (hb.mono hB1.out.size))
      clear hb hT1 hB1
      go_wp2_with fail
      refine (F2.out _).mono ?_
      rintro e W3 ⟨rfl, hb⟩
      have hT3 := Lib.hid (hT2.out.below hb)
      have hB3 := Lib.hid (hB2.out.trans (hb.mono hB2.out.size))
      clear hb hT2 hB2
      go_wp2_with fail
      refine (F3.out _ hT3.out).mono ?_
      rintro e W4 ⟨rfl, hb⟩
      have hT4 := Lib.hid (hT3.out.below hb)
      have hB4 := Lib.hid (hB3.out.trans (hb.mono hB3.out.size))
      clear hb hT3 hB3
      go_wp2_with fail
      go_ret
      exact ⟨by first | rfl | (simp; done), hB4.out⟩
  · have g2 : decide (off < -100000) = false := decide_eq_false (by omega)
    have g3 : decide (100000 < off) = false := decide_eq_false (by omega)
    go_enter Tryd.func5, Tryd.ntmps5
    go_wp2_with fail
    refine (Tryd.kKnown _ hT0.out).mono ?_
    rintro e W1 ⟨rfl, hb⟩
    have hT1 := Lib.hid (hT0.out.below hb)
    have hB1 := Lib.hid (hB0.out.trans (hb.mono hB0.out.size))
    clear hb hT0 hB0
    go_wp2_with fail
    refine (F1.out _ hT1.out).mono ?_
    rintro e W2 ⟨rfl, hb⟩
    have hT2 := Lib.hid (hT1.out.below hb)
    have hB2 := Lib.hid (hB1.out.trans (hb.mono hB1.out.size))
    clear hb hT1 hB1
    go_wp2_with fail
    refine (F2.out _).mono ?_
    rintro e W3 ⟨rfl, hb⟩
    have hT3 := Lib.hid (hT2.out.below hb)
    have hB3 := Lib.hid (hB2.out.trans (hb.mono hB2.out.size))
    clear hb hT2 hB2
    go_wp2_with fail
    refine (F3.out _ hT3.out).mono ?_
    rintro e W4 ⟨rfl, hb⟩
    have hT4 := Lib.hid (hT3.out.below hb)
    have hB4 := Lib.hid (hB3.out.trans (hb.mono hB3.out.size))
    clear hb hT3 hB3
    go_wp2_with fail
    refine (F4.out _).mono ?_
    rintro e W5 ⟨rfl, hb⟩
    have hT5 := Lib.hid (hT4.out.below hb)
    have hB5 := Lib.hid (hB4.out.trans (hb.mono hB4.out.size))
    clear hb hT4 hB4
    go_wp2_with fail
    go_ret
    exact ⟨by first | rfl | (simp; done), hB5.out⟩
end Go.Proofs
