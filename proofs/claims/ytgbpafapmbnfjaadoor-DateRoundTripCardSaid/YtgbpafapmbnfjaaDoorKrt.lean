/- DateRoundTrip, walked -/
import Derived.Test.YtgbpafapmbnfjaaDoorKn
import Derived.Test.YtgbpafapmbnfjaaDoorRv
namespace Go.Proofs
open Go.RowKit Go.Shelf
set_option linter.unusedVariables false
set_option linter.unusedSimpArgs false
open TK
set_option maxRecDepth 100000 in
set_option maxHeartbeats 2000000 in
theorem Tryd.kRoundTrip (t off : Int) (ht : -9223372036854775808 ≤ t ∧ t ≤ 9223372036854775807) (hoff : -9223372036854775808 ≤ off ∧ off ≤ 9223372036854775807) (w : World) (hT : Tabs w) : Calls Tryd.prog 7 #[.int .i64 t, .int .i64 off] w fun e w' => e = .returned (.bool true) ∧ Below w.heap.size w w' := by
  have hT0 := Lib.hid hT
  have hB0 := Lib.hid (Below.refl w.heap.size w)
  clear hT
  have f1 := Tryd.dFormat t
  rw [fzv_eq] at f1
  cases h0 : okz t 0
  · have s1 : fzs t 0 = ⟨#[]⟩ := by unfold fzs; rw [h0]; rfl
    have e1 : fze t 0 = 2 := by unfold fze; rw [h0]; rfl
    rw [s1, e1] at f1
    have F1 := Lib.hid f1
    clear f1 s1 e1 h0
    go_enter Tryd.func7, Tryd.ntmps7
    go_wp2_with fail
    refine (Tryd.kKnown _ hT0.out).mono ?_
    rintro e W1 ⟨rfl, hb⟩
    have hT1 := Lib.hid (hT0.out.below hb)
    have hB1 := Lib.hid (hB0.out.trans (hb.mono hB0.out.size))
    clear hb hT0 hB0
    go_wp2_with fail
    refine (F1.out _ hT1.out).mono ?_
    rintro e W2 ⟨rfl, hb⟩
    have hT2 := Lib.hid (hT1.out.below hb)
    have hB2 := Lib.hid (hB1.out.trans (hb.mono hB1.out.size))
    clear hb hT1 hB1
    go_wp2_with fail
    go_ret
    exact ⟨by first | rfl | (simp; done), hB2.out⟩
  · have e1 : fze t 0 = 0 := by unfold fze; rw [h0]; rfl
    have p1 := Tryd.dParse (fzs t 0) (fzs_size t 0)
    unfold parsev at p1
    rw [parse_fzs h0] at p1
    have c1 := Tryd.dIsCanonical (fzs t 0) (fzs_size t 0)
    rw [canon_fzs h0] at c1
    rw [e1] at f1
    generalize fzs t 0 = S1 at f1 p1 c1
    have F1 := Lib.hid f1
    have P1 := Lib.hid p1
    have C1 := Lib.hid c1
    have f2 := Tryd.dFormatZone t off hoff
    rw [fzv_eq] at f2
    clear f1 p1 c1 e1 h0
    cases h2 : okz t off
    · have s1 : fzs t off = ⟨#[]⟩ := by unfold fzs; rw [h2]; rfl
      have e2 : fze t off = 2 := by unfold fze; rw [h2]; rfl
      rw [s1, e2] at f2
      have F2 := Lib.hid f2
      clear f2 s1 e2 h2
      go_enter Tryd.func7, Tryd.ntmps7
      go_wp2_with fail
      refine (Tryd.kKnown _ hT0.out).mono ?_
      rintro e W1 ⟨rfl, hb⟩
      have hT1 := Lib.hid (hT0.out.below hb)
      have hB1 := Lib.hid (hB0.out.trans (hb.mono hB0.out.size))
      clear hb hT0 hB0
      go_wp2_with fail
      refine (F1.out _ hT1.out).mono ?_
      rintro e W2 ⟨rfl, hb⟩
      have hT2 := Lib.hid (hT1.out.below hb)
      have hB2 := Lib.hid (hB1.out.trans (hb.mono hB1.out.size))
      clear hb hT1 hB1
      go_wp2_with fail
      refine (P1.out _ hT2.out).mono ?_
      rintro e W3 ⟨rfl, hb⟩
      have hT3 := Lib.hid (hT2.out.below hb)
      have hB3 := Lib.hid (hB2.out.trans (hb.mono hB2.out.size))
      clear hb hT2 hB2
      go_wp2_with fail
      refine (C1.out _ hT3.out).mono ?_
      rintro e W4 ⟨rfl, hb⟩
      have hT4 := Lib.hid (hT3.out.below hb)
      have hB4 := Lib.hid (hB3.out.trans (hb.mono hB3.out.size))
      clear hb hT3 hB3
      go_wp2_with fail
      refine (F2.out _ hT4.out).mono ?_
      rintro e W5 ⟨rfl, hb⟩
      have hT5 := Lib.hid (hT4.out.below hb)
      have hB5 := Lib.hid (hB4.out.trans (hb.mono hB4.out.size))
      clear hb hT4 hB4
      go_wp2_with fail
      go_ret
      exact ⟨by first | rfl | (simp; done), hB5.out⟩
    · have e2 : fze t off = 0 := by unfold fze; rw [h2]; rfl
      have p2 := Tryd.dParse (fzs t off) (fzs_size t off)
      unfold parsev at p2
      rw [parse_fzs h2] at p2
      have c2 := Tryd.dIsCanonical (fzs t off) (fzs_size t off)
      rw [canon_fzs h2] at c2
      rw [e2] at f2
      generalize fzs t off = S2 at f2 p2 c2
      obtain ⟨z, hz, hz2⟩ : ∃ z, decide (off = 0) = z ∧ (off == 0) = z := ⟨_, rfl, by rw [Bool.eq_iff_iff]; simp⟩
      rw [hz] at c2
      have F2 := Lib.hid f2
      have P2 := Lib.hid p2
      have C2 := Lib.hid c2
      clear f2 p2 c2 e2 h2 hz
      go_enter Tryd.func7, Tryd.ntmps7
      go_wp2_with fail
      refine (Tryd.kKnown _ hT0.out).mono ?_
      rintro e W1 ⟨rfl, hb⟩
      have hT1 := Lib.hid (hT0.out.below hb)
      have hB1 := Lib.hid (hB0.out.trans (hb.mono hB0.out.size))
      clear hb hT0 hB0
      go_wp2_with fail
      refine (F1.out _ hT1.out).mono ?_
      rintro e W2 ⟨rfl, hb⟩
      have hT2 := Lib.hid (hT1.out.below hb)
      have hB2 := Lib.hid (hB1.out.trans (hb.mono hB1.out.size))
      clear hb hT1 hB1
      go_wp2_with fail
      refine (P1.out _ hT2.out).mono ?_
      rintro e W3 ⟨rfl, hb⟩
      have hT3 := Lib.hid (hT2.out.below hb)
      have hB3 := Lib.hid (hB2.out.trans (hb.mono hB2.out.size))
      clear hb hT2 hB2
      go_wp2_with fail
      refine (C1.out _ hT3.out).mono ?_
      rintro e W4 ⟨rfl, hb⟩
      have hT4 := Lib.hid (hT3.out.below hb)
      have hB4 := Lib.hid (hB3.out.trans (hb.mono hB3.out.size))
      clear hb hT3 hB3
      go_wp2_with fail
      refine (F2.out _ hT4.out).mono ?_
      rintro e W5 ⟨rfl, hb⟩
      have hT5 := Lib.hid (hT4.out.below hb)
      have hB5 := Lib.hid (hB4.out.trans (hb.mono hB4.out.size))
      clear hb hT4 hB4
      go_wp2_with fail
      refine (P2.out _ hT5.out).mono ?_
      rintro e W6 ⟨rfl, hb⟩
      have hT6 := Lib.hid (hT5.out.below hb)
      have hB6 := Lib.hid (hB5.out.trans (hb.mono hB5.out.size))
      clear hb hT5 hB5
      go_wp2_with fail
      refine (C2.out _ hT6.out).mono ?_
      rintro e W7 ⟨rfl, hb⟩
      have hT7 := Lib.hid (hT6.out.below hb)
      have hB7 := Lib.hid (hB6.out.trans (hb.mono hB6.out.size))
      clear hb hT6 hB6
      go_wp2_with fail
      go_ret
      exact ⟨by first | rfl | (simp; done) | (cases z <;> rfl), hB7.out⟩
end Go.Proofs
