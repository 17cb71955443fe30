/- DateCanonical, walked -/
import Derived.Test.YtgbpafapmbnfjaaDoorKn
namespace Go.Proofs
open Go.RowKit Go.Shelf
set_option linter.unusedVariables false
set_option linter.unusedSimpArgs false
open TK
set_option maxRecDepth 100000 in
set_option maxHeartbeats 1000000 in
theorem Tryd.kCanonical (s : ByteArray) (hs : s.size ≤ 9223372036854775807) (w : World) (hT : Tabs w) : Calls Tryd.prog 8 #[.string s] w fun e w' => e = .returned (.bool true) ∧ Below w.heap.size w w' := by
  have hTw := Lib.hid hT
  have hk := Lib.hid Tryd.kKnown
  clear hT
  by_cases hz : 200 < s.size
  · have g1 : decide ((200 : Int) < s.size) = true := by simp; omega
    go_enter Tryd.func8, Tryd.ntmps8
    go_wp2_with fail
    refine (hk.out _ hTw.out).mono ?_
    rintro e W1 ⟨rfl, hb1⟩
    have hT1 := Lib.hid (hTw.out.below hb1)
    have hB1 := Lib.hid hb1
    clear hb1
    go_wp2_with fail
    refine (hk.out _ hT1.out).mono ?_
    rintro e W2 ⟨rfl, hb2⟩
    have hB2 : Below w.heap.size w W2 := hB1.out.trans (hb2.mono hB1.out.size)
    clear hb2
    go_wp2_with fail
    go_ret
    exact ⟨rfl, hB2⟩
  · have g1 : decide ((200 : Int) < s.size) = false := by simp; omega
    have hp := Tryd.dParse s (by omega)
    have hi := Tryd.dIsCanonical s (by omega)
    unfold parsev at hp
    have hcn : ∀ b, (decide ((parse s).2.2 = 0) && leq (fzs (parse s).1 0) s) = b → canon s = b := fun b h => h
    have hf := Tryd.dFormat (parse s).1
    rw [fzv_eq] at hf
    obtain ⟨b, hb⟩ : ∃ b, canon s = b := ⟨_, rfl⟩
    rw [hb] at hi
    have hb' := fun _ : Unit => hb
    clear hb
    generalize parse s = r at hp hcn hf
    obtain ⟨n, at_, e⟩ := r
    dsimp only at hp hcn hf
    generalize fzs n 0 = fs at hf hcn
    generalize fze n 0 = fe at hf
    obtain ⟨c1, g2⟩ : ∃ c, ((e : Int) == 0) = c := ⟨_, rfl⟩
    obtain ⟨c2, g3⟩ : ∃ c, (fs.toList == s.toList) = c := ⟨_, rfl⟩
    have hcb : Unit → (c1 && c2) = b := fun _ => by
      rw [← hb' (), hcn _ rfl, ← g2, ← g3, leq_of]
      congr 1
      rw [Bool.eq_iff_iff]
      simp
    have hHp := Lib.hid hp
    have hHi := Lib.hid hi
    have hHf := Lib.hid hf
    clear hp hi hf hcn
    go_enter Tryd.func8, Tryd.ntmps8
    go_wp2_with fail
    refine (hk.out _ hTw.out).mono ?_
    rintro e W1 ⟨rfl, hb1⟩
    have hT1 := Lib.hid (hTw.out.below hb1)
    have hB1 := Lib.hid hb1
    clear hb1
    go_wp2_with fail
    refine (hHp.out _ hT1.out).mono ?_
    rintro e W2 ⟨rfl, hb2⟩
    have hT2 := Lib.hid (hT1.out.below hb2)
    have hB2 := Lib.hid (hB1.out.trans (hb2.mono hB1.out.size))
    clear hb2
    go_wp2_with fail
    refine (hHf.out _ hT2.out).mono ?_
    rintro e W3 ⟨rfl, hb3⟩
    have hT3 := Lib.hid (hT2.out.below hb3)
    have hB3 := Lib.hid (hB2.out.trans (hb3.mono hB2.out.size))
    clear hb3
    go_wp2_with fail
    refine (hHi.out _ hT3.out).mono ?_
    rintro e W4 ⟨rfl, hb4⟩
    have hB4 : Below w.heap.size w W4 := hB3.out.trans (hb4.mono hB3.out.size)
    clear hb4
    cases c1
    · go_wp2_with fail
      go_ret
      exact ⟨by rw [← hcb ()]; rfl, hB4⟩
    · go_wp2_with fail
      go_ret
      exact ⟨by rw [← hcb (), Bool.true_and, ← g3]; exact congrArg (fun b => Ending.returned (Value.bool b)) (beq_self_eq_true _), hB4⟩
end Go.Proofs
