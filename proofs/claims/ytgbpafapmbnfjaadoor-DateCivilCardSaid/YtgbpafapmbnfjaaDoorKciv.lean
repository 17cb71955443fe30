/- DateCivil, walked -/
import Derived.Test.YtgbpafapmbnfjaaDoorKn
namespace Go.Proofs
open Go.RowKit Go.Shelf
set_option linter.unusedVariables false
set_option linter.unusedSimpArgs false
open TK
set_option maxRecDepth 100000 in
set_option maxHeartbeats 2000000 in
theorem Tryd.kCivil (t : Int) (ht : -9223372036854775808 ≤ t ∧ t ≤ 9223372036854775807) (w : World) (hT : Tabs w) : Calls Tryd.prog 3 #[.int .i64 t] w fun e w' => e = .returned (.bool true) ∧ Below w.heap.size w w' := by
  have hT0 := Lib.hid hT
  have hB0 := Lib.hid (Below.refl w.heap.size w)
  clear hT
  have f1 := Tryd.dToCivil t
  have f2 := Tryd.qToCivil t
  have f3 := Tryd.dValid t
  cases hv : Cal.valid t
  · unfold tcv civv ic at f1 f2
    rw [hv] at f1 f2 f3
    rw [if_neg (by decide)] at f1 f2
    have F1 := Lib.hid f1
    have F2 := Lib.hid f2
    have F3 := Lib.hid f3
    clear f1 f2 f3 hv
    go_enter Tryd.func3, Tryd.ntmps3
    go_wp2_with fail
    refine (Tryd.kKnown _ hT0.out).mono ?_
    rintro e W1 ⟨rfl, hb⟩
    have hT1 := Lib.hid (hT0.out.below hb)
    have hB1 := Lib.hid (hB0.out.trans (hb.mono hB0.out.size))
    clear hb hT0 hB0
    go_wp2_with fail
    refine (F1.out _).mono ?_
    rintro e W2 ⟨rfl, hb⟩
    have hT2 := Lib.hid (hT1.out.below hb)
    have hB2 := Lib.hid (hB1.out.trans (hb.mono hB1.out.size))
    clear hb hT1 hB1
    go_wp2_with fail
    have hbA : Below W2.heap.size W2 (W2.alloc (.cells #[.int .i64 0, .int .i64 0, .int .i64 0, .int .i64 0, .int .i64 0] 24)) := (Below.refl _ _).alloc (Nat.le_refl _) _
    have hrA : (W2.alloc (.cells #[.int .i64 0, .int .i64 0, .int .i64 0, .int .i64 0, .int .i64 0] 24)).heap[W2.heap.size]? = some (.cells #[.int .i64 0, .int .i64 0, .int .i64 0, .int .i64 0, .int .i64 0] 24 (0, 0)) := Go.heap_alloc_new W2 _
    generalize W2.alloc (.cells #[.int .i64 0, .int .i64 0, .int .i64 0, .int .i64 0, .int .i64 0] 24) = W3 at hbA hrA ⊢
    generalize hBeB : W2.heap.size = B at hrA ⊢
    have hT3 := Lib.hid (hT2.out.below hbA)
    have hB3 := Lib.hid (hB2.out.trans (hbA.mono hB2.out.size))
    have hRB3 := Lib.hid hrA
    clear hrA
    clear hbA hT2 hB2 hBeB
    refine (F2.out _).mono ?_
    rintro e W4 ⟨rfl, hb⟩
    have hT4 := Lib.hid (hT3.out.below hb)
    have hB4 := Lib.hid (hB3.out.trans (hb.mono hB3.out.size))
    have hRB4 := Lib.hid ((hb.block B (Array.getElem?_eq_some_iff.1 hRB3.out).1).trans hRB3.out)
    clear hRB3
    clear hb hT3 hB3
    have hbA : Below W4.heap.size W4 (W4.alloc (.cells #[.int .i64 0, .int .i64 0, .int .i64 0, .int .i64 0, .int .i64 0] 28)) := (Below.refl _ _).alloc (Nat.le_refl _) _
    have hrA : (W4.alloc (.cells #[.int .i64 0, .int .i64 0, .int .i64 0, .int .i64 0, .int .i64 0] 28)).heap[W4.heap.size]? = some (.cells #[.int .i64 0, .int .i64 0, .int .i64 0, .int .i64 0, .int .i64 0] 28 (0, 0)) := Go.heap_alloc_new W4 _
    have hRD5 := Lib.hid hrA
    have hT5 := Lib.hid (hT4.out.below hbA)
    have hB5 := Lib.hid (hB4.out.trans (hbA.mono hB4.out.size))
    clear hrA
    have hRB5 := Lib.hid ((hbA.block B (Array.getElem?_eq_some_iff.1 hRB4.out).1).trans hRB4.out)
    clear hRB4
    clear hbA hT4 hB4
    obtain ⟨rB0, rB1, rB2, rB3, rB4, -, -, -, -, -⟩ := cells5 hRB5.out
    obtain ⟨rD0, rD1, rD2, rD3, rD4, -, -, -, -, -⟩ := cells5 hRD5.out
    go_wp2_with fail
    clear rB0 rB1 rB2 rB3 rB4 rD0 rD1 rD2 rD3 rD4
    generalize W4.alloc (.cells #[.int .i64 0, .int .i64 0, .int .i64 0, .int .i64 0, .int .i64 0] 28) = W5 at hT5 hB5 hRB5 hRD5 ⊢
    generalize hBeD : W4.heap.size = D at hRD5 ⊢
    clear hBeD
    refine (F3.out _).mono ?_
    rintro e w9 ⟨rfl, hw9⟩
    rw [hw9]
    clear hw9 w9
    obtain ⟨rB0, rB1, rB2, rB3, rB4, -, -, -, -, -⟩ := cells5 hRB5.out
    obtain ⟨rD0, rD1, rD2, rD3, rD4, -, -, -, -, -⟩ := cells5 hRD5.out
    go_wp2_with fail
    clear rB0 rB1 rB2 rB3 rB4 rD0 rD1 rD2 rD3 rD4
    go_ret
    exact ⟨by first | rfl | (simp; done), hB5.out⟩
  · have hfc := Cal.from_civ hv
    have hbd := civ_bd hv
    unfold tcv civv ic at f1 f2
    rw [hv] at f1 f2 f3
    rw [if_pos rfl] at f1 f2
    generalize (Cal.civ t).1 = y at f1 f2 hfc hbd
    generalize (Cal.civ t).2.1 = m at f1 f2 hfc hbd
    generalize (Cal.civ t).2.2.1 = d at f1 f2 hfc hbd
    generalize (Cal.civ t).2.2.2.1 = h at f1 f2 hfc hbd
    generalize (Cal.civ t).2.2.2.2 = n at f1 f2 hfc hbd
    have f4 := Tryd.dFromCivil y m d h n (by unfold I64; omega) (by unfold I64; omega) (by unfold I64; omega) (by unfold I64; omega) (by unfold I64; omega)
    unfold fcv at f4
    rw [hfc] at f4
    have F1 := Lib.hid f1
    have F2 := Lib.hid f2
    have F3 := Lib.hid f3
    have F4 := Lib.hid f4
    clear f1 f2 f3 f4 hv hfc hbd
    go_enter Tryd.func3, Tryd.ntmps3
    go_wp2_with fail
    refine (Tryd.kKnown _ hT0.out).mono ?_
    rintro e W1 ⟨rfl, hb⟩
    have hT1 := Lib.hid (hT0.out.below hb)
    have hB1 := Lib.hid (hB0.out.trans (hb.mono hB0.out.size))
    clear hb hT0 hB0
    go_wp2_with fail
    refine (F1.out _).mono ?_
    rintro e W2 ⟨rfl, hb⟩
    have hT2 := Lib.hid (hT1.out.below hb)
    have hB2 := Lib.hid (hB1.out.trans (hb.mono hB1.out.size))
    clear hb hT1 hB1
    go_wp2_with fail
    have hbA : Below W2.heap.size W2 (W2.alloc (.cells #[.int .i64 y, .int .i64 m, .int .i64 d, .int .i64 h, .int .i64 n] 24)) := (Below.refl _ _).alloc (Nat.le_refl _) _
    have hrA : (W2.alloc (.cells #[.int .i64 y, .int .i64 m, .int .i64 d, .int .i64 h, .int .i64 n] 24)).heap[W2.heap.size]? = some (.cells #[.int .i64 y, .int .i64 m, .int .i64 d, .int .i64 h, .int .i64 n] 24 (0, 0)) := Go.heap_alloc_new W2 _
    generalize W2.alloc (.cells #[.int .i64 y, .int .i64 m, .int .i64 d, .int .i64 h, .int .i64 n] 24) = W3 at hbA hrA ⊢
    generalize hBeB : W2.heap.size = B at hrA ⊢
    have hT3 := Lib.hid (hT2.out.below hbA)
    have hB3 := Lib.hid (hB2.out.trans (hbA.mono hB2.out.size))
    have hRB3 := Lib.hid hrA
    clear hrA
    clear hbA hT2 hB2 hBeB
    refine (F2.out _).mono ?_
    rintro e W4 ⟨rfl, hb⟩
    have hT4 := Lib.hid (hT3.out.below hb)
    have hB4 := Lib.hid (hB3.out.trans (hb.mono hB3.out.size))
    have hRB4 := Lib.hid ((hb.block B (Array.getElem?_eq_some_iff.1 hRB3.out).1).trans hRB3.out)
    clear hRB3
    clear hb hT3 hB3
    have hbA : Below W4.heap.size W4 (W4.alloc (.cells #[.int .i64 y, .int .i64 m, .int .i64 d, .int .i64 h, .int .i64 n] 28)) := (Below.refl _ _).alloc (Nat.le_refl _) _
    have hrA : (W4.alloc (.cells #[.int .i64 y, .int .i64 m, .int .i64 d, .int .i64 h, .int .i64 n] 28)).heap[W4.heap.size]? = some (.cells #[.int .i64 y, .int .i64 m, .int .i64 d, .int .i64 h, .int .i64 n] 28 (0, 0)) := Go.heap_alloc_new W4 _
    have hRD5 := Lib.hid hrA
    have hT5 := Lib.hid (hT4.out.below hbA)
    have hB5 := Lib.hid (hB4.out.trans (hbA.mono hB4.out.size))
    clear hrA
    have hRB5 := Lib.hid ((hbA.block B (Array.getElem?_eq_some_iff.1 hRB4.out).1).trans hRB4.out)
    clear hRB4
    clear hbA hT4 hB4
    obtain ⟨rB0, rB1, rB2, rB3, rB4, -, -, -, -, -⟩ := cells5 hRB5.out
    obtain ⟨rD0, rD1, rD2, rD3, rD4, -, -, -, -, -⟩ := cells5 hRD5.out
    go_wp2_with fail
    clear rB0 rB1 rB2 rB3 rB4 rD0 rD1 rD2 rD3 rD4
    generalize W4.alloc (.cells #[.int .i64 y, .int .i64 m, .int .i64 d, .int .i64 h, .int .i64 n] 28) = W5 at hT5 hB5 hRB5 hRD5 ⊢
    generalize hBeD : W4.heap.size = D at hRD5 ⊢
    clear hBeD
    refine (F3.out _).mono ?_
    rintro e w9 ⟨rfl, hw9⟩
    rw [hw9]
    clear hw9 w9
    obtain ⟨rB0, rB1, rB2, rB3, rB4, -, -, -, -, -⟩ := cells5 hRB5.out
    obtain ⟨rD0, rD1, rD2, rD3, rD4, -, -, -, -, -⟩ := cells5 hRD5.out
    go_wp2_with fail
    clear rB0 rB1 rB2 rB3 rB4 rD0 rD1 rD2 rD3 rD4
    refine (F4.out _).mono ?_
    rintro e W6 ⟨rfl, hb⟩
    have hT6 := Lib.hid (hT5.out.below hb)
    have hB6 := Lib.hid (hB5.out.trans (hb.mono hB5.out.size))
    have hRB6 := Lib.hid ((hb.block B (Array.getElem?_eq_some_iff.1 hRB5.out).1).trans hRB5.out)
    clear hRB5
    have hRD6 := Lib.hid ((hb.block D (Array.getElem?_eq_some_iff.1 hRD5.out).1).trans hRD5.out)
    clear hRD5
    clear hb hT5 hB5
    obtain ⟨rB0, rB1, rB2, rB3, rB4, -, -, -, -, -⟩ := cells5 hRB6.out
    obtain ⟨rD0, rD1, rD2, rD3, rD4, -, -, -, -, -⟩ := cells5 hRD6.out
    go_wp2_with fail
    clear rB0 rB1 rB2 rB3 rB4 rD0 rD1 rD2 rD3 rD4
    go_ret
    exact ⟨by first | rfl | (simp; done), hB6.out⟩
end Go.Proofs
