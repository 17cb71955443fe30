/- DateOrder, walked -/
import Derived.Test.YtgbpafapmbnfjaaDoorKn
namespace Go.Proofs
open Go.RowKit Go.Shelf
set_option linter.unusedVariables false
set_option linter.unusedSimpArgs false
open TK
theorem TK.from_ok {y m d h mi t : Int} (e : Cal.from_ y m d h mi = (t, 0)) : 2000 ≤ y ∧ y ≤ 2199 ∧ 1 ≤ m ∧ m ≤ 12 ∧ 1 ≤ d ∧ d ≤ Cal.md y m ∧ 0 ≤ h ∧ h ≤ 23 ∧ 0 ≤ mi ∧ mi ≤ 59 ∧ t = Cal.day y m d * 1440 + h * 60 + mi := by
  unfold Cal.from_ at e
  split at e
  · simp at e
  · split at e
    · simp at e
    · simp only [Prod.mk.injEq, and_true] at e
      omega
theorem TK.lex {a b x0 x1 x2 x3 x4 y0 y1 y2 y3 y4 : Int} (hca : Cal.from_ x0 x1 x2 x3 x4 = (a, 0)) (hcb : Cal.from_ y0 y1 y2 y3 y4 = (b, 0))
    (h : x0 < y0 ∨ (x0 = y0 ∧ (x1 < y1 ∨ (x1 = y1 ∧ (x2 < y2 ∨ (x2 = y2 ∧ (x3 < y3 ∨ (x3 = y3 ∧ x4 < y4)))))))) : a < b := by
  obtain ⟨a1, a2, a3, a4, a5, a6, a7, a8, a9, a10, rfl⟩ := from_ok hca
  obtain ⟨b1, b2, b3, b4, b5, b6, b7, b8, b9, b10, rfl⟩ := from_ok hcb
  rcases h with h | ⟨rfl, h⟩
  · have := Cal.day_lt_year a1 a3 a4 a6 b2 b3 b4 b5 h
    omega
  · rcases h with h | ⟨rfl, h⟩
    · have := Cal.day_lt_month (y := x0) a3 a6 b4 b5 h
      omega
    · have e1 : Cal.day x0 x1 x2 = x2 - 1 + Cal.dby (x0 - 2000).toNat + Cal.cum x0 (x1 - 1).toNat := rfl
      have e2 : Cal.day x0 x1 y2 = y2 - 1 + Cal.dby (x0 - 2000).toNat + Cal.cum x0 (x1 - 1).toNat := rfl
      omega
theorem TK.lex_eq {a b x0 x1 x2 x3 x4 y0 y1 y2 y3 y4 : Int} (hca : Cal.from_ x0 x1 x2 x3 x4 = (a, 0)) (hcb : Cal.from_ y0 y1 y2 y3 y4 = (b, 0)) (h0 : x0 = y0) (h1 : x1 = y1) (h2 : x2 = y2) (h3 : x3 = y3) (h4 : x4 = y4) : a = b := by
  subst h0 h1 h2 h3 h4
  rw [hca] at hcb
  exact congrArg Prod.fst hcb
theorem TK.lex_dec {a b u v : Int} (h1 : u < v → a < b) (h2 : v < u → b < a) (h : u ≠ v) : decide (a < b) = decide (u < v) := by
  by_cases h3 : u < v
  · rw [decide_eq_true h3, decide_eq_true (h1 h3)]
  · rw [decide_eq_false h3, decide_eq_false (by have := h2 (by omega); omega)]
set_option maxRecDepth 100000 in
set_option maxHeartbeats 2000000 in
theorem Tryd.kOrder (a b : Int) (ha : -9223372036854775808 ≤ a ∧ a ≤ 9223372036854775807) (hb : -9223372036854775808 ≤ b ∧ b ≤ 9223372036854775807) (w : World) (hT : Tabs w) : Calls Tryd.prog 6 #[.int .i64 a, .int .i64 b] w fun e w' => e = .returned (.bool true) ∧ Below w.heap.size w w' := by
  have hT0 := Lib.hid hT
  have hB0 := Lib.hid (Below.refl w.heap.size w)
  clear hT
  have f1 := Tryd.dToCivil a
  have f2 := Tryd.dToCivil b
  have f3 := Tryd.qValid a
  have f4 := Tryd.qValid b
  unfold tcv civv ic at f1 f2
  cases hv : Cal.valid a
  · rw [hv, if_neg (by decide)] at f1
    rw [hv] at f3
    cases hv2 : Cal.valid b
    · rw [hv2, if_neg (by decide)] at f2
      rw [hv2] at f4
      have F1 := Lib.hid f1
      have F2 := Lib.hid f2
      have F3 := Lib.hid f3
      have F4 := Lib.hid f4
      clear f1 f2 f3 f4 hv hv2
      go_enter Tryd.func6, Tryd.ntmps6
      go_wp2_with fail
      refine (Tryd.kKnown _ hT0.out).mono ?_
      rintro e W1 ⟨rfl, hb⟩
      have hT1 := Lib.hid (hT0.out.below hb)
      have hB1 := Lib.hid (hB0.out.trans (hb.mono hB0.out.size))
      clear hb hT0 hB0
      go_wp2_with fail
      refine (F1.out _).mono ?_
      rintro e W2 ⟨rfl, hb⟩
      have hT2 := Lib.hid (hT1.out.below hb)
      have hB2 := Lib.hid (hB1.out.trans (hb.mono hB1.out.size))
      clear hb hT1 hB1
      go_wp2_with fail
      have hbA : Below W2.heap.size W2 (W2.alloc (.cells #[.int .i64 0, .int .i64 0, .int .i64 0, .int .i64 0, .int .i64 0] 24)) := (Below.refl _ _).alloc (Nat.le_refl _) _
      have hrA : (W2.alloc (.cells #[.int .i64 0, .int .i64 0, .int .i64 0, .int .i64 0, .int .i64 0] 24)).heap[W2.heap.size]? = some (.cells #[.int .i64 0, .int .i64 0, .int .i64 0, .int .i64 0, .int .i64 0] 24 (0, 0)) := Go.heap_alloc_new W2 _
      generalize W2.alloc (.cells #[.int .i64 0, .int .i64 0, .int .i64 0, .int .i64 0, .int .i64 0] 24) = W3 at hbA hrA ⊢
      generalize hBeB : W2.heap.size = B at hrA ⊢
      have hT3 := Lib.hid (hT2.out.below hbA)
      have hB3 := Lib.hid (hB2.out.trans (hbA.mono hB2.out.size))
      have hRB3 := Lib.hid hrA
      clear hrA
      clear hbA hT2 hB2 hBeB
      refine (F2.out _).mono ?_
      rintro e W4 ⟨rfl, hb⟩
      have hT4 := Lib.hid (hT3.out.below hb)
      have hB4 := Lib.hid (hB3.out.trans (hb.mono hB3.out.size))
      have hRB4 := Lib.hid ((hb.block B (Array.getElem?_eq_some_iff.1 hRB3.out).1).trans hRB3.out)
      clear hRB3
      clear hb hT3 hB3
      obtain ⟨rB0, rB1, rB2, rB3, rB4, -, -, -, -, -⟩ := cells5 hRB4.out
      go_wp2_with fail
      clear rB0 rB1 rB2 rB3 rB4
      have hbA : Below W4.heap.size W4 (W4.alloc (.cells #[.int .i64 0, .int .i64 0, .int .i64 0, .int .i64 0, .int .i64 0] 24)) := (Below.refl _ _).alloc (Nat.le_refl _) _
      have hrA : (W4.alloc (.cells #[.int .i64 0, .int .i64 0, .int .i64 0, .int .i64 0, .int .i64 0] 24)).heap[W4.heap.size]? = some (.cells #[.int .i64 0, .int .i64 0, .int .i64 0, .int .i64 0, .int .i64 0] 24 (0, 0)) := Go.heap_alloc_new W4 _
      generalize W4.alloc (.cells #[.int .i64 0, .int .i64 0, .int .i64 0, .int .i64 0, .int .i64 0] 24) = W5 at hbA hrA ⊢
      generalize hBeD : W4.heap.size = D at hrA ⊢
      have hT5 := Lib.hid (hT4.out.below hbA)
      have hB5 := Lib.hid (hB4.out.trans (hbA.mono hB4.out.size))
      have hRD5 := Lib.hid hrA
      clear hrA
      have hRB5 := Lib.hid ((hbA.block B (Array.getElem?_eq_some_iff.1 hRB4.out).1).trans hRB4.out)
      clear hRB4
      clear hbA hT4 hB4 hBeD
      refine (F3.out _).mono ?_
      rintro e w9 ⟨rfl, hw9⟩
      rw [hw9]
      clear hw9 w9
      obtain ⟨rB0, rB1, rB2, rB3, rB4, -, -, -, -, -⟩ := cells5 hRB5.out
      obtain ⟨rD0, rD1, rD2, rD3, rD4, -, -, -, -, -⟩ := cells5 hRD5.out
      go_wp2_with fail
      clear rB0 rB1 rB2 rB3 rB4 rD0 rD1 rD2 rD3 rD4
      go_ret
      exact ⟨by first | rfl | (simp; done), hB5.out⟩
    · rw [hv2, if_pos rfl] at f2
      rw [hv2] at f4
      generalize (Cal.civ b).1 = y0 at f2
      generalize (Cal.civ b).2.1 = y1 at f2
      generalize (Cal.civ b).2.2.1 = y2 at f2
      generalize (Cal.civ b).2.2.2.1 = y3 at f2
      generalize (Cal.civ b).2.2.2.2 = y4 at f2
      have F1 := Lib.hid f1
      have F2 := Lib.hid f2
      have F3 := Lib.hid f3
      have F4 := Lib.hid f4
      clear f1 f2 f3 f4 hv hv2
      go_enter Tryd.func6, Tryd.ntmps6
      go_wp2_with fail
      refine (Tryd.kKnown _ hT0.out).mono ?_
      rintro e W1 ⟨rfl, hb⟩
      have hT1 := Lib.hid (hT0.out.below hb)
      have hB1 := Lib.hid (hB0.out.trans (hb.mono hB0.out.size))
      clear hb hT0 hB0
      go_wp2_with fail
      refine (F1.out _).mono ?_
      rintro e W2 ⟨rfl, hb⟩
      have hT2 := Lib.hid (hT1.out.below hb)
      have hB2 := Lib.hid (hB1.out.trans (hb.mono hB1.out.size))
      clear hb hT1 hB1
      go_wp2_with fail
      have hbA : Below W2.heap.size W2 (W2.alloc (.cells #[.int .i64 0, .int .i64 0, .int .i64 0, .int .i64 0, .int .i64 0] 24)) := (Below.refl _ _).alloc (Nat.le_refl _) _
      have hrA : (W2.alloc (.cells #[.int .i64 0, .int .i64 0, .int .i64 0, .int .i64 0, .int .i64 0] 24)).heap[W2.heap.size]? = some (.cells #[.int .i64 0, .int .i64 0, .int .i64 0, .int .i64 0, .int .i64 0] 24 (0, 0)) := Go.heap_alloc_new W2 _
      generalize W2.alloc (.cells #[.int .i64 0, .int .i64 0, .int .i64 0, .int .i64 0, .int .i64 0] 24) = W3 at hbA hrA ⊢
      generalize hBeB : W2.heap.size = B at hrA ⊢
      have hT3 := Lib.hid (hT2.out.below hbA)
      have hB3 := Lib.hid (hB2.out.trans (hbA.mono hB2.out.size))
      have hRB3 := Lib.hid hrA
      clear hrA
      clear hbA hT2 hB2 hBeB
      refine (F2.out _).mono ?_
      rintro e W4 ⟨rfl, hb⟩
      have hT4 := Lib.hid (hT3.out.below hb)
      have hB4 := Lib.hid (hB3.out.trans (hb.mono hB3.out.size))
      have hRB4 := Lib.hid ((hb.block B (Array.getElem?_eq_some_iff.1 hRB3.out).1).trans hRB3.out)
      clear hRB3
      clear hb hT3 hB3
      obtain ⟨rB0, rB1, rB2, rB3, rB4, -, -, -, -, -⟩ := cells5 hRB4.out
      go_wp2_with fail
      clear rB0 rB1 rB2 rB3 rB4
      have hbA : Below W4.heap.size W4 (W4.alloc (.cells #[.int .i64 y0, .int .i64 y1, .int .i64 y2, .int .i64 y3, .int .i64 y4] 24)) := (Below.refl _ _).alloc (Nat.le_refl _) _
      have hrA : (W4.alloc (.cells #[.int .i64 y0, .int .i64 y1, .int .i64 y2, .int .i64 y3, .int .i64 y4] 24)).heap[W4.heap.size]? = some (.cells #[.int .i64 y0, .int .i64 y1, .int .i64 y2, .int .i64 y3, .int .i64 y4] 24 (0, 0)) := Go.heap_alloc_new W4 _
      generalize W4.alloc (.cells #[.int .i64 y0, .int .i64 y1, .int .i64 y2, .int .i64 y3, .int .i64 y4] 24) = W5 at hbA hrA ⊢
      generalize hBeD : W4.heap.size = D at hrA ⊢
      have hT5 := Lib.hid (hT4.out.below hbA)
      have hB5 := Lib.hid (hB4.out.trans (hbA.mono hB4.out.size))
      have hRD5 := Lib.hid hrA
      clear hrA
      have hRB5 := Lib.hid ((hbA.block B (Array.getElem?_eq_some_iff.1 hRB4.out).1).trans hRB4.out)
      clear hRB4
      clear hbA hT4 hB4 hBeD
      refine (F3.out _).mono ?_
      rintro e w9 ⟨rfl, hw9⟩
      rw [hw9]
      clear hw9 w9
      obtain ⟨rB0, rB1, rB2, rB3, rB4, -, -, -, -, -⟩ := cells5 hRB5.out
      obtain ⟨rD0, rD1, rD2, rD3, rD4, -, -, -, -, -⟩ := cells5 hRD5.out
      go_wp2_with fail
      clear rB0 rB1 rB2 rB3 rB4 rD0 rD1 rD2 rD3 rD4
      go_ret
      exact ⟨by first | rfl | (simp; done), hB5.out⟩
  · have hca := Cal.from_civ hv
    have hba := civ_bd hv
    rw [hv, if_pos rfl] at f1
    rw [hv] at f3
    generalize (Cal.civ a).1 = x0 at f1 hca hba
    generalize (Cal.civ a).2.1 = x1 at f1 hca hba
    generalize (Cal.civ a).2.2.1 = x2 at f1 hca hba
    generalize (Cal.civ a).2.2.2.1 = x3 at f1 hca hba
    generalize (Cal.civ a).2.2.2.2 = x4 at f1 hca hba
    cases hv2 : Cal.valid b
    · rw [hv2, if_neg (by decide)] at f2
      rw [hv2] at f4
      have F1 := Lib.hid f1
      have F2 := Lib.hid f2
      have F3 := Lib.hid f3
      have F4 := Lib.hid f4
      clear f1 f2 f3 f4 hv hv2
      go_enter Tryd.func6, Tryd.ntmps6
      go_wp2_with fail
      refine (Tryd.kKnown _ hT0.out).mono ?_
      rintro e W1 ⟨rfl, hb⟩
      have hT1 := Lib.hid (hT0.out.below hb)
      have hB1 := Lib.hid (hB0.out.trans (hb.mono hB0.out.size))
      clear hb hT0 hB0
      go_wp2_with fail
      refine (F1.out _).mono ?_
      rintro e W2 ⟨rfl, hb⟩
      have hT2 := Lib.hid (hT1.out.below hb)
      have hB2 := Lib.hid (hB1.out.trans (hb.mono hB1.out.size))
      clear hb hT1 hB1
      go_wp2_with fail
      have hbA : Below W2.heap.size W2 (W2.alloc (.cells #[.int .i64 x0, .int .i64 x1, .int .i64 x2, .int .i64 x3, .int .i64 x4] 24)) := (Below.refl _ _).alloc (Nat.le_refl _) _
      have hrA : (W2.alloc (.cells #[.int .i64 x0, .int .i64 x1, .int .i64 x2, .int .i64 x3, .int .i64 x4] 24)).heap[W2.heap.size]? = some (.cells #[.int .i64 x0, .int .i64 x1, .int .i64 x2, .int .i64 x3, .int .i64 x4] 24 (0, 0)) := Go.heap_alloc_new W2 _
      generalize W2.alloc (.cells #[.int .i64 x0, .int .i64 x1, .int .i64 x2, .int .i64 x3, .int .i64 x4] 24) = W3 at hbA hrA ⊢
      generalize hBeB : W2.heap.size = B at hrA ⊢
      have hT3 := Lib.hid (hT2.out.below hbA)
      have hB3 := Lib.hid (hB2.out.trans (hbA.mono hB2.out.size))
      have hRB3 := Lib.hid hrA
      clear hrA
      clear hbA hT2 hB2 hBeB
      refine (F2.out _).mono ?_
      rintro e W4 ⟨rfl, hb⟩
      have hT4 := Lib.hid (hT3.out.below hb)
      have hB4 := Lib.hid (hB3.out.trans (hb.mono hB3.out.size))
      have hRB4 := Lib.hid ((hb.block B (Array.getElem?_eq_some_iff.1 hRB3.out).1).trans hRB3.out)
      clear hRB3
      clear hb hT3 hB3
      obtain ⟨rB0, rB1, rB2, rB3, rB4, -, -, -, -, -⟩ := cells5 hRB4.out
      go_wp2_with fail
      clear rB0 rB1 rB2 rB3 rB4
      have hbA : Below W4.heap.size W4 (W4.alloc (.cells #[.int .i64 0, .int .i64 0, .int .i64 0, .int .i64 0, .int .i64 0] 24)) := (Below.refl _ _).alloc (Nat.le_refl _) _
      have hrA : (W4.alloc (.cells #[.int .i64 0, .int .i64 0, .int .i64 0, .int .i64 0, .int .i64 0] 24)).heap[W4.heap.size]? = some (.cells #[.int .i64 0, .int .i64 0, .int .i64 0, .int .i64 0, .int .i64 0] 24 (0, 0)) := Go.heap_alloc_new W4 _
      generalize W4.alloc (.cells #[.int .i64 0, .int .i64 0, .int .i64 0, .int .i64 0, .int .i64 0] 24) = W5 at hbA hrA ⊢
      generalize hBeD : W4.heap.size = D at hrA ⊢
      have hT5 := Lib.hid (hT4.out.below hbA)
      have hB5 := Lib.hid (hB4.out.trans (hbA.mono hB4.out.size))
      have hRD5 := Lib.hid hrA
      clear hrA
      have hRB5 := Lib.hid ((hbA.block B (Array.getElem?_eq_some_iff.1 hRB4.out).1).trans hRB4.out)
      clear hRB4
      clear hbA hT4 hB4 hBeD
      refine (F3.out _).mono ?_
      rintro e w9 ⟨rfl, hw9⟩
      rw [hw9]
      clear hw9 w9
      obtain ⟨rB0, rB1, rB2, rB3, rB4, -, -, -, -, -⟩ := cells5 hRB5.out
      obtain ⟨rD0, rD1, rD2, rD3, rD4, -, -, -, -, -⟩ := cells5 hRD5.out
      go_wp2_with fail
      clear rB0 rB1 rB2 rB3 rB4 rD0 rD1 rD2 rD3 rD4
      refine (F4.out _).mono ?_
      rintro e w9 ⟨rfl, hw9⟩
      rw [hw9]
      clear hw9 w9
      obtain ⟨rB0, rB1, rB2, rB3, rB4, -, -, -, -, -⟩ := cells5 hRB5.out
      obtain ⟨rD0, rD1, rD2, rD3, rD4, -, -, -, -, -⟩ := cells5 hRD5.out
      go_wp2_with fail
      clear rB0 rB1 rB2 rB3 rB4 rD0 rD1 rD2 rD3 rD4
      go_ret
      exact ⟨by first | rfl | (simp; done), hB5.out⟩
    · have hcb := Cal.from_civ hv2
      have hbb := civ_bd hv2
      rw [hv2, if_pos rfl] at f2
      rw [hv2] at f4
      generalize (Cal.civ b).1 = y0 at f2 hcb hbb
      generalize (Cal.civ b).2.1 = y1 at f2 hcb hbb
      generalize (Cal.civ b).2.2.1 = y2 at f2 hcb hbb
      generalize (Cal.civ b).2.2.2.1 = y3 at f2 hcb hbb
      generalize (Cal.civ b).2.2.2.2 = y4 at f2 hcb hbb
      have F1 := Lib.hid f1
      have F2 := Lib.hid f2
      have F3 := Lib.hid f3
      have F4 := Lib.hid f4
      clear f1 f2 f3 f4 hv hv2
      go_enter Tryd.func6, Tryd.ntmps6
      go_wp2_with fail
      refine (Tryd.kKnown _ hT0.out).mono ?_
      rintro e W1 ⟨rfl, hb⟩
      have hT1 := Lib.hid (hT0.out.below hb)
      have hB1 := Lib.hid (hB0.out.trans (hb.mono hB0.out.size))
      clear hb hT0 hB0
      go_wp2_with fail
      refine (F1.out _).mono ?_
      rintro e W2 ⟨rfl, hb⟩
      have hT2 := Lib.hid (hT1.out.below hb)
      have hB2 := Lib.hid (hB1.out.trans (hb.mono hB1.out.size))
      clear hb hT1 hB1
      go_wp2_with fail
      have hbA : Below W2.heap.size W2 (W2.alloc (.cells #[.int .i64 x0, .int .i64 x1, .int .i64 x2, .int .i64 x3, .int .i64 x4] 24)) := (Below.refl _ _).alloc (Nat.le_refl _) _
      have hrA : (W2.alloc (.cells #[.int .i64 x0, .int .i64 x1, .int .i64 x2, .int .i64 x3, .int .i64 x4] 24)).heap[W2.heap.size]? = some (.cells #[.int .i64 x0, .int .i64 x1, .int .i64 x2, .int .i64 x3, .int .i64 x4] 24 (0, 0)) := Go.heap_alloc_new W2 _
      generalize W2.alloc (.cells #[.int .i64 x0, .int .i64 x1, .int .i64 x2, .int .i64 x3, .int .i64 x4] 24) = W3 at hbA hrA ⊢
      generalize hBeB : W2.heap.size = B at hrA ⊢
      have hT3 := Lib.hid (hT2.out.below hbA)
      have hB3 := Lib.hid (hB2.out.trans (hbA.mono hB2.out.size))
      have hRB3 := Lib.hid hrA
      clear hrA
      clear hbA hT2 hB2 hBeB
      refine (F2.out _).mono ?_
      rintro e W4 ⟨rfl, hb⟩
      have hT4 := Lib.hid (hT3.out.below hb)
      have hB4 := Lib.hid (hB3.out.trans (hb.mono hB3.out.size))
      have hRB4 := Lib.hid ((hb.block B (Array.getElem?_eq_some_iff.1 hRB3.out).1).trans hRB3.out)
      clear hRB3
      clear hb hT3 hB3
      have hb5 : Below W4.heap.size W4 (W4.alloc (.cells #[.int .i64 y0, .int .i64 y1, .int .i64 y2, .int .i64 y3, .int .i64 y4] 24)) := (Below.refl _ _).alloc (Nat.le_refl _) _
      have hr5 : (W4.alloc (.cells #[.int .i64 y0, .int .i64 y1, .int .i64 y2, .int .i64 y3, .int .i64 y4] 24)).heap[W4.heap.size]? = some (.cells #[.int .i64 y0, .int .i64 y1, .int .i64 y2, .int .i64 y3, .int .i64 y4] 24 (0, 0)) := Go.heap_alloc_new W4 _
      have hq5 := (hb5.block B (Array.getElem?_eq_some_iff.1 hRB4.out).1).trans hRB4.out
      have hb6 := (Below.refl _ (W4.alloc (.cells #[.int .i64 y0, .int .i64 y1, .int .i64 y2, .int .i64 y3, .int .i64 y4] 24))).alloc (Nat.le_refl _) (.cells #[.int .i64 x0, .int .i64 x1, .int .i64 x2, .int .i64 x3, .int .i64 x4] 3)
      have hr6 := (hb6.block W4.heap.size (by simp)).trans hr5
      obtain ⟨u0, u1, u2, u3, u4, -, -, -, -, -⟩ := cells5 hq5
      obtain ⟨v0, v1, v2, v3, v4, -, -, -, -, -⟩ := cells5 hr6
      go_wp2_with fail
      clear u0 u1 u2 u3 u4 v0 v1 v2 v3 v4
      have hb7 := (Below.refl _ ((W4.alloc (.cells #[.int .i64 y0, .int .i64 y1, .int .i64 y2, .int .i64 y3, .int .i64 y4] 24)).alloc (.cells #[.int .i64 x0, .int .i64 x1, .int .i64 x2, .int .i64 x3, .int .i64 x4] 3))).alloc (Nat.le_refl _) (.cells #[.int .i64 y0, .int .i64 y1, .int .i64 y2, .int .i64 y3, .int .i64 y4] 3)
      have hU6 : ((W4.alloc (.cells #[.int .i64 y0, .int .i64 y1, .int .i64 y2, .int .i64 y3, .int .i64 y4] 24)).alloc (.cells #[.int .i64 x0, .int .i64 x1, .int .i64 x2, .int .i64 x3, .int .i64 x4] 3)).heap[(W4.alloc (.cells #[.int .i64 y0, .int .i64 y1, .int .i64 y2, .int .i64 y3, .int .i64 y4] 24)).heap.size]? = some (.cells #[.int .i64 x0, .int .i64 x1, .int .i64 x2, .int .i64 x3, .int .i64 x4] 3 (0, 0)) := Go.heap_alloc_new (W4.alloc (.cells #[.int .i64 y0, .int .i64 y1, .int .i64 y2, .int .i64 y3, .int .i64 y4] 24)) _
      have hU7 := (hb7.block (W4.alloc (.cells #[.int .i64 y0, .int .i64 y1, .int .i64 y2, .int .i64 y3, .int .i64 y4] 24)).heap.size (by simp)).trans hU6
      have hV7 : (((W4.alloc (.cells #[.int .i64 y0, .int .i64 y1, .int .i64 y2, .int .i64 y3, .int .i64 y4] 24)).alloc (.cells #[.int .i64 x0, .int .i64 x1, .int .i64 x2, .int .i64 x3, .int .i64 x4] 3)).alloc (.cells #[.int .i64 y0, .int .i64 y1, .int .i64 y2, .int .i64 y3, .int .i64 y4] 3)).heap[((W4.alloc (.cells #[.int .i64 y0, .int .i64 y1, .int .i64 y2, .int .i64 y3, .int .i64 y4] 24)).alloc (.cells #[.int .i64 x0, .int .i64 x1, .int .i64 x2, .int .i64 x3, .int .i64 x4] 3)).heap.size]? = some (.cells #[.int .i64 y0, .int .i64 y1, .int .i64 y2, .int .i64 y3, .int .i64 y4] 3 (0, 0)) := Go.heap_alloc_new ((W4.alloc (.cells #[.int .i64 y0, .int .i64 y1, .int .i64 y2, .int .i64 y3, .int .i64 y4] 24)).alloc (.cells #[.int .i64 x0, .int .i64 x1, .int .i64 x2, .int .i64 x3, .int .i64 x4] 3)) _
      have hW7 : Below w.heap.size w (((W4.alloc (.cells #[.int .i64 y0, .int .i64 y1, .int .i64 y2, .int .i64 y3, .int .i64 y4] 24)).alloc (.cells #[.int .i64 x0, .int .i64 x1, .int .i64 x2, .int .i64 x3, .int .i64 x4] 3)).alloc (.cells #[.int .i64 y0, .int .i64 y1, .int .i64 y2, .int .i64 y3, .int .i64 y4] 3)) := hB4.out.trans ((hb5.trans ((hb6.trans (hb7.mono hb6.size)).mono hb5.size)).mono hB4.out.size)
      have z5 : (W4.alloc (.cells #[.int .i64 y0, .int .i64 y1, .int .i64 y2, .int .i64 y3, .int .i64 y4] 24)).heap.size = W4.heap.size + 1 := by simp
      have z6 : ((W4.alloc (.cells #[.int .i64 y0, .int .i64 y1, .int .i64 y2, .int .i64 y3, .int .i64 y4] 24)).alloc (.cells #[.int .i64 x0, .int .i64 x1, .int .i64 x2, .int .i64 x3, .int .i64 x4] 3)).heap.size = W4.heap.size + 1 + 1 := by simp
      rw [z5] at hU7
      rw [z6] at hV7
      clear hr5 hq5 hb5 hb6 hr6 hb7 hU6 z5 z6
      generalize (((W4.alloc (.cells #[.int .i64 y0, .int .i64 y1, .int .i64 y2, .int .i64 y3, .int .i64 y4] 24)).alloc (.cells #[.int .i64 x0, .int .i64 x1, .int .i64 x2, .int .i64 x3, .int .i64 x4] 3)).alloc (.cells #[.int .i64 y0, .int .i64 y1, .int .i64 y2, .int .i64 y3, .int .i64 y4] 3)) = W7 at hU7 hV7 hW7 ⊢
      generalize W4.heap.size + 1 + 1 = V at hV7 ⊢
      generalize W4.heap.size + 1 = U at hU7 ⊢
      have hH7 := Lib.hid hW7
      have hHU := Lib.hid (fun W (h : Below W7.heap.size W7 W) => cells5 ((h.block U (Array.getElem?_eq_some_iff.1 hU7).1).trans hU7))
      have hHV := Lib.hid (fun W (h : Below W7.heap.size W7 W) => cells5 ((h.block V (Array.getElem?_eq_some_iff.1 hV7).1).trans hV7))
      clear hU7 hV7 hW7 hT4 hB4 hRB4 F1 F2 F3 F4
      have hca' := fun (_ : Unit) => hca
      have hcb' := fun (_ : Unit) => hcb
      clear hca hcb
      go_loopw [11] (fun s11 wr => ∃ i : Nat, i ≤ 5 ∧ s11 = .int .i64 i ∧ Hid ((0 < i → x0 = y0) ∧ (1 < i → x1 = y1) ∧ (2 < i → x2 = y2) ∧ (3 < i → x3 = y3) ∧ (4 < i → x4 = y4)) ∧ Hid (Below W7.heap.size W7 wr)) (fun s11 _ => 5 - (intOf s11).toNat)
      case atStart => exact ⟨0, by omega, rfl, Lib.hid ⟨fun h => absurd h (by omega), fun h => absurd h (by omega), fun h => absurd h (by omega), fun h => absurd h (by omega), fun h => absurd h (by omega)⟩, Lib.hid (Below.refl _ _)⟩
      case round =>
        obtain ⟨i, hi, rfl, hE, hB⟩ := hrel
        obtain rfl | rfl | rfl | rfl | rfl | rfl : i = 0 ∨ i = 1 ∨ i = 2 ∨ i = 3 ∨ i = 4 ∨ i = 5 := by omega

        · have k0 : Hid (∀ W : World, Below W7.heap.size W7 W → W.cell? ⟨U, 0, none⟩ = some (.int .i64 x0)) := Lib.hid fun W h => (hHU.out W h).1
          have k1 : Hid (∀ W : World, Below W7.heap.size W7 W → W.cell? ⟨V, 0, none⟩ = some (.int .i64 y0)) := Lib.hid fun W h => (hHV.out W h).1
          clear hHU hHV
          by_cases hne : x0 = y0
          · have g1 : (x0 == y0) = true := by rw [hne]; exact beq_self_eq_true _
            have g2 : (x0 != y0) = false := by rw [hne]; exact bne_self_eq_false _
            have hne2 := Lib.hid hne
            clear hne
            go_wp2_with fail
            refine q_region (fun W => Below W7.heap.size W7 W) (by kernel_rfl) (by kernel_rfl) hB.out.drew ?_
            repeat (first
              | (with_reducible refine q_off ?_ ?_
                 · rfl
                 try simp only [Act.put, List.getElem_toArray, List.getElem_cons_zero, List.getElem_cons_succ, List.setIfInBounds_toArray, List.set_cons_zero, List.set_cons_succ])
              | (with_reducible refine q_lds2 Tryd.isAgg3 ?_ ?_ ⟨U, 0, none⟩ ?_ (.int .i64 x0) k0.out ?_
                 · rfl
                 · rfl
                 · rfl
                 try simp only [Act.put, List.getElem_toArray, List.getElem_cons_zero, List.getElem_cons_succ, List.setIfInBounds_toArray, List.set_cons_zero, List.set_cons_succ])
              | (with_reducible refine q_lds2 Tryd.isAgg3 ?_ ?_ ⟨V, 0, none⟩ ?_ (.int .i64 y0) k1.out ?_
                 · rfl
                 · rfl
                 · rfl
                 try simp only [Act.put, List.getElem_toArray, List.getElem_cons_zero, List.getElem_cons_succ, List.setIfInBounds_toArray, List.set_cons_zero, List.set_cons_succ])
              | (with_reducible refine wpQuiet_step ?_
                 intro K hK
                 go_simp
                 first
                 | (refine hK _ ?_; clear hK K)
                 | (apply Exists.intro
                    refine ⟨fun W hW => ?_, hK _ ?_⟩
                    first
                    | exact rfl
                    | exact ⟨rfl, rfl⟩
                    clear hK K)))
            refine wpQuiet_nil ?_
            intro Vr hVr
            have hB2 := Lib.hid hVr
            clear hVr hB k0 k1
            go_wp2_with fail
            go_roundw
            case rel => exact ⟨1, by omega, rfl, Lib.hid ⟨fun _ => hne2.out, fun h => absurd h (by omega), fun h => absurd h (by omega), fun h => absurd h (by omega), fun h => absurd h (by omega)⟩, hB2⟩
            case measure => simp [intOf]
          · have g1 : (x0 == y0) = false := beq_false_of_ne hne
            have g2 : (x0 != y0) = true := by rw [bne_iff_ne]; exact hne
            have hd : decide (a < b) = decide (x0 < y0) := lex_dec (fun h => lex (hca' ()) (hcb' ()) (.inl h)) (fun h => lex (hcb' ()) (hca' ()) (.inl h)) hne
            have hd' := fun (_ : Unit) => hd
            clear hd
            go_wp2_with fail
            refine q_region (fun W => Below W7.heap.size W7 W) (by kernel_rfl) (by kernel_rfl) hB.out.drew ?_
            repeat (first
              | (with_reducible refine q_off ?_ ?_
                 · rfl
                 try simp only [Act.put, List.getElem_toArray, List.getElem_cons_zero, List.getElem_cons_succ, List.setIfInBounds_toArray, List.set_cons_zero, List.set_cons_succ])
              | (with_reducible refine q_lds2 Tryd.isAgg3 ?_ ?_ ⟨U, 0, none⟩ ?_ (.int .i64 x0) k0.out ?_
                 · rfl
                 · rfl
                 · rfl
                 try simp only [Act.put, List.getElem_toArray, List.getElem_cons_zero, List.getElem_cons_succ, List.setIfInBounds_toArray, List.set_cons_zero, List.set_cons_succ])
              | (with_reducible refine q_lds2 Tryd.isAgg3 ?_ ?_ ⟨V, 0, none⟩ ?_ (.int .i64 y0) k1.out ?_
                 · rfl
                 · rfl
                 · rfl
                 try simp only [Act.put, List.getElem_toArray, List.getElem_cons_zero, List.getElem_cons_succ, List.setIfInBounds_toArray, List.set_cons_zero, List.set_cons_succ])
              | (with_reducible refine wpQuiet_step ?_
                 intro K hK
                 go_simp
                 first
                 | (refine hK _ ?_; clear hK K)
                 | (apply Exists.intro
                    refine ⟨fun W hW => ?_, hK _ ?_⟩
                    first
                    | exact rfl
                    | exact ⟨rfl, rfl⟩
                    clear hK K)))
            refine wpQuiet_nil ?_
            intro Vr hVr
            have hB2 := Lib.hid hVr
            clear hVr hB
            go_wp2_with fail
            refine q_region (fun W => Below W7.heap.size W7 W) (by kernel_rfl) (by kernel_rfl) hB2.out.drew ?_
            repeat (first
              | (with_reducible refine q_off ?_ ?_
                 · rfl
                 try simp only [Act.put, List.getElem_toArray, List.getElem_cons_zero, List.getElem_cons_succ, List.setIfInBounds_toArray, List.set_cons_zero, List.set_cons_succ])
              | (with_reducible refine q_lds2 Tryd.isAgg3 ?_ ?_ ⟨U, 0, none⟩ ?_ (.int .i64 x0) k0.out ?_
                 · rfl
                 · rfl
                 · rfl
                 try simp only [Act.put, List.getElem_toArray, List.getElem_cons_zero, List.getElem_cons_succ, List.setIfInBounds_toArray, List.set_cons_zero, List.set_cons_succ])
              | (with_reducible refine q_lds2 Tryd.isAgg3 ?_ ?_ ⟨V, 0, none⟩ ?_ (.int .i64 y0) k1.out ?_
                 · rfl
                 · rfl
                 · rfl
                 try simp only [Act.put, List.getElem_toArray, List.getElem_cons_zero, List.getElem_cons_succ, List.setIfInBounds_toArray, List.set_cons_zero, List.set_cons_succ])
              | (with_reducible refine wpQuiet_step ?_
                 intro K hK
                 go_simp
                 first
                 | (refine hK _ ?_; clear hK K)
                 | (apply Exists.intro
                    refine ⟨fun W hW => ?_, hK _ ?_⟩
                    first
                    | exact rfl
                    | exact ⟨rfl, rfl⟩
                    clear hK K)))
            refine wpQuiet_nil ?_
            intro Vq hVq
            have hBf := hH7.out.trans (hVq.mono hH7.out.size)
            clear hVq hB2 k0 k1
            go_wp2_with fail
            go_ret
            exact ⟨by first | (rw [hd' ()]; simp; done) | (simp [hd' ()]; done), hBf⟩
        · have k0 : Hid (∀ W : World, Below W7.heap.size W7 W → W.cell? ⟨U, 1, none⟩ = some (.int .i64 x1)) := Lib.hid fun W h => (hHU.out W h).2.1
          have k1 : Hid (∀ W : World, Below W7.heap.size W7 W → W.cell? ⟨V, 1, none⟩ = some (.int .i64 y1)) := Lib.hid fun W h => (hHV.out W h).2.1
          clear hHU hHV
          by_cases hne : x1 = y1
          · have g1 : (x1 == y1) = true := by rw [hne]; exact beq_self_eq_true _
            have g2 : (x1 != y1) = false := by rw [hne]; exact bne_self_eq_false _
            have hne2 := Lib.hid hne
            clear hne
            go_wp2_with fail
            refine q_region (fun W => Below W7.heap.size W7 W) (by kernel_rfl) (by kernel_rfl) hB.out.drew ?_
            repeat (first
              | (with_reducible refine q_off ?_ ?_
                 · rfl
                 try simp only [Act.put, List.getElem_toArray, List.getElem_cons_zero, List.getElem_cons_succ, List.setIfInBounds_toArray, List.set_cons_zero, List.set_cons_succ])
              | (with_reducible refine q_lds2 Tryd.isAgg3 ?_ ?_ ⟨U, 1, none⟩ ?_ (.int .i64 x1) k0.out ?_
                 · rfl
                 · rfl
                 · rfl
                 try simp only [Act.put, List.getElem_toArray, List.getElem_cons_zero, List.getElem_cons_succ, List.setIfInBounds_toArray, List.set_cons_zero, List.set_cons_succ])
              | (with_reducible refine q_lds2 Tryd.isAgg3 ?_ ?_ ⟨V, 1, none⟩ ?_ (.int .i64 y1) k1.out ?_
                 · rfl
                 · rfl
                 · rfl
                 try simp only [Act.put, List.getElem_toArray, List.getElem_cons_zero, List.getElem_cons_succ, List.setIfInBounds_toArray, List.set_cons_zero, List.set_cons_succ])
              | (with_reducible refine wpQuiet_step ?_
                 intro K hK
                 go_simp
                 first
                 | (refine hK _ ?_; clear hK K)
                 | (apply Exists.intro
                    refine ⟨fun W hW => ?_, hK _ ?_⟩
                    first
                    | exact rfl
                    | exact ⟨rfl, rfl⟩
                    clear hK K)))
            refine wpQuiet_nil ?_
            intro Vr hVr
            have hB2 := Lib.hid hVr
            clear hVr hB k0 k1
            go_wp2_with fail
            go_roundw
            case rel => exact ⟨2, by omega, rfl, Lib.hid ⟨fun _ => hE.out.1 (by omega), fun _ => hne2.out, fun h => absurd h (by omega), fun h => absurd h (by omega), fun h => absurd h (by omega)⟩, hB2⟩
            case measure => simp [intOf]
          · have g1 : (x1 == y1) = false := beq_false_of_ne hne
            have g2 : (x1 != y1) = true := by rw [bne_iff_ne]; exact hne
            have hd : decide (a < b) = decide (x1 < y1) := lex_dec (fun h => lex (hca' ()) (hcb' ()) (.inr ⟨(hE.out.1 (by omega)), .inl h⟩)) (fun h => lex (hcb' ()) (hca' ()) (.inr ⟨(hE.out.1 (by omega)).symm, .inl h⟩)) hne
            have hd' := fun (_ : Unit) => hd
            clear hd
            go_wp2_with fail
            refine q_region (fun W => Below W7.heap.size W7 W) (by kernel_rfl) (by kernel_rfl) hB.out.drew ?_
            repeat (first
              | (with_reducible refine q_off ?_ ?_
                 · rfl
                 try simp only [Act.put, List.getElem_toArray, List.getElem_cons_zero, List.getElem_cons_succ, List.setIfInBounds_toArray, List.set_cons_zero, List.set_cons_succ])
              | (with_reducible refine q_lds2 Tryd.isAgg3 ?_ ?_ ⟨U, 1, none⟩ ?_ (.int .i64 x1) k0.out ?_
                 · rfl
                 · rfl
                 · rfl
                 try simp only [Act.put, List.getElem_toArray, List.getElem_cons_zero, List.getElem_cons_succ, List.setIfInBounds_toArray, List.set_cons_zero, List.set_cons_succ])
              | (with_reducible refine q_lds2 Tryd.isAgg3 ?_ ?_ ⟨V, 1, none⟩ ?_ (.int .i64 y1) k1.out ?_
                 · rfl
                 · rfl
                 · rfl
                 try simp only [Act.put, List.getElem_toArray, List.getElem_cons_zero, List.getElem_cons_succ, List.setIfInBounds_toArray, List.set_cons_zero, List.set_cons_succ])
              | (with_reducible refine wpQuiet_step ?_
                 intro K hK
                 go_simp
                 first
                 | (refine hK _ ?_; clear hK K)
                 | (apply Exists.intro
                    refine ⟨fun W hW => ?_, hK _ ?_⟩
                    first
                    | exact rfl
                    | exact ⟨rfl, rfl⟩
                    clear hK K)))
            refine wpQuiet_nil ?_
            intro Vr hVr
            have hB2 := Lib.hid hVr
            clear hVr hB
            go_wp2_with fail
            refine q_region (fun W => Below W7.heap.size W7 W) (by kernel_rfl) (by kernel_rfl) hB2.out.drew ?_
            repeat (first
              | (with_reducible refine q_off ?_ ?_
                 · rfl
                 try simp only [Act.put, List.getElem_toArray, List.getElem_cons_zero, List.getElem_cons_succ, List.setIfInBounds_toArray, List.set_cons_zero, List.set_cons_succ])
              | (with_reducible refine q_lds2 Tryd.isAgg3 ?_ ?_ ⟨U, 1, none⟩ ?_ (.int .i64 x1) k0.out ?_
                 · rfl
                 · rfl
                 · rfl
                 try simp only [Act.put, List.getElem_toArray, List.getElem_cons_zero, List.getElem_cons_succ, List.setIfInBounds_toArray, List.set_cons_zero, List.set_cons_succ])
              | (with_reducible refine q_lds2 Tryd.isAgg3 ?_ ?_ ⟨V, 1, none⟩ ?_ (.int .i64 y1) k1.out ?_
                 · rfl
                 · rfl
                 · rfl
                 try simp only [Act.put, List.getElem_toArray, List.getElem_cons_zero, List.getElem_cons_succ, List.setIfInBounds_toArray, List.set_cons_zero, List.set_cons_succ])
              | (with_reducible refine wpQuiet_step ?_
                 intro K hK
                 go_simp
                 first
                 | (refine hK _ ?_; clear hK K)
                 | (apply Exists.intro
                    refine ⟨fun W hW => ?_, hK _ ?_⟩
                    first
                    | exact rfl
                    | exact ⟨rfl, rfl⟩
                    clear hK K)))
            refine wpQuiet_nil ?_
            intro Vq hVq
            have hBf := hH7.out.trans (hVq.mono hH7.out.size)
            clear hVq hB2 k0 k1
            go_wp2_with fail
            go_ret
            exact ⟨by first | (rw [hd' ()]; simp; done) | (simp [hd' ()]; done), hBf⟩
        · have k0 : Hid (∀ W : World, Below W7.heap.size W7 W → W.cell? ⟨U, 2, none⟩ = some (.int .i64 x2)) := Lib.hid fun W h => (hHU.out W h).2.2.1
          have k1 : Hid (∀ W : World, Below W7.heap.size W7 W → W.cell? ⟨V, 2, none⟩ = some (.int .i64 y2)) := Lib.hid fun W h => (hHV.out W h).2.2.1
          clear hHU hHV
          by_cases hne : x2 = y2
          · have g1 : (x2 == y2) = true := by rw [hne]; exact beq_self_eq_true _
            have g2 : (x2 != y2) = false := by rw [hne]; exact bne_self_eq_false _
            have hne2 := Lib.hid hne
            clear hne
            go_wp2_with fail
            refine q_region (fun W => Below W7.heap.size W7 W) (by kernel_rfl) (by kernel_rfl) hB.out.drew ?_
            repeat (first
              | (with_reducible refine q_off ?_ ?_
                 · rfl
                 try simp only [Act.put, List.getElem_toArray, List.getElem_cons_zero, List.getElem_cons_succ, List.setIfInBounds_toArray, List.set_cons_zero, List.set_cons_succ])
              | (with_reducible refine q_lds2 Tryd.isAgg3 ?_ ?_ ⟨U, 2, none⟩ ?_ (.int .i64 x2) k0.out ?_
                 · rfl
                 · rfl
                 · rfl
                 try simp only [Act.put, List.getElem_toArray, List.getElem_cons_zero, List.getElem_cons_succ, List.setIfInBounds_toArray, List.set_cons_zero, List.set_cons_succ])
              | (with_reducible refine q_lds2 Tryd.isAgg3 ?_ ?_ ⟨V, 2, none⟩ ?_ (.int .i64 y2) k1.out ?_
                 · rfl
                 · rfl
                 · rfl
                 try simp only [Act.put, List.getElem_toArray, List.getElem_cons_zero, List.getElem_cons_succ, List.setIfInBounds_toArray, List.set_cons_zero, List.set_cons_succ])
              | (with_reducible refine wpQuiet_step ?_
                 intro K hK
                 go_simp
                 first
                 | (refine hK _ ?_; clear hK K)
                 | (apply Exists.intro
                    refine ⟨fun W hW => ?_, hK _ ?_⟩
                    first
                    | exact rfl
                    | exact ⟨rfl, rfl⟩
                    clear hK K)))
            refine wpQuiet_nil ?_
            intro Vr hVr
            have hB2 := Lib.hid hVr
            clear hVr hB k0 k1
            go_wp2_with fail
            go_roundw
            case rel => exact ⟨3, by omega, rfl, Lib.hid ⟨fun _ => hE.out.1 (by omega), fun _ => hE.out.2.1 (by omega), fun _ => hne2.out, fun h => absurd h (by omega), fun h => absurd h (by omega)⟩, hB2⟩
            case measure => simp [intOf]
          · have g1 : (x2 == y2) = false := beq_false_of_ne hne
            have g2 : (x2 != y2) = true := by rw [bne_iff_ne]; exact hne
            have hd : decide (a < b) = decide (x2 < y2) := lex_dec (fun h => lex (hca' ()) (hcb' ()) (.inr ⟨(hE.out.1 (by omega)), .inr ⟨(hE.out.2.1 (by omega)), .inl h⟩⟩)) (fun h => lex (hcb' ()) (hca' ()) (.inr ⟨(hE.out.1 (by omega)).symm, .inr ⟨(hE.out.2.1 (by omega)).symm, .inl h⟩⟩)) hne
            have hd' := fun (_ : Unit) => hd
            clear hd
            go_wp2_with fail
            refine q_region (fun W => Below W7.heap.size W7 W) (by kernel_rfl) (by kernel_rfl) hB.out.drew ?_
            repeat (first
              | (with_reducible refine q_off ?_ ?_
                 · rfl
                 try simp only [Act.put, List.getElem_toArray, List.getElem_cons_zero, List.getElem_cons_succ, List.setIfInBounds_toArray, List.set_cons_zero, List.set_cons_succ])
              | (with_reducible refine q_lds2 Tryd.isAgg3 ?_ ?_ ⟨U, 2, none⟩ ?_ (.int .i64 x2) k0.out ?_
                 · rfl
                 · rfl
                 · rfl
                 try simp only [Act.put, List.getElem_toArray, List.getElem_cons_zero, List.getElem_cons_succ, List.setIfInBounds_toArray, List.set_cons_zero, List.set_cons_succ])
              | (with_reducible refine q_lds2 Tryd.isAgg3 ?_ ?_ ⟨V, 2, none⟩ ?_ (.int .i64 y2) k1.out ?_
                 · rfl
                 · rfl
                 · rfl
                 try simp only [Act.put, List.getElem_toArray, List.getElem_cons_zero, List.getElem_cons_succ, List.setIfInBounds_toArray, List.set_cons_zero, List.set_cons_succ])
              | (with_reducible refine wpQuiet_step ?_
                 intro K hK
                 go_simp
                 first
                 | (refine hK _ ?_; clear hK K)
                 | (apply Exists.intro
                    refine ⟨fun W hW => ?_, hK _ ?_⟩
                    first
                    | exact rfl
                    | exact ⟨rfl, rfl⟩
                    clear hK K)))
            refine wpQuiet_nil ?_
            intro Vr hVr
            have hB2 := Lib.hid hVr
            clear hVr hB
            go_wp2_with fail
            refine q_region (fun W => Below W7.heap.size W7 W) (by kernel_rfl) (by kernel_rfl) hB2.out.drew ?_
            repeat (first
              | (with_reducible refine q_off ?_ ?_
                 · rfl
                 try simp only [Act.put, List.getElem_toArray, List.getElem_cons_zero, List.getElem_cons_succ, List.setIfInBounds_toArray, List.set_cons_zero, List.set_cons_succ])
              | (with_reducible refine q_lds2 Tryd.isAgg3 ?_ ?_ ⟨U, 2, none⟩ ?_ (.int .i64 x2) k0.out ?_
                 · rfl
                 · rfl
                 · rfl
                 try simp only [Act.put, List.getElem_toArray, List.getElem_cons_zero, List.getElem_cons_succ, List.setIfInBounds_toArray, List.set_cons_zero, List.set_cons_succ])
              | (with_reducible refine q_lds2 Tryd.isAgg3 ?_ ?_ ⟨V, 2, none⟩ ?_ (.int .i64 y2) k1.out ?_
                 · rfl
                 · rfl
                 · rfl
                 try simp only [Act.put, List.getElem_toArray, List.getElem_cons_zero, List.getElem_cons_succ, List.setIfInBounds_toArray, List.set_cons_zero, List.set_cons_succ])
              | (with_reducible refine wpQuiet_step ?_
                 intro K hK
                 go_simp
                 first
                 | (refine hK _ ?_; clear hK K)
                 | (apply Exists.intro
                    refine ⟨fun W hW => ?_, hK _ ?_⟩
                    first
                    | exact rfl
                    | exact ⟨rfl, rfl⟩
                    clear hK K)))
            refine wpQuiet_nil ?_
            intro Vq hVq
            have hBf := hH7.out.trans (hVq.mono hH7.out.size)
            clear hVq hB2 k0 k1
            go_wp2_with fail
            go_ret
            exact ⟨by first | (rw [hd' ()]; simp; done) | (simp [hd' ()]; done), hBf⟩
        · have k0 : Hid (∀ W : World, Below W7.heap.size W7 W → W.cell? ⟨U, 3, none⟩ = some (.int .i64 x3)) := Lib.hid fun W h => (hHU.out W h).2.2.2.1
          have k1 : Hid (∀ W : World, Below W7.heap.size W7 W → W.cell? ⟨V, 3, none⟩ = some (.int .i64 y3)) := Lib.hid fun W h => (hHV.out W h).2.2.2.1
          clear hHU hHV
          by_cases hne : x3 = y3
          · have g1 : (x3 == y3) = true := by rw [hne]; exact beq_self_eq_true _
            have g2 : (x3 != y3) = false := by rw [hne]; exact bne_self_eq_false _
            have hne2 := Lib.hid hne
            clear hne
            go_wp2_with fail
            refine q_region (fun W => Below W7.heap.size W7 W) (by kernel_rfl) (by kernel_rfl) hB.out.drew ?_
            repeat (first
              | (with_reducible refine q_off ?_ ?_
                 · rfl
                 try simp only [Act.put, List.getElem_toArray, List.getElem_cons_zero, List.getElem_cons_succ, List.setIfInBounds_toArray, List.set_cons_zero, List.set_cons_succ])
              | (with_reducible refine q_lds2 Tryd.isAgg3 ?_ ?_ ⟨U, 3, none⟩ ?_ (.int .i64 x3) k0.out ?_
                 · rfl
                 · rfl
                 · rfl
                 try simp only [Act.put, List.getElem_toArray, List.getElem_cons_zero, List.getElem_cons_succ, List.setIfInBounds_toArray, List.set_cons_zero, List.set_cons_succ])
              | (with_reducible refine q_lds2 Tryd.isAgg3 ?_ ?_ ⟨V, 3, none⟩ ?_ (.int .i64 y3) k1.out ?_
                 · rfl
                 · rfl
                 · rfl
                 try simp only [Act.put, List.getElem_toArray, List.getElem_cons_zero, List.getElem_cons_succ, List.setIfInBounds_toArray, List.set_cons_zero, List.set_cons_succ])
              | (with_reducible refine wpQuiet_step ?_
                 intro K hK
                 go_simp
                 first
                 | (refine hK _ ?_; clear hK K)
                 | (apply Exists.intro
                    refine ⟨fun W hW => ?_, hK _ ?_⟩
                    first
                    | exact rfl
                    | exact ⟨rfl, rfl⟩
                    clear hK K)))
            refine wpQuiet_nil ?_
            intro Vr hVr
            have hB2 := Lib.hid hVr
            clear hVr hB k0 k1
            go_wp2_with fail
            go_roundw
            case rel => exact ⟨4, by omega, rfl, Lib.hid ⟨fun _ => hE.out.1 (by omega), fun _ => hE.out.2.1 (by omega), fun _ => hE.out.2.2.1 (by omega), fun _ => hne2.out, fun h => absurd h (by omega)⟩, hB2⟩
            case measure => simp [intOf]
          · have g1 : (x3 == y3) = false := beq_false_of_ne hne
            have g2 : (x3 != y3) = true := by rw [bne_iff_ne]; exact hne
            have hd : decide (a < b) = decide (x3 < y3) := lex_dec (fun h => lex (hca' ()) (hcb' ()) (.inr ⟨(hE.out.1 (by omega)), .inr ⟨(hE.out.2.1 (by omega)), .inr ⟨(hE.out.2.2.1 (by omega)), .inl h⟩⟩⟩)) (fun h => lex (hcb' ()) (hca' ()) (.inr ⟨(hE.out.1 (by omega)).symm, .inr ⟨(hE.out.2.1 (by omega)).symm, .inr ⟨(hE.out.2.2.1 (by omega)).symm, .inl h⟩⟩⟩)) hne
            have hd' := fun (_ : Unit) => hd
            clear hd
            go_wp2_with fail
            refine q_region (fun W => Below W7.heap.size W7 W) (by kernel_rfl) (by kernel_rfl) hB.out.drew ?_
            repeat (first
              | (with_reducible refine q_off ?_ ?_
                 · rfl
                 try simp only [Act.put, List.getElem_toArray, List.getElem_cons_zero, List.getElem_cons_succ, List.setIfInBounds_toArray, List.set_cons_zero, List.set_cons_succ])
              | (with_reducible refine q_lds2 Tryd.isAgg3 ?_ ?_ ⟨U, 3, none⟩ ?_ (.int .i64 x3) k0.out ?_
                 · rfl
                 · rfl
                 · rfl
                 try simp only [Act.put, List.getElem_toArray, List.getElem_cons_zero, List.getElem_cons_succ, List.setIfInBounds_toArray, List.set_cons_zero, List.set_cons_succ])
              | (with_reducible refine q_lds2 Tryd.isAgg3 ?_ ?_ ⟨V, 3, none⟩ ?_ (.int .i64 y3) k1.out ?_
                 · rfl
                 · rfl
                 · rfl
                 try simp only [Act.put, List.getElem_toArray, List.getElem_cons_zero, List.getElem_cons_succ, List.setIfInBounds_toArray, List.set_cons_zero, List.set_cons_succ])
              | (with_reducible refine wpQuiet_step ?_
                 intro K hK
                 go_simp
                 first
                 | (refine hK _ ?_; clear hK K)
                 | (apply Exists.intro
                    refine ⟨fun W hW => ?_, hK _ ?_⟩
                    first
                    | exact rfl
                    | exact ⟨rfl, rfl⟩
                    clear hK K)))
            refine wpQuiet_nil ?_
            intro Vr hVr
            have hB2 := Lib.hid hVr
            clear hVr hB
            go_wp2_with fail
            refine q_region (fun W => Below W7.heap.size W7 W) (by kernel_rfl) (by kernel_rfl) hB2.out.drew ?_
            repeat (first
              | (with_reducible refine q_off ?_ ?_
                 · rfl
                 try simp only [Act.put, List.getElem_toArray, List.getElem_cons_zero, List.getElem_cons_succ, List.setIfInBounds_toArray, List.set_cons_zero, List.set_cons_succ])
              | (with_reducible refine q_lds2 Tryd.isAgg3 ?_ ?_ ⟨U, 3, none⟩ ?_ (.int .i64 x3) k0.out ?_
                 · rfl
                 · rfl
                 · rfl
                 try simp only [Act.put, List.getElem_toArray, List.getElem_cons_zero, List.getElem_cons_succ, List.setIfInBounds_toArray, List.set_cons_zero, List.set_cons_succ])
              | (with_reducible refine q_lds2 Tryd.isAgg3 ?_ ?_ ⟨V, 3, none⟩ ?_ (.int .i64 y3) k1.out ?_
                 · rfl
                 · rfl
                 · rfl
                 try simp only [Act.put, List.getElem_toArray, List.getElem_cons_zero, List.getElem_cons_succ, List.setIfInBounds_toArray, List.set_cons_zero, List.set_cons_succ])
              | (with_reducible refine wpQuiet_step ?_
                 intro K hK
                 go_simp
                 first
                 | (refine hK _ ?_; clear hK K)
                 | (apply Exists.intro
                    refine ⟨fun W hW => ?_, hK _ ?_⟩
                    first
                    | exact rfl
                    | exact ⟨rfl, rfl⟩
                    clear hK K)))
            refine wpQuiet_nil ?_
            intro Vq hVq
            have hBf := hH7.out.trans (hVq.mono hH7.out.size)
            clear hVq hB2 k0 k1
            go_wp2_with fail
            go_ret
            exact ⟨by first | (rw [hd' ()]; simp; done) | (simp [hd' ()]; done), hBf⟩
        · have k0 : Hid (∀ W : World, Below W7.heap.size W7 W → W.cell? ⟨U, 4, none⟩ = some (.int .i64 x4)) := Lib.hid fun W h => (hHU.out W h).2.2.2.2.1
          have k1 : Hid (∀ W : World, Below W7.heap.size W7 W → W.cell? ⟨V, 4, none⟩ = some (.int .i64 y4)) := Lib.hid fun W h => (hHV.out W h).2.2.2.2.1
          clear hHU hHV
          by_cases hne : x4 = y4
          · have g1 : (x4 == y4) = true := by rw [hne]; exact beq_self_eq_true _
            have g2 : (x4 != y4) = false := by rw [hne]; exact bne_self_eq_false _
            have hne2 := Lib.hid hne
            clear hne
            go_wp2_with fail
            refine q_region (fun W => Below W7.heap.size W7 W) (by kernel_rfl) (by kernel_rfl) hB.out.drew ?_
            repeat (first
              | (with_reducible refine q_off ?_ ?_
                 · rfl
                 try simp only [Act.put, List.getElem_toArray, List.getElem_cons_zero, List.getElem_cons_succ, List.setIfInBounds_toArray, List.set_cons_zero, List.set_cons_succ])
              | (with_reducible refine q_lds2 Tryd.isAgg3 ?_ ?_ ⟨U, 4, none⟩ ?_ (.int .i64 x4) k0.out ?_
                 · rfl
                 · rfl
                 · rfl
                 try simp only [Act.put, List.getElem_toArray, List.getElem_cons_zero, List.getElem_cons_succ, List.setIfInBounds_toArray, List.set_cons_zero, List.set_cons_succ])
              | (with_reducible refine q_lds2 Tryd.isAgg3 ?_ ?_ ⟨V, 4, none⟩ ?_ (.int .i64 y4) k1.out ?_
                 · rfl
                 · rfl
                 · rfl
                 try simp only [Act.put, List.getElem_toArray, List.getElem_cons_zero, List.getElem_cons_succ, List.setIfInBounds_toArray, List.set_cons_zero, List.set_cons_succ])
              | (with_reducible refine wpQuiet_step ?_
                 intro K hK
                 go_simp
                 first
                 | (refine hK _ ?_; clear hK K)
                 | (apply Exists.intro
                    refine ⟨fun W hW => ?_, hK _ ?_⟩
                    first
                    | exact rfl
                    | exact ⟨rfl, rfl⟩
                    clear hK K)))
            refine wpQuiet_nil ?_
            intro Vr hVr
            have hB2 := Lib.hid hVr
            clear hVr hB k0 k1
            go_wp2_with fail
            go_roundw
            case rel => exact ⟨5, by omega, rfl, Lib.hid ⟨fun _ => hE.out.1 (by omega), fun _ => hE.out.2.1 (by omega), fun _ => hE.out.2.2.1 (by omega), fun _ => hE.out.2.2.2.1 (by omega), fun _ => hne2.out⟩, hB2⟩
            case measure => simp [intOf]
          · have g1 : (x4 == y4) = false := beq_false_of_ne hne
            have g2 : (x4 != y4) = true := by rw [bne_iff_ne]; exact hne
            have hd : decide (a < b) = decide (x4 < y4) := lex_dec (fun h => lex (hca' ()) (hcb' ()) (.inr ⟨(hE.out.1 (by omega)), .inr ⟨(hE.out.2.1 (by omega)), .inr ⟨(hE.out.2.2.1 (by omega)), .inr ⟨(hE.out.2.2.2.1 (by omega)), h⟩⟩⟩⟩)) (fun h => lex (hcb' ()) (hca' ()) (.inr ⟨(hE.out.1 (by omega)).symm, .inr ⟨(hE.out.2.1 (by omega)).symm, .inr ⟨(hE.out.2.2.1 (by omega)).symm, .inr ⟨(hE.out.2.2.2.1 (by omega)).symm, h⟩⟩⟩⟩)) hne
            have hd' := fun (_ : Unit) => hd
            clear hd
            go_wp2_with fail
            refine q_region (fun W => Below W7.heap.size W7 W) (by kernel_rfl) (by kernel_rfl) hB.out.drew ?_
            repeat (first
              | (with_reducible refine q_off ?_ ?_
                 · rfl
                 try simp only [Act.put, List.getElem_toArray, List.getElem_cons_zero, List.getElem_cons_succ, List.setIfInBounds_toArray, List.set_cons_zero, List.set_cons_succ])
              | (with_reducible refine q_lds2 Tryd.isAgg3 ?_ ?_ ⟨U, 4, none⟩ ?_ (.int .i64 x4) k0.out ?_
                 · rfl
                 · rfl
                 · rfl
                 try simp only [Act.put, List.getElem_toArray, List.getElem_cons_zero, List.getElem_cons_succ, List.setIfInBounds_toArray, List.set_cons_zero, List.set_cons_succ])
              | (with_reducible refine q_lds2 Tryd.isAgg3 ?_ ?_ ⟨V, 4, none⟩ ?_ (.int .i64 y4) k1.out ?_
                 · rfl
                 · rfl
                 · rfl
                 try simp only [Act.put, List.getElem_toArray, List.getElem_cons_zero, List.getElem_cons_succ, List.setIfInBounds_toArray, List.set_cons_zero, List.set_cons_succ])
              | (with_reducible refine wpQuiet_step ?_
                 intro K hK
                 go_simp
                 first
                 | (refine hK _ ?_; clear hK K)
                 | (apply Exists.intro
                    refine ⟨fun W hW => ?_, hK _ ?_⟩
                    first
                    | exact rfl
                    | exact ⟨rfl, rfl⟩
                    clear hK K)))
            refine wpQuiet_nil ?_
            intro Vr hVr
            have hB2 := Lib.hid hVr
            clear hVr hB
            go_wp2_with fail
            refine q_region (fun W => Below W7.heap.size W7 W) (by kernel_rfl) (by kernel_rfl) hB2.out.drew ?_
            repeat (first
              | (with_reducible refine q_off ?_ ?_
                 · rfl
                 try simp only [Act.put, List.getElem_toArray, List.getElem_cons_zero, List.getElem_cons_succ, List.setIfInBounds_toArray, List.set_cons_zero, List.set_cons_succ])
              | (with_reducible refine q_lds2 Tryd.isAgg3 ?_ ?_ ⟨U, 4, none⟩ ?_ (.int .i64 x4) k0.out ?_
                 · rfl
                 · rfl
                 · rfl
                 try simp only [Act.put, List.getElem_toArray, List.getElem_cons_zero, List.getElem_cons_succ, List.setIfInBounds_toArray, List.set_cons_zero, List.set_cons_succ])
              | (with_reducible refine q_lds2 Tryd.isAgg3 ?_ ?_ ⟨V, 4, none⟩ ?_ (.int .i64 y4) k1.out ?_
                 · rfl
                 · rfl
                 · rfl
                 try simp only [Act.put, List.getElem_toArray, List.getElem_cons_zero, List.getElem_cons_succ, List.setIfInBounds_toArray, List.set_cons_zero, List.set_cons_succ])
              | (with_reducible refine wpQuiet_step ?_
                 intro K hK
                 go_simp
                 first
                 | (refine hK _ ?_; clear hK K)
                 | (apply Exists.intro
                    refine ⟨fun W hW => ?_, hK _ ?_⟩
                    first
                    | exact rfl
                    | exact ⟨rfl, rfl⟩
                    clear hK K)))
            refine wpQuiet_nil ?_
            intro Vq hVq
            have hBf := hH7.out.trans (hVq.mono hH7.out.size)
            clear hVq hB2 k0 k1
            go_wp2_with fail
            go_ret
            exact ⟨by first | (rw [hd' ()]; simp; done) | (simp [hd' ()]; done), hBf⟩
        · have hab := lex_eq (hca' ()) (hcb' ()) (hE.out.1 (by omega)) (hE.out.2.1 (by omega)) (hE.out.2.2.1 (by omega)) (hE.out.2.2.2.1 (by omega)) (hE.out.2.2.2.2 (by omega))
          have gab : (a == b) = true := by rw [hab]; exact beq_self_eq_true _
          have hBf := hH7.out.trans (hB.out.mono hH7.out.size)
          clear hab hE hB
          go_wp2_with fail
          go_ret
          exact ⟨by first | rfl | (simp; done), hBf⟩
end Go.Proofs
