/- DateFromCivil, walked -/
import Derived.Test.YtgbpafapmbnfjaaDoorKn
namespace Go.Proofs
open Go.RowKit Go.Shelf
set_option linter.unusedVariables false
set_option linter.unusedSimpArgs false
open TK
set_option maxRecDepth 100000 in
set_option maxHeartbeats 2000000 in
theorem Tryd.kFromCivil (y m d h mi : Int) (hy : -9223372036854775808 ≤ y ∧ y ≤ 9223372036854775807) (hm : -9223372036854775808 ≤ m ∧ m ≤ 9223372036854775807) (hd : -9223372036854775808 ≤ d ∧ d ≤ 9223372036854775807) (hh : -9223372036854775808 ≤ h ∧ h ≤ 9223372036854775807) (hmi : -9223372036854775808 ≤ mi ∧ mi ≤ 9223372036854775807) (w : World) (hT : Tabs w) : Calls Tryd.prog 4 #[.agg #[.int .i64 y, .int .i64 m, .int .i64 d, .int .i64 h, .int .i64 mi]] w fun e w' => e = .returned (.bool true) ∧ Below w.heap.size w w' := by
  have hT0 := Lib.hid hT
  have hB0 := Lib.hid (Below.refl w.heap.size w)
  clear hT
  have f1 := Tryd.dFromCivil y m d h mi hy hm hd hh hmi
  have f2 := Tryd.qFromCivil y m d h mi hy hm hd hh hmi
  unfold fcv at f1 f2
  generalize (Cal.from_ y m d h mi).1 = s1 at f1 f2
  generalize (Cal.from_ y m d h mi).2 = e1 at f1 f2
  have F1 := Lib.hid f1
  have F2 := Lib.hid f2
  clear f1 f2
  go_enter Tryd.func4, Tryd.ntmps4
  go_wp2_with fail
  have hbA : Below w.heap.size w (w.alloc (.cells #[.int .i64 y, .int .i64 m, .int .i64 d, .int .i64 h, .int .i64 mi] 28)) := (Below.refl _ _).alloc (Nat.le_refl _) _
  have hrA : (w.alloc (.cells #[.int .i64 y, .int .i64 m, .int .i64 d, .int .i64 h, .int .i64 mi] 28)).heap[w.heap.size]? = some (.cells #[.int .i64 y, .int .i64 m, .int .i64 d, .int .i64 h, .int .i64 mi] 28 (0, 0)) := Go.heap_alloc_new w _
  generalize w.alloc (.cells #[.int .i64 y, .int .i64 m, .int .i64 d, .int .i64 h, .int .i64 mi] 28) = W1 at hbA hrA ⊢
  generalize hBeB : w.heap.size = B at hrA ⊢
  have hT1 := Lib.hid (hT0.out.below hbA)
  have hB1 := Lib.hid (hB0.out.trans (hbA.mono hB0.out.size))
  have hRB1 := Lib.hid hrA
  clear hrA
  clear hbA hT0 hB0 hBeB
  refine (Tryd.kKnown _ hT1.out).mono ?_
  rintro e W2 ⟨rfl, hb⟩
  have hT2 := Lib.hid (hT1.out.below hb)
  have hB2 := Lib.hid (hB1.out.trans (hb.mono hB1.out.size))
  have hRB2 := Lib.hid ((hb.block B (Array.getElem?_eq_some_iff.1 hRB1.out).1).trans hRB1.out)
  clear hRB1
  clear hb hT1 hB1
  obtain ⟨rB0, rB1, rB2, rB3, rB4, -, -, -, -, -⟩ := cells5 hRB2.out
  go_wp2_with fail
  clear rB0 rB1 rB2 rB3 rB4
  refine (F1.out _).mono ?_
  rintro e W3 ⟨rfl, hb⟩
  have hT3 := Lib.hid (hT2.out.below hb)
  have hB3 := Lib.hid (hB2.out.trans (hb.mono hB2.out.size))
  have hRB3 := Lib.hid ((hb.block B (Array.getElem?_eq_some_iff.1 hRB2.out).1).trans hRB2.out)
  clear hRB2
  clear hb hT2 hB2
  obtain ⟨rB0, rB1, rB2, rB3, rB4, -, -, -, -, -⟩ := cells5 hRB3.out
  go_wp2_with fail
  clear rB0 rB1 rB2 rB3 rB4
  refine (F2.out _).mono ?_
  rintro e W4 ⟨rfl, hb⟩
  have hT4 := Lib.hid (hT3.out.below hb)
  have hB4 := Lib.hid (hB3.out.trans (hb.mono hB3.out.size))
  have hRB4 := Lib.hid ((hb.block B (Array.getElem?_eq_some_iff.1 hRB3.out).1).trans hRB3.out)
  clear hRB3
  clear hb hT3 hB3
  obtain ⟨rB0, rB1, rB2, rB3, rB4, -, -, -, -, -⟩ := cells5 hRB4.out
  go_wp2_with fail
  clear rB0 rB1 rB2 rB3 rB4
  go_ret
  exact ⟨by first | rfl | (simp; done), hB4.out⟩
end Go.Proofs
