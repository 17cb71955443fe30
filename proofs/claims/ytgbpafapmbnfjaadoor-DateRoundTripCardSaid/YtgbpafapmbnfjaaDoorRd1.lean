/- read of date, walked: two of its eight roads -/
import Derived.Test.YtgbpafapmbnfjaaDoorRd
namespace Go.Proofs
open Go.RowKit Go.Shelf
set_option linter.unusedVariables false
set_option linter.unusedSimpArgs false
open TK
set_option maxRecDepth 100000 in
set_option maxHeartbeats 4000000 in
theorem Tryd.dRead_010 (X : Nat) (s : ByteArray) (wp w : World) (h0 : Scn w X s (0, 0)) (hb : Below wp.heap.size wp w) (hX : wp.heap.size ≤ X) (hT : Tabs wp) (hn : spk isLt s (0, 0) = false) (h2 : spk isDg s (r2 s).1 = true) (h3 : spk isCo s (r11 s).1 = false) : Calls Tryd.prog 38 #[.pointer (some ⟨X, 0, none⟩)] w fun z w' => z = .returned (rv s) ∧ Below wp.heap.size wp w' ∧ Scn w' X s (r15 s).1 := by
  have hn' := fun (_ : Unit) => hn
  have h2' := fun (_ : Unit) => h2
  have h3' := fun (_ : Unit) => h3
  have e1 : Unit → (r1 s = ((0, 0), 0)) := fun _ => (by unfold r1; rw [hn]; rfl)
  have e3 : Unit → (r3 s = ((r2b s).1, 10 * (r2 s).2 + (r2b s).2)) := fun _ => (by unfold r3; rw [h2]; rfl)
  have e12 : Unit → (r12 s = ((r11 s).1, 0, 0)) := fun _ => (by unfold r12; rw [h3]; rfl)
  clear hn h2 h3
  go_enter Tryd.func38, Tryd.ntmps38
  go_wp2_with fail
  have hR0 : Rd wp X w.heap.size (w.heap.size + 1) s (0, 0) zA ((w.alloc (.cells zA 63)).alloc (.cells zA 63)) := rd_start h0 hb hX hT
  change Calls _ _ _ ((w.alloc (.cells zA 63)).alloc (.cells zA 63)) _
  generalize (w.alloc (.cells zA 63)).alloc (.cells zA 63) = W0 at hR0 ⊢
  generalize w.heap.size + 1 = PB at hR0 ⊢
  generalize w.heap.size = RB at hR0 ⊢
  have hH0 : Hid (Rd wp X RB PB s (0, 0) #[.bool false, .int .i64 0, .int .i64 0, .int .i64 0, .int .i64 0, .int .i64 0, .int .i64 0, .int .i64 0, .int .i64 0, .int .i64 0, .int .i64 0, .int .i64 0, .int .i64 0, .int .i64 0] W0) := Lib.hid hR0
  clear hR0 h0 hb hT hX
  have hc := Tryd.dPeek 47 #[] isLt X s (0, 0) W0 Tryd.cfLetter (fun W _ c => Tryd.pLetter c W) hH0.out.scn
  rw [hn' ()] at hc
  refine hc.mono ?_
  rintro e W1 ⟨rfl, hb⟩
  have hH1t := hH0.out.below hb
  clear hc hb
  have hH1 : Hid (Rd wp X RB PB s (0, 0) #[.bool false, .int .i64 0, .int .i64 0, .int .i64 0, .int .i64 0, .int .i64 0, .int .i64 0, .int .i64 0, .int .i64 0, .int .i64 0, .int .i64 0, .int .i64 0, .int .i64 0, .int .i64 0] W1) := Lib.hid hH1t
  clear hH1t hH0
  obtain ⟨p0, f0⟩ := hH1.out.cell 0 _ rfl
  obtain ⟨c0, c1, c2, c3, c4, c5⟩ := hH1.out.scn.c
  go_wp2_with fail
  clear c0 c1 c2 c3 c4 c5 p0 f0
  have hH2t : Rd wp X RB PB s (0, 0) #[.bool false, .int .i64 0, .int .i64 0, .int .i64 0, .int .i64 0, .int .i64 0, .int .i64 0, .int .i64 0, .int .i64 0, .int .i64 0, .int .i64 0, .int .i64 0, .int .i64 0, .int .i64 0] (W1.setCell ⟨PB, 0, none⟩ (.bool false)) := (hH1.out.store 0 (.bool false))
  generalize (W1.setCell ⟨PB, 0, none⟩ (.bool false)) = W2 at hH2t ⊢
  have hH2 : Hid (Rd wp X RB PB s (0, 0) #[.bool false, .int .i64 0, .int .i64 0, .int .i64 0, .int .i64 0, .int .i64 0, .int .i64 0, .int .i64 0, .int .i64 0, .int .i64 0, .int .i64 0, .int .i64 0, .int .i64 0, .int .i64 0] W2) := Lib.hid hH2t
  clear hH2t hH1
  have hH3t : Rd wp X RB PB s (r1 s).1 #[.bool false, .int .i64 ((r1 s).2 : Int), .int .i64 0, .int .i64 0, .int .i64 0, .int .i64 0, .int .i64 0, .int .i64 0, .int .i64 0, .int .i64 0, .int .i64 0, .int .i64 0, .int .i64 0, .int .i64 0] W2 := by
    rw [e1 ()]
    try dsimp only
    exact hH2.out
  have hH3 : Hid (Rd wp X RB PB s (r1 s).1 #[.bool false, .int .i64 ((r1 s).2 : Int), .int .i64 0, .int .i64 0, .int .i64 0, .int .i64 0, .int .i64 0, .int .i64 0, .int .i64 0, .int .i64 0, .int .i64 0, .int .i64 0, .int .i64 0, .int .i64 0] W2) := Lib.hid hH3t
  clear hH3t hH2
  have hc := Tryd.dNumber X s (r1 s).1 1 (by omega) W2 hH3.out.scn
  rw [show snum s 1 ((r1 s).1, 0) = r2 s from rfl] at hc
  refine hc.mono ?_
  rintro e W4 ⟨rfl, hg, hs⟩
  have hH4t := hH3.out.call hg hs
  clear hc hg hs
  have hH4 : Hid (Rd wp X RB PB s (r2 s).1 #[.bool false, .int .i64 ((r1 s).2 : Int), .int .i64 0, .int .i64 0, .int .i64 0, .int .i64 0, .int .i64 0, .int .i64 0, .int .i64 0, .int .i64 0, .int .i64 0, .int .i64 0, .int .i64 0, .int .i64 0] W4) := Lib.hid hH4t
  clear hH4t hH3
  obtain ⟨p4, f4⟩ := hH4.out.cell 4 _ rfl
  obtain ⟨p8, f8⟩ := hH4.out.cell 8 _ rfl
  obtain ⟨c0, c1, c2, c3, c4, c5⟩ := hH4.out.scn.c
  go_wp2_with fail
  clear c0 c1 c2 c3 c4 c5 p4 f4 p8 f8
  have hH5t : Rd wp X RB PB s (r2 s).1 #[.bool false, .int .i64 ((r1 s).2 : Int), .int .i64 0, .int .i64 0, .int .i64 ((r2 s).2 : Int), .int .i64 0, .int .i64 0, .int .i64 0, .int .i64 (((r1 s).1.1 : Nat) : Int), .int .i64 0, .int .i64 0, .int .i64 0, .int .i64 0, .int .i64 0] ((W4.setCell ⟨PB, 4, none⟩ (.int .i64 ((r2 s).2 : Int))).setCell ⟨PB, 8, none⟩ (.int .i64 (((r1 s).1.1 : Nat) : Int))) := ((hH4.out.store 4 (.int .i64 ((r2 s).2 : Int))).store 8 (.int .i64 (((r1 s).1.1 : Nat) : Int)))
  generalize ((W4.setCell ⟨PB, 4, none⟩ (.int .i64 ((r2 s).2 : Int))).setCell ⟨PB, 8, none⟩ (.int .i64 (((r1 s).1.1 : Nat) : Int))) = W5 at hH5t ⊢
  have hH5 : Hid (Rd wp X RB PB s (r2 s).1 #[.bool false, .int .i64 ((r1 s).2 : Int), .int .i64 0, .int .i64 0, .int .i64 ((r2 s).2 : Int), .int .i64 0, .int .i64 0, .int .i64 0, .int .i64 (((r1 s).1.1 : Nat) : Int), .int .i64 0, .int .i64 0, .int .i64 0, .int .i64 0, .int .i64 0] W5) := Lib.hid hH5t
  clear hH5t hH4
  have hc := Tryd.dPeek 53 #[] isDg X s (r2 s).1 W5 Tryd.cfDigit (fun W _ c => Tryd.pDigit c W) hH5.out.scn
  rw [h2' ()] at hc
  refine hc.mono ?_
  rintro e W6 ⟨rfl, hb⟩
  have hH6t := hH5.out.below hb
  clear hc hb
  have hH6 : Hid (Rd wp X RB PB s (r2 s).1 #[.bool false, .int .i64 ((r1 s).2 : Int), .int .i64 0, .int .i64 0, .int .i64 ((r2 s).2 : Int), .int .i64 0, .int .i64 0, .int .i64 0, .int .i64 (((r1 s).1.1 : Nat) : Int), .int .i64 0, .int .i64 0, .int .i64 0, .int .i64 0, .int .i64 0] W6) := Lib.hid hH6t
  clear hH6t hH5
  obtain ⟨p4, f4⟩ := hH6.out.cell 4 _ rfl
  obtain ⟨c0, c1, c2, c3, c4, c5⟩ := hH6.out.scn.c
  go_wp2_with fail
  clear c0 c1 c2 c3 c4 c5 p4 f4
  have hc := Tryd.dNumber X s (r2 s).1 1 (by omega) W6 hH6.out.scn
  rw [show snum s 1 ((r2 s).1, 0) = r2b s from rfl] at hc
  refine hc.mono ?_
  rintro e W7 ⟨rfl, hg, hs⟩
  have hH7t := hH6.out.call hg hs
  clear hc hg hs
  have hH7 : Hid (Rd wp X RB PB s (r2b s).1 #[.bool false, .int .i64 ((r1 s).2 : Int), .int .i64 0, .int .i64 0, .int .i64 ((r2 s).2 : Int), .int .i64 0, .int .i64 0, .int .i64 0, .int .i64 (((r1 s).1.1 : Nat) : Int), .int .i64 0, .int .i64 0, .int .i64 0, .int .i64 0, .int .i64 0] W7) := Lib.hid hH7t
  clear hH7t hH6
  obtain ⟨p4, f4⟩ := hH7.out.cell 4 _ rfl
  obtain ⟨c0, c1, c2, c3, c4, c5⟩ := hH7.out.scn.c
  have hda : (r2 s).2 ≤ 255 := snum1_bd _ _
  have hdb : (r2b s).2 ≤ 255 := snum1_bd _ _
  have u1 : IntKind.i64.wrap (10 * ((r2 s).2 : Int)) = 10 * ((r2 s).2 : Int) := IntWalk.i64_in _ (by omega)
  have u2 : IntKind.i64.wrap (10 * ((r2 s).2 : Int) + ((r2b s).2 : Int)) = 10 * ((r2 s).2 : Int) + ((r2b s).2 : Int) := IntWalk.i64_in _ (by omega)
  go_wp2_with fail
  clear c0 c1 c2 c3 c4 c5 p4 f4
  clear u1 u2 hda hdb
  have hH8t : Rd wp X RB PB s (r2b s).1 #[.bool false, .int .i64 ((r1 s).2 : Int), .int .i64 0, .int .i64 0, .int .i64 (10 * ((r2 s).2 : Int) + ((r2b s).2 : Int)), .int .i64 0, .int .i64 0, .int .i64 0, .int .i64 (((r1 s).1.1 : Nat) : Int), .int .i64 0, .int .i64 0, .int .i64 0, .int .i64 0, .int .i64 0] (W7.setCell ⟨PB, 4, none⟩ (.int .i64 (10 * ((r2 s).2 : Int) + ((r2b s).2 : Int)))) := (hH7.out.store 4 (.int .i64 (10 * ((r2 s).2 : Int) + ((r2b s).2 : Int))))
  generalize (W7.setCell ⟨PB, 4, none⟩ (.int .i64 (10 * ((r2 s).2 : Int) + ((r2b s).2 : Int)))) = W8 at hH8t ⊢
  have hH8 : Hid (Rd wp X RB PB s (r2b s).1 #[.bool false, .int .i64 ((r1 s).2 : Int), .int .i64 0, .int .i64 0, .int .i64 (10 * ((r2 s).2 : Int) + ((r2b s).2 : Int)), .int .i64 0, .int .i64 0, .int .i64 0, .int .i64 (((r1 s).1.1 : Nat) : Int), .int .i64 0, .int .i64 0, .int .i64 0, .int .i64 0, .int .i64 0] W8) := Lib.hid hH8t
  clear hH8t hH7
  have hH9t : Rd wp X RB PB s (r3 s).1 #[.bool false, .int .i64 ((r1 s).2 : Int), .int .i64 0, .int .i64 0, .int .i64 ((r3 s).2 : Int), .int .i64 0, .int .i64 0, .int .i64 0, .int .i64 (((r1 s).1.1 : Nat) : Int), .int .i64 0, .int .i64 0, .int .i64 0, .int .i64 0, .int .i64 0] W8 := by
    rw [e3 ()]
    try dsimp only
    rw [Int.natCast_add, Int.natCast_mul]
    exact hH8.out
  have hH9 : Hid (Rd wp X RB PB s (r3 s).1 #[.bool false, .int .i64 ((r1 s).2 : Int), .int .i64 0, .int .i64 0, .int .i64 ((r3 s).2 : Int), .int .i64 0, .int .i64 0, .int .i64 0, .int .i64 (((r1 s).1.1 : Nat) : Int), .int .i64 0, .int .i64 0, .int .i64 0, .int .i64 0, .int .i64 0] W8) := Lib.hid hH9t
  clear hH9t hH8
  have hc := Tryd.dBlanks X s (r3 s).1 false W8 hH9.out.scn
  rw [show sbl false s (r3 s).1 = r4 s from rfl] at hc
  refine hc.mono ?_
  rintro e W10 ⟨rfl, hg, hs⟩
  have hH10t := hH9.out.call hg hs
  clear hc hg hs
  have hH10 : Hid (Rd wp X RB PB s (r4 s) #[.bool false, .int .i64 ((r1 s).2 : Int), .int .i64 0, .int .i64 0, .int .i64 ((r3 s).2 : Int), .int .i64 0, .int .i64 0, .int .i64 0, .int .i64 (((r1 s).1.1 : Nat) : Int), .int .i64 0, .int .i64 0, .int .i64 0, .int .i64 0, .int .i64 0] W10) := Lib.hid hH10t
  clear hH10t hH9
  obtain ⟨c0, c1, c2, c3, c4, c5⟩ := hH10.out.scn.c
  go_wp2_with fail
  clear c0 c1 c2 c3 c4 c5
  have hc := Tryd.dMonthNames W10
  refine hc.mono ?_
  rintro e W11 ⟨rfl, hb⟩
  have hH11t := hH10.out.below hb
  clear hc hb
  have hH11 : Hid (Rd wp X RB PB s (r4 s) #[.bool false, .int .i64 ((r1 s).2 : Int), .int .i64 0, .int .i64 0, .int .i64 ((r3 s).2 : Int), .int .i64 0, .int .i64 0, .int .i64 0, .int .i64 (((r1 s).1.1 : Nat) : Int), .int .i64 0, .int .i64 0, .int .i64 0, .int .i64 0, .int .i64 0] W11) := Lib.hid hH11t
  clear hH11t hH10
  obtain ⟨c0, c1, c2, c3, c4, c5⟩ := hH11.out.scn.c
  have hst : (storeCells ⟨W11.heap.size, 0, none⟩ mnA.toList 0).run Tryd.prog (W11.alloc (.cells #[.string ⟨#[]⟩, .string ⟨#[]⟩, .string ⟨#[]⟩, .string ⟨#[]⟩, .string ⟨#[]⟩, .string ⟨#[]⟩, .string ⟨#[]⟩, .string ⟨#[]⟩, .string ⟨#[]⟩, .string ⟨#[]⟩, .string ⟨#[]⟩, .string ⟨#[]⟩] 56)) = .ok () (W11.alloc (.cells mnA 56)) := run_storeCells_new W11 56 z12 mnA (by kernel_rfl) rfl (by kernel_rfl)
  go_wp2_with fail
  clear c0 c1 c2 c3 c4 c5
  clear hst
  have hNx : W11.heap.size ≠ X := by have := (Array.getElem?_eq_some_iff.1 hH11.out.scn.1).1; omega
  have hNl : W11.heap.size < (W11.alloc (.cells mnA 56)).heap.size := by simp
  have hNc : ∀ k (h : k < (names mnl).length), (W11.alloc (.cells mnA 56)).cell? ⟨W11.heap.size, k, none⟩ = some (.string (names mnl)[k]) := fun k h => (Go.cell_of_row _ _ _ _ _ _ (Go.heap_alloc_new W11 _)).trans (mn_at k h)
  have hH12t : Rd wp X RB PB s (r4 s) #[.bool false, .int .i64 ((r1 s).2 : Int), .int .i64 0, .int .i64 0, .int .i64 ((r3 s).2 : Int), .int .i64 0, .int .i64 0, .int .i64 0, .int .i64 (((r1 s).1.1 : Nat) : Int), .int .i64 0, .int .i64 0, .int .i64 0, .int .i64 0, .int .i64 0] (W11.alloc (.cells mnA 56)) := hH11.out.below ((Below.refl _ _).alloc (Nat.le_refl _) _)
  generalize (W11.alloc (.cells mnA 56)) = W12 at hH12t hNl hNc ⊢
  generalize W11.heap.size = NB12 at hNx hNl hNc ⊢
  have hH12 : Hid (Rd wp X RB PB s (r4 s) #[.bool false, .int .i64 ((r1 s).2 : Int), .int .i64 0, .int .i64 0, .int .i64 ((r3 s).2 : Int), .int .i64 0, .int .i64 0, .int .i64 0, .int .i64 (((r1 s).1.1 : Nat) : Int), .int .i64 0, .int .i64 0, .int .i64 0, .int .i64 0, .int .i64 0] W12) := Lib.hid hH12t
  clear hH12t hH11
  have hc := Tryd.dName X s (r4 s) (names mnl) (by decide) mn_3 NB12 W12 hH12.out.scn hNl hNx hNc hH12.out.T
  rw [show sname (names mnl) s (r4 s) = r5 s from rfl] at hc
  clear hNx hNl hNc
  refine hc.mono ?_
  rintro e W13 ⟨rfl, hg, hs⟩
  have hH13t := hH12.out.call hg hs
  clear hc hg hs
  have hH13 : Hid (Rd wp X RB PB s (r5 s).1 #[.bool false, .int .i64 ((r1 s).2 : Int), .int .i64 0, .int .i64 0, .int .i64 ((r3 s).2 : Int), .int .i64 0, .int .i64 0, .int .i64 0, .int .i64 (((r1 s).1.1 : Nat) : Int), .int .i64 0, .int .i64 0, .int .i64 0, .int .i64 0, .int .i64 0] W13) := Lib.hid hH13t
  clear hH13t hH12
  obtain ⟨p3, f3⟩ := hH13.out.cell 3 _ rfl
  obtain ⟨c0, c1, c2, c3, c4, c5⟩ := hH13.out.scn.c
  have hm5 : (r5 s).2 ≤ 12 := sname_bd _ _ _
  have u1 : IntKind.i64.wrap (1 + ((r5 s).2 : Int)) = 1 + ((r5 s).2 : Int) := IntWalk.i64_in _ (by omega)
  go_wp2_with fail
  clear c0 c1 c2 c3 c4 c5 p3 f3
  clear u1 hm5
  have hH14t : Rd wp X RB PB s (r5 s).1 #[.bool false, .int .i64 ((r1 s).2 : Int), .int .i64 0, .int .i64 (1 + ((r5 s).2 : Int)), .int .i64 ((r3 s).2 : Int), .int .i64 0, .int .i64 0, .int .i64 0, .int .i64 (((r1 s).1.1 : Nat) : Int), .int .i64 0, .int .i64 0, .int .i64 0, .int .i64 0, .int .i64 0] (W13.setCell ⟨PB, 3, none⟩ (.int .i64 (1 + ((r5 s).2 : Int)))) := (hH13.out.store 3 (.int .i64 (1 + ((r5 s).2 : Int))))
  generalize (W13.setCell ⟨PB, 3, none⟩ (.int .i64 (1 + ((r5 s).2 : Int)))) = W14 at hH14t ⊢
  have hH14 : Hid (Rd wp X RB PB s (r5 s).1 #[.bool false, .int .i64 ((r1 s).2 : Int), .int .i64 0, .int .i64 (1 + ((r5 s).2 : Int)), .int .i64 ((r3 s).2 : Int), .int .i64 0, .int .i64 0, .int .i64 0, .int .i64 (((r1 s).1.1 : Nat) : Int), .int .i64 0, .int .i64 0, .int .i64 0, .int .i64 0, .int .i64 0] W14) := Lib.hid hH14t
  clear hH14t hH13
  have hc := Tryd.dBlanks X s (r5 s).1 false W14 hH14.out.scn
  rw [show sbl false s (r5 s).1 = r6 s from rfl] at hc
  refine hc.mono ?_
  rintro e W15 ⟨rfl, hg, hs⟩
  have hH15t := hH14.out.call hg hs
  clear hc hg hs
  have hH15 : Hid (Rd wp X RB PB s (r6 s) #[.bool false, .int .i64 ((r1 s).2 : Int), .int .i64 0, .int .i64 (1 + ((r5 s).2 : Int)), .int .i64 ((r3 s).2 : Int), .int .i64 0, .int .i64 0, .int .i64 0, .int .i64 (((r1 s).1.1 : Nat) : Int), .int .i64 0, .int .i64 0, .int .i64 0, .int .i64 0, .int .i64 0] W15) := Lib.hid hH15t
  clear hH15t hH14
  obtain ⟨c0, c1, c2, c3, c4, c5⟩ := hH15.out.scn.c
  go_wp2_with fail
  clear c0 c1 c2 c3 c4 c5
  have hc := Tryd.dNumber X s (r6 s) 4 (by omega) W15 hH15.out.scn
  rw [show snum s 4 ((r6 s), 0) = r7 s from rfl] at hc
  refine hc.mono ?_
  rintro e W16 ⟨rfl, hg, hs⟩
  have hH16t := hH15.out.call hg hs
  clear hc hg hs
  have hH16 : Hid (Rd wp X RB PB s (r7 s).1 #[.bool false, .int .i64 ((r1 s).2 : Int), .int .i64 0, .int .i64 (1 + ((r5 s).2 : Int)), .int .i64 ((r3 s).2 : Int), .int .i64 0, .int .i64 0, .int .i64 0, .int .i64 (((r1 s).1.1 : Nat) : Int), .int .i64 0, .int .i64 0, .int .i64 0, .int .i64 0, .int .i64 0] W16) := Lib.hid hH16t
  clear hH16t hH15
  obtain ⟨p2, f2⟩ := hH16.out.cell 2 _ rfl
  obtain ⟨p9, f9⟩ := hH16.out.cell 9 _ rfl
  obtain ⟨c0, c1, c2, c3, c4, c5⟩ := hH16.out.scn.c
  go_wp2_with fail
  clear c0 c1 c2 c3 c4 c5 p2 f2 p9 f9
  have hH17t : Rd wp X RB PB s (r7 s).1 #[.bool false, .int .i64 ((r1 s).2 : Int), .int .i64 ((r7 s).2 : Int), .int .i64 (1 + ((r5 s).2 : Int)), .int .i64 ((r3 s).2 : Int), .int .i64 0, .int .i64 0, .int .i64 0, .int .i64 (((r1 s).1.1 : Nat) : Int), .int .i64 (((r6 s).1 : Nat) : Int), .int .i64 0, .int .i64 0, .int .i64 0, .int .i64 0] ((W16.setCell ⟨PB, 2, none⟩ (.int .i64 ((r7 s).2 : Int))).setCell ⟨PB, 9, none⟩ (.int .i64 (((r6 s).1 : Nat) : Int))) := ((hH16.out.store 2 (.int .i64 ((r7 s).2 : Int))).store 9 (.int .i64 (((r6 s).1 : Nat) : Int)))
  generalize ((W16.setCell ⟨PB, 2, none⟩ (.int .i64 ((r7 s).2 : Int))).setCell ⟨PB, 9, none⟩ (.int .i64 (((r6 s).1 : Nat) : Int))) = W17 at hH17t ⊢
  have hH17 : Hid (Rd wp X RB PB s (r7 s).1 #[.bool false, .int .i64 ((r1 s).2 : Int), .int .i64 ((r7 s).2 : Int), .int .i64 (1 + ((r5 s).2 : Int)), .int .i64 ((r3 s).2 : Int), .int .i64 0, .int .i64 0, .int .i64 0, .int .i64 (((r1 s).1.1 : Nat) : Int), .int .i64 (((r6 s).1 : Nat) : Int), .int .i64 0, .int .i64 0, .int .i64 0, .int .i64 0] W17) := Lib.hid hH17t
  clear hH17t hH16
  have hc := Tryd.dBlanks X s (r7 s).1 false W17 hH17.out.scn
  rw [show sbl false s (r7 s).1 = r8 s from rfl] at hc
  refine hc.mono ?_
  rintro e W18 ⟨rfl, hg, hs⟩
  have hH18t := hH17.out.call hg hs
  clear hc hg hs
  have hH18 : Hid (Rd wp X RB PB s (r8 s) #[.bool false, .int .i64 ((r1 s).2 : Int), .int .i64 ((r7 s).2 : Int), .int .i64 (1 + ((r5 s).2 : Int)), .int .i64 ((r3 s).2 : Int), .int .i64 0, .int .i64 0, .int .i64 0, .int .i64 (((r1 s).1.1 : Nat) : Int), .int .i64 (((r6 s).1 : Nat) : Int), .int .i64 0, .int .i64 0, .int .i64 0, .int .i64 0] W18) := Lib.hid hH18t
  clear hH18t hH17
  obtain ⟨c0, c1, c2, c3, c4, c5⟩ := hH18.out.scn.c
  go_wp2_with fail
  clear c0 c1 c2 c3 c4 c5
  have hc := Tryd.dNumber X s (r8 s) 2 (by omega) W18 hH18.out.scn
  rw [show snum s 2 ((r8 s), 0) = r9 s from rfl] at hc
  refine hc.mono ?_
  rintro e W19 ⟨rfl, hg, hs⟩
  have hH19t := hH18.out.call hg hs
  clear hc hg hs
  have hH19 : Hid (Rd wp X RB PB s (r9 s).1 #[.bool false, .int .i64 ((r1 s).2 : Int), .int .i64 ((r7 s).2 : Int), .int .i64 (1 + ((r5 s).2 : Int)), .int .i64 ((r3 s).2 : Int), .int .i64 0, .int .i64 0, .int .i64 0, .int .i64 (((r1 s).1.1 : Nat) : Int), .int .i64 (((r6 s).1 : Nat) : Int), .int .i64 0, .int .i64 0, .int .i64 0, .int .i64 0] W19) := Lib.hid hH19t
  clear hH19t hH18
  obtain ⟨p5, f5⟩ := hH19.out.cell 5 _ rfl
  obtain ⟨p10, f10⟩ := hH19.out.cell 10 _ rfl
  obtain ⟨c0, c1, c2, c3, c4, c5⟩ := hH19.out.scn.c
  go_wp2_with fail
  clear c0 c1 c2 c3 c4 c5 p5 f5 p10 f10
  have hH20t : Rd wp X RB PB s (r9 s).1 #[.bool false, .int .i64 ((r1 s).2 : Int), .int .i64 ((r7 s).2 : Int), .int .i64 (1 + ((r5 s).2 : Int)), .int .i64 ((r3 s).2 : Int), .int .i64 ((r9 s).2 : Int), .int .i64 0, .int .i64 0, .int .i64 (((r1 s).1.1 : Nat) : Int), .int .i64 (((r6 s).1 : Nat) : Int), .int .i64 (((r8 s).1 : Nat) : Int), .int .i64 0, .int .i64 0, .int .i64 0] ((W19.setCell ⟨PB, 5, none⟩ (.int .i64 ((r9 s).2 : Int))).setCell ⟨PB, 10, none⟩ (.int .i64 (((r8 s).1 : Nat) : Int))) := ((hH19.out.store 5 (.int .i64 ((r9 s).2 : Int))).store 10 (.int .i64 (((r8 s).1 : Nat) : Int)))
  generalize ((W19.setCell ⟨PB, 5, none⟩ (.int .i64 ((r9 s).2 : Int))).setCell ⟨PB, 10, none⟩ (.int .i64 (((r8 s).1 : Nat) : Int))) = W20 at hH20t ⊢
  have hH20 : Hid (Rd wp X RB PB s (r9 s).1 #[.bool false, .int .i64 ((r1 s).2 : Int), .int .i64 ((r7 s).2 : Int), .int .i64 (1 + ((r5 s).2 : Int)), .int .i64 ((r3 s).2 : Int), .int .i64 ((r9 s).2 : Int), .int .i64 0, .int .i64 0, .int .i64 (((r1 s).1.1 : Nat) : Int), .int .i64 (((r6 s).1 : Nat) : Int), .int .i64 (((r8 s).1 : Nat) : Int), .int .i64 0, .int .i64 0, .int .i64 0] W20) := Lib.hid hH20t
  clear hH20t hH19
  have hc := Tryd.dJust 58 W20
  have JB20l : W20.heap.size = W20.heap.size := rfl
  generalize hJ : W20.heap.size = JB20 at hc
  clear JB20l
  have hJ2 : ∀ W, Below JB20 W20 W → Below W20.heap.size W20 W := fun W h => by rw [hJ]; exact h
  clear hJ
  replace hc := hc.mono (fun e w' h => (⟨h.1, h.2.1, hJ2 w' h.2.2⟩ : _ ∧ _ ∧ _))
  clear hJ2
  refine hc.mono ?_
  rintro e W21 ⟨rfl, hj, hb⟩
  have hH21t := hH20.out.below hb
  clear hc hb
  have hH21 : Hid (Rd wp X RB PB s (r9 s).1 #[.bool false, .int .i64 ((r1 s).2 : Int), .int .i64 ((r7 s).2 : Int), .int .i64 (1 + ((r5 s).2 : Int)), .int .i64 ((r3 s).2 : Int), .int .i64 ((r9 s).2 : Int), .int .i64 0, .int .i64 0, .int .i64 (((r1 s).1.1 : Nat) : Int), .int .i64 (((r6 s).1 : Nat) : Int), .int .i64 (((r8 s).1 : Nat) : Int), .int .i64 0, .int .i64 0, .int .i64 0] W21) := Lib.hid hH21t
  clear hH21t hH20
  obtain ⟨c0, c1, c2, c3, c4, c5⟩ := hH21.out.scn.c
  go_wp2_with fail
  clear c0 c1 c2 c3 c4 c5
  have hc := Tryd.dTake 65 #[.pointer (some ⟨JB20, 0, none⟩)] isCo X s (r9 s).1 W21 Tryd.cfJustK (fun W h c => Tryd.pJust 58 JB20 c W (cell_keep h hj)) hH21.out.scn
  rw [show stk isCo s (r9 s).1 = r10 s from rfl] at hc
  clear hj
  refine hc.mono ?_
  rintro e W22 ⟨rfl, hg, hs⟩
  have hH22t := hH21.out.call hg hs
  clear hc hg hs
  have hH22 : Hid (Rd wp X RB PB s (r10 s) #[.bool false, .int .i64 ((r1 s).2 : Int), .int .i64 ((r7 s).2 : Int), .int .i64 (1 + ((r5 s).2 : Int)), .int .i64 ((r3 s).2 : Int), .int .i64 ((r9 s).2 : Int), .int .i64 0, .int .i64 0, .int .i64 (((r1 s).1.1 : Nat) : Int), .int .i64 (((r6 s).1 : Nat) : Int), .int .i64 (((r8 s).1 : Nat) : Int), .int .i64 0, .int .i64 0, .int .i64 0] W22) := Lib.hid hH22t
  clear hH22t hH21
  obtain ⟨c0, c1, c2, c3, c4, c5⟩ := hH22.out.scn.c
  go_wp2_with fail
  clear c0 c1 c2 c3 c4 c5
  have hc := Tryd.dNumber X s (r10 s) 2 (by omega) W22 hH22.out.scn
  rw [show snum s 2 ((r10 s), 0) = r11 s from rfl] at hc
  refine hc.mono ?_
  rintro e W23 ⟨rfl, hg, hs⟩
  have hH23t := hH22.out.call hg hs
  clear hc hg hs
  have hH23 : Hid (Rd wp X RB PB s (r11 s).1 #[.bool false, .int .i64 ((r1 s).2 : Int), .int .i64 ((r7 s).2 : Int), .int .i64 (1 + ((r5 s).2 : Int)), .int .i64 ((r3 s).2 : Int), .int .i64 ((r9 s).2 : Int), .int .i64 0, .int .i64 0, .int .i64 (((r1 s).1.1 : Nat) : Int), .int .i64 (((r6 s).1 : Nat) : Int), .int .i64 (((r8 s).1 : Nat) : Int), .int .i64 0, .int .i64 0, .int .i64 0] W23) := Lib.hid hH23t
  clear hH23t hH22
  obtain ⟨p6, f6⟩ := hH23.out.cell 6 _ rfl
  obtain ⟨p11, f11⟩ := hH23.out.cell 11 _ rfl
  obtain ⟨c0, c1, c2, c3, c4, c5⟩ := hH23.out.scn.c
  go_wp2_with fail
  clear c0 c1 c2 c3 c4 c5 p6 f6 p11 f11
  have hH24t : Rd wp X RB PB s (r11 s).1 #[.bool false, .int .i64 ((r1 s).2 : Int), .int .i64 ((r7 s).2 : Int), .int .i64 (1 + ((r5 s).2 : Int)), .int .i64 ((r3 s).2 : Int), .int .i64 ((r9 s).2 : Int), .int .i64 ((r11 s).2 : Int), .int .i64 0, .int .i64 (((r1 s).1.1 : Nat) : Int), .int .i64 (((r6 s).1 : Nat) : Int), .int .i64 (((r8 s).1 : Nat) : Int), .int .i64 (((r10 s).1 : Nat) : Int), .int .i64 0, .int .i64 0] ((W23.setCell ⟨PB, 6, none⟩ (.int .i64 ((r11 s).2 : Int))).setCell ⟨PB, 11, none⟩ (.int .i64 (((r10 s).1 : Nat) : Int))) := ((hH23.out.store 6 (.int .i64 ((r11 s).2 : Int))).store 11 (.int .i64 (((r10 s).1 : Nat) : Int)))
  generalize ((W23.setCell ⟨PB, 6, none⟩ (.int .i64 ((r11 s).2 : Int))).setCell ⟨PB, 11, none⟩ (.int .i64 (((r10 s).1 : Nat) : Int))) = W24 at hH24t ⊢
  have hH24 : Hid (Rd wp X RB PB s (r11 s).1 #[.bool false, .int .i64 ((r1 s).2 : Int), .int .i64 ((r7 s).2 : Int), .int .i64 (1 + ((r5 s).2 : Int)), .int .i64 ((r3 s).2 : Int), .int .i64 ((r9 s).2 : Int), .int .i64 ((r11 s).2 : Int), .int .i64 0, .int .i64 (((r1 s).1.1 : Nat) : Int), .int .i64 (((r6 s).1 : Nat) : Int), .int .i64 (((r8 s).1 : Nat) : Int), .int .i64 (((r10 s).1 : Nat) : Int), .int .i64 0, .int .i64 0] W24) := Lib.hid hH24t
  clear hH24t hH23
  have hc := Tryd.dJust 58 W24
  have JB24l : W24.heap.size = W24.heap.size := rfl
  generalize hJ : W24.heap.size = JB24 at hc
  clear JB24l
  have hJ2 : ∀ W, Below JB24 W24 W → Below W24.heap.size W24 W := fun W h => by rw [hJ]; exact h
  clear hJ
  replace hc := hc.mono (fun e w' h => (⟨h.1, h.2.1, hJ2 w' h.2.2⟩ : _ ∧ _ ∧ _))
  clear hJ2
  refine hc.mono ?_
  rintro e W25 ⟨rfl, hj, hb⟩
  have hH25t := hH24.out.below hb
  clear hc hb
  have hH25 : Hid (Rd wp X RB PB s (r11 s).1 #[.bool false, .int .i64 ((r1 s).2 : Int), .int .i64 ((r7 s).2 : Int), .int .i64 (1 + ((r5 s).2 : Int)), .int .i64 ((r3 s).2 : Int), .int .i64 ((r9 s).2 : Int), .int .i64 ((r11 s).2 : Int), .int .i64 0, .int .i64 (((r1 s).1.1 : Nat) : Int), .int .i64 (((r6 s).1 : Nat) : Int), .int .i64 (((r8 s).1 : Nat) : Int), .int .i64 (((r10 s).1 : Nat) : Int), .int .i64 0, .int .i64 0] W25) := Lib.hid hH25t
  clear hH25t hH24
  obtain ⟨c0, c1, c2, c3, c4, c5⟩ := hH25.out.scn.c
  go_wp2_with fail
  clear c0 c1 c2 c3 c4 c5
  have hc := Tryd.dPeek 65 #[.pointer (some ⟨JB24, 0, none⟩)] isCo X s (r11 s).1 W25 Tryd.cfJustK (fun W h c => Tryd.pJust 58 JB24 c W (cell_keep h hj)) hH25.out.scn
  rw [h3' ()] at hc
  clear hj
  refine hc.mono ?_
  rintro e W26 ⟨rfl, hb⟩
  have hH26t := hH25.out.below hb
  clear hc hb
  have hH26 : Hid (Rd wp X RB PB s (r11 s).1 #[.bool false, .int .i64 ((r1 s).2 : Int), .int .i64 ((r7 s).2 : Int), .int .i64 (1 + ((r5 s).2 : Int)), .int .i64 ((r3 s).2 : Int), .int .i64 ((r9 s).2 : Int), .int .i64 ((r11 s).2 : Int), .int .i64 0, .int .i64 (((r1 s).1.1 : Nat) : Int), .int .i64 (((r6 s).1 : Nat) : Int), .int .i64 (((r8 s).1 : Nat) : Int), .int .i64 (((r10 s).1 : Nat) : Int), .int .i64 0, .int .i64 0] W26) := Lib.hid hH26t
  clear hH26t hH25
  obtain ⟨c0, c1, c2, c3, c4, c5⟩ := hH26.out.scn.c
  go_wp2_with fail
  clear c0 c1 c2 c3 c4 c5
  have hH27t : Rd wp X RB PB s (r12 s).1 #[.bool false, .int .i64 ((r1 s).2 : Int), .int .i64 ((r7 s).2 : Int), .int .i64 (1 + ((r5 s).2 : Int)), .int .i64 ((r3 s).2 : Int), .int .i64 ((r9 s).2 : Int), .int .i64 ((r11 s).2 : Int), .int .i64 ((r12 s).2.1 : Int), .int .i64 (((r1 s).1.1 : Nat) : Int), .int .i64 (((r6 s).1 : Nat) : Int), .int .i64 (((r8 s).1 : Nat) : Int), .int .i64 (((r10 s).1 : Nat) : Int), .int .i64 ((r12 s).2.2 : Int), .int .i64 0] W26 := by
    rw [e12 ()]
    try dsimp only
    exact hH26.out
  have hH27 : Hid (Rd wp X RB PB s (r12 s).1 #[.bool false, .int .i64 ((r1 s).2 : Int), .int .i64 ((r7 s).2 : Int), .int .i64 (1 + ((r5 s).2 : Int)), .int .i64 ((r3 s).2 : Int), .int .i64 ((r9 s).2 : Int), .int .i64 ((r11 s).2 : Int), .int .i64 ((r12 s).2.1 : Int), .int .i64 (((r1 s).1.1 : Nat) : Int), .int .i64 (((r6 s).1 : Nat) : Int), .int .i64 (((r8 s).1 : Nat) : Int), .int .i64 (((r10 s).1 : Nat) : Int), .int .i64 ((r12 s).2.2 : Int), .int .i64 0] W26) := Lib.hid hH27t
  clear hH27t hH26
  have hc := Tryd.dBlanks X s (r12 s).1 false W26 hH27.out.scn
  rw [show sbl false s (r12 s).1 = r13 s from rfl] at hc
  refine hc.mono ?_
  rintro e W28 ⟨rfl, hg, hs⟩
  have hH28t := hH27.out.call hg hs
  clear hc hg hs
  have hH28 : Hid (Rd wp X RB PB s (r13 s) #[.bool false, .int .i64 ((r1 s).2 : Int), .int .i64 ((r7 s).2 : Int), .int .i64 (1 + ((r5 s).2 : Int)), .int .i64 ((r3 s).2 : Int), .int .i64 ((r9 s).2 : Int), .int .i64 ((r11 s).2 : Int), .int .i64 ((r12 s).2.1 : Int), .int .i64 (((r1 s).1.1 : Nat) : Int), .int .i64 (((r6 s).1 : Nat) : Int), .int .i64 (((r8 s).1 : Nat) : Int), .int .i64 (((r10 s).1 : Nat) : Int), .int .i64 ((r12 s).2.2 : Int), .int .i64 0] W28) := Lib.hid hH28t
  clear hH28t hH27
  obtain ⟨c0, c1, c2, c3, c4, c5⟩ := hH28.out.scn.c
  go_wp2_with fail
  clear c0 c1 c2 c3 c4 c5
  obtain ⟨n, e, hne⟩ : ∃ n e, r13 s = (n, e) := ⟨(r13 s).1, (r13 s).2, (Prod.eta _).symm⟩
  have hS : Rd wp X RB PB s (n, e) #[.bool false, .int .i64 ((r1 s).2 : Int), .int .i64 ((r7 s).2 : Int), .int .i64 (1 + ((r5 s).2 : Int)), .int .i64 ((r3 s).2 : Int), .int .i64 ((r9 s).2 : Int), .int .i64 ((r11 s).2 : Int), .int .i64 ((r12 s).2.1 : Int), .int .i64 (((r1 s).1.1 : Nat) : Int), .int .i64 (((r6 s).1 : Nat) : Int), .int .i64 (((r8 s).1 : Nat) : Int), .int .i64 (((r10 s).1 : Nat) : Int), .int .i64 ((r12 s).2.2 : Int), .int .i64 0] W28 := by rw [← hne]; exact hH28.out
  have hne' := fun (_ : Unit) => hne
  have hnz : n ≤ s.size := hS.scn.2.1
  have hz64 : s.size ≤ 64 := hS.scn.2.2
  have hHS := Lib.hid hS
  clear hne hS hH28
  by_cases he : e = 0
  · subst he
    by_cases hn : n = s.size
    · subst hn
      have hA0 : Hid (Rd wp X RB PB s (s.size, 0) #[.bool false, .int .i64 ((r1 s).2 : Int), .int .i64 ((r7 s).2 : Int), .int .i64 (1 + ((r5 s).2 : Int)), .int .i64 ((r3 s).2 : Int), .int .i64 ((r9 s).2 : Int), .int .i64 ((r11 s).2 : Int), .int .i64 ((r12 s).2.1 : Int), .int .i64 (((r1 s).1.1 : Nat) : Int), .int .i64 (((r6 s).1 : Nat) : Int), .int .i64 (((r8 s).1 : Nat) : Int), .int .i64 (((r10 s).1 : Nat) : Int), .int .i64 ((r12 s).2.2 : Int), .int .i64 0] W28) := hHS
      clear hHS
      obtain ⟨C, q1, q2, q4⟩ : ∃ C : World → Prop, C W28 ∧ (∀ V, C V → Below W28.heap.size W28 V) ∧ (∀ V, C V → C { V with drawn := V.drawn + 1 }) := ⟨fun V => Below W28.heap.size W28 V, Below.refl _ _, fun V h => h, fun V h => h.drew⟩
      have k0 : Hid (∀ V, C V → V.cell? ⟨X, 0, none⟩ = some (.string s)) := Lib.hid (fun V hV => (hA0.out.scn.below (q2 V hV)).c.1)
      have k1 : Hid (∀ V, C V → V.cell? ⟨X, 1, none⟩ = some (.int .i64 (s.size : Int))) := Lib.hid (fun V hV => (hA0.out.scn.below (q2 V hV)).c.2.1)
      have k2 : Hid (∀ V, C V → V.cell? ⟨X, 2, none⟩ = some (.int .i64 ((0 : Nat) : Int))) := Lib.hid (fun V hV => (hA0.out.scn.below (q2 V hV)).c.2.2.1)
      have hC1 := Lib.hid q1
      have hCV := Lib.hid q2
      have hCd := Lib.hid q4
      clear q1 q2 q4
      have g1 : ((s.size : Int) == (s.size : Int)) = true := beq_self_eq_true _
      refine q_region C (by kernel_rfl) (by kernel_rfl) (hCd.out _ hC1.out) ?_
      repeat (first
        | (with_reducible refine q_off ?_ ?_
           · rfl
           try simp only [Act.put, List.getElem_toArray, List.getElem_cons_zero, List.getElem_cons_succ, List.setIfInBounds_toArray, List.set_cons_zero, List.set_cons_succ])
        | (with_reducible refine q_lds2 Tryd.isAgg9 ?_ ?_ ⟨X, 0, none⟩ ?_ (.string s) k0.out ?_
           · rfl
           · rfl
           · rfl
           try simp only [Act.put, List.getElem_toArray, List.getElem_cons_zero, List.getElem_cons_succ, List.setIfInBounds_toArray, List.set_cons_zero, List.set_cons_succ])
        | (with_reducible refine q_lds2 Tryd.isAgg3 ?_ ?_ ⟨X, 1, none⟩ ?_ (.int .i64 (s.size : Int)) k1.out ?_
           · rfl
           · rfl
           · rfl
           try simp only [Act.put, List.getElem_toArray, List.getElem_cons_zero, List.getElem_cons_succ, List.setIfInBounds_toArray, List.set_cons_zero, List.set_cons_succ])
        | (with_reducible refine q_lds2 Tryd.isAgg25 ?_ ?_ ⟨X, 2, none⟩ ?_ (.int .i64 ((0 : Nat) : Int)) k2.out ?_
           · rfl
           · rfl
           · rfl
           try simp only [Act.put, List.getElem_toArray, List.getElem_cons_zero, List.getElem_cons_succ, List.setIfInBounds_toArray, List.set_cons_zero, List.set_cons_succ])
        | (with_reducible refine wpQuiet_step ?_
           intro K hK
           go_simp
           first
           | (refine hK _ ?_; clear hK K)
           | (apply Exists.intro
              refine ⟨fun W hW => ?_, hK _ ?_⟩
              first
              | exact rfl
              | exact ⟨rfl, rfl⟩
              clear hK K)))
      refine wpQuiet_nil ?_
      intro V1 h1V1

      have hR1t := hA0.out.below (hCV.out V1 h1V1)
      have hR1u := Lib.hid hR1t
      clear hR1t h1V1 hC1 k0 k1 k2 hCV hCd hA0
      have hA1 : Hid (Rd wp X RB PB s (s.size, 0) #[.bool false, .int .i64 ((r1 s).2 : Int), .int .i64 ((r7 s).2 : Int), .int .i64 (1 + ((r5 s).2 : Int)), .int .i64 ((r3 s).2 : Int), .int .i64 ((r9 s).2 : Int), .int .i64 ((r11 s).2 : Int), .int .i64 ((r12 s).2.1 : Int), .int .i64 (((r1 s).1.1 : Nat) : Int), .int .i64 (((r6 s).1 : Nat) : Int), .int .i64 (((r8 s).1 : Nat) : Int), .int .i64 (((r10 s).1 : Nat) : Int), .int .i64 ((r12 s).2.2 : Int), .int .i64 0] V1) := hR1u
      clear hR1u
      obtain ⟨c0, c1, c2, c3, c4, c5⟩ := hA1.out.scn.c
      try dsimp only at c1 c2
      go_wp2_with fail
      clear c0 c1 c2 c3 c4 c5 g1
      have hc := Tryd.dFail X s (s.size, 0) s.size 4 V1 hA1.out.scn hnz
      rw [show sf (s.size, 0) s.size 4 = (s.size, 4) from rfl] at hc
      refine hc.mono ?_
      rintro e V2 ⟨rfl, hg, hs⟩
      have hR1t := hA1.out.call hg hs
      have hR1u := Lib.hid hR1t
      clear hR1t hc hg hs hA1
      have e15 : Unit → r15 s = ((s.size, 4), 0) := fun _ => by
        have h14 : r14 s = (s.size, 4) := by unfold r14; rw [hne' (), if_pos ⟨rfl, rfl⟩]
        unfold r15
        rw [h14, if_neg (show ¬ (4 : Nat) = 0 by decide)]
      have hR1 : Hid (Rd wp X RB PB s (s.size, 4) #[.bool false, .int .i64 ((r1 s).2 : Int), .int .i64 ((r7 s).2 : Int), .int .i64 (1 + ((r5 s).2 : Int)), .int .i64 ((r3 s).2 : Int), .int .i64 ((r9 s).2 : Int), .int .i64 ((r11 s).2 : Int), .int .i64 ((r12 s).2.1 : Int), .int .i64 (((r1 s).1.1 : Nat) : Int), .int .i64 (((r6 s).1 : Nat) : Int), .int .i64 (((r8 s).1 : Nat) : Int), .int .i64 (((r10 s).1 : Nat) : Int), .int .i64 ((r12 s).2.2 : Int), .int .i64 0] V2) := hR1u
      obtain ⟨c0, c1, c2, c3, c4, c5⟩ := hR1.out.scn.c
      try dsimp only at c1 c2
      obtain ⟨p0, f0⟩ := hR1.out.cell 0 _ rfl
      obtain ⟨p1, f1⟩ := hR1.out.cell 1 _ rfl
      obtain ⟨p2, f2⟩ := hR1.out.cell 2 _ rfl
      obtain ⟨p3, f3⟩ := hR1.out.cell 3 _ rfl
      obtain ⟨p4, f4⟩ := hR1.out.cell 4 _ rfl
      obtain ⟨p5, f5⟩ := hR1.out.cell 5 _ rfl
      obtain ⟨p6, f6⟩ := hR1.out.cell 6 _ rfl
      obtain ⟨p7, f7⟩ := hR1.out.cell 7 _ rfl
      obtain ⟨p8, f8⟩ := hR1.out.cell 8 _ rfl
      obtain ⟨p9, f9⟩ := hR1.out.cell 9 _ rfl
      obtain ⟨p10, f10⟩ := hR1.out.cell 10 _ rfl
      obtain ⟨p11, f11⟩ := hR1.out.cell 11 _ rfl
      obtain ⟨p12, f12⟩ := hR1.out.cell 12 _ rfl
      obtain ⟨p13, f13⟩ := hR1.out.cell 13 _ rfl
      obtain ⟨q0, g0⟩ := hR1.out.rcell 0 _ rfl
      obtain ⟨q1, g1⟩ := hR1.out.rcell 1 _ rfl
      obtain ⟨q2, g2⟩ := hR1.out.rcell 2 _ rfl
      obtain ⟨q3, g3⟩ := hR1.out.rcell 3 _ rfl
      obtain ⟨q4, g4⟩ := hR1.out.rcell 4 _ rfl
      obtain ⟨q5, g5⟩ := hR1.out.rcell 5 _ rfl
      obtain ⟨q6, g6⟩ := hR1.out.rcell 6 _ rfl
      obtain ⟨q7, g7⟩ := hR1.out.rcell 7 _ rfl
      obtain ⟨q8, g8⟩ := hR1.out.rcell 8 _ rfl
      obtain ⟨q9, g9⟩ := hR1.out.rcell 9 _ rfl
      obtain ⟨q10, g10⟩ := hR1.out.rcell 10 _ rfl
      obtain ⟨q11, g11⟩ := hR1.out.rcell 11 _ rfl
      obtain ⟨q12, g12⟩ := hR1.out.rcell 12 _ rfl
      obtain ⟨q13, g13⟩ := hR1.out.rcell 13 _ rfl
      go_wp2_with fail
      clear c0 c1 c2 c3 c4 c5 p0 f0 q0 g0 p1 f1 q1 g1 p2 f2 q2 g2 p3 f3 q3 g3 p4 f4 q4 g4 p5 f5 q5 g5 p6 f6 q6 g6 p7 f7 q7 g7 p8 f8 q8 g8 p9 f9 q9 g9 p10 f10 q10 g10 p11 f11 q11 g11 p12 f12 q12 g12 p13 f13 q13 g13
      obtain ⟨hF, hG, hB⟩ := hR1.out.fin (.bool false) (.int .i64 ((r1 s).2 : Int)) (.int .i64 ((r7 s).2 : Int)) (.int .i64 (1 + ((r5 s).2 : Int))) (.int .i64 ((r3 s).2 : Int)) (.int .i64 ((r9 s).2 : Int)) (.int .i64 ((r11 s).2 : Int)) (.int .i64 ((r12 s).2.1 : Int)) (.int .i64 (((r1 s).1.1 : Nat) : Int)) (.int .i64 (((r6 s).1 : Nat) : Int)) (.int .i64 (((r8 s).1 : Nat) : Int)) (.int .i64 (((r10 s).1 : Nat) : Int)) (.int .i64 ((r12 s).2.2 : Int)) (.int .i64 0) rfl
      generalize ((((((((((((((V2.setCell ⟨RB, 0, none⟩ (.bool false)).setCell ⟨RB, 1, none⟩ (.int .i64 ((r1 s).2 : Int))).setCell ⟨RB, 2, none⟩ (.int .i64 ((r7 s).2 : Int))).setCell ⟨RB, 3, none⟩ (.int .i64 (1 + ((r5 s).2 : Int)))).setCell ⟨RB, 4, none⟩ (.int .i64 ((r3 s).2 : Int))).setCell ⟨RB, 5, none⟩ (.int .i64 ((r9 s).2 : Int))).setCell ⟨RB, 6, none⟩ (.int .i64 ((r11 s).2 : Int))).setCell ⟨RB, 7, none⟩ (.int .i64 ((r12 s).2.1 : Int))).setCell ⟨RB, 8, none⟩ (.int .i64 (((r1 s).1.1 : Nat) : Int))).setCell ⟨RB, 9, none⟩ (.int .i64 (((r6 s).1 : Nat) : Int))).setCell ⟨RB, 10, none⟩ (.int .i64 (((r8 s).1 : Nat) : Int))).setCell ⟨RB, 11, none⟩ (.int .i64 (((r10 s).1 : Nat) : Int))).setCell ⟨RB, 12, none⟩ (.int .i64 ((r12 s).2.2 : Int))).setCell ⟨RB, 13, none⟩ (.int .i64 0)) = WF at hF hG hB ⊢
      obtain ⟨z0, z1, z2, z3, z4, z5, z6, z7, z8, z9, z10, z11, z12, z13⟩ := cells14 hF
      clear hF
      refine bodyPost_ret (v := rv s) ?_ rfl ⟨rfl, hB, ?_⟩
      · simp [results, Tryd.results38, go_sem, z0, z1, z2, z3, z4, z5, z6, z7, z8, z9, z10, z11, z12, z13]
        unfold rv
        simp only [hn' (), e15 ()]
      · rw [e15 ()]
        exact hG
    · have hB0 : Hid (Rd wp X RB PB s (n, 0) #[.bool false, .int .i64 ((r1 s).2 : Int), .int .i64 ((r7 s).2 : Int), .int .i64 (1 + ((r5 s).2 : Int)), .int .i64 ((r3 s).2 : Int), .int .i64 ((r9 s).2 : Int), .int .i64 ((r11 s).2 : Int), .int .i64 ((r12 s).2.1 : Int), .int .i64 (((r1 s).1.1 : Nat) : Int), .int .i64 (((r6 s).1 : Nat) : Int), .int .i64 (((r8 s).1 : Nat) : Int), .int .i64 (((r10 s).1 : Nat) : Int), .int .i64 ((r12 s).2.2 : Int), .int .i64 0] W28) := hHS
      clear hHS
      obtain ⟨C, q1, q2, q4⟩ : ∃ C : World → Prop, C W28 ∧ (∀ V, C V → Below W28.heap.size W28 V) ∧ (∀ V, C V → C { V with drawn := V.drawn + 1 }) := ⟨fun V => Below W28.heap.size W28 V, Below.refl _ _, fun V h => h, fun V h => h.drew⟩
      have k0 : Hid (∀ V, C V → V.cell? ⟨X, 0, none⟩ = some (.string s)) := Lib.hid (fun V hV => (hB0.out.scn.below (q2 V hV)).c.1)
      have k1 : Hid (∀ V, C V → V.cell? ⟨X, 1, none⟩ = some (.int .i64 (n : Int))) := Lib.hid (fun V hV => (hB0.out.scn.below (q2 V hV)).c.2.1)
      have k2 : Hid (∀ V, C V → V.cell? ⟨X, 2, none⟩ = some (.int .i64 ((0 : Nat) : Int))) := Lib.hid (fun V hV => (hB0.out.scn.below (q2 V hV)).c.2.2.1)
      have hC1 := Lib.hid q1
      have hCV := Lib.hid q2
      have hCd := Lib.hid q4
      clear q1 q2 q4
      have g1 : ((n : Int) == (s.size : Int)) = false := beq_false_of_ne (by omega)
      refine q_region C (by kernel_rfl) (by kernel_rfl) (hCd.out _ hC1.out) ?_
      repeat (first
        | (with_reducible refine q_off ?_ ?_
           · rfl
           try simp only [Act.put, List.getElem_toArray, List.getElem_cons_zero, List.getElem_cons_succ, List.setIfInBounds_toArray, List.set_cons_zero, List.set_cons_succ])
        | (with_reducible refine q_lds2 Tryd.isAgg9 ?_ ?_ ⟨X, 0, none⟩ ?_ (.string s) k0.out ?_
           · rfl
           · rfl
           · rfl
           try simp only [Act.put, List.getElem_toArray, List.getElem_cons_zero, List.getElem_cons_succ, List.setIfInBounds_toArray, List.set_cons_zero, List.set_cons_succ])
        | (with_reducible refine q_lds2 Tryd.isAgg3 ?_ ?_ ⟨X, 1, none⟩ ?_ (.int .i64 (n : Int)) k1.out ?_
           · rfl
           · rfl
           · rfl
           try simp only [Act.put, List.getElem_toArray, List.getElem_cons_zero, List.getElem_cons_succ, List.setIfInBounds_toArray, List.set_cons_zero, List.set_cons_succ])
        | (with_reducible refine q_lds2 Tryd.isAgg25 ?_ ?_ ⟨X, 2, none⟩ ?_ (.int .i64 ((0 : Nat) : Int)) k2.out ?_
           · rfl
           · rfl
           · rfl
           try simp only [Act.put, List.getElem_toArray, List.getElem_cons_zero, List.getElem_cons_succ, List.setIfInBounds_toArray, List.set_cons_zero, List.set_cons_succ])
        | (with_reducible refine wpQuiet_step ?_
           intro K hK
           go_simp
           first
           | (refine hK _ ?_; clear hK K)
           | (apply Exists.intro
              refine ⟨fun W hW => ?_, hK _ ?_⟩
              first
              | exact rfl
              | exact ⟨rfl, rfl⟩
              clear hK K)))
      refine wpQuiet_nil ?_
      intro V1 h1V1

      have hR1t := hB0.out.below (hCV.out V1 h1V1)
      have hR1u := Lib.hid hR1t
      clear hR1t h1V1 hC1 k0 k1 k2 hCV hCd hB0
      have hB1 : Hid (Rd wp X RB PB s (n, 0) #[.bool false, .int .i64 ((r1 s).2 : Int), .int .i64 ((r7 s).2 : Int), .int .i64 (1 + ((r5 s).2 : Int)), .int .i64 ((r3 s).2 : Int), .int .i64 ((r9 s).2 : Int), .int .i64 ((r11 s).2 : Int), .int .i64 ((r12 s).2.1 : Int), .int .i64 (((r1 s).1.1 : Nat) : Int), .int .i64 (((r6 s).1 : Nat) : Int), .int .i64 (((r8 s).1 : Nat) : Int), .int .i64 (((r10 s).1 : Nat) : Int), .int .i64 ((r12 s).2.2 : Int), .int .i64 0] V1) := hR1u
      clear hR1u
      obtain ⟨c0, c1, c2, c3, c4, c5⟩ := hB1.out.scn.c
      try dsimp only at c1 c2
      go_wp2_with fail
      clear c0 c1 c2 c3 c4 c5 g1
      have hzs : (s.extract n s.size).size ≤ 64 := by simp [ByteArray.size_extract]; omega
      obtain ⟨za, zb, hz⟩ : ∃ za zb, zone (s.extract n s.size) = (za, zb) := ⟨(zone (s.extract n s.size)).1, (zone (s.extract n s.size)).2, (Prod.eta _).symm⟩
      obtain ⟨C, q1, q2, q3, q4⟩ : ∃ C : World → Prop, C V1 ∧ (∀ V, C V → Below V1.heap.size V1 V) ∧ (∀ W W', C W → Below W.heap.size W W' → C W') ∧ (∀ V, C V → C { V with drawn := V.drawn + 1 }) := ⟨fun V => Below V1.heap.size V1 V, Below.refl _ _, fun V h => h, fun W W' h hb => h.trans (hb.mono h.size), fun V h => h.drew⟩
      have k0 : Hid (∀ V, C V → V.cell? ⟨X, 0, none⟩ = some (.string s)) := Lib.hid (fun V hV => (hB1.out.scn.below (q2 V hV)).c.1)
      have k1 : Hid (∀ V, C V → V.cell? ⟨X, 1, none⟩ = some (.int .i64 (n : Int))) := Lib.hid (fun V hV => (hB1.out.scn.below (q2 V hV)).c.2.1)
      have k2 : Hid (∀ V, C V → V.cell? ⟨X, 2, none⟩ = some (.int .i64 ((0 : Nat) : Int))) := Lib.hid (fun V hV => (hB1.out.scn.below (q2 V hV)).c.2.2.1)
      have h1 : Hid (∀ W, C W → Calls Tryd.prog 55 #[.string (s.extract n s.size)] W fun e w' => e = .returned (.tuple #[.int .i64 za, .int .i64 (zb : Int)]) ∧ C w') := Lib.hid fun W hW => by
        have h := Tryd.dZone (s.extract n s.size) hzs W (hB1.out.T.below (q2 W hW))
        rw [hz] at h
        exact h.mono fun e w' h => ⟨h.1, q3 _ _ hW h.2⟩
      have hz' := fun (_ : Unit) => hz
      have hC1 := Lib.hid q1
      have hCV := Lib.hid q2
      have hCd := Lib.hid q4
      clear q1 q2 q3 q4 hz hzs
      generalize hex : s.extract n s.size = zs at h1 hz'
      have hex' := fun (_ : Unit) => hex
      refine q_region C (by kernel_rfl) (by kernel_rfl) (hCd.out _ hC1.out) ?_
      repeat (first
        | (with_reducible refine q_off ?_ ?_
           · rfl
           try simp only [Act.put, List.getElem_toArray, List.getElem_cons_zero, List.getElem_cons_succ, List.setIfInBounds_toArray, List.set_cons_zero, List.set_cons_succ])
        | (with_reducible refine q_lds2 Tryd.isAgg9 ?_ ?_ ⟨X, 0, none⟩ ?_ (.string s) k0.out ?_
           · rfl
           · rfl
           · rfl
           try simp only [Act.put, List.getElem_toArray, List.getElem_cons_zero, List.getElem_cons_succ, List.setIfInBounds_toArray, List.set_cons_zero, List.set_cons_succ])
        | (with_reducible refine q_lds2 Tryd.isAgg3 ?_ ?_ ⟨X, 1, none⟩ ?_ (.int .i64 (n : Int)) k1.out ?_
           · rfl
           · rfl
           · rfl
           try simp only [Act.put, List.getElem_toArray, List.getElem_cons_zero, List.getElem_cons_succ, List.setIfInBounds_toArray, List.set_cons_zero, List.set_cons_succ])
        | (with_reducible refine q_lds2 Tryd.isAgg25 ?_ ?_ ⟨X, 2, none⟩ ?_ (.int .i64 ((0 : Nat) : Int)) k2.out ?_
           · rfl
           · rfl
           · rfl
           try simp only [Act.put, List.getElem_toArray, List.getElem_cons_zero, List.getElem_cons_succ, List.setIfInBounds_toArray, List.set_cons_zero, List.set_cons_succ])
        | (with_reducible refine wpQuiet_step ?_
           intro K hK
           go_simp
           first
           | (refine hK _ ?_; clear hK K)
           | (apply Exists.intro
              refine ⟨fun W hW => ?_, hK _ ?_⟩
              first
              | exact rfl
              | exact ⟨rfl, rfl⟩
              | (with_reducible exact h1.out W hW)
              clear hK K)))
      refine wpQuiet_nil ?_
      intro V2 h1V2
      obtain ⟨bz, gz, gz'⟩ : ∃ bz, ((zb : Int) == 0) = bz ∧ (Unit → decide (zb = 0) = bz) := ⟨decide (zb = 0), by rw [Bool.eq_iff_iff]; simp, fun _ => rfl⟩
      have hR1t := hB1.out.below (hCV.out V2 h1V2)
      clear h1V2 hC1 k0 k1 k2 hCV hCd h1 hex
      have hB2 : Hid (Rd wp X RB PB s (n, 0) #[.bool false, .int .i64 ((r1 s).2 : Int), .int .i64 ((r7 s).2 : Int), .int .i64 (1 + ((r5 s).2 : Int)), .int .i64 ((r3 s).2 : Int), .int .i64 ((r9 s).2 : Int), .int .i64 ((r11 s).2 : Int), .int .i64 ((r12 s).2.1 : Int), .int .i64 (((r1 s).1.1 : Nat) : Int), .int .i64 (((r6 s).1 : Nat) : Int), .int .i64 (((r8 s).1 : Nat) : Int), .int .i64 (((r10 s).1 : Nat) : Int), .int .i64 ((r12 s).2.2 : Int), .int .i64 0] V2) := Lib.hid hR1t
      clear hR1t hB1
      obtain ⟨c0, c1, c2, c3, c4, c5⟩ := hB2.out.scn.c
      try dsimp only at c1 c2
      obtain ⟨p13, f13⟩ := hB2.out.cell 13 _ rfl
      go_wp2_with fail
      clear c0 c1 c2 c3 c4 c5 p13 f13 gz
      have hH201t : Rd wp X RB PB s (n, 0) #[.bool false, .int .i64 ((r1 s).2 : Int), .int .i64 ((r7 s).2 : Int), .int .i64 (1 + ((r5 s).2 : Int)), .int .i64 ((r3 s).2 : Int), .int .i64 ((r9 s).2 : Int), .int .i64 ((r11 s).2 : Int), .int .i64 ((r12 s).2.1 : Int), .int .i64 (((r1 s).1.1 : Nat) : Int), .int .i64 (((r6 s).1 : Nat) : Int), .int .i64 (((r8 s).1 : Nat) : Int), .int .i64 (((r10 s).1 : Nat) : Int), .int .i64 ((r12 s).2.2 : Int), .int .i64 za] (V2.setCell ⟨PB, 13, none⟩ (.int .i64 za)) := (hB2.out.store 13 (.int .i64 za))
      generalize (V2.setCell ⟨PB, 13, none⟩ (.int .i64 za)) = W201 at hH201t ⊢
      have hH201 : Hid (Rd wp X RB PB s (n, 0) #[.bool false, .int .i64 ((r1 s).2 : Int), .int .i64 ((r7 s).2 : Int), .int .i64 (1 + ((r5 s).2 : Int)), .int .i64 ((r3 s).2 : Int), .int .i64 ((r9 s).2 : Int), .int .i64 ((r11 s).2 : Int), .int .i64 ((r12 s).2.1 : Int), .int .i64 (((r1 s).1.1 : Nat) : Int), .int .i64 (((r6 s).1 : Nat) : Int), .int .i64 (((r8 s).1 : Nat) : Int), .int .i64 (((r10 s).1 : Nat) : Int), .int .i64 ((r12 s).2.2 : Int), .int .i64 za] W201) := Lib.hid hH201t
      clear hH201t hB2
      have hc := Tryd.dCheck X s (n, 0) bz n zb W201 hH201.out.scn hnz
      refine hc.mono ?_
      rintro e V3 ⟨rfl, hg, hs⟩
      have hR1t := hH201.out.call hg hs
      have hR1u := Lib.hid hR1t
      clear hR1t hc hg hs hH201
      have e15 : Unit → r15 s = (sck (n, 0) bz n zb, za) := fun _ => by
        have h14 : r14 s = (n, 0) := by unfold r14; rw [hne' (), if_neg (fun h => hn h.2)]
        unfold r15
        rw [h14, if_pos rfl]
        show (sck (n, 0) (decide ((zone (s.extract n s.size)).2 = 0)) n (zone (s.extract n s.size)).2, (zone (s.extract n s.size)).1) = _
        rw [hex' (), hz' ()]
        show (sck (n, 0) (decide (zb = 0)) n zb, za) = _
        rw [gz' ()]
      have hR1 : Hid (Rd wp X RB PB s (sck (n, 0) bz n zb) #[.bool false, .int .i64 ((r1 s).2 : Int), .int .i64 ((r7 s).2 : Int), .int .i64 (1 + ((r5 s).2 : Int)), .int .i64 ((r3 s).2 : Int), .int .i64 ((r9 s).2 : Int), .int .i64 ((r11 s).2 : Int), .int .i64 ((r12 s).2.1 : Int), .int .i64 (((r1 s).1.1 : Nat) : Int), .int .i64 (((r6 s).1 : Nat) : Int), .int .i64 (((r8 s).1 : Nat) : Int), .int .i64 (((r10 s).1 : Nat) : Int), .int .i64 ((r12 s).2.2 : Int), .int .i64 za] V3) := hR1u
      obtain ⟨c0, c1, c2, c3, c4, c5⟩ := hR1.out.scn.c
      try dsimp only at c1 c2
      obtain ⟨p0, f0⟩ := hR1.out.cell 0 _ rfl
      obtain ⟨p1, f1⟩ := hR1.out.cell 1 _ rfl
      obtain ⟨p2, f2⟩ := hR1.out.cell 2 _ rfl
      obtain ⟨p3, f3⟩ := hR1.out.cell 3 _ rfl
      obtain ⟨p4, f4⟩ := hR1.out.cell 4 _ rfl
      obtain ⟨p5, f5⟩ := hR1.out.cell 5 _ rfl
      obtain ⟨p6, f6⟩ := hR1.out.cell 6 _ rfl
      obtain ⟨p7, f7⟩ := hR1.out.cell 7 _ rfl
      obtain ⟨p8, f8⟩ := hR1.out.cell 8 _ rfl
      obtain ⟨p9, f9⟩ := hR1.out.cell 9 _ rfl
      obtain ⟨p10, f10⟩ := hR1.out.cell 10 _ rfl
      obtain ⟨p11, f11⟩ := hR1.out.cell 11 _ rfl
      obtain ⟨p12, f12⟩ := hR1.out.cell 12 _ rfl
      obtain ⟨p13, f13⟩ := hR1.out.cell 13 _ rfl
      obtain ⟨q0, g0⟩ := hR1.out.rcell 0 _ rfl
      obtain ⟨q1, g1⟩ := hR1.out.rcell 1 _ rfl
      obtain ⟨q2, g2⟩ := hR1.out.rcell 2 _ rfl
      obtain ⟨q3, g3⟩ := hR1.out.rcell 3 _ rfl
      obtain ⟨q4, g4⟩ := hR1.out.rcell 4 _ rfl
      obtain ⟨q5, g5⟩ := hR1.out.rcell 5 _ rfl
      obtain ⟨q6, g6⟩ := hR1.out.rcell 6 _ rfl
      obtain ⟨q7, g7⟩ := hR1.out.rcell 7 _ rfl
      obtain ⟨q8, g8⟩ := hR1.out.rcell 8 _ rfl
      obtain ⟨q9, g9⟩ := hR1.out.rcell 9 _ rfl
      obtain ⟨q10, g10⟩ := hR1.out.rcell 10 _ rfl
      obtain ⟨q11, g11⟩ := hR1.out.rcell 11 _ rfl
      obtain ⟨q12, g12⟩ := hR1.out.rcell 12 _ rfl
      obtain ⟨q13, g13⟩ := hR1.out.rcell 13 _ rfl
      go_wp2_with fail
      clear c0 c1 c2 c3 c4 c5 p0 f0 q0 g0 p1 f1 q1 g1 p2 f2 q2 g2 p3 f3 q3 g3 p4 f4 q4 g4 p5 f5 q5 g5 p6 f6 q6 g6 p7 f7 q7 g7 p8 f8 q8 g8 p9 f9 q9 g9 p10 f10 q10 g10 p11 f11 q11 g11 p12 f12 q12 g12 p13 f13 q13 g13
      obtain ⟨hF, hG, hB⟩ := hR1.out.fin (.bool false) (.int .i64 ((r1 s).2 : Int)) (.int .i64 ((r7 s).2 : Int)) (.int .i64 (1 + ((r5 s).2 : Int))) (.int .i64 ((r3 s).2 : Int)) (.int .i64 ((r9 s).2 : Int)) (.int .i64 ((r11 s).2 : Int)) (.int .i64 ((r12 s).2.1 : Int)) (.int .i64 (((r1 s).1.1 : Nat) : Int)) (.int .i64 (((r6 s).1 : Nat) : Int)) (.int .i64 (((r8 s).1 : Nat) : Int)) (.int .i64 (((r10 s).1 : Nat) : Int)) (.int .i64 ((r12 s).2.2 : Int)) (.int .i64 za) rfl
      generalize ((((((((((((((V3.setCell ⟨RB, 0, none⟩ (.bool false)).setCell ⟨RB, 1, none⟩ (.int .i64 ((r1 s).2 : Int))).setCell ⟨RB, 2, none⟩ (.int .i64 ((r7 s).2 : Int))).setCell ⟨RB, 3, none⟩ (.int .i64 (1 + ((r5 s).2 : Int)))).setCell ⟨RB, 4, none⟩ (.int .i64 ((r3 s).2 : Int))).setCell ⟨RB, 5, none⟩ (.int .i64 ((r9 s).2 : Int))).setCell ⟨RB, 6, none⟩ (.int .i64 ((r11 s).2 : Int))).setCell ⟨RB, 7, none⟩ (.int .i64 ((r12 s).2.1 : Int))).setCell ⟨RB, 8, none⟩ (.int .i64 (((r1 s).1.1 : Nat) : Int))).setCell ⟨RB, 9, none⟩ (.int .i64 (((r6 s).1 : Nat) : Int))).setCell ⟨RB, 10, none⟩ (.int .i64 (((r8 s).1 : Nat) : Int))).setCell ⟨RB, 11, none⟩ (.int .i64 (((r10 s).1 : Nat) : Int))).setCell ⟨RB, 12, none⟩ (.int .i64 ((r12 s).2.2 : Int))).setCell ⟨RB, 13, none⟩ (.int .i64 za)) = WF at hF hG hB ⊢
      obtain ⟨z0, z1, z2, z3, z4, z5, z6, z7, z8, z9, z10, z11, z12, z13⟩ := cells14 hF
      clear hF
      refine bodyPost_ret (v := rv s) ?_ rfl ⟨rfl, hB, ?_⟩
      · simp [results, Tryd.results38, go_sem, z0, z1, z2, z3, z4, z5, z6, z7, z8, z9, z10, z11, z12, z13]
        unfold rv
        simp only [hn' (), e15 ()]
      · rw [e15 ()]
        exact hG
  · obtain ⟨C, q1, q2, q4⟩ : ∃ C : World → Prop, C W28 ∧ (∀ V, C V → Below W28.heap.size W28 V) ∧ (∀ V, C V → C { V with drawn := V.drawn + 1 }) := ⟨fun V => Below W28.heap.size W28 V, Below.refl _ _, fun V h => h, fun V h => h.drew⟩
    have k0 : Hid (∀ V, C V → V.cell? ⟨X, 0, none⟩ = some (.string s)) := Lib.hid (fun V hV => (hHS.out.scn.below (q2 V hV)).c.1)
    have k1 : Hid (∀ V, C V → V.cell? ⟨X, 1, none⟩ = some (.int .i64 (n : Int))) := Lib.hid (fun V hV => (hHS.out.scn.below (q2 V hV)).c.2.1)
    have k2 : Hid (∀ V, C V → V.cell? ⟨X, 2, none⟩ = some (.int .i64 (e : Int))) := Lib.hid (fun V hV => (hHS.out.scn.below (q2 V hV)).c.2.2.1)
    have hC1 := Lib.hid q1
    have hCV := Lib.hid q2
    have hCd := Lib.hid q4
    clear q1 q2 q4
    have g1 : ((e : Int) == 0) = false := beq_false_of_ne (by omega)
    refine q_region C (by kernel_rfl) (by kernel_rfl) (hCd.out _ hC1.out) ?_
    repeat (first
      | (with_reducible refine q_off ?_ ?_
         · rfl
         try simp only [Act.put, List.getElem_toArray, List.getElem_cons_zero, List.getElem_cons_succ, List.setIfInBounds_toArray, List.set_cons_zero, List.set_cons_succ])
      | (with_reducible refine q_lds2 Tryd.isAgg9 ?_ ?_ ⟨X, 0, none⟩ ?_ (.string s) k0.out ?_
         · rfl
         · rfl
         · rfl
         try simp only [Act.put, List.getElem_toArray, List.getElem_cons_zero, List.getElem_cons_succ, List.setIfInBounds_toArray, List.set_cons_zero, List.set_cons_succ])
      | (with_reducible refine q_lds2 Tryd.isAgg3 ?_ ?_ ⟨X, 1, none⟩ ?_ (.int .i64 (n : Int)) k1.out ?_
         · rfl
         · rfl
         · rfl
         try simp only [Act.put, List.getElem_toArray, List.getElem_cons_zero, List.getElem_cons_succ, List.setIfInBounds_toArray, List.set_cons_zero, List.set_cons_succ])
      | (with_reducible refine q_lds2 Tryd.isAgg25 ?_ ?_ ⟨X, 2, none⟩ ?_ (.int .i64 (e : Int)) k2.out ?_
         · rfl
         · rfl
         · rfl
         try simp only [Act.put, List.getElem_toArray, List.getElem_cons_zero, List.getElem_cons_succ, List.setIfInBounds_toArray, List.set_cons_zero, List.set_cons_succ])
      | (with_reducible refine wpQuiet_step ?_
         intro K hK
         go_simp
         first
         | (refine hK _ ?_; clear hK K)
         | (apply Exists.intro
            refine ⟨fun W hW => ?_, hK _ ?_⟩
            first
            | exact rfl
            | exact ⟨rfl, rfl⟩
            clear hK K)))
    refine wpQuiet_nil ?_
    intro V1 h1V1

    have hR1t := hHS.out.below (hCV.out V1 h1V1)
    have hR1u := Lib.hid hR1t
    clear hR1t h1V1 hC1 k0 k1 k2 hCV hCd hHS
    have e15 : Unit → r15 s = ((n, e), 0) := fun _ => by
      have h14 : r14 s = (n, e) := by unfold r14; rw [hne' (), if_neg (fun h => he h.1)]
      unfold r15
      rw [h14, if_neg he]
    have hR1 : Hid (Rd wp X RB PB s (n, e) #[.bool false, .int .i64 ((r1 s).2 : Int), .int .i64 ((r7 s).2 : Int), .int .i64 (1 + ((r5 s).2 : Int)), .int .i64 ((r3 s).2 : Int), .int .i64 ((r9 s).2 : Int), .int .i64 ((r11 s).2 : Int), .int .i64 ((r12 s).2.1 : Int), .int .i64 (((r1 s).1.1 : Nat) : Int), .int .i64 (((r6 s).1 : Nat) : Int), .int .i64 (((r8 s).1 : Nat) : Int), .int .i64 (((r10 s).1 : Nat) : Int), .int .i64 ((r12 s).2.2 : Int), .int .i64 0] V1) := hR1u
    obtain ⟨c0, c1, c2, c3, c4, c5⟩ := hR1.out.scn.c
    try dsimp only at c1 c2
    obtain ⟨p0, f0⟩ := hR1.out.cell 0 _ rfl
    obtain ⟨p1, f1⟩ := hR1.out.cell 1 _ rfl
    obtain ⟨p2, f2⟩ := hR1.out.cell 2 _ rfl
    obtain ⟨p3, f3⟩ := hR1.out.cell 3 _ rfl
    obtain ⟨p4, f4⟩ := hR1.out.cell 4 _ rfl
    obtain ⟨p5, f5⟩ := hR1.out.cell 5 _ rfl
    obtain ⟨p6, f6⟩ := hR1.out.cell 6 _ rfl
    obtain ⟨p7, f7⟩ := hR1.out.cell 7 _ rfl
    obtain ⟨p8, f8⟩ := hR1.out.cell 8 _ rfl
    obtain ⟨p9, f9⟩ := hR1.out.cell 9 _ rfl
    obtain ⟨p10, f10⟩ := hR1.out.cell 10 _ rfl
    obtain ⟨p11, f11⟩ := hR1.out.cell 11 _ rfl
    obtain ⟨p12, f12⟩ := hR1.out.cell 12 _ rfl
    obtain ⟨p13, f13⟩ := hR1.out.cell 13 _ rfl
    obtain ⟨q0, g0⟩ := hR1.out.rcell 0 _ rfl
    obtain ⟨q1, g1⟩ := hR1.out.rcell 1 _ rfl
    obtain ⟨q2, g2⟩ := hR1.out.rcell 2 _ rfl
    obtain ⟨q3, g3⟩ := hR1.out.rcell 3 _ rfl
    obtain ⟨q4, g4⟩ := hR1.out.rcell 4 _ rfl
    obtain ⟨q5, g5⟩ := hR1.out.rcell 5 _ rfl
    obtain ⟨q6, g6⟩ := hR1.out.rcell 6 _ rfl
    obtain ⟨q7, g7⟩ := hR1.out.rcell 7 _ rfl
    obtain ⟨q8, g8⟩ := hR1.out.rcell 8 _ rfl
    obtain ⟨q9, g9⟩ := hR1.out.rcell 9 _ rfl
    obtain ⟨q10, g10⟩ := hR1.out.rcell 10 _ rfl
    obtain ⟨q11, g11⟩ := hR1.out.rcell 11 _ rfl
    obtain ⟨q12, g12⟩ := hR1.out.rcell 12 _ rfl
    obtain ⟨q13, g13⟩ := hR1.out.rcell 13 _ rfl
    go_wp2_with fail
    clear c0 c1 c2 c3 c4 c5 p0 f0 q0 g0 p1 f1 q1 g1 p2 f2 q2 g2 p3 f3 q3 g3 p4 f4 q4 g4 p5 f5 q5 g5 p6 f6 q6 g6 p7 f7 q7 g7 p8 f8 q8 g8 p9 f9 q9 g9 p10 f10 q10 g10 p11 f11 q11 g11 p12 f12 q12 g12 p13 f13 q13 g13
    obtain ⟨hF, hG, hB⟩ := hR1.out.fin (.bool false) (.int .i64 ((r1 s).2 : Int)) (.int .i64 ((r7 s).2 : Int)) (.int .i64 (1 + ((r5 s).2 : Int))) (.int .i64 ((r3 s).2 : Int)) (.int .i64 ((r9 s).2 : Int)) (.int .i64 ((r11 s).2 : Int)) (.int .i64 ((r12 s).2.1 : Int)) (.int .i64 (((r1 s).1.1 : Nat) : Int)) (.int .i64 (((r6 s).1 : Nat) : Int)) (.int .i64 (((r8 s).1 : Nat) : Int)) (.int .i64 (((r10 s).1 : Nat) : Int)) (.int .i64 ((r12 s).2.2 : Int)) (.int .i64 0) rfl
    generalize ((((((((((((((V1.setCell ⟨RB, 0, none⟩ (.bool false)).setCell ⟨RB, 1, none⟩ (.int .i64 ((r1 s).2 : Int))).setCell ⟨RB, 2, none⟩ (.int .i64 ((r7 s).2 : Int))).setCell ⟨RB, 3, none⟩ (.int .i64 (1 + ((r5 s).2 : Int)))).setCell ⟨RB, 4, none⟩ (.int .i64 ((r3 s).2 : Int))).setCell ⟨RB, 5, none⟩ (.int .i64 ((r9 s).2 : Int))).setCell ⟨RB, 6, none⟩ (.int .i64 ((r11 s).2 : Int))).setCell ⟨RB, 7, none⟩ (.int .i64 ((r12 s).2.1 : Int))).setCell ⟨RB, 8, none⟩ (.int .i64 (((r1 s).1.1 : Nat) : Int))).setCell ⟨RB, 9, none⟩ (.int .i64 (((r6 s).1 : Nat) : Int))).setCell ⟨RB, 10, none⟩ (.int .i64 (((r8 s).1 : Nat) : Int))).setCell ⟨RB, 11, none⟩ (.int .i64 (((r10 s).1 : Nat) : Int))).setCell ⟨RB, 12, none⟩ (.int .i64 ((r12 s).2.2 : Int))).setCell ⟨RB, 13, none⟩ (.int .i64 0)) = WF at hF hG hB ⊢
    obtain ⟨z0, z1, z2, z3, z4, z5, z6, z7, z8, z9, z10, z11, z12, z13⟩ := cells14 hF
    clear hF
    refine bodyPost_ret (v := rv s) ?_ rfl ⟨rfl, hB, ?_⟩
    · simp [results, Tryd.results38, go_sem, z0, z1, z2, z3, z4, z5, z6, z7, z8, z9, z10, z11, z12, z13]
      unfold rv
      simp only [hn' (), e15 ()]
    · rw [e15 ()]
      exact hG
set_option maxRecDepth 100000 in
set_option maxHeartbeats 4000000 in
theorem Tryd.dRead_011 (X : Nat) (s : ByteArray) (wp w : World) (h0 : Scn w X s (0, 0)) (hb : Below wp.heap.size wp w) (hX : wp.heap.size ≤ X) (hT : Tabs wp) (hn : spk isLt s (0, 0) = false) (h2 : spk isDg s (r2 s).1 = true) (h3 : spk isCo s (r11 s).1 = true) : Calls Tryd.prog 38 #[.pointer (some ⟨X, 0, none⟩)] w fun z w' => z = .returned (rv s) ∧ Below wp.heap.size wp w' ∧ Scn w' X s (r15 s).1 := by
  have hn' := fun (_ : Unit) => hn
  have h2' := fun (_ : Unit) => h2
  have h3' := fun (_ : Unit) => h3
  have e1 : Unit → (r1 s = ((0, 0), 0)) := fun _ => (by unfold r1; rw [hn]; rfl)
  have e3 : Unit → (r3 s = ((r2b s).1, 10 * (r2 s).2 + (r2b s).2)) := fun _ => (by unfold r3; rw [h2]; rfl)
  have e12 : Unit → (r12 s = ((r11b s).1, (r11b s).2, (r11 s).1.1 + 1)) := fun _ => (by unfold r12; rw [h3]; rfl)
  clear hn h2 h3
  go_enter Tryd.func38, Tryd.ntmps38
  go_wp2_with fail
  have hR0 : Rd wp X w.heap.size (w.heap.size + 1) s (0, 0) zA ((w.alloc (.cells zA 63)).alloc (.cells zA 63)) := rd_start h0 hb hX hT
  change Calls _ _ _ ((w.alloc (.cells zA 63)).alloc (.cells zA 63)) _
  generalize (w.alloc (.cells zA 63)).alloc (.cells zA 63) = W0 at hR0 ⊢
  generalize w.heap.size + 1 = PB at hR0 ⊢
  generalize w.heap.size = RB at hR0 ⊢
  have hH0 : Hid (Rd wp X RB PB s (0, 0) #[.bool false, .int .i64 0, .int .i64 0, .int .i64 0, .int .i64 0, .int .i64 0, .int .i64 0, .int .i64 0, .int .i64 0, .int .i64 0, .int .i64 0, .int .i64 0, .int .i64 0, .int .i64 0] W0) := Lib.hid hR0
  clear hR0 h0 hb hT hX
  have hc := Tryd.dPeek 47 #[] isLt X s (0, 0) W0 Tryd.cfLetter (fun W _ c => Tryd.pLetter c W) hH0.out.scn
  rw [hn' ()] at hc
  refine hc.mono ?_
  rintro e W1 ⟨rfl, hb⟩
  have hH1t := hH0.out.below hb
  clear hc hb
  have hH1 : Hid (Rd wp X RB PB s (0, 0) #[.bool false, .int .i64 0, .int .i64 0, .int .i64 0, .int .i64 0, .int .i64 0, .int .i64 0, .int .i64 0, .int .i64 0, .int .i64 0, .int .i64 0, .int .i64 0, .int .i64 0, .int .i64 0] W1) := Lib.hid hH1t
  clear hH1t hH0
  obtain ⟨p0, f0⟩ := hH1.out.cell 0 _ rfl
  obtain ⟨c0, c1, c2, c3, c4, c5⟩ := hH1.out.scn.c
  go_wp2_with fail
  clear c0 c1 c2 c3 c4 c5 p0 f0
  have hH2t : Rd wp X RB PB s (0, 0) #[.bool false, .int .i64 0, .int .i64 0, .int .i64 0, .int .i64 0, .int .i64 0, .int .i64 0, .int .i64 0, .int .i64 0, .int .i64 0, .int .i64 0, .int .i64 0, .int .i64 0, .int .i64 0] (W1.setCell ⟨PB, 0, none⟩ (.bool false)) := (hH1.out.store 0 (.bool false))
  generalize (W1.setCell ⟨PB, 0, none⟩ (.bool false)) = W2 at hH2t ⊢
  have hH2 : Hid (Rd wp X RB PB s (0, 0) #[.bool false, .int .i64 0, .int .i64 0, .int .i64 0, .int .i64 0, .int .i64 0, .int .i64 0, .int .i64 0, .int .i64 0, .int .i64 0, .int .i64 0, .int .i64 0, .int .i64 0, .int .i64 0] W2) := Lib.hid hH2t
  clear hH2t hH1
  have hH3t : Rd wp X RB PB s (r1 s).1 #[.bool false, .int .i64 ((r1 s).2 : Int), .int .i64 0, .int .i64 0, .int .i64 0, .int .i64 0, .int .i64 0, .int .i64 0, .int .i64 0, .int .i64 0, .int .i64 0, .int .i64 0, .int .i64 0, .int .i64 0] W2 := by
    rw [e1 ()]
    try dsimp only
    exact hH2.out
  have hH3 : Hid (Rd wp X RB PB s (r1 s).1 #[.bool false, .int .i64 ((r1 s).2 : Int), .int .i64 0, .int .i64 0, .int .i64 0, .int .i64 0, .int .i64 0, .int .i64 0, .int .i64 0, .int .i64 0, .int .i64 0, .int .i64 0, .int .i64 0, .int .i64 0] W2) := Lib.hid hH3t
  clear hH3t hH2
  have hc := Tryd.dNumber X s (r1 s).1 1 (by omega) W2 hH3.out.scn
  rw [show snum s 1 ((r1 s).1, 0) = r2 s from rfl] at hc
  refine hc.mono ?_
  rintro e W4 ⟨rfl, hg, hs⟩
  have hH4t := hH3.out.call hg hs
  clear hc hg hs
  have hH4 : Hid (Rd wp X RB PB s (r2 s).1 #[.bool false, .int .i64 ((r1 s).2 : Int), .int .i64 0, .int .i64 0, .int .i64 0, .int .i64 0, .int .i64 0, .int .i64 0, .int .i64 0, .int .i64 0, .int .i64 0, .int .i64 0, .int .i64 0, .int .i64 0] W4) := Lib.hid hH4t
  clear hH4t hH3
  obtain ⟨p4, f4⟩ := hH4.out.cell 4 _ rfl
  obtain ⟨p8, f8⟩ := hH4.out.cell 8 _ rfl
  obtain ⟨c0, c1, c2, c3, c4, c5⟩ := hH4.out.scn.c
  go_wp2_with fail
  clear c0 c1 c2 c3 c4 c5 p4 f4 p8 f8
  have hH5t : Rd wp X RB PB s (r2 s).1 #[.bool false, .int .i64 ((r1 s).2 : Int), .int .i64 0, .int .i64 0, .int .i64 ((r2 s).2 : Int), .int .i64 0, .int .i64 0, .int .i64 0, .int .i64 (((r1 s).1.1 : Nat) : Int), .int .i64 0, .int .i64 0, .int .i64 0, .int .i64 0, .int .i64 0] ((W4.setCell ⟨PB, 4, none⟩ (.int .i64 ((r2 s).2 : Int))).setCell ⟨PB, 8, none⟩ (.int .i64 (((r1 s).1.1 : Nat) : Int))) := ((hH4.out.store 4 (.int .i64 ((r2 s).2 : Int))).store 8 (.int .i64 (((r1 s).1.1 : Nat) : Int)))
  generalize ((W4.setCell ⟨PB, 4, none⟩ (.int .i64 ((r2 s).2 : Int))).setCell ⟨PB, 8, none⟩ (.int .i64 (((r1 s).1.1 : Nat) : Int))) = W5 at hH5t ⊢
  have hH5 : Hid (Rd wp X RB PB s (r2 s).1 #[.bool false, .int .i64 ((r1 s).2 : Int), .int .i64 0, .int .i64 0, .int .i64 ((r2 s).2 : Int), .int .i64 0, .int .i64 0, .int .i64 0, .int .i64 (((r1 s).1.1 : Nat) : Int), .int .i64 0, .int .i64 0, .int .i64 0, .int .i64 0, .int .i64 0] W5) := Lib.hid hH5t
  clear hH5t hH4
  have hc := Tryd.dPeek 53 #[] isDg X s (r2 s).1 W5 Tryd.cfDigit (fun W _ c => Tryd.pDigit c W) hH5.out.scn
  rw [h2' ()] at hc
  refine hc.mono ?_
  rintro e W6 ⟨rfl, hb⟩
  have hH6t := hH5.out.below hb
  clear hc hb
  have hH6 : Hid (Rd wp X RB PB s (r2 s).1 #[.bool false, .int .i64 ((r1 s).2 : Int), .int .i64 0, .int .i64 0, .int .i64 ((r2 s).2 : Int), .int .i64 0, .int .i64 0, .int .i64 0, .int .i64 (((r1 s).1.1 : Nat) : Int), .int .i64 0, .int .i64 0, .int .i64 0, .int .i64 0, .int .i64 0] W6) := Lib.hid hH6t
  clear hH6t hH5
  obtain ⟨p4, f4⟩ := hH6.out.cell 4 _ rfl
  obtain ⟨c0, c1, c2, c3, c4, c5⟩ := hH6.out.scn.c
  go_wp2_with fail
  clear c0 c1 c2 c3 c4 c5 p4 f4
  have hc := Tryd.dNumber X s (r2 s).1 1 (by omega) W6 hH6.out.scn
  rw [show snum s 1 ((r2 s).1, 0) = r2b s from rfl] at hc
  refine hc.mono ?_
  rintro e W7 ⟨rfl, hg, hs⟩
  have hH7t := hH6.out.call hg hs
  clear hc hg hs
  have hH7 : Hid (Rd wp X RB PB s (r2b s).1 #[.bool false, .int .i64 ((r1 s).2 : Int), .int .i64 0, .int .i64 0, .int .i64 ((r2 s).2 : Int), .int .i64 0, .int .i64 0, .int .i64 0, .int .i64 (((r1 s).1.1 : Nat) : Int), .int .i64 0, .int .i64 0, .int .i64 0, .int .i64 0, .int .i64 0] W7) := Lib.hid hH7t
  clear hH7t hH6
  obtain ⟨p4, f4⟩ := hH7.out.cell 4 _ rfl
  obtain ⟨c0, c1, c2, c3, c4, c5⟩ := hH7.out.scn.c
  have hda : (r2 s).2 ≤ 255 := snum1_bd _ _
  have hdb : (r2b s).2 ≤ 255 := snum1_bd _ _
  have u1 : IntKind.i64.wrap (10 * ((r2 s).2 : Int)) = 10 * ((r2 s).2 : Int) := IntWalk.i64_in _ (by omega)
  have u2 : IntKind.i64.wrap (10 * ((r2 s).2 : Int) + ((r2b s).2 : Int)) = 10 * ((r2 s).2 : Int) + ((r2b s).2 : Int) := IntWalk.i64_in _ (by omega)
  go_wp2_with fail
  clear c0 c1 c2 c3 c4 c5 p4 f4
  clear u1 u2 hda hdb
  have hH8t : Rd wp X RB PB s (r2b s).1 #[.bool false, .int .i64 ((r1 s).2 : Int), .int .i64 0, .int .i64 0, .int .i64 (10 * ((r2 s).2 : Int) + ((r2b s).2 : Int)), .int .i64 0, .int .i64 0, .int .i64 0, .int .i64 (((r1 s).1.1 : Nat) : Int), .int .i64 0, .int .i64 0, .int .i64 0, .int .i64 0, .int .i64 0] (W7.setCell ⟨PB, 4, none⟩ (.int .i64 (10 * ((r2 s).2 : Int) + ((r2b s).2 : Int)))) := (hH7.out.store 4 (.int .i64 (10 * ((r2 s).2 : Int) + ((r2b s).2 : Int))))
  generalize (W7.setCell ⟨PB, 4, none⟩ (.int .i64 (10 * ((r2 s).2 : Int) + ((r2b s).2 : Int)))) = W8 at hH8t ⊢
  have hH8 : Hid (Rd wp X RB PB s (r2b s).1 #[.bool false, .int .i64 ((r1 s).2 : Int), .int .i64 0, .int .i64 0, .int .i64 (10 * ((r2 s).2 : Int) + ((r2b s).2 : Int)), .int .i64 0, .int .i64 0, .int .i64 0, .int .i64 (((r1 s).1.1 : Nat) : Int), .int .i64 0, .int .i64 0, .int .i64 0, .int .i64 0, .int .i64 0] W8) := Lib.hid hH8t
  clear hH8t hH7
  have hH9t : Rd wp X RB PB s (r3 s).1 #[.bool false, .int .i64 ((r1 s).2 : Int), .int .i64 0, .int .i64 0, .int .i64 ((r3 s).2 : Int), .int .i64 0, .int .i64 0, .int .i64 0, .int .i64 (((r1 s).1.1 : Nat) : Int), .int .i64 0, .int .i64 0, .int .i64 0, .int .i64 0, .int .i64 0] W8 := by
    rw [e3 ()]
    try dsimp only
    rw [Int.natCast_add, Int.natCast_mul]
    exact hH8.out
  have hH9 : Hid (Rd wp X RB PB s (r3 s).1 #[.bool false, .int .i64 ((r1 s).2 : Int), .int .i64 0, .int .i64 0, .int .i64 ((r3 s).2 : Int), .int .i64 0, .int .i64 0, .int .i64 0, .int .i64 (((r1 s).1.1 : Nat) : Int), .int .i64 0, .int .i64 0, .int .i64 0, .int .i64 0, .int .i64 0] W8) := Lib.hid hH9t
  clear hH9t hH8
  have hc := Tryd.dBlanks X s (r3 s).1 false W8 hH9.out.scn
  rw [show sbl false s (r3 s).1 = r4 s from rfl] at hc
  refine hc.mono ?_
  rintro e W10 ⟨rfl, hg, hs⟩
  have hH10t := hH9.out.call hg hs
  clear hc hg hs
  have hH10 : Hid (Rd wp X RB PB s (r4 s) #[.bool false, .int .i64 ((r1 s).2 : Int), .int .i64 0, .int .i64 0, .int .i64 ((r3 s).2 : Int), .int .i64 0, .int .i64 0, .int .i64 0, .int .i64 (((r1 s).1.1 : Nat) : Int), .int .i64 0, .int .i64 0, .int .i64 0, .int .i64 0, .int .i64 0] W10) := Lib.hid hH10t
  clear hH10t hH9
  obtain ⟨c0, c1, c2, c3, c4, c5⟩ := hH10.out.scn.c
  go_wp2_with fail
  clear c0 c1 c2 c3 c4 c5
  have hc := Tryd.dMonthNames W10
  refine hc.mono ?_
  rintro e W11 ⟨rfl, hb⟩
  have hH11t := hH10.out.below hb
  clear hc hb
  have hH11 : Hid (Rd wp X RB PB s (r4 s) #[.bool false, .int .i64 ((r1 s).2 : Int), .int .i64 0, .int .i64 0, .int .i64 ((r3 s).2 : Int), .int .i64 0, .int .i64 0, .int .i64 0, .int .i64 (((r1 s).1.1 : Nat) : Int), .int .i64 0, .int .i64 0, .int .i64 0, .int .i64 0, .int .i64 0] W11) := Lib.hid hH11t
  clear hH11t hH10
  obtain ⟨c0, c1, c2, c3, c4, c5⟩ := hH11.out.scn.c
  have hst : (storeCells ⟨W11.heap.size, 0, none⟩ mnA.toList 0).run Tryd.prog (W11.alloc (.cells #[.string ⟨#[]⟩, .string ⟨#[]⟩, .string ⟨#[]⟩, .string ⟨#[]⟩, .string ⟨#[]⟩, .string ⟨#[]⟩, .string ⟨#[]⟩, .string ⟨#[]⟩, .string ⟨#[]⟩, .string ⟨#[]⟩, .string ⟨#[]⟩, .string ⟨#[]⟩] 56)) = .ok () (W11.alloc (.cells mnA 56)) := run_storeCells_new W11 56 z12 mnA (by kernel_rfl) rfl (by kernel_rfl)
  go_wp2_with fail
  clear c0 c1 c2 c3 c4 c5
  clear hst
  have hNx : W11.heap.size ≠ X := by have := (Array.getElem?_eq_some_iff.1 hH11.out.scn.1).1; omega
  have hNl : W11.heap.size < (W11.alloc (.cells mnA 56)).heap.size := by simp
  have hNc : ∀ k (h : k < (names mnl).length), (W11.alloc (.cells mnA 56)).cell? ⟨W11.heap.size, k, none⟩ = some (.string (names mnl)[k]) := fun k h => (Go.cell_of_row _ _ _ _ _ _ (Go.heap_alloc_new W11 _)).trans (mn_at k h)
  have hH12t : Rd wp X RB PB s (r4 s) #[.bool false, .int .i64 ((r1 s).2 : Int), .int .i64 0, .int .i64 0, .int .i64 ((r3 s).2 : Int), .int .i64 0, .int .i64 0, .int .i64 0, .int .i64 (((r1 s).1.1 : Nat) : Int), .int .i64 0, .int .i64 0, .int .i64 0, .int .i64 0, .int .i64 0] (W11.alloc (.cells mnA 56)) := hH11.out.below ((Below.refl _ _).alloc (Nat.le_refl _) _)
  generalize (W11.alloc (.cells mnA 56)) = W12 at hH12t hNl hNc ⊢
  generalize W11.heap.size = NB12 at hNx hNl hNc ⊢
  have hH12 : Hid (Rd wp X RB PB s (r4 s) #[.bool false, .int .i64 ((r1 s).2 : Int), .int .i64 0, .int .i64 0, .int .i64 ((r3 s).2 : Int), .int .i64 0, .int .i64 0, .int .i64 0, .int .i64 (((r1 s).1.1 : Nat) : Int), .int .i64 0, .int .i64 0, .int .i64 0, .int .i64 0, .int .i64 0] W12) := Lib.hid hH12t
  clear hH12t hH11
  have hc := Tryd.dName X s (r4 s) (names mnl) (by decide) mn_3 NB12 W12 hH12.out.scn hNl hNx hNc hH12.out.T
  rw [show sname (names mnl) s (r4 s) = r5 s from rfl] at hc
  clear hNx hNl hNc
  refine hc.mono ?_
  rintro e W13 ⟨rfl, hg, hs⟩
  have hH13t := hH12.out.call hg hs
  clear hc hg hs
  have hH13 : Hid (Rd wp X RB PB s (r5 s).1 #[.bool false, .int .i64 ((r1 s).2 : Int), .int .i64 0, .int .i64 0, .int .i64 ((r3 s).2 : Int), .int .i64 0, .int .i64 0, .int .i64 0, .int .i64 (((r1 s).1.1 : Nat) : Int), .int .i64 0, .int .i64 0, .int .i64 0, .int .i64 0, .int .i64 0] W13) := Lib.hid hH13t
  clear hH13t hH12
  obtain ⟨p3, f3⟩ := hH13.out.cell 3 _ rfl
  obtain ⟨c0, c1, c2, c3, c4, c5⟩ := hH13.out.scn.c
  have hm5 : (r5 s).2 ≤ 12 := sname_bd _ _ _
  have u1 : IntKind.i64.wrap (1 + ((r5 s).2 : Int)) = 1 + ((r5 s).2 : Int) := IntWalk.i64_in _ (by omega)
  go_wp2_with fail
  clear c0 c1 c2 c3 c4 c5 p3 f3
  clear u1 hm5
  have hH14t : Rd wp X RB PB s (r5 s).1 #[.bool false, .int .i64 ((r1 s).2 : Int), .int .i64 0, .int .i64 (1 + ((r5 s).2 : Int)), .int .i64 ((r3 s).2 : Int), .int .i64 0, .int .i64 0, .int .i64 0, .int .i64 (((r1 s).1.1 : Nat) : Int), .int .i64 0, .int .i64 0, .int .i64 0, .int .i64 0, .int .i64 0] (W13.setCell ⟨PB, 3, none⟩ (.int .i64 (1 + ((r5 s).2 : Int)))) := (hH13.out.store 3 (.int .i64 (1 + ((r5 s).2 : Int))))
  generalize (W13.setCell ⟨PB, 3, none⟩ (.int .i64 (1 + ((r5 s).2 : Int)))) = W14 at hH14t ⊢
  have hH14 : Hid (Rd wp X RB PB s (r5 s).1 #[.bool false, .int .i64 ((r1 s).2 : Int), .int .i64 0, .int .i64 (1 + ((r5 s).2 : Int)), .int .i64 ((r3 s).2 : Int), .int .i64 0, .int .i64 0, .int .i64 0, .int .i64 (((r1 s).1.1 : Nat) : Int), .int .i64 0, .int .i64 0, .int .i64 0, .int .i64 0, .int .i64 0] W14) := Lib.hid hH14t
  clear hH14t hH13
  have hc := Tryd.dBlanks X s (r5 s).1 false W14 hH14.out.scn
  rw [show sbl false s (r5 s).1 = r6 s from rfl] at hc
  refine hc.mono ?_
  rintro e W15 ⟨rfl, hg, hs⟩
  have hH15t := hH14.out.call hg hs
  clear hc hg hs
  have hH15 : Hid (Rd wp X RB PB s (r6 s) #[.bool false, .int .i64 ((r1 s).2 : Int), .int .i64 0, .int .i64 (1 + ((r5 s).2 : Int)), .int .i64 ((r3 s).2 : Int), .int .i64 0, .int .i64 0, .int .i64 0, .int .i64 (((r1 s).1.1 : Nat) : Int), .int .i64 0, .int .i64 0, .int .i64 0, .int .i64 0, .int .i64 0] W15) := Lib.hid hH15t
  clear hH15t hH14
  obtain ⟨c0, c1, c2, c3, c4, c5⟩ := hH15.out.scn.c
  go_wp2_with fail
  clear c0 c1 c2 c3 c4 c5
  have hc := Tryd.dNumber X s (r6 s) 4 (by omega) W15 hH15.out.scn
  rw [show snum s 4 ((r6 s), 0) = r7 s from rfl] at hc
  refine hc.mono ?_
  rintro e W16 ⟨rfl, hg, hs⟩
  have hH16t := hH15.out.call hg hs
  clear hc hg hs
  have hH16 : Hid (Rd wp X RB PB s (r7 s).1 #[.bool false, .int .i64 ((r1 s).2 : Int), .int .i64 0, .int .i64 (1 + ((r5 s).2 : Int)), .int .i64 ((r3 s).2 : Int), .int .i64 0, .int .i64 0, .int .i64 0, .int .i64 (((r1 s).1.1 : Nat) : Int), .int .i64 0, .int .i64 0, .int .i64 0, .int .i64 0, .int .i64 0] W16) := Lib.hid hH16t
  clear hH16t hH15
  obtain ⟨p2, f2⟩ := hH16.out.cell 2 _ rfl
  obtain ⟨p9, f9⟩ := hH16.out.cell 9 _ rfl
  obtain ⟨c0, c1, c2, c3, c4, c5⟩ := hH16.out.scn.c
  go_wp2_with fail
  clear c0 c1 c2 c3 c4 c5 p2 f2 p9 f9
  have hH17t : Rd wp X RB PB s (r7 s).1 #[.bool false, .int .i64 ((r1 s).2 : Int), .int .i64 ((r7 s).2 : Int), .int .i64 (1 + ((r5 s).2 : Int)), .int .i64 ((r3 s).2 : Int), .int .i64 0, .int .i64 0, .int .i64 0, .int .i64 (((r1 s).1.1 : Nat) : Int), .int .i64 (((r6 s).1 : Nat) : Int), .int .i64 0, .int .i64 0, .int .i64 0, .int .i64 0] ((W16.setCell ⟨PB, 2, none⟩ (.int .i64 ((r7 s).2 : Int))).setCell ⟨PB, 9, none⟩ (.int .i64 (((r6 s).1 : Nat) : Int))) := ((hH16.out.store 2 (.int .i64 ((r7 s).2 : Int))).store 9 (.int .i64 (((r6 s).1 : Nat) : Int)))
  generalize ((W16.setCell ⟨PB, 2, none⟩ (.int .i64 ((r7 s).2 : Int))).setCell ⟨PB, 9, none⟩ (.int .i64 (((r6 s).1 : Nat) : Int))) = W17 at hH17t ⊢
  have hH17 : Hid (Rd wp X RB PB s (r7 s).1 #[.bool false, .int .i64 ((r1 s).2 : Int), .int .i64 ((r7 s).2 : Int), .int .i64 (1 + ((r5 s).2 : Int)), .int .i64 ((r3 s).2 : Int), .int .i64 0, .int .i64 0, .int .i64 0, .int .i64 (((r1 s).1.1 : Nat) : Int), .int .i64 (((r6 s).1 : Nat) : Int), .int .i64 0, .int .i64 0, .int .i64 0, .int .i64 0] W17) := Lib.hid hH17t
  clear hH17t hH16
  have hc := Tryd.dBlanks X s (r7 s).1 false W17 hH17.out.scn
  rw [show sbl false s (r7 s).1 = r8 s from rfl] at hc
  refine hc.mono ?_
  rintro e W18 ⟨rfl, hg, hs⟩
  have hH18t := hH17.out.call hg hs
  clear hc hg hs
  have hH18 : Hid (Rd wp X RB PB s (r8 s) #[.bool false, .int .i64 ((r1 s).2 : Int), .int .i64 ((r7 s).2 : Int), .int .i64 (1 + ((r5 s).2 : Int)), .int .i64 ((r3 s).2 : Int), .int .i64 0, .int .i64 0, .int .i64 0, .int .i64 (((r1 s).1.1 : Nat) : Int), .int .i64 (((r6 s).1 : Nat) : Int), .int .i64 0, .int .i64 0, .int .i64 0, .int .i64 0] W18) := Lib.hid hH18t
  clear hH18t hH17
  obtain ⟨c0, c1, c2, c3, c4, c5⟩ := hH18.out.scn.c
  go_wp2_with fail
  clear c0 c1 c2 c3 c4 c5
  have hc := Tryd.dNumber X s (r8 s) 2 (by omega) W18 hH18.out.scn
  rw [show snum s 2 ((r8 s), 0) = r9 s from rfl] at hc
  refine hc.mono ?_
  rintro e W19 ⟨rfl, hg, hs⟩
  have hH19t := hH18.out.call hg hs
  clear hc hg hs
  have hH19 : Hid (Rd wp X RB PB s (r9 s).1 #[.bool false, .int .i64 ((r1 s).2 : Int), .int .i64 ((r7 s).2 : Int), .int .i64 (1 + ((r5 s).2 : Int)), .int .i64 ((r3 s).2 : Int), .int .i64 0, .int .i64 0, .int .i64 0, .int .i64 (((r1 s).1.1 : Nat) : Int), .int .i64 (((r6 s).1 : Nat) : Int), .int .i64 0, .int .i64 0, .int .i64 0, .int .i64 0] W19) := Lib.hid hH19t
  clear hH19t hH18
  obtain ⟨p5, f5⟩ := hH19.out.cell 5 _ rfl
  obtain ⟨p10, f10⟩ := hH19.out.cell 10 _ rfl
  obtain ⟨c0, c1, c2, c3, c4, c5⟩ := hH19.out.scn.c
  go_wp2_with fail
  clear c0 c1 c2 c3 c4 c5 p5 f5 p10 f10
  have hH20t : Rd wp X RB PB s (r9 s).1 #[.bool false, .int .i64 ((r1 s).2 : Int), .int .i64 ((r7 s).2 : Int), .int .i64 (1 + ((r5 s).2 : Int)), .int .i64 ((r3 s).2 : Int), .int .i64 ((r9 s).2 : Int), .int .i64 0, .int .i64 0, .int .i64 (((r1 s).1.1 : Nat) : Int), .int .i64 (((r6 s).1 : Nat) : Int), .int .i64 (((r8 s).1 : Nat) : Int), .int .i64 0, .int .i64 0, .int .i64 0] ((W19.setCell ⟨PB, 5, none⟩ (.int .i64 ((r9 s).2 : Int))).setCell ⟨PB, 10, none⟩ (.int .i64 (((r8 s).1 : Nat) : Int))) := ((hH19.out.store 5 (.int .i64 ((r9 s).2 : Int))).store 10 (.int .i64 (((r8 s).1 : Nat) : Int)))
  generalize ((W19.setCell ⟨PB, 5, none⟩ (.int .i64 ((r9 s).2 : Int))).setCell ⟨PB, 10, none⟩ (.int .i64 (((r8 s).1 : Nat) : Int))) = W20 at hH20t ⊢
  have hH20 : Hid (Rd wp X RB PB s (r9 s).1 #[.bool false, .int .i64 ((r1 s).2 : Int), .int .i64 ((r7 s).2 : Int), .int .i64 (1 + ((r5 s).2 : Int)), .int .i64 ((r3 s).2 : Int), .int .i64 ((r9 s).2 : Int), .int .i64 0, .int .i64 0, .int .i64 (((r1 s).1.1 : Nat) : Int), .int .i64 (((r6 s).1 : Nat) : Int), .int .i64 (((r8 s).1 : Nat) : Int), .int .i64 0, .int .i64 0, .int .i64 0] W20) := Lib.hid hH20t
  clear hH20t hH19
  have hc := Tryd.dJust 58 W20
  have JB20l : W20.heap.size = W20.heap.size := rfl
  generalize hJ : W20.heap.size = JB20 at hc
  clear JB20l
  have hJ2 : ∀ W, Below JB20 W20 W → Below W20.heap.size W20 W := fun W h => by rw [hJ]; exact h
  clear hJ
  replace hc := hc.mono (fun e w' h => (⟨h.1, h.2.1, hJ2 w' h.2.2⟩ : _ ∧ _ ∧ _))
  clear hJ2
  refine hc.mono ?_
  rintro e W21 ⟨rfl, hj, hb⟩
  have hH21t := hH20.out.below hb
  clear hc hb
  have hH21 : Hid (Rd wp X RB PB s (r9 s).1 #[.bool false, .int .i64 ((r1 s).2 : Int), .int .i64 ((r7 s).2 : Int), .int .i64 (1 + ((r5 s).2 : Int)), .int .i64 ((r3 s).2 : Int), .int .i64 ((r9 s).2 : Int), .int .i64 0, .int .i64 0, .int .i64 (((r1 s).1.1 : Nat) : Int), .int .i64 (((r6 s).1 : Nat) : Int), .int .i64 (((r8 s).1 : Nat) : Int), .int .i64 0, .int .i64 0, .int .i64 0] W21) := Lib.hid hH21t
  clear hH21t hH20
  obtain ⟨c0, c1, c2, c3, c4, c5⟩ := hH21.out.scn.c
  go_wp2_with fail
  clear c0 c1 c2 c3 c4 c5
  have hc := Tryd.dTake 65 #[.pointer (some ⟨JB20, 0, none⟩)] isCo X s (r9 s).1 W21 Tryd.cfJustK (fun W h c => Tryd.pJust 58 JB20 c W (cell_keep h hj)) hH21.out.scn
  rw [show stk isCo s (r9 s).1 = r10 s from rfl] at hc
  clear hj
  refine hc.mono ?_
  rintro e W22 ⟨rfl, hg, hs⟩
  have hH22t := hH21.out.call hg hs
  clear hc hg hs
  have hH22 : Hid (Rd wp X RB PB s (r10 s) #[.bool false, .int .i64 ((r1 s).2 : Int), .int .i64 ((r7 s).2 : Int), .int .i64 (1 + ((r5 s).2 : Int)), .int .i64 ((r3 s).2 : Int), .int .i64 ((r9 s).2 : Int), .int .i64 0, .int .i64 0, .int .i64 (((r1 s).1.1 : Nat) : Int), .int .i64 (((r6 s).1 : Nat) : Int), .int .i64 (((r8 s).1 : Nat) : Int), .int .i64 0, .int .i64 0, .int .i64 0] W22) := Lib.hid hH22t
  clear hH22t hH21
  obtain ⟨c0, c1, c2, c3, c4, c5⟩ := hH22.out.scn.c
  go_wp2_with fail
  clear c0 c1 c2 c3 c4 c5
  have hc := Tryd.dNumber X s (r10 s) 2 (by omega) W22 hH22.out.scn
  rw [show snum s 2 ((r10 s), 0) = r11 s from rfl] at hc
  refine hc.mono ?_
  rintro e W23 ⟨rfl, hg, hs⟩
  have hH23t := hH22.out.call hg hs
  clear hc hg hs
  have hH23 : Hid (Rd wp X RB PB s (r11 s).1 #[.bool false, .int .i64 ((r1 s).2 : Int), .int .i64 ((r7 s).2 : Int), .int .i64 (1 + ((r5 s).2 : Int)), .int .i64 ((r3 s).2 : Int), .int .i64 ((r9 s).2 : Int), .int .i64 0, .int .i64 0, .int .i64 (((r1 s).1.1 : Nat) : Int), .int .i64 (((r6 s).1 : Nat) : Int), .int .i64 (((r8 s).1 : Nat) : Int), .int .i64 0, .int .i64 0, .int .i64 0] W23) := Lib.hid hH23t
  clear hH23t hH22
  obtain ⟨p6, f6⟩ := hH23.out.cell 6 _ rfl
  obtain ⟨p11, f11⟩ := hH23.out.cell 11 _ rfl
  obtain ⟨c0, c1, c2, c3, c4, c5⟩ := hH23.out.scn.c
  go_wp2_with fail
  clear c0 c1 c2 c3 c4 c5 p6 f6 p11 f11
  have hH24t : Rd wp X RB PB s (r11 s).1 #[.bool false, .int .i64 ((r1 s).2 : Int), .int .i64 ((r7 s).2 : Int), .int .i64 (1 + ((r5 s).2 : Int)), .int .i64 ((r3 s).2 : Int), .int .i64 ((r9 s).2 : Int), .int .i64 ((r11 s).2 : Int), .int .i64 0, .int .i64 (((r1 s).1.1 : Nat) : Int), .int .i64 (((r6 s).1 : Nat) : Int), .int .i64 (((r8 s).1 : Nat) : Int), .int .i64 (((r10 s).1 : Nat) : Int), .int .i64 0, .int .i64 0] ((W23.setCell ⟨PB, 6, none⟩ (.int .i64 ((r11 s).2 : Int))).setCell ⟨PB, 11, none⟩ (.int .i64 (((r10 s).1 : Nat) : Int))) := ((hH23.out.store 6 (.int .i64 ((r11 s).2 : Int))).store 11 (.int .i64 (((r10 s).1 : Nat) : Int)))
  generalize ((W23.setCell ⟨PB, 6, none⟩ (.int .i64 ((r11 s).2 : Int))).setCell ⟨PB, 11, none⟩ (.int .i64 (((r10 s).1 : Nat) : Int))) = W24 at hH24t ⊢
  have hH24 : Hid (Rd wp X RB PB s (r11 s).1 #[.bool false, .int .i64 ((r1 s).2 : Int), .int .i64 ((r7 s).2 : Int), .int .i64 (1 + ((r5 s).2 : Int)), .int .i64 ((r3 s).2 : Int), .int .i64 ((r9 s).2 : Int), .int .i64 ((r11 s).2 : Int), .int .i64 0, .int .i64 (((r1 s).1.1 : Nat) : Int), .int .i64 (((r6 s).1 : Nat) : Int), .int .i64 (((r8 s).1 : Nat) : Int), .int .i64 (((r10 s).1 : Nat) : Int), .int .i64 0, .int .i64 0] W24) := Lib.hid hH24t
  clear hH24t hH23
  have hc := Tryd.dJust 58 W24
  have JB24l : W24.heap.size = W24.heap.size := rfl
  generalize hJ : W24.heap.size = JB24 at hc
  clear JB24l
  have hJ2 : ∀ W, Below JB24 W24 W → Below W24.heap.size W24 W := fun W h => by rw [hJ]; exact h
  clear hJ
  replace hc := hc.mono (fun e w' h => (⟨h.1, h.2.1, hJ2 w' h.2.2⟩ : _ ∧ _ ∧ _))
  clear hJ2
  refine hc.mono ?_
  rintro e W25 ⟨rfl, hj, hb⟩
  have hH25t := hH24.out.below hb
  clear hc hb
  have hH25 : Hid (Rd wp X RB PB s (r11 s).1 #[.bool false, .int .i64 ((r1 s).2 : Int), .int .i64 ((r7 s).2 : Int), .int .i64 (1 + ((r5 s).2 : Int)), .int .i64 ((r3 s).2 : Int), .int .i64 ((r9 s).2 : Int), .int .i64 ((r11 s).2 : Int), .int .i64 0, .int .i64 (((r1 s).1.1 : Nat) : Int), .int .i64 (((r6 s).1 : Nat) : Int), .int .i64 (((r8 s).1 : Nat) : Int), .int .i64 (((r10 s).1 : Nat) : Int), .int .i64 0, .int .i64 0] W25) := Lib.hid hH25t
  clear hH25t hH24
  obtain ⟨c0, c1, c2, c3, c4, c5⟩ := hH25.out.scn.c
  go_wp2_with fail
  clear c0 c1 c2 c3 c4 c5
  have hc := Tryd.dPeek 65 #[.pointer (some ⟨JB24, 0, none⟩)] isCo X s (r11 s).1 W25 Tryd.cfJustK (fun W h c => Tryd.pJust 58 JB24 c W (cell_keep h hj)) hH25.out.scn
  rw [h3' ()] at hc
  clear hj
  refine hc.mono ?_
  rintro e W26 ⟨rfl, hb⟩
  have hH26t := hH25.out.below hb
  clear hc hb
  have hH26 : Hid (Rd wp X RB PB s (r11 s).1 #[.bool false, .int .i64 ((r1 s).2 : Int), .int .i64 ((r7 s).2 : Int), .int .i64 (1 + ((r5 s).2 : Int)), .int .i64 ((r3 s).2 : Int), .int .i64 ((r9 s).2 : Int), .int .i64 ((r11 s).2 : Int), .int .i64 0, .int .i64 (((r1 s).1.1 : Nat) : Int), .int .i64 (((r6 s).1 : Nat) : Int), .int .i64 (((r8 s).1 : Nat) : Int), .int .i64 (((r10 s).1 : Nat) : Int), .int .i64 0, .int .i64 0] W26) := Lib.hid hH26t
  clear hH26t hH25
  obtain ⟨c0, c1, c2, c3, c4, c5⟩ := hH26.out.scn.c
  have hlt : (r11 s).1.1 < s.size := by have h3t := h3' (); unfold spk at h3t; simp only [Bool.and_eq_true, decide_eq_true_eq] at h3t; exact h3t.1.2
  have h64 : s.size ≤ 64 := hH26.out.scn.2.2
  have u1 : IntKind.i64.wrap (((r11 s).1.1 : Int) + 1) = ((r11 s).1.1 : Int) + 1 := IntWalk.i64_in _ (by omega)
  go_wp2_with fail
  clear c0 c1 c2 c3 c4 c5
  clear u1
  have hH27t : Rd wp X RB PB s ((r11 s).1.1 + 1, (r11 s).1.2) #[.bool false, .int .i64 ((r1 s).2 : Int), .int .i64 ((r7 s).2 : Int), .int .i64 (1 + ((r5 s).2 : Int)), .int .i64 ((r3 s).2 : Int), .int .i64 ((r9 s).2 : Int), .int .i64 ((r11 s).2 : Int), .int .i64 0, .int .i64 (((r1 s).1.1 : Nat) : Int), .int .i64 (((r6 s).1 : Nat) : Int), .int .i64 (((r8 s).1 : Nat) : Int), .int .i64 (((r10 s).1 : Nat) : Int), .int .i64 0, .int .i64 0] (W26.setCell ⟨X, 1, none⟩ (.int .i64 (((r11 s).1.1 : Int) + 1))) := (hH26.out.bump ((r11 s).1.1 + 1) (by omega))
  generalize (W26.setCell ⟨X, 1, none⟩ (.int .i64 (((r11 s).1.1 : Int) + 1))) = W27 at hH27t ⊢
  have hH27 : Hid (Rd wp X RB PB s ((r11 s).1.1 + 1, (r11 s).1.2) #[.bool false, .int .i64 ((r1 s).2 : Int), .int .i64 ((r7 s).2 : Int), .int .i64 (1 + ((r5 s).2 : Int)), .int .i64 ((r3 s).2 : Int), .int .i64 ((r9 s).2 : Int), .int .i64 ((r11 s).2 : Int), .int .i64 0, .int .i64 (((r1 s).1.1 : Nat) : Int), .int .i64 (((r6 s).1 : Nat) : Int), .int .i64 (((r8 s).1 : Nat) : Int), .int .i64 (((r10 s).1 : Nat) : Int), .int .i64 0, .int .i64 0] W27) := Lib.hid hH27t
  clear hH27t hH26
  have hc := Tryd.dNumber X s ((r11 s).1.1 + 1, (r11 s).1.2) 2 (by omega) W27 hH27.out.scn
  rw [show snum s 2 (((r11 s).1.1 + 1, (r11 s).1.2), 0) = r11b s from rfl] at hc
  refine hc.mono ?_
  rintro e W28 ⟨rfl, hg, hs⟩
  have hH28t := hH27.out.call hg hs
  clear hc hg hs
  have hH28 : Hid (Rd wp X RB PB s (r11b s).1 #[.bool false, .int .i64 ((r1 s).2 : Int), .int .i64 ((r7 s).2 : Int), .int .i64 (1 + ((r5 s).2 : Int)), .int .i64 ((r3 s).2 : Int), .int .i64 ((r9 s).2 : Int), .int .i64 ((r11 s).2 : Int), .int .i64 0, .int .i64 (((r1 s).1.1 : Nat) : Int), .int .i64 (((r6 s).1 : Nat) : Int), .int .i64 (((r8 s).1 : Nat) : Int), .int .i64 (((r10 s).1 : Nat) : Int), .int .i64 0, .int .i64 0] W28) := Lib.hid hH28t
  clear hH28t hH27
  obtain ⟨p7, f7⟩ := hH28.out.cell 7 _ rfl
  obtain ⟨p12, f12⟩ := hH28.out.cell 12 _ rfl
  obtain ⟨c0, c1, c2, c3, c4, c5⟩ := hH28.out.scn.c
  go_wp2_with fail
  clear c0 c1 c2 c3 c4 c5 p7 f7 p12 f12
  have hH29t : Rd wp X RB PB s (r11b s).1 #[.bool false, .int .i64 ((r1 s).2 : Int), .int .i64 ((r7 s).2 : Int), .int .i64 (1 + ((r5 s).2 : Int)), .int .i64 ((r3 s).2 : Int), .int .i64 ((r9 s).2 : Int), .int .i64 ((r11 s).2 : Int), .int .i64 ((r11b s).2 : Int), .int .i64 (((r1 s).1.1 : Nat) : Int), .int .i64 (((r6 s).1 : Nat) : Int), .int .i64 (((r8 s).1 : Nat) : Int), .int .i64 (((r10 s).1 : Nat) : Int), .int .i64 (((r11 s).1.1 : Int) + 1), .int .i64 0] ((W28.setCell ⟨PB, 7, none⟩ (.int .i64 ((r11b s).2 : Int))).setCell ⟨PB, 12, none⟩ (.int .i64 (((r11 s).1.1 : Int) + 1))) := ((hH28.out.store 7 (.int .i64 ((r11b s).2 : Int))).store 12 (.int .i64 (((r11 s).1.1 : Int) + 1)))
  generalize ((W28.setCell ⟨PB, 7, none⟩ (.int .i64 ((r11b s).2 : Int))).setCell ⟨PB, 12, none⟩ (.int .i64 (((r11 s).1.1 : Int) + 1))) = W29 at hH29t ⊢
  have hH29 : Hid (Rd wp X RB PB s (r11b s).1 #[.bool false, .int .i64 ((r1 s).2 : Int), .int .i64 ((r7 s).2 : Int), .int .i64 (1 + ((r5 s).2 : Int)), .int .i64 ((r3 s).2 : Int), .int .i64 ((r9 s).2 : Int), .int .i64 ((r11 s).2 : Int), .int .i64 ((r11b s).2 : Int), .int .i64 (((r1 s).1.1 : Nat) : Int), .int .i64 (((r6 s).1 : Nat) : Int), .int .i64 (((r8 s).1 : Nat) : Int), .int .i64 (((r10 s).1 : Nat) : Int), .int .i64 (((r11 s).1.1 : Int) + 1), .int .i64 0] W29) := Lib.hid hH29t
  clear hH29t hH28
  have hH30t : Rd wp X RB PB s (r12 s).1 #[.bool false, .int .i64 ((r1 s).2 : Int), .int .i64 ((r7 s).2 : Int), .int .i64 (1 + ((r5 s).2 : Int)), .int .i64 ((r3 s).2 : Int), .int .i64 ((r9 s).2 : Int), .int .i64 ((r11 s).2 : Int), .int .i64 ((r12 s).2.1 : Int), .int .i64 (((r1 s).1.1 : Nat) : Int), .int .i64 (((r6 s).1 : Nat) : Int), .int .i64 (((r8 s).1 : Nat) : Int), .int .i64 (((r10 s).1 : Nat) : Int), .int .i64 ((r12 s).2.2 : Int), .int .i64 0] W29 := by
    rw [e12 ()]
    try dsimp only
    rw [Int.natCast_add]
    exact hH29.out
  have hH30 : Hid (Rd wp X RB PB s (r12 s).1 #[.bool false, .int .i64 ((r1 s).2 : Int), .int .i64 ((r7 s).2 : Int), .int .i64 (1 + ((r5 s).2 : Int)), .int .i64 ((r3 s).2 : Int), .int .i64 ((r9 s).2 : Int), .int .i64 ((r11 s).2 : Int), .int .i64 ((r12 s).2.1 : Int), .int .i64 (((r1 s).1.1 : Nat) : Int), .int .i64 (((r6 s).1 : Nat) : Int), .int .i64 (((r8 s).1 : Nat) : Int), .int .i64 (((r10 s).1 : Nat) : Int), .int .i64 ((r12 s).2.2 : Int), .int .i64 0] W29) := Lib.hid hH30t
  clear hH30t hH29
  have hc := Tryd.dBlanks X s (r12 s).1 false W29 hH30.out.scn
  rw [show sbl false s (r12 s).1 = r13 s from rfl] at hc
  refine hc.mono ?_
  rintro e W31 ⟨rfl, hg, hs⟩
  have hH31t := hH30.out.call hg hs
  clear hc hg hs
  have hH31 : Hid (Rd wp X RB PB s (r13 s) #[.bool false, .int .i64 ((r1 s).2 : Int), .int .i64 ((r7 s).2 : Int), .int .i64 (1 + ((r5 s).2 : Int)), .int .i64 ((r3 s).2 : Int), .int .i64 ((r9 s).2 : Int), .int .i64 ((r11 s).2 : Int), .int .i64 ((r12 s).2.1 : Int), .int .i64 (((r1 s).1.1 : Nat) : Int), .int .i64 (((r6 s).1 : Nat) : Int), .int .i64 (((r8 s).1 : Nat) : Int), .int .i64 (((r10 s).1 : Nat) : Int), .int .i64 ((r12 s).2.2 : Int), .int .i64 0] W31) := Lib.hid hH31t
  clear hH31t hH30
  obtain ⟨c0, c1, c2, c3, c4, c5⟩ := hH31.out.scn.c
  go_wp2_with fail
  clear c0 c1 c2 c3 c4 c5
  obtain ⟨n, e, hne⟩ : ∃ n e, r13 s = (n, e) := ⟨(r13 s).1, (r13 s).2, (Prod.eta _).symm⟩
  have hS : Rd wp X RB PB s (n, e) #[.bool false, .int .i64 ((r1 s).2 : Int), .int .i64 ((r7 s).2 : Int), .int .i64 (1 + ((r5 s).2 : Int)), .int .i64 ((r3 s).2 : Int), .int .i64 ((r9 s).2 : Int), .int .i64 ((r11 s).2 : Int), .int .i64 ((r12 s).2.1 : Int), .int .i64 (((r1 s).1.1 : Nat) : Int), .int .i64 (((r6 s).1 : Nat) : Int), .int .i64 (((r8 s).1 : Nat) : Int), .int .i64 (((r10 s).1 : Nat) : Int), .int .i64 ((r12 s).2.2 : Int), .int .i64 0] W31 := by rw [← hne]; exact hH31.out
  have hne' := fun (_ : Unit) => hne
  have hnz : n ≤ s.size := hS.scn.2.1
  have hz64 : s.size ≤ 64 := hS.scn.2.2
  have hHS := Lib.hid hS
  clear hne hS hH31
  by_cases he : e = 0
  · subst he
    by_cases hn : n = s.size
    · subst hn
      have hA0 : Hid (Rd wp X RB PB s (s.size, 0) #[.bool false, .int .i64 ((r1 s).2 : Int), .int .i64 ((r7 s).2 : Int), .int .i64 (1 + ((r5 s).2 : Int)), .int .i64 ((r3 s).2 : Int), .int .i64 ((r9 s).2 : Int), .int .i64 ((r11 s).2 : Int), .int .i64 ((r12 s).2.1 : Int), .int .i64 (((r1 s).1.1 : Nat) : Int), .int .i64 (((r6 s).1 : Nat) : Int), .int .i64 (((r8 s).1 : Nat) : Int), .int .i64 (((r10 s).1 : Nat) : Int), .int .i64 ((r12 s).2.2 : Int), .int .i64 0] W31) := hHS
      clear hHS
      obtain ⟨C, q1, q2, q4⟩ : ∃ C : World → Prop, C W31 ∧ (∀ V, C V → Below W31.heap.size W31 V) ∧ (∀ V, C V → C { V with drawn := V.drawn + 1 }) := ⟨fun V => Below W31.heap.size W31 V, Below.refl _ _, fun V h => h, fun V h => h.drew⟩
      have k0 : Hid (∀ V, C V → V.cell? ⟨X, 0, none⟩ = some (.string s)) := Lib.hid (fun V hV => (hA0.out.scn.below (q2 V hV)).c.1)
      have k1 : Hid (∀ V, C V → V.cell? ⟨X, 1, none⟩ = some (.int .i64 (s.size : Int))) := Lib.hid (fun V hV => (hA0.out.scn.below (q2 V hV)).c.2.1)
      have k2 : Hid (∀ V, C V → V.cell? ⟨X, 2, none⟩ = some (.int .i64 ((0 : Nat) : Int))) := Lib.hid (fun V hV => (hA0.out.scn.below (q2 V hV)).c.2.2.1)
      have hC1 := Lib.hid q1
      have hCV := Lib.hid q2
      have hCd := Lib.hid q4
      clear q1 q2 q4
      have g1 : ((s.size : Int) == (s.size : Int)) = true := beq_self_eq_true _
      refine q_region C (by kernel_rfl) (by kernel_rfl) (hCd.out _ hC1.out) ?_
      repeat (first
        | (with_reducible refine q_off ?_ ?_
           · rfl
           try simp only [Act.put, List.getElem_toArray, List.getElem_cons_zero, List.getElem_cons_succ, List.setIfInBounds_toArray, List.set_cons_zero, List.set_cons_succ])
        | (with_reducible refine q_lds2 Tryd.isAgg9 ?_ ?_ ⟨X, 0, none⟩ ?_ (.string s) k0.out ?_
           · rfl
           · rfl
           · rfl
           try simp only [Act.put, List.getElem_toArray, List.getElem_cons_zero, List.getElem_cons_succ, List.setIfInBounds_toArray, List.set_cons_zero, List.set_cons_succ])
        | (with_reducible refine q_lds2 Tryd.isAgg3 ?_ ?_ ⟨X, 1, none⟩ ?_ (.int .i64 (s.size : Int)) k1.out ?_
           · rfl
           · rfl
           · rfl
           try simp only [Act.put, List.getElem_toArray, List.getElem_cons_zero, List.getElem_cons_succ, List.setIfInBounds_toArray, List.set_cons_zero, List.set_cons_succ])
        | (with_reducible refine q_lds2 Tryd.isAgg25 ?_ ?_ ⟨X, 2, none⟩ ?_ (.int .i64 ((0 : Nat) : Int)) k2.out ?_
           · rfl
           · rfl
           · rfl
           try simp only [Act.put, List.getElem_toArray, List.getElem_cons_zero, List.getElem_cons_succ, List.setIfInBounds_toArray, List.set_cons_zero, List.set_cons_succ])
        | (with_reducible refine wpQuiet_step ?_
           intro K hK
           go_simp
           first
           | (refine hK _ ?_; clear hK K)
           | (apply Exists.intro
              refine ⟨fun W hW => ?_, hK _ ?_⟩
              first
              | exact rfl
              | exact ⟨rfl, rfl⟩
              clear hK K)))
      refine wpQuiet_nil ?_
      intro V1 h1V1

      have hR1t := hA0.out.below (hCV.out V1 h1V1)
      have hR1u := Lib.hid hR1t
      clear hR1t h1V1 hC1 k0 k1 k2 hCV hCd hA0
      have hA1 : Hid (Rd wp X RB PB s (s.size, 0) #[.bool false, .int .i64 ((r1 s).2 : Int), .int .i64 ((r7 s).2 : Int), .int .i64 (1 + ((r5 s).2 : Int)), .int .i64 ((r3 s).2 : Int), .int .i64 ((r9 s).2 : Int), .int .i64 ((r11 s).2 : Int), .int .i64 ((r12 s).2.1 : Int), .int .i64 (((r1 s).1.1 : Nat) : Int), .int .i64 (((r6 s).1 : Nat) : Int), .int .i64 (((r8 s).1 : Nat) : Int), .int .i64 (((r10 s).1 : Nat) : Int), .int .i64 ((r12 s).2.2 : Int), .int .i64 0] V1) := hR1u
      clear hR1u
      obtain ⟨c0, c1, c2, c3, c4, c5⟩ := hA1.out.scn.c
      try dsimp only at c1 c2
      go_wp2_with fail
      clear c0 c1 c2 c3 c4 c5 g1
      have hc := Tryd.dFail X s (s.size, 0) s.size 4 V1 hA1.out.scn hnz
      rw [show sf (s.size, 0) s.size 4 = (s.size, 4) from rfl] at hc
      refine hc.mono ?_
      rintro e V2 ⟨rfl, hg, hs⟩
      have hR1t := hA1.out.call hg hs
      have hR1u := Lib.hid hR1t
      clear hR1t hc hg hs hA1
      have e15 : Unit → r15 s = ((s.size, 4), 0) := fun _ => by
        have h14 : r14 s = (s.size, 4) := by unfold r14; rw [hne' (), if_pos ⟨rfl, rfl⟩]
        unfold r15
        rw [h14, if_neg (show ¬ (4 : Nat) = 0 by decide)]
      have hR1 : Hid (Rd wp X RB PB s (s.size, 4) #[.bool false, .int .i64 ((r1 s).2 : Int), .int .i64 ((r7 s).2 : Int), .int .i64 (1 + ((r5 s).2 : Int)), .int .i64 ((r3 s).2 : Int), .int .i64 ((r9 s).2 : Int), .int .i64 ((r11 s).2 : Int), .int .i64 ((r12 s).2.1 : Int), .int .i64 (((r1 s).1.1 : Nat) : Int), .int .i64 (((r6 s).1 : Nat) : Int), .int .i64 (((r8 s).1 : Nat) : Int), .int .i64 (((r10 s).1 : Nat) : Int), .int .i64 ((r12 s).2.2 : Int), .int .i64 0] V2) := hR1u
      obtain ⟨c0, c1, c2, c3, c4, c5⟩ := hR1.out.scn.c
      try dsimp only at c1 c2
      obtain ⟨p0, f0⟩ := hR1.out.cell 0 _ rfl
      obtain ⟨p1, f1⟩ := hR1.out.cell 1 _ rfl
      obtain ⟨p2, f2⟩ := hR1.out.cell 2 _ rfl
      obtain ⟨p3, f3⟩ := hR1.out.cell 3 _ rfl
      obtain ⟨p4, f4⟩ := hR1.out.cell 4 _ rfl
      obtain ⟨p5, f5⟩ := hR1.out.cell 5 _ rfl
      obtain ⟨p6, f6⟩ := hR1.out.cell 6 _ rfl
      obtain ⟨p7, f7⟩ := hR1.out.cell 7 _ rfl
      obtain ⟨p8, f8⟩ := hR1.out.cell 8 _ rfl
      obtain ⟨p9, f9⟩ := hR1.out.cell 9 _ rfl
      obtain ⟨p10, f10⟩ := hR1.out.cell 10 _ rfl
      obtain ⟨p11, f11⟩ := hR1.out.cell 11 _ rfl
      obtain ⟨p12, f12⟩ := hR1.out.cell 12 _ rfl
      obtain ⟨p13, f13⟩ := hR1.out.cell 13 _ rfl
      obtain ⟨q0, g0⟩ := hR1.out.rcell 0 _ rfl
      obtain ⟨q1, g1⟩ := hR1.out.rcell 1 _ rfl
      obtain ⟨q2, g2⟩ := hR1.out.rcell 2 _ rfl
      obtain ⟨q3, g3⟩ := hR1.out.rcell 3 _ rfl
      obtain ⟨q4, g4⟩ := hR1.out.rcell 4 _ rfl
      obtain ⟨q5, g5⟩ := hR1.out.rcell 5 _ rfl
      obtain ⟨q6, g6⟩ := hR1.out.rcell 6 _ rfl
      obtain ⟨q7, g7⟩ := hR1.out.rcell 7 _ rfl
      obtain ⟨q8, g8⟩ := hR1.out.rcell 8 _ rfl
      obtain ⟨q9, g9⟩ := hR1.out.rcell 9 _ rfl
      obtain ⟨q10, g10⟩ := hR1.out.rcell 10 _ rfl
      obtain ⟨q11, g11⟩ := hR1.out.rcell 11 _ rfl
      obtain ⟨q12, g12⟩ := hR1.out.rcell 12 _ rfl
      obtain ⟨q13, g13⟩ := hR1.out.rcell 13 _ rfl
      go_wp2_with fail
      clear c0 c1 c2 c3 c4 c5 p0 f0 q0 g0 p1 f1 q1 g1 p2 f2 q2 g2 p3 f3 q3 g3 p4 f4 q4 g4 p5 f5 q5 g5 p6 f6 q6 g6 p7 f7 q7 g7 p8 f8 q8 g8 p9 f9 q9 g9 p10 f10 q10 g10 p11 f11 q11 g11 p12 f12 q12 g12 p13 f13 q13 g13
      obtain ⟨hF, hG, hB⟩ := hR1.out.fin (.bool false) (.int .i64 ((r1 s).2 : Int)) (.int .i64 ((r7 s).2 : Int)) (.int .i64 (1 + ((r5 s).2 : Int))) (.int .i64 ((r3 s).2 : Int)) (.int .i64 ((r9 s).2 : Int)) (.int .i64 ((r11 s).2 : Int)) (.int .i64 ((r12 s).2.1 : Int)) (.int .i64 (((r1 s).1.1 : Nat) : Int)) (.int .i64 (((r6 s).1 : Nat) : Int)) (.int .i64 (((r8 s).1 : Nat) : Int)) (.int .i64 (((r10 s).1 : Nat) : Int)) (.int .i64 ((r12 s).2.2 : Int)) (.int .i64 0) rfl
      generalize ((((((((((((((V2.setCell ⟨RB, 0, none⟩ (.bool false)).setCell ⟨RB, 1, none⟩ (.int .i64 ((r1 s).2 : Int))).setCell ⟨RB, 2, none⟩ (.int .i64 ((r7 s).2 : Int))).setCell ⟨RB, 3, none⟩ (.int .i64 (1 + ((r5 s).2 : Int)))).setCell ⟨RB, 4, none⟩ (.int .i64 ((r3 s).2 : Int))).setCell ⟨RB, 5, none⟩ (.int .i64 ((r9 s).2 : Int))).setCell ⟨RB, 6, none⟩ (.int .i64 ((r11 s).2 : Int))).setCell ⟨RB, 7, none⟩ (.int .i64 ((r12 s).2.1 : Int))).setCell ⟨RB, 8, none⟩ (.int .i64 (((r1 s).1.1 : Nat) : Int))).setCell ⟨RB, 9, none⟩ (.int .i64 (((r6 s).1 : Nat) : Int))).setCell ⟨RB, 10, none⟩ (.int .i64 (((r8 s).1 : Nat) : Int))).setCell ⟨RB, 11, none⟩ (.int .i64 (((r10 s).1 : Nat) : Int))).setCell ⟨RB, 12, none⟩ (.int .i64 ((r12 s).2.2 : Int))).setCell ⟨RB, 13, none⟩ (.int .i64 0)) = WF at hF hG hB ⊢
      obtain ⟨z0, z1, z2, z3, z4, z5, z6, z7, z8, z9, z10, z11, z12, z13⟩ := cells14 hF
      clear hF
      refine bodyPost_ret (v := rv s) ?_ rfl ⟨rfl, hB, ?_⟩
      · simp [results, Tryd.results38, go_sem, z0, z1, z2, z3, z4, z5, z6, z7, z8, z9, z10, z11, z12, z13]
        unfold rv
        simp only [hn' (), e15 ()]
      · rw [e15 ()]
        exact hG
    · have hB0 : Hid (Rd wp X RB PB s (n, 0) #[.bool false, .int .i64 ((r1 s).2 : Int), .int .i64 ((r7 s).2 : Int), .int .i64 (1 + ((r5 s).2 : Int)), .int .i64 ((r3 s).2 : Int), .int .i64 ((r9 s).2 : Int), .int .i64 ((r11 s).2 : Int), .int .i64 ((r12 s).2.1 : Int), .int .i64 (((r1 s).1.1 : Nat) : Int), .int .i64 (((r6 s).1 : Nat) : Int), .int .i64 (((r8 s).1 : Nat) : Int), .int .i64 (((r10 s).1 : Nat) : Int), .int .i64 ((r12 s).2.2 : Int), .int .i64 0] W31) := hHS
      clear hHS
      obtain ⟨C, q1, q2, q4⟩ : ∃ C : World → Prop, C W31 ∧ (∀ V, C V → Below W31.heap.size W31 V) ∧ (∀ V, C V → C { V with drawn := V.drawn + 1 }) := ⟨fun V => Below W31.heap.size W31 V, Below.refl _ _, fun V h => h, fun V h => h.drew⟩
      have k0 : Hid (∀ V, C V → V.cell? ⟨X, 0, none⟩ = some (.string s)) := Lib.hid (fun V hV => (hB0.out.scn.below (q2 V hV)).c.1)
      have k1 : Hid (∀ V, C V → V.cell? ⟨X, 1, none⟩ = some (.int .i64 (n : Int))) := Lib.hid (fun V hV => (hB0.out.scn.below (q2 V hV)).c.2.1)
      have k2 : Hid (∀ V, C V → V.cell? ⟨X, 2, none⟩ = some (.int .i64 ((0 : Nat) : Int))) := Lib.hid (fun V hV => (hB0.out.scn.below (q2 V hV)).c.2.2.1)
      have hC1 := Lib.hid q1
      have hCV := Lib.hid q2
      have hCd := Lib.hid q4
      clear q1 q2 q4
      have g1 : ((n : Int) == (s.size : Int)) = false := beq_false_of_ne (by omega)
      refine q_region C (by kernel_rfl) (by kernel_rfl) (hCd.out _ hC1.out) ?_
      repeat (first
        | (with_reducible refine q_off ?_ ?_
           · rfl
           try simp only [Act.put, List.getElem_toArray, List.getElem_cons_zero, List.getElem_cons_succ, List.setIfInBounds_toArray, List.set_cons_zero, List.set_cons_succ])
        | (with_reducible refine q_lds2 Tryd.isAgg9 ?_ ?_ ⟨X, 0, none⟩ ?_ (.string s) k0.out ?_
           · rfl
           · rfl
           · rfl
           try simp only [Act.put, List.getElem_toArray, List.getElem_cons_zero, List.getElem_cons_succ, List.setIfInBounds_toArray, List.set_cons_zero, List.set_cons_succ])
        | (with_reducible refine q_lds2 Tryd.isAgg3 ?_ ?_ ⟨X, 1, none⟩ ?_ (.int .i64 (n : Int)) k1.out ?_
           · rfl
           · rfl
           · rfl
           try simp only [Act.put, List.getElem_toArray, List.getElem_cons_zero, List.getElem_cons_succ, List.setIfInBounds_toArray, List.set_cons_zero, List.set_cons_succ])
        | (with_reducible refine q_lds2 Tryd.isAgg25 ?_ ?_ ⟨X, 2, none⟩ ?_ (.int .i64 ((0 : Nat) : Int)) k2.out ?_
           · rfl
           · rfl
           · rfl
           try simp only [Act.put, List.getElem_toArray, List.getElem_cons_zero, List.getElem_cons_succ, List.setIfInBounds_toArray, List.set_cons_zero, List.set_cons_succ])
        | (with_reducible refine wpQuiet_step ?_
           intro K hK
           go_simp
           first
           | (refine hK _ ?_; clear hK K)
           | (apply Exists.intro
              refine ⟨fun W hW => ?_, hK _ ?_⟩
              first
              | exact rfl
              | exact ⟨rfl, rfl⟩
              clear hK K)))
      refine wpQuiet_nil ?_
      intro V1 h1V1

      have hR1t := hB0.out.below (hCV.out V1 h1V1)
      have hR1u := Lib.hid hR1t
      clear hR1t h1V1 hC1 k0 k1 k2 hCV hCd hB0
      have hB1 : Hid (Rd wp X RB PB s (n, 0) #[.bool false, .int .i64 ((r1 s).2 : Int), .int .i64 ((r7 s).2 : Int), .int .i64 (1 + ((r5 s).2 : Int)), .int .i64 ((r3 s).2 : Int), .int .i64 ((r9 s).2 : Int), .int .i64 ((r11 s).2 : Int), .int .i64 ((r12 s).2.1 : Int), .int .i64 (((r1 s).1.1 : Nat) : Int), .int .i64 (((r6 s).1 : Nat) : Int), .int .i64 (((r8 s).1 : Nat) : Int), .int .i64 (((r10 s).1 : Nat) : Int), .int .i64 ((r12 s).2.2 : Int), .int .i64 0] V1) := hR1u
      clear hR1u
      obtain ⟨c0, c1, c2, c3, c4, c5⟩ := hB1.out.scn.c
      try dsimp only at c1 c2
      go_wp2_with fail
      clear c0 c1 c2 c3 c4 c5 g1
      have hzs : (s.extract n s.size).size ≤ 64 := by simp [ByteArray.size_extract]; omega
      obtain ⟨za, zb, hz⟩ : ∃ za zb, zone (s.extract n s.size) = (za, zb) := ⟨(zone (s.extract n s.size)).1, (zone (s.extract n s.size)).2, (Prod.eta _).symm⟩
      obtain ⟨C, q1, q2, q3, q4⟩ : ∃ C : World → Prop, C V1 ∧ (∀ V, C V → Below V1.heap.size V1 V) ∧ (∀ W W', C W → Below W.heap.size W W' → C W') ∧ (∀ V, C V → C { V with drawn := V.drawn + 1 }) := ⟨fun V => Below V1.heap.size V1 V, Below.refl _ _, fun V h => h, fun W W' h hb => h.trans (hb.mono h.size), fun V h => h.drew⟩
      have k0 : Hid (∀ V, C V → V.cell? ⟨X, 0, none⟩ = some (.string s)) := Lib.hid (fun V hV => (hB1.out.scn.below (q2 V hV)).c.1)
      have k1 : Hid (∀ V, C V → V.cell? ⟨X, 1, none⟩ = some (.int .i64 (n : Int))) := Lib.hid (fun V hV => (hB1.out.scn.below (q2 V hV)).c.2.1)
      have k2 : Hid (∀ V, C V → V.cell? ⟨X, 2, none⟩ = some (.int .i64 ((0 : Nat) : Int))) := Lib.hid (fun V hV => (hB1.out.scn.below (q2 V hV)).c.2.2.1)
      have h1 : Hid (∀ W, C W → Calls Tryd.prog 55 #[.string (s.extract n s.size)] W fun e w' => e = .returned (.tuple #[.int .i64 za, .int .i64 (zb : Int)]) ∧ C w') := Lib.hid fun W hW => by
        have h := Tryd.dZone (s.extract n s.size) hzs W (hB1.out.T.below (q2 W hW))
        rw [hz] at h
        exact h.mono fun e w' h => ⟨h.1, q3 _ _ hW h.2⟩
      have hz' := fun (_ : Unit) => hz
      have hC1 := Lib.hid q1
      have hCV := Lib.hid q2
      have hCd := Lib.hid q4
      clear q1 q2 q3 q4 hz hzs
      generalize hex : s.extract n s.size = zs at h1 hz'
      have hex' := fun (_ : Unit) => hex
      refine q_region C (by kernel_rfl) (by kernel_rfl) (hCd.out _ hC1.out) ?_
      repeat (first
        | (with_reducible refine q_off ?_ ?_
           · rfl
           try simp only [Act.put, List.getElem_toArray, List.getElem_cons_zero, List.getElem_cons_succ, List.setIfInBounds_toArray, List.set_cons_zero, List.set_cons_succ])
        | (with_reducible refine q_lds2 Tryd.isAgg9 ?_ ?_ ⟨X, 0, none⟩ ?_ (.string s) k0.out ?_
           · rfl
           · rfl
           · rfl
           try simp only [Act.put, List.getElem_toArray, List.getElem_cons_zero, List.getElem_cons_succ, List.setIfInBounds_toArray, List.set_cons_zero, List.set_cons_succ])
        | (with_reducible refine q_lds2 Tryd.isAgg3 ?_ ?_ ⟨X, 1, none⟩ ?_ (.int .i64 (n : Int)) k1.out ?_
           · rfl
           · rfl
           · rfl
           try simp only [Act.put, List.getElem_toArray, List.getElem_cons_zero, List.getElem_cons_succ, List.setIfInBounds_toArray, List.set_cons_zero, List.set_cons_succ])
        | (with_reducible refine q_lds2 Tryd.isAgg25 ?_ ?_ ⟨X, 2, none⟩ ?_ (.int .i64 ((0 : Nat) : Int)) k2.out ?_
           · rfl
           · rfl
           · rfl
           try simp only [Act.put, List.getElem_toArray, List.getElem_cons_zero, List.getElem_cons_succ, List.setIfInBounds_toArray, List.set_cons_zero, List.set_cons_succ])
        | (with_reducible refine wpQuiet_step ?_
           intro K hK
           go_simp
           first
           | (refine hK _ ?_; clear hK K)
           | (apply Exists.intro
              refine ⟨fun W hW => ?_, hK _ ?_⟩
              first
              | exact rfl
              | exact ⟨rfl, rfl⟩
              | (with_reducible exact h1.out W hW)
              clear hK K)))
      refine wpQuiet_nil ?_
      intro V2 h1V2
      obtain ⟨bz, gz, gz'⟩ : ∃ bz, ((zb : Int) == 0) = bz ∧ (Unit → decide (zb = 0) = bz) := ⟨decide (zb = 0), by rw [Bool.eq_iff_iff]; simp, fun _ => rfl⟩
      have hR1t := hB1.out.below (hCV.out V2 h1V2)
      clear h1V2 hC1 k0 k1 k2 hCV hCd h1 hex
      have hB2 : Hid (Rd wp X RB PB s (n, 0) #[.bool false, .int .i64 ((r1 s).2 : Int), .int .i64 ((r7 s).2 : Int), .int .i64 (1 + ((r5 s).2 : Int)), .int .i64 ((r3 s).2 : Int), .int .i64 ((r9 s).2 : Int), .int .i64 ((r11 s).2 : Int), .int .i64 ((r12 s).2.1 : Int), .int .i64 (((r1 s).1.1 : Nat) : Int), .int .i64 (((r6 s).1 : Nat) : Int), .int .i64 (((r8 s).1 : Nat) : Int), .int .i64 (((r10 s).1 : Nat) : Int), .int .i64 ((r12 s).2.2 : Int), .int .i64 0] V2) := Lib.hid hR1t
      clear hR1t hB1
      obtain ⟨c0, c1, c2, c3, c4, c5⟩ := hB2.out.scn.c
      try dsimp only at c1 c2
      obtain ⟨p13, f13⟩ := hB2.out.cell 13 _ rfl
      go_wp2_with fail
      clear c0 c1 c2 c3 c4 c5 p13 f13 gz
      have hH201t : Rd wp X RB PB s (n, 0) #[.bool false, .int .i64 ((r1 s).2 : Int), .int .i64 ((r7 s).2 : Int), .int .i64 (1 + ((r5 s).2 : Int)), .int .i64 ((r3 s).2 : Int), .int .i64 ((r9 s).2 : Int), .int .i64 ((r11 s).2 : Int), .int .i64 ((r12 s).2.1 : Int), .int .i64 (((r1 s).1.1 : Nat) : Int), .int .i64 (((r6 s).1 : Nat) : Int), .int .i64 (((r8 s).1 : Nat) : Int), .int .i64 (((r10 s).1 : Nat) : Int), .int .i64 ((r12 s).2.2 : Int), .int .i64 za] (V2.setCell ⟨PB, 13, none⟩ (.int .i64 za)) := (hB2.out.store 13 (.int .i64 za))
      generalize (V2.setCell ⟨PB, 13, none⟩ (.int .i64 za)) = W201 at hH201t ⊢
      have hH201 : Hid (Rd wp X RB PB s (n, 0) #[.bool false, .int .i64 ((r1 s).2 : Int), .int .i64 ((r7 s).2 : Int), .int .i64 (1 + ((r5 s).2 : Int)), .int .i64 ((r3 s).2 : Int), .int .i64 ((r9 s).2 : Int), .int .i64 ((r11 s).2 : Int), .int .i64 ((r12 s).2.1 : Int), .int .i64 (((r1 s).1.1 : Nat) : Int), .int .i64 (((r6 s).1 : Nat) : Int), .int .i64 (((r8 s).1 : Nat) : Int), .int .i64 (((r10 s).1 : Nat) : Int), .int .i64 ((r12 s).2.2 : Int), .int .i64 za] W201) := Lib.hid hH201t
      clear hH201t hB2
      have hc := Tryd.dCheck X s (n, 0) bz n zb W201 hH201.out.scn hnz
      refine hc.mono ?_
      rintro e V3 ⟨rfl, hg, hs⟩
      have hR1t := hH201.out.call hg hs
      have hR1u := Lib.hid hR1t
      clear hR1t hc hg hs hH201
      have e15 : Unit → r15 s = (sck (n, 0) bz n zb, za) := fun _ => by
        have h14 : r14 s = (n, 0) := by unfold r14; rw [hne' (), if_neg (fun h => hn h.2)]
        unfold r15
        rw [h14, if_pos rfl]
        show (sck (n, 0) (decide ((zone (s.extract n s.size)).2 = 0)) n (zone (s.extract n s.size)).2, (zone (s.extract n s.size)).1) = _
        rw [hex' (), hz' ()]
        show (sck (n, 0) (decide (zb = 0)) n zb, za) = _
        rw [gz' ()]
      have hR1 : Hid (Rd wp X RB PB s (sck (n, 0) bz n zb) #[.bool false, .int .i64 ((r1 s).2 : Int), .int .i64 ((r7 s).2 : Int), .int .i64 (1 + ((r5 s).2 : Int)), .int .i64 ((r3 s).2 : Int), .int .i64 ((r9 s).2 : Int), .int .i64 ((r11 s).2 : Int), .int .i64 ((r12 s).2.1 : Int), .int .i64 (((r1 s).1.1 : Nat) : Int), .int .i64 (((r6 s).1 : Nat) : Int), .int .i64 (((r8 s).1 : Nat) : Int), .int .i64 (((r10 s).1 : Nat) : Int), .int .i64 ((r12 s).2.2 : Int), .int .i64 za] V3) := hR1u
      obtain ⟨c0, c1, c2, c3, c4, c5⟩ := hR1.out.scn.c
      try dsimp only at c1 c2
      obtain ⟨p0, f0⟩ := hR1.out.cell 0 _ rfl
      obtain ⟨p1, f1⟩ := hR1.out.cell 1 _ rfl
      obtain ⟨p2, f2⟩ := hR1.out.cell 2 _ rfl
      obtain ⟨p3, f3⟩ := hR1.out.cell 3 _ rfl
      obtain ⟨p4, f4⟩ := hR1.out.cell 4 _ rfl
      obtain ⟨p5, f5⟩ := hR1.out.cell 5 _ rfl
      obtain ⟨p6, f6⟩ := hR1.out.cell 6 _ rfl
      obtain ⟨p7, f7⟩ := hR1.out.cell 7 _ rfl
      obtain ⟨p8, f8⟩ := hR1.out.cell 8 _ rfl
      obtain ⟨p9, f9⟩ := hR1.out.cell 9 _ rfl
      obtain ⟨p10, f10⟩ := hR1.out.cell 10 _ rfl
      obtain ⟨p11, f11⟩ := hR1.out.cell 11 _ rfl
      obtain ⟨p12, f12⟩ := hR1.out.cell 12 _ rfl
      obtain ⟨p13, f13⟩ := hR1.out.cell 13 _ rfl
      obtain ⟨q0, g0⟩ := hR1.out.rcell 0 _ rfl
      obtain ⟨q1, g1⟩ := hR1.out.rcell 1 _ rfl
      obtain ⟨q2, g2⟩ := hR1.out.rcell 2 _ rfl
      obtain ⟨q3, g3⟩ := hR1.out.rcell 3 _ rfl
      obtain ⟨q4, g4⟩ := hR1.out.rcell 4 _ rfl
      obtain ⟨q5, g5⟩ := hR1.out.rcell 5 _ rfl
      obtain ⟨q6, g6⟩ := hR1.out.rcell 6 _ rfl
      obtain ⟨q7, g7⟩ := hR1.out.rcell 7 _ rfl
      obtain ⟨q8, g8⟩ := hR1.out.rcell 8 _ rfl
      obtain ⟨q9, g9⟩ := hR1.out.rcell 9 _ rfl
      obtain ⟨q10, g10⟩ := hR1.out.rcell 10 _ rfl
      obtain ⟨q11, g11⟩ := hR1.out.rcell 11 _ rfl
      obtain ⟨q12, g12⟩ := hR1.out.rcell 12 _ rfl
      obtain ⟨q13, g13⟩ := hR1.out.rcell 13 _ rfl
      go_wp2_with fail
      clear c0 c1 c2 c3 c4 c5 p0 f0 q0 g0 p1 f1 q1 g1 p2 f2 q2 g2 p3 f3 q3 g3 p4 f4 q4 g4 p5 f5 q5 g5 p6 f6 q6 g6 p7 f7 q7 g7 p8 f8 q8 g8 p9 f9 q9 g9 p10 f10 q10 g10 p11 f11 q11 g11 p12 f12 q12 g12 p13 f13 q13 g13
      obtain ⟨hF, hG, hB⟩ := hR1.out.fin (.bool false) (.int .i64 ((r1 s).2 : Int)) (.int .i64 ((r7 s).2 : Int)) (.int .i64 (1 + ((r5 s).2 : Int))) (.int .i64 ((r3 s).2 : Int)) (.int .i64 ((r9 s).2 : Int)) (.int .i64 ((r11 s).2 : Int)) (.int .i64 ((r12 s).2.1 : Int)) (.int .i64 (((r1 s).1.1 : Nat) : Int)) (.int .i64 (((r6 s).1 : Nat) : Int)) (.int .i64 (((r8 s).1 : Nat) : Int)) (.int .i64 (((r10 s).1 : Nat) : Int)) (.int .i64 ((r12 s).2.2 : Int)) (.int .i64 za) rfl
      generalize ((((((((((((((V3.setCell ⟨RB, 0, none⟩ (.bool false)).setCell ⟨RB, 1, none⟩ (.int .i64 ((r1 s).2 : Int))).setCell ⟨RB, 2, none⟩ (.int .i64 ((r7 s).2 : Int))).setCell ⟨RB, 3, none⟩ (.int .i64 (1 + ((r5 s).2 : Int)))).setCell ⟨RB, 4, none⟩ (.int .i64 ((r3 s).2 : Int))).setCell ⟨RB, 5, none⟩ (.int .i64 ((r9 s).2 : Int))).setCell ⟨RB, 6, none⟩ (.int .i64 ((r11 s).2 : Int))).setCell ⟨RB, 7, none⟩ (.int .i64 ((r12 s).2.1 : Int))).setCell ⟨RB, 8, none⟩ (.int .i64 (((r1 s).1.1 : Nat) : Int))).setCell ⟨RB, 9, none⟩ (.int .i64 (((r6 s).1 : Nat) : Int))).setCell ⟨RB, 10, none⟩ (.int .i64 (((r8 s).1 : Nat) : Int))).setCell ⟨RB, 11, none⟩ (.int .i64 (((r10 s).1 : Nat) : Int))).setCell ⟨RB, 12, none⟩ (.int .i64 ((r12 s).2.2 : Int))).setCell ⟨RB, 13, none⟩ (.int .i64 za)) = WF at hF hG hB ⊢
      obtain ⟨z0, z1, z2, z3, z4, z5, z6, z7, z8, z9, z10, z11, z12, z13⟩ := cells14 hF
      clear hF
      refine bodyPost_ret (v := rv s) ?_ rfl ⟨rfl, hB, ?_⟩
      · simp [results, Tryd.results38, go_sem, z0, z1, z2, z3, z4, z5, z6, z7, z8, z9, z10, z11, z12, z13]
        unfold rv
        simp only [hn' (), e15 ()]
      · rw [e15 ()]
        exact hG
  · obtain ⟨C, q1, q2, q4⟩ : ∃ C : World → Prop, C W31 ∧ (∀ V, C V → Below W31.heap.size W31 V) ∧ (∀ V, C V → C { V with drawn := V.drawn + 1 }) := ⟨fun V => Below W31.heap.size W31 V, Below.refl _ _, fun V h => h, fun V h => h.drew⟩
    have k0 : Hid (∀ V, C V → V.cell? ⟨X, 0, none⟩ = some (.string s)) := Lib.hid (fun V hV => (hHS.out.scn.below (q2 V hV)).c.1)
    have k1 : Hid (∀ V, C V → V.cell? ⟨X, 1, none⟩ = some (.int .i64 (n : Int))) := Lib.hid (fun V hV => (hHS.out.scn.below (q2 V hV)).c.2.1)
    have k2 : Hid (∀ V, C V → V.cell? ⟨X, 2, none⟩ = some (.int .i64 (e : Int))) := Lib.hid (fun V hV => (hHS.out.scn.below (q2 V hV)).c.2.2.1)
    have hC1 := Lib.hid q1
    have hCV := Lib.hid q2
    have hCd := Lib.hid q4
    clear q1 q2 q4
    have g1 : ((e : Int) == 0) = false := beq_false_of_ne (by omega)
    refine q_region C (by kernel_rfl) (by kernel_rfl) (hCd.out _ hC1.out) ?_
    repeat (first
      | (with_reducible refine q_off ?_ ?_
         · rfl
         try simp only [Act.put, List.getElem_toArray, List.getElem_cons_zero, List.getElem_cons_succ, List.setIfInBounds_toArray, List.set_cons_zero, List.set_cons_succ])
      | (with_reducible refine q_lds2 Tryd.isAgg9 ?_ ?_ ⟨X, 0, none⟩ ?_ (.string s) k0.out ?_
         · rfl
         · rfl
         · rfl
         try simp only [Act.put, List.getElem_toArray, List.getElem_cons_zero, List.getElem_cons_succ, List.setIfInBounds_toArray, List.set_cons_zero, List.set_cons_succ])
      | (with_reducible refine q_lds2 Tryd.isAgg3 ?_ ?_ ⟨X, 1, none⟩ ?_ (.int .i64 (n : Int)) k1.out ?_
         · rfl
         · rfl
         · rfl
         try simp only [Act.put, List.getElem_toArray, List.getElem_cons_zero, List.getElem_cons_succ, List.setIfInBounds_toArray, List.set_cons_zero, List.set_cons_succ])
      | (with_reducible refine q_lds2 Tryd.isAgg25 ?_ ?_ ⟨X, 2, none⟩ ?_ (.int .i64 (e : Int)) k2.out ?_
         · rfl
         · rfl
         · rfl
         try simp only [Act.put, List.getElem_toArray, List.getElem_cons_zero, List.getElem_cons_succ, List.setIfInBounds_toArray, List.set_cons_zero, List.set_cons_succ])
      | (with_reducible refine wpQuiet_step ?_
         intro K hK
         go_simp
         first
         | (refine hK _ ?_; clear hK K)
         | (apply Exists.intro
            refine ⟨fun W hW => ?_, hK _ ?_⟩
            first
            | exact rfl
            | exact ⟨rfl, rfl⟩
            clear hK K)))
    refine wpQuiet_nil ?_
    intro V1 h1V1

    have hR1t := hHS.out.below (hCV.out V1 h1V1)
    have hR1u := Lib.hid hR1t
    clear hR1t h1V1 hC1 k0 k1 k2 hCV hCd hHS
    have e15 : Unit → r15 s = ((n, e), 0) := fun _ => by
      have h14 : r14 s = (n, e) := by unfold r14; rw [hne' (), if_neg (fun h => he h.1)]
      unfold r15
      rw [h14, if_neg he]
    have hR1 : Hid (Rd wp X RB PB s (n, e) #[.bool false, .int .i64 ((r1 s).2 : Int), .int .i64 ((r7 s).2 : Int), .int .i64 (1 + ((r5 s).2 : Int)), .int .i64 ((r3 s).2 : Int), .int .i64 ((r9 s).2 : Int), .int .i64 ((r11 s).2 : Int), .int .i64 ((r12 s).2.1 : Int), .int .i64 (((r1 s).1.1 : Nat) : Int), .int .i64 (((r6 s).1 : Nat) : Int), .int .i64 (((r8 s).1 : Nat) : Int), .int .i64 (((r10 s).1 : Nat) : Int), .int .i64 ((r12 s).2.2 : Int), .int .i64 0] V1) := hR1u
    obtain ⟨c0, c1, c2, c3, c4, c5⟩ := hR1.out.scn.c
    try dsimp only at c1 c2
    obtain ⟨p0, f0⟩ := hR1.out.cell 0 _ rfl
    obtain ⟨p1, f1⟩ := hR1.out.cell 1 _ rfl
    obtain ⟨p2, f2⟩ := hR1.out.cell 2 _ rfl
    obtain ⟨p3, f3⟩ := hR1.out.cell 3 _ rfl
    obtain ⟨p4, f4⟩ := hR1.out.cell 4 _ rfl
    obtain ⟨p5, f5⟩ := hR1.out.cell 5 _ rfl
    obtain ⟨p6, f6⟩ := hR1.out.cell 6 _ rfl
    obtain ⟨p7, f7⟩ := hR1.out.cell 7 _ rfl
    obtain ⟨p8, f8⟩ := hR1.out.cell 8 _ rfl
    obtain ⟨p9, f9⟩ := hR1.out.cell 9 _ rfl
    obtain ⟨p10, f10⟩ := hR1.out.cell 10 _ rfl
    obtain ⟨p11, f11⟩ := hR1.out.cell 11 _ rfl
    obtain ⟨p12, f12⟩ := hR1.out.cell 12 _ rfl
    obtain ⟨p13, f13⟩ := hR1.out.cell 13 _ rfl
    obtain ⟨q0, g0⟩ := hR1.out.rcell 0 _ rfl
    obtain ⟨q1, g1⟩ := hR1.out.rcell 1 _ rfl
    obtain ⟨q2, g2⟩ := hR1.out.rcell 2 _ rfl
    obtain ⟨q3, g3⟩ := hR1.out.rcell 3 _ rfl
    obtain ⟨q4, g4⟩ := hR1.out.rcell 4 _ rfl
    obtain ⟨q5, g5⟩ := hR1.out.rcell 5 _ rfl
    obtain ⟨q6, g6⟩ := hR1.out.rcell 6 _ rfl
    obtain ⟨q7, g7⟩ := hR1.out.rcell 7 _ rfl
    obtain ⟨q8, g8⟩ := hR1.out.rcell 8 _ rfl
    obtain ⟨q9, g9⟩ := hR1.out.rcell 9 _ rfl
    obtain ⟨q10, g10⟩ := hR1.out.rcell 10 _ rfl
    obtain ⟨q11, g11⟩ := hR1.out.rcell 11 _ rfl
    obtain ⟨q12, g12⟩ := hR1.out.rcell 12 _ rfl
    obtain ⟨q13, g13⟩ := hR1.out.rcell 13 _ rfl
    go_wp2_with fail
    clear c0 c1 c2 c3 c4 c5 p0 f0 q0 g0 p1 f1 q1 g1 p2 f2 q2 g2 p3 f3 q3 g3 p4 f4 q4 g4 p5 f5 q5 g5 p6 f6 q6 g6 p7 f7 q7 g7 p8 f8 q8 g8 p9 f9 q9 g9 p10 f10 q10 g10 p11 f11 q11 g11 p12 f12 q12 g12 p13 f13 q13 g13
    obtain ⟨hF, hG, hB⟩ := hR1.out.fin (.bool false) (.int .i64 ((r1 s).2 : Int)) (.int .i64 ((r7 s).2 : Int)) (.int .i64 (1 + ((r5 s).2 : Int))) (.int .i64 ((r3 s).2 : Int)) (.int .i64 ((r9 s).2 : Int)) (.int .i64 ((r11 s).2 : Int)) (.int .i64 ((r12 s).2.1 : Int)) (.int .i64 (((r1 s).1.1 : Nat) : Int)) (.int .i64 (((r6 s).1 : Nat) : Int)) (.int .i64 (((r8 s).1 : Nat) : Int)) (.int .i64 (((r10 s).1 : Nat) : Int)) (.int .i64 ((r12 s).2.2 : Int)) (.int .i64 0) rfl
    generalize ((((((((((((((V1.setCell ⟨RB, 0, none⟩ (.bool false)).setCell ⟨RB, 1, none⟩ (.int .i64 ((r1 s).2 : Int))).setCell ⟨RB, 2, none⟩ (.int .i64 ((r7 s).2 : Int))).setCell ⟨RB, 3, none⟩ (.int .i64 (1 + ((r5 s).2 : Int)))).setCell ⟨RB, 4, none⟩ (.int .i64 ((r3 s).2 : Int))).setCell ⟨RB, 5, none⟩ (.int .i64 ((r9 s).2 : Int))).setCell ⟨RB, 6, none⟩ (.int .i64 ((r11 s).2 : Int))).setCell ⟨RB, 7, none⟩ (.int .i64 ((r12 s).2.1 : Int))).setCell ⟨RB, 8, none⟩ (.int .i64 (((r1 s).1.1 : Nat) : Int))).setCell ⟨RB, 9, none⟩ (.int .i64 (((r6 s).1 : Nat) : Int))).setCell ⟨RB, 10, none⟩ (.int .i64 (((r8 s).1 : Nat) : Int))).setCell ⟨RB, 11, none⟩ (.int .i64 (((r10 s).1 : Nat) : Int))).setCell ⟨RB, 12, none⟩ (.int .i64 ((r12 s).2.2 : Int))).setCell ⟨RB, 13, none⟩ (.int .i64 0)) = WF at hF hG hB ⊢
    obtain ⟨z0, z1, z2, z3, z4, z5, z6, z7, z8, z9, z10, z11, z12, z13⟩ := cells14 hF
    clear hF
    refine bodyPost_ret (v := rv s) ?_ rfl ⟨rfl, hB, ?_⟩
    · simp [results, Tryd.results38, go_sem, z0, z1, z2, z3, z4, z5, z6, z7, z8, z9, z10, z11, z12, z13]
      unfold rv
      simp only [hn' (), e15 ()]
    · rw [e15 ()]
      exact hG
end Go.Proofs
