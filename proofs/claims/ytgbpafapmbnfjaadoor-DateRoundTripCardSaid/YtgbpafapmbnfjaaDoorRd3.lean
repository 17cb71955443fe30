/- read of date, walked: two of its eight roads -/
import Derived.Test.YtgbpafapmbnfjaaDoorRd
namespace Go.Proofs
open Go.RowKit Go.Shelf
set_option linter.unusedVariables false
set_option linter.unusedSimpArgs false
open TK
set_option maxRecDepth 100000 in
set_option maxHeartbeats 4000000 in
theorem Tryd.dRead_110 (X : Nat) (s : ByteArray) (wp w : World) (h0 : Scn w X s (0, 0)) (hb : Below wp.heap.size wp w) (hX : wp.heap.size ≤ X) (hT : Tabs wp) (hn : spk isLt s (0, 0) = true) (h2 : spk isDg s (r2 s).1 = true) (h3 : spk isCo s (r11 s).1 = false) : Calls Tryd.prog 38 #[.pointer (some ⟨X, 0, none⟩)] w fun z w' => z = .returned (rv s) ∧ Below wp.heap.size wp w' ∧ Scn w' X s (r15 s).1 := by
  have hn' := fun (_ : Unit) => hn
  have h2' := fun (_ : Unit) => h2
  have h3' := fun (_ : Unit) => h3
  have e1 : Unit → (r1 s = (sbl true s (r0b s), (r0 s).2)) := fun _ => (by unfold r1; rw [hn]; rfl)
  have e3 : Unit → (r3 s = ((r2b s).1, 10 * (r2 s).2 + (r2b s).2)) := fun _ => (by unfold r3; rw [h2]; rfl)
  have e12 : Unit → (r12 s = ((r11 s).1, 0, 0)) := fun _ => (by unfold r12; rw [h3]; rfl)
  clear hn h2 h3
  go_enter Tryd.func38, Tryd.ntmps38
  go_wp2_with fail
  have hR0 : Rd wp X w.heap.size (w.heap.size + 1) s (0, 0) zA ((w.alloc (.cells zA 63)).alloc (.cells zA 63)) := rd_start h0 hb hX hT
  change Calls _ _ _ ((w.alloc (.cells zA 63)).alloc (.cells zA 63)) _
  generalize (w.alloc (.cells zA 63)).alloc (.cells zA 63) = W0 at hR0 ⊢
  generalize w.heap.size + 1 = PB at hR0 ⊢
  generalize w.heap.size = RB at hR0 ⊢
  have hH0 : Hid (Rd wp X RB PB s (0, 0) #[.bool false, .int .i64 0, .int .i64 0, .int .i64 0, .int .i64 0, .int .i64 0, .int .i64 0, .int .i64 0, .int .i64 0, .int .i64 0, .int .i64 0, .int .i64 0, .int .i64 0, .int .i64 0] W0) := Lib.hid hR0
  clear hR0 h0 hb hT hX
  have hc := Tryd.dPeek 47 #[] isLt X s (0, 0) W0 Tryd.cfLetter (fun W _ c => Tryd.pLetter c W) hH0.out.scn
  rw [hn' ()] at hc
  refine hc.mono ?_
  rintro e W1 ⟨rfl, hb⟩
  have hH1t := hH0.out.below hb
  clear hc hb
  have hH1 : Hid (Rd wp X RB PB s (0, 0) #[.bool false, .int .i64 0, .int .i64 0, .int .i64 0, .int .i64 0, .int .i64 0, .int .i64 0, .int .i64 0, .int .i64 0, .int .i64 0, .int .i64 0, .int .i64 0, .int .i64 0, .int .i64 0] W1) := Lib.hid hH1t
  clear hH1t hH0
  obtain ⟨p0, f0⟩ := hH1.out.cell 0 _ rfl
  obtain ⟨c0, c1, c2, c3, c4, c5⟩ := hH1.out.scn.c
  go_wp2_with fail
  clear c0 c1 c2 c3 c4 c5 p0 f0
  have hH2t : Rd wp X RB PB s (0, 0) #[.bool true, .int .i64 0, .int .i64 0, .int .i64 0, .int .i64 0, .int .i64 0, .int .i64 0, .int .i64 0, .int .i64 0, .int .i64 0, .int .i64 0, .int .i64 0, .int .i64 0, .int .i64 0] (W1.setCell ⟨PB, 0, none⟩ (.bool true)) := (hH1.out.store 0 (.bool true))
  generalize (W1.setCell ⟨PB, 0, none⟩ (.bool true)) = W2 at hH2t ⊢
  have hH2 : Hid (Rd wp X RB PB s (0, 0) #[.bool true, .int .i64 0, .int .i64 0, .int .i64 0, .int .i64 0, .int .i64 0, .int .i64 0, .int .i64 0, .int .i64 0, .int .i64 0, .int .i64 0, .int .i64 0, .int .i64 0, .int .i64 0] W2) := Lib.hid hH2t
  clear hH2t hH1
  have hc := Tryd.dDayNames W2
  refine hc.mono ?_
  rintro e W3 ⟨rfl, hb⟩
  have hH3t := hH2.out.below hb
  clear hc hb
  have hH3 : Hid (Rd wp X RB PB s (0, 0) #[.bool true, .int .i64 0, .int .i64 0, .int .i64 0, .int .i64 0, .int .i64 0, .int .i64 0, .int .i64 0, .int .i64 0, .int .i64 0, .int .i64 0, .int .i64 0, .int .i64 0, .int .i64 0] W3) := Lib.hid hH3t
  clear hH3t hH2
  obtain ⟨c0, c1, c2, c3, c4, c5⟩ := hH3.out.scn.c
  have hst : (storeCells ⟨W3.heap.size, 0, none⟩ dnA.toList 0).run Tryd.prog (W3.alloc (.cells #[.string ⟨#[]⟩, .string ⟨#[]⟩, .string ⟨#[]⟩, .string ⟨#[]⟩, .string ⟨#[]⟩, .string ⟨#[]⟩, .string ⟨#[]⟩] 54)) = .ok () (W3.alloc (.cells dnA 54)) := run_storeCells_new W3 54 z7 dnA (by kernel_rfl) rfl (by kernel_rfl)
  go_wp2_with fail
  clear c0 c1 c2 c3 c4 c5
  clear hst
  have hNx : W3.heap.size ≠ X := by have := (Array.getElem?_eq_some_iff.1 hH3.out.scn.1).1; omega
  have hNl : W3.heap.size < (W3.alloc (.cells dnA 54)).heap.size := by simp
  have hNc : ∀ k (h : k < (names dnl).length), (W3.alloc (.cells dnA 54)).cell? ⟨W3.heap.size, k, none⟩ = some (.string (names dnl)[k]) := fun k h => (Go.cell_of_row _ _ _ _ _ _ (Go.heap_alloc_new W3 _)).trans (dn_at k h)
  have hH4t : Rd wp X RB PB s (0, 0) #[.bool true, .int .i64 0, .int .i64 0, .int .i64 0, .int .i64 0, .int .i64 0, .int .i64 0, .int .i64 0, .int .i64 0, .int .i64 0, .int .i64 0, .int .i64 0, .int .i64 0, .int .i64 0] (W3.alloc (.cells dnA 54)) := hH3.out.below ((Below.refl _ _).alloc (Nat.le_refl _) _)
  generalize (W3.alloc (.cells dnA 54)) = W4 at hH4t hNl hNc ⊢
  generalize W3.heap.size = NB4 at hNx hNl hNc ⊢
  have hH4 : Hid (Rd wp X RB PB s (0, 0) #[.bool true, .int .i64 0, .int .i64 0, .int .i64 0, .int .i64 0, .int .i64 0, .int .i64 0, .int .i64 0, .int .i64 0, .int .i64 0, .int .i64 0, .int .i64 0, .int .i64 0, .int .i64 0] W4) := Lib.hid hH4t
  clear hH4t hH3
  have hc := Tryd.dName X s (0, 0) (names dnl) (by decide) dn_3 NB4 W4 hH4.out.scn hNl hNx hNc hH4.out.T
  rw [show sname (names dnl) s (0, 0) = r0 s from rfl] at hc
  clear hNx hNl hNc
  refine hc.mono ?_
  rintro e W5 ⟨rfl, hg, hs⟩
  have hH5t := hH4.out.call hg hs
  clear hc hg hs
  have hH5 : Hid (Rd wp X RB PB s (r0 s).1 #[.bool true, .int .i64 0, .int .i64 0, .int .i64 0, .int .i64 0, .int .i64 0, .int .i64 0, .int .i64 0, .int .i64 0, .int .i64 0, .int .i64 0, .int .i64 0, .int .i64 0, .int .i64 0] W5) := Lib.hid hH5t
  clear hH5t hH4
  obtain ⟨p1, f1⟩ := hH5.out.cell 1 _ rfl
  obtain ⟨c0, c1, c2, c3, c4, c5⟩ := hH5.out.scn.c
  go_wp2_with fail
  clear c0 c1 c2 c3 c4 c5 p1 f1
  have hH6t : Rd wp X RB PB s (r0 s).1 #[.bool true, .int .i64 ((r0 s).2 : Int), .int .i64 0, .int .i64 0, .int .i64 0, .int .i64 0, .int .i64 0, .int .i64 0, .int .i64 0, .int .i64 0, .int .i64 0, .int .i64 0, .int .i64 0, .int .i64 0] (W5.setCell ⟨PB, 1, none⟩ (.int .i64 ((r0 s).2 : Int))) := (hH5.out.store 1 (.int .i64 ((r0 s).2 : Int)))
  generalize (W5.setCell ⟨PB, 1, none⟩ (.int .i64 ((r0 s).2 : Int))) = W6 at hH6t ⊢
  have hH6 : Hid (Rd wp X RB PB s (r0 s).1 #[.bool true, .int .i64 ((r0 s).2 : Int), .int .i64 0, .int .i64 0, .int .i64 0, .int .i64 0, .int .i64 0, .int .i64 0, .int .i64 0, .int .i64 0, .int .i64 0, .int .i64 0, .int .i64 0, .int .i64 0] W6) := Lib.hid hH6t
  clear hH6t hH5
  have hc := Tryd.dJust 44 W6
  have JB6l : W6.heap.size = W6.heap.size := rfl
  generalize hJ : W6.heap.size = JB6 at hc
  clear JB6l
  have hJ2 : ∀ W, Below JB6 W6 W → Below W6.heap.size W6 W := fun W h => by rw [hJ]; exact h
  clear hJ
  replace hc := hc.mono (fun e w' h => (⟨h.1, h.2.1, hJ2 w' h.2.2⟩ : _ ∧ _ ∧ _))
  clear hJ2
  refine hc.mono ?_
  rintro e W7 ⟨rfl, hj, hb⟩
  have hH7t := hH6.out.below hb
  clear hc hb
  have hH7 : Hid (Rd wp X RB PB s (r0 s).1 #[.bool true, .int .i64 ((r0 s).2 : Int), .int .i64 0, .int .i64 0, .int .i64 0, .int .i64 0, .int .i64 0, .int .i64 0, .int .i64 0, .int .i64 0, .int .i64 0, .int .i64 0, .int .i64 0, .int .i64 0] W7) := Lib.hid hH7t
  clear hH7t hH6
  obtain ⟨c0, c1, c2, c3, c4, c5⟩ := hH7.out.scn.c
  go_wp2_with fail
  clear c0 c1 c2 c3 c4 c5
  have hc := Tryd.dTake 65 #[.pointer (some ⟨JB6, 0, none⟩)] isCm X s (r0 s).1 W7 Tryd.cfJustK (fun W h c => Tryd.pJust 44 JB6 c W (cell_keep h hj)) hH7.out.scn
  rw [show stk isCm s (r0 s).1 = r0b s from rfl] at hc
  clear hj
  refine hc.mono ?_
  rintro e W8 ⟨rfl, hg, hs⟩
  have hH8t := hH7.out.call hg hs
  clear hc hg hs
  have hH8 : Hid (Rd wp X RB PB s (r0b s) #[.bool true, .int .i64 ((r0 s).2 : Int), .int .i64 0, .int .i64 0, .int .i64 0, .int .i64 0, .int .i64 0, .int .i64 0, .int .i64 0, .int .i64 0, .int .i64 0, .int .i64 0, .int .i64 0, .int .i64 0] W8) := Lib.hid hH8t
  clear hH8t hH7
  obtain ⟨c0, c1, c2, c3, c4, c5⟩ := hH8.out.scn.c
  go_wp2_with fail
  clear c0 c1 c2 c3 c4 c5
  have hc := Tryd.dBlanks X s (r0b s) true W8 hH8.out.scn
  refine hc.mono ?_
  rintro e W9 ⟨rfl, hg, hs⟩
  have hH9t := hH8.out.call hg hs
  clear hc hg hs
  have hH9 : Hid (Rd wp X RB PB s (sbl true s (r0b s)) #[.bool true, .int .i64 ((r0 s).2 : Int), .int .i64 0, .int .i64 0, .int .i64 0, .int .i64 0, .int .i64 0, .int .i64 0, .int .i64 0, .int .i64 0, .int .i64 0, .int .i64 0, .int .i64 0, .int .i64 0] W9) := Lib.hid hH9t
  clear hH9t hH8
  obtain ⟨c0, c1, c2, c3, c4, c5⟩ := hH9.out.scn.c
  go_wp2_with fail
  clear c0 c1 c2 c3 c4 c5
  have hH10t : Rd wp X RB PB s (r1 s).1 #[.bool true, .int .i64 ((r1 s).2 : Int), .int .i64 0, .int .i64 0, .int .i64 0, .int .i64 0, .int .i64 0, .int .i64 0, .int .i64 0, .int .i64 0, .int .i64 0, .int .i64 0, .int .i64 0, .int .i64 0] W9 := by
    rw [e1 ()]
    try dsimp only
    exact hH9.out
  have hH10 : Hid (Rd wp X RB PB s (r1 s).1 #[.bool true, .int .i64 ((r1 s).2 : Int), .int .i64 0, .int .i64 0, .int .i64 0, .int .i64 0, .int .i64 0, .int .i64 0, .int .i64 0, .int .i64 0, .int .i64 0, .int .i64 0, .int .i64 0, .int .i64 0] W9) := Lib.hid hH10t
  clear hH10t hH9
  have hc := Tryd.dNumber X s (r1 s).1 1 (by omega) W9 hH10.out.scn
  rw [show snum s 1 ((r1 s).1, 0) = r2 s from rfl] at hc
  refine hc.mono ?_
  rintro e W11 ⟨rfl, hg, hs⟩
  have hH11t := hH10.out.call hg hs
  clear hc hg hs
  have hH11 : Hid (Rd wp X RB PB s (r2 s).1 #[.bool true, .int .i64 ((r1 s).2 : Int), .int .i64 0, .int .i64 0, .int .i64 0, .int .i64 0, .int .i64 0, .int .i64 0, .int .i64 0, .int .i64 0, .int .i64 0, .int .i64 0, .int .i64 0, .int .i64 0] W11) := Lib.hid hH11t
  clear hH11t hH10
  obtain ⟨p4, f4⟩ := hH11.out.cell 4 _ rfl
  obtain ⟨p8, f8⟩ := hH11.out.cell 8 _ rfl
  obtain ⟨c0, c1, c2, c3, c4, c5⟩ := hH11.out.scn.c
  go_wp2_with fail
  clear c0 c1 c2 c3 c4 c5 p4 f4 p8 f8
  have hH12t : Rd wp X RB PB s (r2 s).1 #[.bool true, .int .i64 ((r1 s).2 : Int), .int .i64 0, .int .i64 0, .int .i64 ((r2 s).2 : Int), .int .i64 0, .int .i64 0, .int .i64 0, .int .i64 (((r1 s).1.1 : Nat) : Int), .int .i64 0, .int .i64 0, .int .i64 0, .int .i64 0, .int .i64 0] ((W11.setCell ⟨PB, 4, none⟩ (.int .i64 ((r2 s).2 : Int))).setCell ⟨PB, 8, none⟩ (.int .i64 (((r1 s).1.1 : Nat) : Int))) := ((hH11.out.store 4 (.int .i64 ((r2 s).2 : Int))).store 8 (.int .i64 (((r1 s).1.1 : Nat) : Int)))
  generalize ((W11.setCell ⟨PB, 4, none⟩ (.int .i64 ((r2 s).2 : Int))).setCell ⟨PB, 8, none⟩ (.int .i64 (((r1 s).1.1 : Nat) : Int))) = W12 at hH12t ⊢
  have hH12 : Hid (Rd wp X RB PB s (r2 s).1 #[.bool true, .int .i64 ((r1 s).2 : Int), .int .i64 0, .int .i64 0, .int .i64 ((r2 s).2 : Int), .int .i64 0, .int .i64 0, .int .i64 0, .int .i64 (((r1 s).1.1 : Nat) : Int), .int .i64 0, .int .i64 0, .int .i64 0, .int .i64 0, .int .i64 0] W12) := Lib.hid hH12t
  clear hH12t hH11
  have hc := Tryd.dPeek 53 #[] isDg X s (r2 s).1 W12 Tryd.cfDigit (fun W _ c => Tryd.pDigit c W) hH12.out.scn
  rw [h2' ()] at hc
  refine hc.mono ?_
  rintro e W13 ⟨rfl, hb⟩
  have hH13t := hH12.out.below hb
  clear hc hb
  have hH13 : Hid (Rd wp X RB PB s (r2 s).1 #[.bool true, .int .i64 ((r1 s).2 : Int), .int .i64 0, .int .i64 0, .int .i64 ((r2 s).2 : Int), .int .i64 0, .int .i64 0, .int .i64 0, .int .i64 (((r1 s).1.1 : Nat) : Int), .int .i64 0, .int .i64 0, .int .i64 0, .int .i64 0, .int .i64 0] W13) := Lib.hid hH13t
  clear hH13t hH12
  obtain ⟨p4, f4⟩ := hH13.out.cell 4 _ rfl
  obtain ⟨c0, c1, c2, c3, c4, c5⟩ := hH13.out.scn.c
  go_wp2_with fail
  clear c0 c1 c2 c3 c4 c5 p4 f4
  have hc := Tryd.dNumber X s (r2 s).1 1 (by omega) W13 hH13.out.scn
  rw [show snum s 1 ((r2 s).1, 0) = r2b s from rfl] at hc
  refine hc.mono ?_
  rintro e W14 ⟨rfl, hg, hs⟩
  have hH14t := hH13.out.call hg hs
  clear hc hg hs
  have hH14 : Hid (Rd wp X RB PB s (r2b s).1 #[.bool true, .int .i64 ((r1 s).2 : Int), .int .i64 0, .int .i64 0, .int .i64 ((r2 s).2 : Int), .int .i64 0, .int .i64 0, .int .i64 0, .int .i64 (((r1 s).1.1 : Nat) : Int), .int .i64 0, .int .i64 0, .int .i64 0, .int .i64 0, .int .i64 0] W14) := Lib.hid hH14t
  clear hH14t hH13
  obtain ⟨p4, f4⟩ := hH14.out.cell 4 _ rfl
  obtain ⟨c0, c1, c2, c3, c4, c5⟩ := hH14.out.scn.c
  have hda : (r2 s).2 ≤ 255 := snum1_bd _ _
  have hdb : (r2b s).2 ≤ 255 := snum1_bd _ _
  have u1 : IntKind.i64.wrap (10 * ((r2 s).2 : Int)) = 10 * ((r2 s).2 : Int) := IntWalk.i64_in _ (by omega)
  have u2 : IntKind.i64.wrap (10 * ((r2 s).2 : Int) + ((r2b s).2 : Int)) = 10 * ((r2 s).2 : Int) + ((r2b s).2 : Int) := IntWalk.i64_in _ (by omega)
  go_wp2_with fail
  clear c0 c1 c2 c3 c4 c5 p4 f4
  clear u1 u2 hda hdb
  have hH15t : Rd wp X RB PB s (r2b s).1 #[.bool true, .int .i64 ((r1 s).2 : Int), .int .i64 0, .int .i64 0, .int .i64 (10 * ((r2 s).2 : Int) + ((r2b s).2 : Int)), .int .i64 0, .int .i64 0, .int .i64 0, .int .i64 (((r1 s).1.1 : Nat) : Int), .int .i64 0, .int .i64 0, .int .i64 0, .int .i64 0, .int .i64 0] (W14.setCell ⟨PB, 4, none⟩ (.int .i64 (10 * ((r2 s).2 : Int) + ((r2b s).2 : Int)))) := (hH14.out.store 4 (.int .i64 (10 * ((r2 s).2 : Int) + ((r2b s).2 : Int))))
  generalize (W14.setCell ⟨PB, 4, none⟩ (.int .i64 (10 * ((r2 s).2 : Int) + ((r2b s).2 : Int)))) = W15 at hH15t ⊢
  have hH15 : Hid (Rd wp X RB PB s (r2b s).1 #[.bool true, .int .i64 ((r1 s).2 : Int), .int .i64 0, .int .i64 0, .int .i64 (10 * ((r2 s).2 : Int) + ((r2b s).2 : Int)), .int .i64 0, .int .i64 0, .int .i64 0, .int .i64 (((r1 s).1.1 : Nat) : Int), .int .i64 0, .int .i64 0, .int .i64 0, .int .i64 0, .int .i64 0] W15) := Lib.hid hH15t
  clear hH15t hH14
  have hH16t : Rd wp X RB PB s (r3 s).1 #[.bool true, .int .i64 ((r1 s).2 : Int), .int .i64 0, .int .i64 0, .int .i64 ((r3 s).2 : Int), .int .i64 0, .int .i64 0, .int .i64 0, .int .i64 (((r1 s).1.1 : Nat) : Int), .int .i64 0, .int .i64 0, .int .i64 0, .int .i64 0, .int .i64 0] W15 := by
    rw [e3 ()]
    try dsimp only
    rw [Int.natCast_add, Int.natCast_mul]
    exact hH15.out
  have hH16 : Hid (Rd wp X RB PB s (r3 s).1 #[.bool true, .int .i64 ((r1 s).2 : Int), .int .i64 0, .int .i64 0, .int .i64 ((r3 s).2 : Int), .int .i64 0, .int .i64 0, .int .i64 0, .int .i64 (((r1 s).1.1 : Nat) : Int), .int .i64 0, .int .i64 0, .int .i64 0, .int .i64 0, .int .i64 0] W15) := Lib.hid hH16t
  clear hH16t hH15
  have hc := Tryd.dBlanks X s (r3 s).1 false W15 hH16.out.scn
  rw [show sbl false s (r3 s).1 = r4 s from rfl] at hc
  refine hc.mono ?_
  rintro e W17 ⟨rfl, hg, hs⟩
  have hH17t := hH16.out.call hg hs
  clear hc hg hs
  have hH17 : Hid (Rd wp X RB PB s (r4 s) #[.bool true, .int .i64 ((r1 s).2 : Int), .int .i64 0, .int .i64 0, .int .i64 ((r3 s).2 : Int), .int .i64 0, .int .i64 0, .int .i64 0, .int .i64 (((r1 s).1.1 : Nat) : Int), .int .i64 0, .int .i64 0, .int .i64 0, .int .i64 0, .int .i64 0] W17) := Lib.hid hH17t
  clear hH17t hH16
  obtain ⟨c0, c1, c2, c3, c4, c5⟩ := hH17.out.scn.c
  go_wp2_with fail
  clear c0 c1 c2 c3 c4 c5
  have hc := Tryd.dMonthNames W17
  refine hc.mono ?_
  rintro e W18 ⟨rfl, hb⟩
  have hH18t := hH17.out.below hb
  clear hc hb
  have hH18 : Hid (Rd wp X RB PB s (r4 s) #[.bool true, .int .i64 ((r1 s).2 : Int), .int .i64 0, .int .i64 0, .int .i64 ((r3 s).2 : Int), .int .i64 0, .int .i64 0, .int .i64 0, .int .i64 (((r1 s).1.1 : Nat) : Int), .int .i64 0, .int .i64 0, .int .i64 0, .int .i64 0, .int .i64 0] W18) := Lib.hid hH18t
  clear hH18t hH17
  obtain ⟨c0, c1, c2, c3, c4, c5⟩ := hH18.out.scn.c
  have hst : (storeCells ⟨W18.heap.size, 0, none⟩ mnA.toList 0).run Tryd.prog (W18.alloc (.cells #[.string ⟨#[]⟩, .string ⟨#[]⟩, .string ⟨#[]⟩, .string ⟨#[]⟩, .string ⟨#[]⟩, .string ⟨#[]⟩, .string ⟨#[]⟩, .string ⟨#[]⟩, .string ⟨#[]⟩, .string ⟨#[]⟩, .string ⟨#[]⟩, .string ⟨#[]⟩] 56)) = .ok () (W18.alloc (.cells mnA 56)) := run_storeCells_new W18 56 z12 mnA (by kernel_rfl) rfl (by kernel_rfl)
  go_wp2_with fail
  clear c0 c1 c2 c3 c4 c5
  clear hst
  have hNx : W18.heap.size ≠ X := by have := (Array.getElem?_eq_some_iff.1 hH18.out.scn.1).1; omega
  have hNl : W18.heap.size < (W18.alloc (.cells mnA 56)).heap.size := by simp
  have hNc : ∀ k (h : k < (names mnl).length), (W18.alloc (.cells mnA 56)).cell? ⟨W18.heap.size, k, none⟩ = some (.string (names mnl)[k]) := fun k h => (Go.cell_of_row _ _ _ _ _ _ (Go.heap_alloc_new W18 _)).trans (mn_at k h)
  have hH19t : Rd wp X RB PB s (r4 s) #[.bool true, .int .i64 ((r1 s).2 : Int), .int .i64 0, .int .i64 0, .int .i64 ((r3 s).2 : Int), .int .i64 0, .int .i64 0, .int .i64 0, .int .i64 (((r1 s).1.1 : Nat) : Int), .int .i64 0, .int .i64 0, .int .i64 0, .int .i64 0, .int .i64 0] (W18.alloc (.cells mnA 56)) := hH18.out.below ((Below.refl _ _).alloc (Nat.le_refl _) _)
  generalize (W18.alloc (.cells mnA 56)) = W19 at hH19t hNl hNc ⊢
  generalize W18.heap.size = NB19 at hNx hNl hNc ⊢
  have hH19 : Hid (Rd wp X RB PB s (r4 s) #[.bool true, .int .i64 ((r1 s).2 : Int), .int .i64 0, .int .i64 0, .int .i64 ((r3 s).2 : Int), .int .i64 0, .int .i64 0, .int .i64 0, .int .i64 (((r1 s).1.1 : Nat) : Int), .int .i64 0, .int .i64 0, .int .i64 0, .int .i64 0, .int .i64 0] W19) := Lib.hid hH19t
  clear hH19t hH18
  have hc := Tryd.dName X s (r4 s) (names mnl) (by decide) mn_3 NB19 W19 hH19.out.scn hNl hNx hNc hH19.out.T
  rw [show sname (names mnl) s (r4 s) = r5 s from rfl] at hc
  clear hNx hNl hNc
  refine hc.mono ?_
  rintro e W20 ⟨rfl, hg, hs⟩
  have hH20t := hH19.out.call hg hs
  clear hc hg hs
  have hH20 : Hid (Rd wp X RB PB s (r5 s).1 #[.bool true, .int .i64 ((r1 s).2 : Int), .int .i64 0, .int .i64 0, .int .i64 ((r3 s).2 : Int), .int .i64 0, .int .i64 0, .int .i64 0, .int .i64 (((r1 s).1.1 : Nat) : Int), .int .i64 0, .int .i64 0, .int .i64 0, .int .i64 0, .int .i64 0] W20) := Lib.hid hH20t
  clear hH20t hH19
  obtain ⟨p3, f3⟩ := hH20.out.cell 3 _ rfl
  obtain ⟨c0, c1, c2, c3, c4, c5⟩ := hH20.out.scn.c
  have hm5 : (r5 s).2 ≤ 12 := sname_bd _ _ _
  have u1 : IntKind.i64.wrap (1 + ((r5 s).2 : Int)) = 1 + ((r5 s).2 : Int) := IntWalk.i64_in _ (by omega)
  go_wp2_with fail
  clear c0 c1 c2 c3 c4 c5 p3 f3
  clear u1 hm5
  have hH21t : Rd wp X RB PB s (r5 s).1 #[.bool true, .int .i64 ((r1 s).2 : Int), .int .i64 0, .int .i64 (1 + ((r5 s).2 : Int)), .int .i64 ((r3 s).2 : Int), .int .i64 0, .int .i64 0, .int .i64 0, .int .i64 (((r1 s).1.1 : Nat) : Int), .int .i64 0, .int .i64 0, .int .i64 0, .int .i64 0, .int .i64 0] (W20.setCell ⟨PB, 3, none⟩ (.int .i64 (1 + ((r5 s).2 : Int)))) := (hH20.out.store 3 (.int .i64 (1 + ((r5 s).2 : Int))))
  generalize (W20.setCell ⟨PB, 3, none⟩ (.int .i64 (1 + ((r5 s).2 : Int)))) = W21 at hH21t ⊢
  have hH21 : Hid (Rd wp X RB PB s (r5 s).1 #[.bool true, .int .i64 ((r1 s).2 : Int), .int .i64 0, .int .i64 (1 + ((r5 s).2 : Int)), .int .i64 ((r3 s).2 : Int), .int .i64 0, .int .i64 0, .int .i64 0, .int .i64 (((r1 s).1.1 : Nat) : Int), .int .i64 0, .int .i64 0, .int .i64 0, .int .i64 0, .int .i64 0] W21) := Lib.hid hH21t
  clear hH21t hH20
  have hc := Tryd.dBlanks X s (r5 s).1 false W21 hH21.out.scn
  rw [show sbl false s (r5 s).1 = r6 s from rfl] at hc
  refine hc.mono ?_
  rintro e W22 ⟨rfl, hg, hs⟩
  have hH22t := hH21.out.call hg hs
  clear hc hg hs
  have hH22 : Hid (Rd wp X RB PB s (r6 s) #[.bool true, .int .i64 ((r1 s).2 : Int), .int .i64 0, .int .i64 (1 + ((r5 s).2 : Int)), .int .i64 ((r3 s).2 : Int), .int .i64 0, .int .i64 0, .int .i64 0, .int .i64 (((r1 s).1.1 : Nat) : Int), .int .i64 0, .int .i64 0, .int .i64 0, .int .i64 0, .int .i64 0] W22) := Lib.hid hH22t
  clear hH22t hH21
  obtain ⟨c0, c1, c2, c3, c4, c5⟩ := hH22.out.scn.c
  go_wp2_with fail
  clear c0 c1 c2 c3 c4 c5
  have hc := Tryd.dNumber X s (r6 s) 4 (by omega) W22 hH22.out.scn
  rw [show snum s 4 ((r6 s), 0) = r7 s from rfl] at hc
  refine hc.mono ?_
  rintro e W23 ⟨rfl, hg, hs⟩
  have hH23t := hH22.out.call hg hs
  clear hc hg hs
  have hH23 : Hid (Rd wp X RB PB s (r7 s).1 #[.bool true, .int .i64 ((r1 s).2 : Int), .int .i64 0, .int .i64 (1 + ((r5 s).2 : Int)), .int .i64 ((r3 s).2 : Int), .int .i64 0, .int .i64 0, .int .i64 0, .int .i64 (((r1 s).1.1 : Nat) : Int), .int .i64 0, .int .i64 0, .int .i64 0, .int .i64 0, .int .i64 0] W23) := Lib.hid hH23t
  clear hH23t hH22
  obtain ⟨p2, f2⟩ := hH23.out.cell 2 _ rfl
  obtain ⟨p9, f9⟩ := hH23.out.cell 9 _ rfl
  obtain ⟨c0, c1, c2, c3, c4, c5⟩ := hH23.out.scn.c
  go_wp2_with fail
  clear c0 c1 c2 c3 c4 c5 p2 f2 p9 f9
  have hH24t : Rd wp X RB PB s (r7 s).1 #[.bool true, .int .i64 ((r1 s).2 : Int), .int .i64 ((r7 s).2 : Int), .int .i64 (1 + ((r5 s).2 : Int)), .int .i64 ((r3 s).2 : Int), .int .i64 0, .int .i64 0, .int .i64 0, .int .i64 (((r1 s).1.1 : Nat) : Int), .int .i64 (((r6 s).1 : Nat) : Int), .int .i64 0, .int .i64 0, .int .i64 0, .int .i64 0] ((W23.setCell ⟨PB, 2, none⟩ (.int .i64 ((r7 s).2 : Int))).setCell ⟨PB, 9, none⟩ (.int .i64 (((r6 s).1 : Nat) : Int))) := ((hH23.out.store 2 (.int .i64 ((r7 s).2 : Int))).store 9 (.int .i64 (((r6 s).1 : Nat) : Int)))
  generalize ((W23.setCell ⟨PB, 2, none⟩ (.int .i64 ((r7 s).2 : Int))).setCell ⟨PB, 9, none⟩ (.int .i64 (((r6 s).1 : Nat) : Int))) = W24 at hH24t ⊢
  have hH24 : Hid (Rd wp X RB PB s (r7 s).1 #[.bool true, .int .i64 ((r1 s).2 : Int), .int .i64 ((r7 s).2 : Int), .int .i64 (1 + ((r5 s).2 : Int)), .int .i64 ((r3 s).2 : Int), .int .i64 0, .int .i64 0, .int .i64 0, .int .i64 (((r1 s).1.1 : Nat) : Int), .int .i64 (((r6 s).1 : Nat) : Int), .int .i64 0, .int .i64 0, .int .i64 0, .int .i64 0] W24) := Lib.hid hH24t
  clear hH24t hH23
  have hc := Tryd.dBlanks X s (r7 s).1 false W24 hH24.out.scn
  rw [show sbl false s (r7 s).1 = r8 s from rfl] at hc
  refine hc.mono ?_
  rintro e W25 ⟨rfl, hg, hs⟩
  have hH25t := hH24.out.call hg hs
  clear hc hg hs
  have hH25 : Hid (Rd wp X RB PB s (r8 s) #[.bool true, .int .i64 ((r1 s).2 : Int), .int .i64 ((r7 s).2 : Int), .int .i64 (1 + ((r5 s).2 : Int)), .int .i64 ((r3 s).2 : Int), .int .i64 0, .int .i64 0, .int .i64 0, .int .i64 (((r1 s).1.1 : Nat) : Int), .int .i64 (((r6 s).1 : Nat) : Int), .int .i64 0, .int .i64 0, .int .i64 0, .int .i64 0] W25) := Lib.hid hH25t
  clear hH25t hH24
  obtain ⟨c0, c1, c2, c3, c4, c5⟩ := hH25.out.scn.c
  go_wp2_with fail
  clear c0 c1 c2 c3 c4 c5
  have hc := Tryd.dNumber X s (r8 s) 2 (by omega) W25 hH25.out.scn
  rw [show snum s 2 ((r8 s), 0) = r9 s from rfl] at hc
  refine hc.mono ?_
  rintro e W26 ⟨rfl, hg, hs⟩
  have hH26t := hH25.out.call hg hs
  clear hc hg hs
  have hH26 : Hid (Rd wp X RB PB s (r9 s).1 #[.bool true, .int .i64 ((r1 s).2 : Int), .int .i64 ((r7 s).2 : Int), .int .i64 (1 + ((r5 s).2 : Int)), .int .i64 ((r3 s).2 : Int), .int .i64 0, .int .i64 0, .int .i64 0, .int .i64 (((r1 s).1.1 : Nat) : Int), .int .i64 (((r6 s).1 : Nat) : Int), .int .i64 0, .int .i64 0, .int .i64 0, .int .i64 0] W26) := Lib.hid hH26t
  clear hH26t hH25
  obtain ⟨p5, f5⟩ := hH26.out.cell 5 _ rfl
  obtain ⟨p10, f10⟩ := hH26.out.cell 10 _ rfl
  obtain ⟨c0, c1, c2, c3, c4, c5⟩ := hH26.out.scn.c
  go_wp2_with fail
  clear c0 c1 c2 c3 c4 c5 p5 f5 p10 f10
  have hH27t : Rd wp X RB PB s (r9 s).1 #[.bool true, .int .i64 ((r1 s).2 : Int), .int .i64 ((r7 s).2 : Int), .int .i64 (1 + ((r5 s).2 : Int)), .int .i64 ((r3 s).2 : Int), .int .i64 ((r9 s).2 : Int), .int .i64 0, .int .i64 0, .int .i64 (((r1 s).1.1 : Nat) : Int), .int .i64 (((r6 s).1 : Nat) : Int), .int .i64 (((r8 s).1 : Nat) : Int), .int .i64 0, .int .i64 0, .int .i64 0] ((W26.setCell ⟨PB, 5, none⟩ (.int .i64 ((r9 s).2 : Int))).setCell ⟨PB, 10, none⟩ (.int .i64 (((r8 s).1 : Nat) : Int))) := ((hH26.out.store 5 (.int .i64 ((r9 s).2 : Int))).store 10 (.int .i64 (((r8 s).1 : Nat) : Int)))
  generalize ((W26.setCell ⟨PB, 5, none⟩ (.int .i64 ((r9 s).2 : Int))).setCell ⟨PB, 10, none⟩ (.int .i64 (((r8 s).1 : Nat) : Int))) = W27 at hH27t ⊢
  have hH27 : Hid (Rd wp X RB PB s (r9 s).1 #[.bool true, .int .i64 ((r1 s).2 : Int), .int .i64 ((r7 s).2 : Int), .int .i64 (1 + ((r5 s).2 : Int)), .int .i64 ((r3 s).2 : Int), .int .i64 ((r9 s).2 : Int), .int .i64 0, .int .i64 0, .int .i64 (((r1 s).1.1 : Nat) : Int), .int .i64 (((r6 s).1 : Nat) : Int), .int .i64 (((r8 s).1 : Nat) : Int), .int .i64 0, .int .i64 0, .int .i64 0] W27) := Lib.hid hH27t
  clear hH27t hH26
  have hc := Tryd.dJust 58 W27
  have JB27l : W27.heap.size = W27.heap.size := rfl
  generalize hJ : W27.heap.size = JB27 at hc
  clear JB27l
  have hJ2 : ∀ W, Below JB27 W27 W → Below W27.heap.size W27 W := fun W h => by rw [hJ]; exact h
  clear hJ
  replace hc := hc.mono (fun e w' h => (⟨h.1, h.2.1, hJ2 w' h.2.2⟩ : _ ∧ _ ∧ _))
  clear hJ2
  refine hc.mono ?_
  rintro e W28 ⟨rfl, hj, hb⟩
  have hH28t := hH27.out.below hb
  clear hc hb
  have hH28 : Hid (Rd wp X RB PB s (r9 s).1 #[.bool true, .int .i64 ((r1 s).2 : Int), .int .i64 ((r7 s).2 : Int), .int .i64 (1 + ((r5 s).2 : Int)), .int .i64 ((r3 s).2 : Int), .int .i64 ((r9 s).2 : Int), .int .i64 0, .int .i64 0, .int .i64 (((r1 s).1.1 : Nat) : Int), .int .i64 (((r6 s).1 : Nat) : Int), .int .i64 (((r8 s).1 : Nat) : Int), .int .i64 0, .int .i64 0, .int .i64 0] W28) := Lib.hid hH28t
  clear hH28t hH27
  obtain ⟨c0, c1, c2, c3, c4, c5⟩ := hH28.out.scn.c
  go_wp2_with fail
  clear c0 c1 c2 c3 c4 c5
  have hc := Tryd.dTake 65 #[.pointer (some ⟨JB27, 0, none⟩)] isCo X s (r9 s).1 W28 Tryd.cfJustK (fun W h c => Tryd.pJust 58 JB27 c W (cell_keep h hj)) hH28.out.scn
  rw [show stk isCo s (r9 s).1 = r10 s from rfl] at hc
  clear hj
  refine hc.mono ?_
  rintro e W29 ⟨rfl, hg, hs⟩
  have hH29t := hH28.out.call hg hs
  clear hc hg hs
  have hH29 : Hid (Rd wp X RB PB s (r10 s) #[.bool true, .int .i64 ((r1 s).2 : Int), .int .i64 ((r7 s).2 : Int), .int .i64 (1 + ((r5 s).2 : Int)), .int .i64 ((r3 s).2 : Int), .int .i64 ((r9 s).2 : Int), .int .i64 0, .int .i64 0, .int .i64 (((r1 s).1.1 : Nat) : Int), .int .i64 (((r6 s).1 : Nat) : Int), .int .i64 (((r8 s).1 : Nat) : Int), .int .i64 0, .int .i64 0, .int .i64 0] W29) := Lib.hid hH29t
  clear hH29t hH28
  obtain ⟨c0, c1, c2, c3, c4, c5⟩ := hH29.out.scn.c
  go_wp2_with fail
  clear c0 c1 c2 c3 c4 c5
  have hc := Tryd.dNumber X s (r10 s) 2 (by omega) W29 hH29.out.scn
  rw [show snum s 2 ((r10 s), 0) = r11 s from rfl] at hc
  refine hc.mono ?_
  rintro e W30 ⟨rfl, hg, hs⟩
  have hH30t := hH29.out.call hg hs
  clear hc hg hs
  have hH30 : Hid (Rd wp X RB PB s (r11 s).1 #[.bool true, .int .i64 ((r1 s).2 : Int), .int .i64 ((r7 s).2 : Int), .int .i64 (1 + ((r5 s).2 : Int)), .int .i64 ((r3 s).2 : Int), .int .i64 ((r9 s).2 : Int), .int .i64 0, .int .i64 0, .int .i64 (((r1 s).1.1 : Nat) : Int), .int .i64 (((r6 s).1 : Nat) : Int), .int .i64 (((r8 s).1 : Nat) : Int), .int .i64 0, .int .i64 0, .int .i64 0] W30) := Lib.hid hH30t
  clear hH30t hH29
  obtain ⟨p6, f6⟩ := hH30.out.cell 6 _ rfl
  obtain ⟨p11, f11⟩ := hH30.out.cell 11 _ rfl
  obtain ⟨c0, c1, c2, c3, c4, c5⟩ := hH30.out.scn.c
  go_wp2_with fail
  clear c0 c1 c2 c3 c4 c5 p6 f6 p11 f11
  have hH31t : Rd wp X RB PB s (r11 s).1 #[.bool true, .int .i64 ((r1 s).2 : Int), .int .i64 ((r7 s).2 : Int), .int .i64 (1 + ((r5 s).2 : Int)), .int .i64 ((r3 s).2 : Int), .int .i64 ((r9 s).2 : Int), .int .i64 ((r11 s).2 : Int), .int .i64 0, .int .i64 (((r1 s).1.1 : Nat) : Int), .int .i64 (((r6 s).1 : Nat) : Int), .int .i64 (((r8 s).1 : Nat) : Int), .int .i64 (((r10 s).1 : Nat) : Int), .int .i64 0, .int .i64 0] ((W30.setCell ⟨PB, 6, none⟩ (.int .i64 ((r11 s).2 : Int))).setCell ⟨PB, 11, none⟩ (.int .i64 (((r10 s).1 : Nat) : Int))) := ((hH30.out.store 6 (.int .i64 ((r11 s).2 : Int))).store 11 (.int .i64 (((r10 s).1 : Nat) : Int)))
  generalize ((W30.setCell ⟨PB, 6, none⟩ (.int .i64 ((r11 s).2 : Int))).setCell ⟨PB, 11, none⟩ (.int .i64 (((r10 s).1 : Nat) : Int))) = W31 at hH31t ⊢
  have hH31 : Hid (Rd wp X RB PB s (r11 s).1 #[.bool true, .int .i64 ((r1 s).2 : Int), .int .i64 ((r7 s).2 : Int), .int .i64 (1 + ((r5 s).2 : Int)), .int .i64 ((r3 s).2 : Int), .int .i64 ((r9 s).2 : Int), .int .i64 ((r11 s).2 : Int), .int .i64 0, .int .i64 (((r1 s).1.1 : Nat) : Int), .int .i64 (((r6 s).1 : Nat) : Int), .int .i64 (((r8 s).1 : Nat) : Int), .int .i64 (((r10 s).1 : Nat) : Int), .int .i64 0, .int .i64 0] W31) := Lib.hid hH31t
  clear hH31t hH30
  have hc := Tryd.dJust 58 W31
  have JB31l : W31.heap.size = W31.heap.size := rfl
  generalize hJ : W31.heap.size = JB31 at hc
  clear JB31l
  have hJ2 : ∀ W, Below JB31 W31 W → Below W31.heap.size W31 W := fun W h => by rw [hJ]; exact h
  clear hJ
  replace hc := hc.mono (fun e w' h => (⟨h.1, h.2.1, hJ2 w' h.2.2⟩ : _ ∧ _ ∧ _))
  clear hJ2
  refine hc.mono ?_
  rintro e W32 ⟨rfl, hj, hb⟩
  have hH32t := hH31.out.below hb
  clear hc hb
  have hH32 : Hid (Rd wp X RB PB s (r11 s).1 #[.bool true, .int .i64 ((r1 s).2 : Int), .int .i64 ((r7 s).2 : Int), .int .i64 (1 + ((r5 s).2 : Int)), .int .i64 ((r3 s).2 : Int), .int .i64 ((r9 s).2 : Int), .int .i64 ((r11 s).2 : Int), .int .i64 0, .int .i64 (((r1 s).1.1 : Nat) : Int), .int .i64 (((r6 s).1 : Nat) : Int), .int .i64 (((r8 s).1 : Nat) : Int), .int .i64 (((r10 s).1 : Nat) : Int), .int .i64 0, .int .i64 0] W32) := Lib.hid hH32t
  clear hH32t hH31
  obtain ⟨c0, c1, c2, c3, c4, c5⟩ := hH32.out.scn.c
  go_wp2_with fail
  clear c0 c1 c2 c3 c4 c5
  have hc := Tryd.dPeek 65 #[.pointer (some ⟨JB31, 0, none⟩)] isCo X s (r11 s).1 W32 Tryd.cfJustK (fun W h c => Tryd.pJust 58 JB31 c W (cell_keep h hj)) hH32.out.scn
  rw [h3' ()] at hc
  clear hj
  refine hc.mono ?_
  rintro e W33 ⟨rfl, hb⟩
  have hH33t := hH32.out.below hb
  clear hc hb
  have hH33 : Hid (Rd wp X RB PB s (r11 s).1 #[.bool true, .int .i64 ((r1 s).2 : Int), .int .i64 ((r7 s).2 : Int), .int .i64 (1 + ((r5 s).2 : Int)), .int .i64 ((r3 s).2 : Int), .int .i64 ((r9 s).2 : Int), .int .i64 ((r11 s).2 : Int), .int .i64 0, .int .i64 (((r1 s).1.1 : Nat) : Int), .int .i64 (((r6 s).1 : Nat) : Int), .int .i64 (((r8 s).1 : Nat) : Int), .int .i64 (((r10 s).1 : Nat) : Int), .int .i64 0, .int .i64 0] W33) := Lib.hid hH33t
  clear hH33t hH32
  obtain ⟨c0, c1, c2, c3, c4, c5⟩ := hH33.out.scn.c
  go_wp2_with fail
  clear c0 c1 c2 c3 c4 c5
  have hH34t : Rd wp X RB PB s (r12 s).1 #[.bool true, .int .i64 ((r1 s).2 : Int), .int .i64 ((r7 s).2 : Int), .int .i64 (1 + ((r5 s).2 : Int)), .int .i64 ((r3 s).2 : Int), .int .i64 ((r9 s).2 : Int), .int .i64 ((r11 s).2 : Int), .int .i64 ((r12 s).2.1 : Int), .int .i64 (((r1 s).1.1 : Nat) : Int), .int .i64 (((r6 s).1 : Nat) : Int), .int .i64 (((r8 s).1 : Nat) : Int), .int .i64 (((r10 s).1 : Nat) : Int), .int .i64 ((r12 s).2.2 : Int), .int .i64 0] W33 := by
    rw [e12 ()]
    try dsimp only
    exact hH33.out
  have hH34 : Hid (Rd wp X RB PB s (r12 s).1 #[.bool true, .int .i64 ((r1 s).2 : Int), .int .i64 ((r7 s).2 : Int), .int .i64 (1 + ((r5 s).2 : Int)), .int .i64 ((r3 s).2 : Int), .int .i64 ((r9 s).2 : Int), .int .i64 ((r11 s).2 : Int), .int .i64 ((r12 s).2.1 : Int), .int .i64 (((r1 s).1.1 : Nat) : Int), .int .i64 (((r6 s).1 : Nat) : Int), .int .i64 (((r8 s).1 : Nat) : Int), .int .i64 (((r10 s).1 : Nat) : Int), .int .i64 ((r12 s).2.2 : Int), .int .i64 0] W33) := Lib.hid hH34t
  clear hH34t hH33
  have hc := Tryd.dBlanks X s (r12 s).1 false W33 hH34.out.scn
  rw [show sbl false s (r12 s).1 = r13 s from rfl] at hc
  refine hc.mono ?_
  rintro e W35 ⟨rfl, hg, hs⟩
  have hH35t := hH34.out.call hg hs
  clear hc hg hs
  have hH35 : Hid (Rd wp X RB PB s (r13 s) #[.bool true, .int .i64 ((r1 s).2 : Int), .int .i64 ((r7 s).2 : Int), .int .i64 (1 + ((r5 s).2 : Int)), .int .i64 ((r3 s).2 : Int), .int .i64 ((r9 s).2 : Int), .int .i64 ((r11 s).2 : Int), .int .i64 ((r12 s).2.1 : Int), .int .i64 (((r1 s).1.1 : Nat) : Int), .int .i64 (((r6 s).1 : Nat) : Int), .int .i64 (((r8 s).1 : Nat) : Int), .int .i64 (((r10 s).1 : Nat) : Int), .int .i64 ((r12 s).2.2 : Int), .int .i64 0] W35) := Lib.hid hH35t
  clear hH35t hH34
  obtain ⟨c0, c1, c2, c3, c4, c5⟩ := hH35.out.scn.c
  go_wp2_with fail
  clear c0 c1 c2 c3 c4 c5
  obtain ⟨n, e, hne⟩ : ∃ n e, r13 s = (n, e) := ⟨(r13 s).1, (r13 s).2, (Prod.eta _).symm⟩
  have hS : Rd wp X RB PB s (n, e) #[.bool true, .int .i64 ((r1 s).2 : Int), .int .i64 ((r7 s).2 : Int), .int .i64 (1 + ((r5 s).2 : Int)), .int .i64 ((r3 s).2 : Int), .int .i64 ((r9 s).2 : Int), .int .i64 ((r11 s).2 : Int), .int .i64 ((r12 s).2.1 : Int), .int .i64 (((r1 s).1.1 : Nat) : Int), .int .i64 (((r6 s).1 : Nat) : Int), .int .i64 (((r8 s).1 : Nat) : Int), .int .i64 (((r10 s).1 : Nat) : Int), .int .i64 ((r12 s).2.2 : Int), .int .i64 0] W35 := by rw [← hne]; exact hH35.out
  have hne' := fun (_ : Unit) => hne
  have hnz : n ≤ s.size := hS.scn.2.1
  have hz64 : s.size ≤ 64 := hS.scn.2.2
  have hHS := Lib.hid hS
  clear hne hS hH35
  by_cases he : e = 0
  · subst he
    by_cases hn : n = s.size
    · subst hn
      have hA0 : Hid (Rd wp X RB PB s (s.size, 0) #[.bool true, .int .i64 ((r1 s).2 : Int), .int .i64 ((r7 s).2 : Int), .int .i64 (1 + ((r5 s).2 : Int)), .int .i64 ((r3 s).2 : Int), .int .i64 ((r9 s).2 : Int), .int .i64 ((r11 s).2 : Int), .int .i64 ((r12 s).2.1 : Int), .int .i64 (((r1 s).1.1 : Nat) : Int), .int .i64 (((r6 s).1 : Nat) : Int), .int .i64 (((r8 s).1 : Nat) : Int), .int .i64 (((r10 s).1 : Nat) : Int), .int .i64 ((r12 s).2.2 : Int), .int .i64 0] W35) := hHS
      clear hHS
      obtain ⟨C, q1, q2, q4⟩ : ∃ C : World → Prop, C W35 ∧ (∀ V, C V → Below W35.heap.size W35 V) ∧ (∀ V, C V → C { V with drawn := V.drawn + 1 }) := ⟨fun V => Below W35.heap.size W35 V, Below.refl _ _, fun V h => h, fun V h => h.drew⟩
      have k0 : Hid (∀ V, C V → V.cell? ⟨X, 0, none⟩ = some (.string s)) := Lib.hid (fun V hV => (hA0.out.scn.below (q2 V hV)).c.1)
      have k1 : Hid (∀ V, C V → V.cell? ⟨X, 1, none⟩ = some (.int .i64 (s.size : Int))) := Lib.hid (fun V hV => (hA0.out.scn.below (q2 V hV)).c.2.1)
      have k2 : Hid (∀ V, C V → V.cell? ⟨X, 2, none⟩ = some (.int .i64 ((0 : Nat) : Int))) := Lib.hid (fun V hV => (hA0.out.scn.below (q2 V hV)).c.2.2.1)
      have hC1 := Lib.hid q1
      have hCV := Lib.hid q2
      have hCd := Lib.hid q4
      clear q1 q2 q4
      have g1 : ((s.size : Int) == (s.size : Int)) = true := beq_self_eq_true _
      refine q_region C (by kernel_rfl) (by kernel_rfl) (hCd.out _ hC1.out) ?_
      repeat (first
        | (with_reducible refine q_off ?_ ?_
           · rfl
           try simp only [Act.put, List.getElem_toArray, List.getElem_cons_zero, List.getElem_cons_succ, List.setIfInBounds_toArray, List.set_cons_zero, List.set_cons_succ])
        | (with_reducible refine q_lds2 Tryd.isAgg9 ?_ ?_ ⟨X, 0, none⟩ ?_ (.string s) k0.out ?_
           · rfl
           · rfl
           · rfl
           try simp only [Act.put, List.getElem_toArray, List.getElem_cons_zero, List.getElem_cons_succ, List.setIfInBounds_toArray, List.set_cons_zero, List.set_cons_succ])
        | (with_reducible refine q_lds2 Tryd.isAgg3 ?_ ?_ ⟨X, 1, none⟩ ?_ (.int .i64 (s.size : Int)) k1.out ?_
           · rfl
           · rfl
           · rfl
           try simp only [Act.put, List.getElem_toArray, List.getElem_cons_zero, List.getElem_cons_succ, List.setIfInBounds_toArray, List.set_cons_zero, List.set_cons_succ])
        | (with_reducible refine q_lds2 Tryd.isAgg25 ?_ ?_ ⟨X, 2, none⟩ ?_ (.int .i64 ((0 : Nat) : Int)) k2.out ?_
           · rfl
           · rfl
           · rfl
           try simp only [Act.put, List.getElem_toArray, List.getElem_cons_zero, List.getElem_cons_succ, List.setIfInBounds_toArray, List.set_cons_zero, List.set_cons_succ])
        | (with_reducible refine wpQuiet_step ?_
           intro K hK
           go_simp
           first
           | (refine hK _ ?_; clear hK K)
           | (apply Exists.intro
              refine ⟨fun W hW => ?_, hK _ ?_⟩
              first
              | exact rfl
              | exact ⟨rfl, rfl⟩
              clear hK K)))
      refine wpQuiet_nil ?_
      intro V1 h1V1

      have hR1t := hA0.out.below (hCV.out V1 h1V1)
      have hR1u := Lib.hid hR1t
      clear hR1t h1V1 hC1 k0 k1 k2 hCV hCd hA0
      have hA1 : Hid (Rd wp X RB PB s (s.size, 0) #[.bool true, .int .i64 ((r1 s).2 : Int), .int .i64 ((r7 s).2 : Int), .int .i64 (1 + ((r5 s).2 : Int)), .int .i64 ((r3 s).2 : Int), .int .i64 ((r9 s).2 : Int), .int .i64 ((r11 s).2 : Int), .int .i64 ((r12 s).2.1 : Int), .int .i64 (((r1 s).1.1 : Nat) : Int), .int .i64 (((r6 s).1 : Nat) : Int), .int .i64 (((r8 s).1 : Nat) : Int), .int .i64 (((r10 s).1 : Nat) : Int), .int .i64 ((r12 s).2.2 : Int), .int .i64 0] V1) := hR1u
      clear hR1u
      obtain ⟨c0, c1, c2, c3, c4, c5⟩ := hA1.out.scn.c
      try dsimp only at c1 c2
      go_wp2_with fail
      clear c0 c1 c2 c3 c4 c5 g1
      have hc := Tryd.dFail X s (s.size, 0) s.size 4 V1 hA1.out.scn hnz
      rw [show sf (s.size, 0) s.size 4 = (s.size, 4) from rfl] at hc
      refine hc.mono ?_
      rintro e V2 ⟨rfl, hg, hs⟩
      have hR1t := hA1.out.call hg hs
      have hR1u := Lib.hid hR1t
      clear hR1t hc hg hs hA1
      have e15 : Unit → r15 s = ((s.size, 4), 0) := fun _ => by
        have h14 : r14 s = (s.size, 4) := by unfold r14; rw [hne' (), if_pos ⟨rfl, rfl⟩]
        unfold r15
        rw [h14, if_neg (show ¬ (4 : Nat) = 0 by decide)]
      have hR1 : Hid (Rd wp X RB PB s (s.size, 4) #[.bool true, .int .i64 ((r1 s).2 : Int), .int .i64 ((r7 s).2 : Int), .int .i64 (1 + ((r5 s).2 : Int)), .int .i64 ((r3 s).2 : Int), .int .i64 ((r9 s).2 : Int), .int .i64 ((r11 s).2 : Int), .int .i64 ((r12 s).2.1 : Int), .int .i64 (((r1 s).1.1 : Nat) : Int), .int .i64 (((r6 s).1 : Nat) : Int), .int .i64 (((r8 s).1 : Nat) : Int), .int .i64 (((r10 s).1 : Nat) : Int), .int .i64 ((r12 s).2.2 : Int), .int .i64 0] V2) := hR1u
      obtain ⟨c0, c1, c2, c3, c4, c5⟩ := hR1.out.scn.c
      try dsimp only at c1 c2
      obtain ⟨p0, f0⟩ := hR1.out.cell 0 _ rfl
      obtain ⟨p1, f1⟩ := hR1.out.cell 1 _ rfl
      obtain ⟨p2, f2⟩ := hR1.out.cell 2 _ rfl
      obtain ⟨p3, f3⟩ := hR1.out.cell 3 _ rfl
      obtain ⟨p4, f4⟩ := hR1.out.cell 4 _ rfl
      obtain ⟨p5, f5⟩ := hR1.out.cell 5 _ rfl
      obtain ⟨p6, f6⟩ := hR1.out.cell 6 _ rfl
      obtain ⟨p7, f7⟩ := hR1.out.cell 7 _ rfl
      obtain ⟨p8, f8⟩ := hR1.out.cell 8 _ rfl
      obtain ⟨p9, f9⟩ := hR1.out.cell 9 _ rfl
      obtain ⟨p10, f10⟩ := hR1.out.cell 10 _ rfl
      obtain ⟨p11, f11⟩ := hR1.out.cell 11 _ rfl
      obtain ⟨p12, f12⟩ := hR1.out.cell 12 _ rfl
      obtain ⟨p13, f13⟩ := hR1.out.cell 13 _ rfl
      obtain ⟨q0, g0⟩ := hR1.out.rcell 0 _ rfl
      obtain ⟨q1, g1⟩ := hR1.out.rcell 1 _ rfl
      obtain ⟨q2, g2⟩ := hR1.out.rcell 2 _ rfl
      obtain ⟨q3, g3⟩ := hR1.out.rcell 3 _ rfl
      obtain ⟨q4, g4⟩ := hR1.out.rcell 4 _ rfl
      obtain ⟨q5, g5⟩ := hR1.out.rcell 5 _ rfl
      obtain ⟨q6, g6⟩ := hR1.out.rcell 6 _ rfl
      obtain ⟨q7, g7⟩ := hR1.out.rcell 7 _ rfl
      obtain ⟨q8, g8⟩ := hR1.out.rcell 8 _ rfl
      obtain ⟨q9, g9⟩ := hR1.out.rcell 9 _ rfl
      obtain ⟨q10, g10⟩ := hR1.out.rcell 10 _ rfl
      obtain ⟨q11, g11⟩ := hR1.out.rcell 11 _ rfl
      obtain ⟨q12, g12⟩ := hR1.out.rcell 12 _ rfl
      obtain ⟨q13, g13⟩ := hR1.out.rcell 13 _ rfl
      go_wp2_with fail
      clear c0 c1 c2 c3 c4 c5 p0 f0 q0 g0 p1 f1 q1 g1 p2 f2 q2 g2 p3 f3 q3 g3 p4 f4 q4 g4 p5 f5 q5 g5 p6 f6 q6 g6 p7 f7 q7 g7 p8 f8 q8 g8 p9 f9 q9 g9 p10 f10 q10 g10 p11 f11 q11 g11 p12 f12 q12 g12 p13 f13 q13 g13
      obtain ⟨hF, hG, hB⟩ := hR1.out.fin (.bool true) (.int .i64 ((r1 s).2 : Int)) (.int .i64 ((r7 s).2 : Int)) (.int .i64 (1 + ((r5 s).2 : Int))) (.int .i64 ((r3 s).2 : Int)) (.int .i64 ((r9 s).2 : Int)) (.int .i64 ((r11 s).2 : Int)) (.int .i64 ((r12 s).2.1 : Int)) (.int .i64 (((r1 s).1.1 : Nat) : Int)) (.int .i64 (((r6 s).1 : Nat) : Int)) (.int .i64 (((r8 s).1 : Nat) : Int)) (.int .i64 (((r10 s).1 : Nat) : Int)) (.int .i64 ((r12 s).2.2 : Int)) (.int .i64 0) rfl
      generalize ((((((((((((((V2.setCell ⟨RB, 0, none⟩ (.bool true)).setCell ⟨RB, 1, none⟩ (.int .i64 ((r1 s).2 : Int))).setCell ⟨RB, 2, none⟩ (.int .i64 ((r7 s).2 : Int))).setCell ⟨RB, 3, none⟩ (.int .i64 (1 + ((r5 s).2 : Int)))).setCell ⟨RB, 4, none⟩ (.int .i64 ((r3 s).2 : Int))).setCell ⟨RB, 5, none⟩ (.int .i64 ((r9 s).2 : Int))).setCell ⟨RB, 6, none⟩ (.int .i64 ((r11 s).2 : Int))).setCell ⟨RB, 7, none⟩ (.int .i64 ((r12 s).2.1 : Int))).setCell ⟨RB, 8, none⟩ (.int .i64 (((r1 s).1.1 : Nat) : Int))).setCell ⟨RB, 9, none⟩ (.int .i64 (((r6 s).1 : Nat) : Int))).setCell ⟨RB, 10, none⟩ (.int .i64 (((r8 s).1 : Nat) : Int))).setCell ⟨RB, 11, none⟩ (.int .i64 (((r10 s).1 : Nat) : Int))).setCell ⟨RB, 12, none⟩ (.int .i64 ((r12 s).2.2 : Int))).setCell ⟨RB, 13, none⟩ (.int .i64 0)) = WF at hF hG hB ⊢
      obtain ⟨z0, z1, z2, z3, z4, z5, z6, z7, z8, z9, z10, z11, z12, z13⟩ := cells14 hF
      clear hF
      refine bodyPost_ret (v := rv s) ?_ rfl ⟨rfl, hB, ?_⟩
      · simp [results, Tryd.results38, go_sem, z0, z1, z2, z3, z4, z5, z6, z7, z8, z9, z10, z11, z12, z13]
        unfold rv
        simp only [hn' (), e15 ()]
      · rw [e15 ()]
        exact hG
    · have hB0 : Hid (Rd wp X RB PB s (n, 0) #[.bool true, .int .i64 ((r1 s).2 : Int), .int .i64 ((r7 s).2 : Int), .int .i64 (1 + ((r5 s).2 : Int)), .int .i64 ((r3 s).2 : Int), .int .i64 ((r9 s).2 : Int), .int .i64 ((r11 s).2 : Int), .int .i64 ((r12 s).2.1 : Int), .int .i64 (((r1 s).1.1 : Nat) : Int), .int .i64 (((r6 s).1 : Nat) : Int), .int .i64 (((r8 s).1 : Nat) : Int), .int .i64 (((r10 s).1 : Nat) : Int), .int .i64 ((r12 s).2.2 : Int), .int .i64 0] W35) := hHS
      clear hHS
      obtain ⟨C, q1, q2, q4⟩ : ∃ C : World → Prop, C W35 ∧ (∀ V, C V → Below W35.heap.size W35 V) ∧ (∀ V, C V → C { V with drawn := V.drawn + 1 }) := ⟨fun V => Below W35.heap.size W35 V, Below.refl _ _, fun V h => h, fun V h => h.drew⟩
      have k0 : Hid (∀ V, C V → V.cell? ⟨X, 0, none⟩ = some (.string s)) := Lib.hid (fun V hV => (hB0.out.scn.below (q2 V hV)).c.1)
      have k1 : Hid (∀ V, C V → V.cell? ⟨X, 1, none⟩ = some (.int .i64 (n : Int))) := Lib.hid (fun V hV => (hB0.out.scn.below (q2 V hV)).c.2.1)
      have k2 : Hid (∀ V, C V → V.cell? ⟨X, 2, none⟩ = some (.int .i64 ((0 : Nat) : Int))) := Lib.hid (fun V hV => (hB0.out.scn.below (q2 V hV)).c.2.2.1)
      have hC1 := Lib.hid q1
      have hCV := Lib.hid q2
      have hCd := Lib.hid q4
      clear q1 q2 q4
      have g1 : ((n : Int) == (s.size : Int)) = false := beq_false_of_ne (by omega)
      refine q_region C (by kernel_rfl) (by kernel_rfl) (hCd.out _ hC1.out) ?_
      repeat (first
        | (with_reducible refine q_off ?_ ?_
           · rfl
           try simp only [Act.put, List.getElem_toArray, List.getElem_cons_zero, List.getElem_cons_succ, List.setIfInBounds_toArray, List.set_cons_zero, List.set_cons_succ])
        | (with_reducible refine q_lds2 Tryd.isAgg9 ?_ ?_ ⟨X, 0, none⟩ ?_ (.string s) k0.out ?_
           · rfl
           · rfl
           · rfl
           try simp only [Act.put, List.getElem_toArray, List.getElem_cons_zero, List.getElem_cons_succ, List.setIfInBounds_toArray, List.set_cons_zero, List.set_cons_succ])
        | (with_reducible refine q_lds2 Tryd.isAgg3 ?_ ?_ ⟨X, 1, none⟩ ?_ (.int .i64 (n : Int)) k1.out ?_
           · rfl
           · rfl
           · rfl
           try simp only [Act.put, List.getElem_toArray, List.getElem_cons_zero, List.getElem_cons_succ, List.setIfInBounds_toArray, List.set_cons_zero, List.set_cons_succ])
        | (with_reducible refine q_lds2 Tryd.isAgg25 ?_ ?_ ⟨X, 2, none⟩ ?_ (.int .i64 ((0 : Nat) : Int)) k2.out ?_
           · rfl
           · rfl
           · rfl
           try simp only [Act.put, List.getElem_toArray, List.getElem_cons_zero, List.getElem_cons_succ, List.setIfInBounds_toArray, List.set_cons_zero, List.set_cons_succ])
        | (with_reducible refine wpQuiet_step ?_
           intro K hK
           go_simp
           first
           | (refine hK _ ?_; clear hK K)
           | (apply Exists.intro
              refine ⟨fun W hW => ?_, hK _ ?_⟩
              first
              | exact rfl
              | exact ⟨rfl, rfl⟩
              clear hK K)))
      refine wpQuiet_nil ?_
      intro V1 h1V1

      have hR1t := hB0.out.below (hCV.out V1 h1V1)
      have hR1u := Lib.hid hR1t
      clear hR1t h1V1 hC1 k0 k1 k2 hCV hCd hB0
      have hB1 : Hid (Rd wp X RB PB s (n, 0) #[.bool true, .int .i64 ((r1 s).2 : Int), .int .i64 ((r7 s).2 : Int), .int .i64 (1 + ((r5 s).2 : Int)), .int .i64 ((r3 s).2 : Int), .int .i64 ((r9 s).2 : Int), .int .i64 ((r11 s).2 : Int), .int .i64 ((r12 s).2.1 : Int), .int .i64 (((r1 s).1.1 : Nat) : Int), .int .i64 (((r6 s).1 : Nat) : Int), .int .i64 (((r8 s).1 : Nat) : Int), .int .i64 (((r10 s).1 : Nat) : Int), .int .i64 ((r12 s).2.2 : Int), .int .i64 0] V1) := hR1u
      clear hR1u
      obtain ⟨c0, c1, c2, c3, c4, c5⟩ := hB1.out.scn.c
      try dsimp only at c1 c2
      go_wp2_with fail
      clear c0 c1 c2 c3 c4 c5 g1
      have hzs : (s.extract n s.size).size ≤ 64 := by simp [ByteArray.size_extract]; omega
      obtain ⟨za, zb, hz⟩ : ∃ za zb, zone (s.extract n s.size) = (za, zb) := ⟨(zone (s.extract n s.size)).1, (zone (s.extract n s.size)).2, (Prod.eta _).symm⟩
      obtain ⟨C, q1, q2, q3, q4⟩ : ∃ C : World → Prop, C V1 ∧ (∀ V, C V → Below V1.heap.size V1 V) ∧ (∀ W W', C W → Below W.heap.size W W' → C W') ∧ (∀ V, C V → C { V with drawn := V.drawn + 1 }) := ⟨fun V => Below V1.heap.size V1 V, Below.refl _ _, fun V h => h, fun W W' h hb => h.trans (hb.mono h.size), fun V h => h.drew⟩
      have k0 : Hid (∀ V, C V → V.cell? ⟨X, 0, none⟩ = some (.string s)) := Lib.hid (fun V hV => (hB1.out.scn.below (q2 V hV)).c.1)
      have k1 : Hid (∀ V, C V → V.cell? ⟨X, 1, none⟩ = some (.int .i64 (n : Int))) := Lib.hid (fun V hV => (hB1.out.scn.below (q2 V hV)).c.2.1)
      have k2 : Hid (∀ V, C V → V.cell? ⟨X, 2, none⟩ = some (.int .i64 ((0 : Nat) : Int))) := Lib.hid (fun V hV => (hB1.out.scn.below (q2 V hV)).c.2.2.1)
      have h1 : Hid (∀ W, C W → Calls Tryd.prog 55 #[.string (s.extract n s.size)] W fun e w' => e = .returned (.tuple #[.int .i64 za, .int .i64 (zb : Int)]) ∧ C w') := Lib.hid fun W hW => by
        have h := Tryd.dZone (s.extract n s.size) hzs W (hB1.out.T.below (q2 W hW))
        rw [hz] at h
        exact h.mono fun e w' h => ⟨h.1, q3 _ _ hW h.2⟩
      have hz' := fun (_ : Unit) => hz
      have hC1 := Lib.hid q1
      have hCV := Lib.hid q2
      have hCd := Lib.hid q4
      clear q1 q2 q3 q4 hz hzs
      generalize hex : s.extract n s.size = zs at h1 hz'
      have hex' := fun (_ : Unit) => hex
      refine q_region C (by kernel_rfl) (by kernel_rfl) (hCd.out _ hC1.out) ?_
      repeat (first
        | (with_reducible refine q_off ?_ ?_
           · rfl
           try simp only [Act.put, List.getElem_toArray, List.getElem_cons_zero, List.getElem_cons_succ, List.setIfInBounds_toArray, List.set_cons_zero, List.set_cons_succ])
        | (with_reducible refine q_lds2 Tryd.isAgg9 ?_ ?_ ⟨X, 0, none⟩ ?_ (.string s) k0.out ?_
           · rfl
           · rfl
           · rfl
           try simp only [Act.put, List.getElem_toArray, List.getElem_cons_zero, List.getElem_cons_succ, List.setIfInBounds_toArray, List.set_cons_zero, List.set_cons_succ])
        | (with_reducible refine q_lds2 Tryd.isAgg3 ?_ ?_ ⟨X, 1, none⟩ ?_ (.int .i64 (n : Int)) k1.out ?_
           · rfl
           · rfl
           · rfl
           try simp only [Act.put, List.getElem_toArray, List.getElem_cons_zero, List.getElem_cons_succ, List.setIfInBounds_toArray, List.set_cons_zero, List.set_cons_succ])
        | (with_reducible refine q_lds2 Tryd.isAgg25 ?_ ?_ ⟨X, 2, none⟩ ?_ (.int .i64 ((0 : Nat) : Int)) k2.out ?_
           · rfl
           · rfl
           · rfl
           try simp only [Act.put, List.getElem_toArray, List.getElem_cons_zero, List.getElem_cons_succ, List.setIfInBounds_toArray, List.set_cons_zero, List.set_cons_succ])
        | (with_reducible refine wpQuiet_step ?_
           intro K hK
           go_simp
           first
           | (refine hK _ ?_; clear hK K)
           | (apply Exists.intro
              refine ⟨fun W hW => ?_, hK _ ?_⟩
              first
              | exact rfl
              | exact ⟨rfl, rfl⟩
              | (with_reducible exact h1.out W hW)
              clear hK K)))
      refine wpQuiet_nil ?_
      intro V2 h1V2
      obtain ⟨bz, gz, gz'⟩ : ∃ bz, ((zb : Int) == 0) = bz ∧ (Unit → decide (zb = 0) = bz) := ⟨decide (zb = 0), by rw [Bool.eq_iff_iff]; simp, fun _ => rfl⟩
      have hR1t := hB1.out.below (hCV.out V2 h1V2)
      clear h1V2 hC1 k0 k1 k2 hCV hCd h1 hex
      have hB2 : Hid (Rd wp X RB PB s (n, 0) #[.bool true, .int .i64 ((r1 s).2 : Int), .int .i64 ((r7 s).2 : Int), .int .i64 (1 + ((r5 s).2 : Int)), .int .i64 ((r3 s).2 : Int), .int .i64 ((r9 s).2 : Int), .int .i64 ((r11 s).2 : Int), .int .i64 ((r12 s).2.1 : Int), .int .i64 (((r1 s).1.1 : Nat) : Int), .int .i64 (((r6 s).1 : Nat) : Int), .int .i64 (((r8 s).1 : Nat) : Int), .int .i64 (((r10 s).1 : Nat) : Int), .int .i64 ((r12 s).2.2 : Int), .int .i64 0] V2) := Lib.hid hR1t
      clear hR1t hB1
      obtain ⟨c0, c1, c2, c3, c4, c5⟩ := hB2.out.scn.c
      try dsimp only at c1 c2
      obtain ⟨p13, f13⟩ := hB2.out.cell 13 _ rfl
      go_wp2_with fail
      clear c0 c1 c2 c3 c4 c5 p13 f13 gz
      have hH201t : Rd wp X RB PB s (n, 0) #[.bool true, .int .i64 ((r1 s).2 : Int), .int .i64 ((r7 s).2 : Int), .int .i64 (1 + ((r5 s).2 : Int)), .int .i64 ((r3 s).2 : Int), .int .i64 ((r9 s).2 : Int), .int .i64 ((r11 s).2 : Int), .int .i64 ((r12 s).2.1 : Int), .int .i64 (((r1 s).1.1 : Nat) : Int), .int .i64 (((r6 s).1 : Nat) : Int), .int .i64 (((r8 s).1 : Nat) : Int), .int .i64 (((r10 s).1 : Nat) : Int), .int .i64 ((r12 s).2.2 : Int), .int .i64 za] (V2.setCell ⟨PB, 13, none⟩ (.int .i64 za)) := (hB2.out.store 13 (.int .i64 za))
      generalize (V2.setCell ⟨PB, 13, none⟩ (.int .i64 za)) = W201 at hH201t ⊢
      have hH201 : Hid (Rd wp X RB PB s (n, 0) #[.bool true, .int .i64 ((r1 s).2 : Int), .int .i64 ((r7 s).2 : Int), .int .i64 (1 + ((r5 s).2 : Int)), .int .i64 ((r3 s).2 : Int), .int .i64 ((r9 s).2 : Int), .int .i64 ((r11 s).2 : Int), .int .i64 ((r12 s).2.1 : Int), .int .i64 (((r1 s).1.1 : Nat) : Int), .int .i64 (((r6 s).1 : Nat) : Int), .int .i64 (((r8 s).1 : Nat) : Int), .int .i64 (((r10 s).1 : Nat) : Int), .int .i64 ((r12 s).2.2 : Int), .int .i64 za] W201) := Lib.hid hH201t
      clear hH201t hB2
      have hc := Tryd.dCheck X s (n, 0) bz n zb W201 hH201.out.scn hnz
      refine hc.mono ?_
      rintro e V3 ⟨rfl, hg, hs⟩
      have hR1t := hH201.out.call hg hs
      have hR1u := Lib.hid hR1t
      clear hR1t hc hg hs hH201
      have e15 : Unit → r15 s = (sck (n, 0) bz n zb, za) := fun _ => by
        have h14 : r14 s = (n, 0) := by unfold r14; rw [hne' (), if_neg (fun h => hn h.2)]
        unfold r15
        rw [h14, if_pos rfl]
        show (sck (n, 0) (decide ((zone (s.extract n s.size)).2 = 0)) n (zone (s.extract n s.size)).2, (zone (s.extract n s.size)).1) = _
        rw [hex' (), hz' ()]
        show (sck (n, 0) (decide (zb = 0)) n zb, za) = _
        rw [gz' ()]
      have hR1 : Hid (Rd wp X RB PB s (sck (n, 0) bz n zb) #[.bool true, .int .i64 ((r1 s).2 : Int), .int .i64 ((r7 s).2 : Int), .int .i64 (1 + ((r5 s).2 : Int)), .int .i64 ((r3 s).2 : Int), .int .i64 ((r9 s).2 : Int), .int .i64 ((r11 s).2 : Int), .int .i64 ((r12 s).2.1 : Int), .int .i64 (((r1 s).1.1 : Nat) : Int), .int .i64 (((r6 s).1 : Nat) : Int), .int .i64 (((r8 s).1 : Nat) : Int), .int .i64 (((r10 s).1 : Nat) : Int), .int .i64 ((r12 s).2.2 : Int), .int .i64 za] V3) := hR1u
      obtain ⟨c0, c1, c2, c3, c4, c5⟩ := hR1.out.scn.c
      try dsimp only at c1 c2
      obtain ⟨p0, f0⟩ := hR1.out.cell 0 _ rfl
      obtain ⟨p1, f1⟩ := hR1.out.cell 1 _ rfl
      obtain ⟨p2, f2⟩ := hR1.out.cell 2 _ rfl
      obtain ⟨p3, f3⟩ := hR1.out.cell 3 _ rfl
      obtain ⟨p4, f4⟩ := hR1.out.cell 4 _ rfl
      obtain ⟨p5, f5⟩ := hR1.out.cell 5 _ rfl
      obtain ⟨p6, f6⟩ := hR1.out.cell 6 _ rfl
      obtain ⟨p7, f7⟩ := hR1.out.cell 7 _ rfl
      obtain ⟨p8, f8⟩ := hR1.out.cell 8 _ rfl
      obtain ⟨p9, f9⟩ := hR1.out.cell 9 _ rfl
      obtain ⟨p10, f10⟩ := hR1.out.cell 10 _ rfl
      obtain ⟨p11, f11⟩ := hR1.out.cell 11 _ rfl
      obtain ⟨p12, f12⟩ := hR1.out.cell 12 _ rfl
      obtain ⟨p13, f13⟩ := hR1.out.cell 13 _ rfl
      obtain ⟨q0, g0⟩ := hR1.out.rcell 0 _ rfl
      obtain ⟨q1, g1⟩ := hR1.out.rcell 1 _ rfl
      obtain ⟨q2, g2⟩ := hR1.out.rcell 2 _ rfl
      obtain ⟨q3, g3⟩ := hR1.out.rcell 3 _ rfl
      obtain ⟨q4, g4⟩ := hR1.out.rcell 4 _ rfl
      obtain ⟨q5, g5⟩ := hR1.out.rcell 5 _ rfl
      obtain ⟨q6, g6⟩ := hR1.out.rcell 6 _ rfl
      obtain ⟨q7, g7⟩ := hR1.out.rcell 7 _ rfl
      obtain ⟨q8, g8⟩ := hR1.out.rcell 8 _ rfl
      obtain ⟨q9, g9⟩ := hR1.out.rcell 9 _ rfl
      obtain ⟨q10, g10⟩ := hR1.out.rcell 10 _ rfl
      obtain ⟨q11, g11⟩ := hR1.out.rcell 11 _ rfl
      obtain ⟨q12, g12⟩ := hR1.out.rcell 12 _ rfl
      obtain ⟨q13, g13⟩ := hR1.out.rcell 13 _ rfl
      go_wp2_with fail
      clear c0 c1 c2 c3 c4 c5 p0 f0 q0 g0 p1 f1 q1 g1 p2 f2 q2 g2 p3 f3 q3 g3 p4 f4 q4 g4 p5 f5 q5 g5 p6 f6 q6 g6 p7 f7 q7 g7 p8 f8 q8 g8 p9 f9 q9 g9 p10 f10 q10 g10 p11 f11 q11 g11 p12 f12 q12 g12 p13 f13 q13 g13
      obtain ⟨hF, hG, hB⟩ := hR1.out.fin (.bool true) (.int .i64 ((r1 s).2 : Int)) (.int .i64 ((r7 s).2 : Int)) (.int .i64 (1 + ((r5 s).2 : Int))) (.int .i64 ((r3 s).2 : Int)) (.int .i64 ((r9 s).2 : Int)) (.int .i64 ((r11 s).2 : Int)) (.int .i64 ((r12 s).2.1 : Int)) (.int .i64 (((r1 s).1.1 : Nat) : Int)) (.int .i64 (((r6 s).1 : Nat) : Int)) (.int .i64 (((r8 s).1 : Nat) : Int)) (.int .i64 (((r10 s).1 : Nat) : Int)) (.int .i64 ((r12 s).2.2 : Int)) (.int .i64 za) rfl
      generalize ((((((((((((((V3.setCell ⟨RB, 0, none⟩ (.bool true)).setCell ⟨RB, 1, none⟩ (.int .i64 ((r1 s).2 : Int))).setCell ⟨RB, 2, none⟩ (.int .i64 ((r7 s).2 : Int))).setCell ⟨RB, 3, none⟩ (.int .i64 (1 + ((r5 s).2 : Int)))).setCell ⟨RB, 4, none⟩ (.int .i64 ((r3 s).2 : Int))).setCell ⟨RB, 5, none⟩ (.int .i64 ((r9 s).2 : Int))).setCell ⟨RB, 6, none⟩ (.int .i64 ((r11 s).2 : Int))).setCell ⟨RB, 7, none⟩ (.int .i64 ((r12 s).2.1 : Int))).setCell ⟨RB, 8, none⟩ (.int .i64 (((r1 s).1.1 : Nat) : Int))).setCell ⟨RB, 9, none⟩ (.int .i64 (((r6 s).1 : Nat) : Int))).setCell ⟨RB, 10, none⟩ (.int .i64 (((r8 s).1 : Nat) : Int))).setCell ⟨RB, 11, none⟩ (.int .i64 (((r10 s).1 : Nat) : Int))).setCell ⟨RB, 12, none⟩ (.int .i64 ((r12 s).2.2 : Int))).setCell ⟨RB, 13, none⟩ (.int .i64 za)) = WF at hF hG hB ⊢
      obtain ⟨z0, z1, z2, z3, z4, z5, z6, z7, z8, z9, z10, z11, z12, z13⟩ := cells14 hF
      clear hF
      refine bodyPost_ret (v := rv s) ?_ rfl ⟨rfl, hB, ?_⟩
      · simp [results, Tryd.results38, go_sem, z0, z1, z2, z3, z4, z5, z6, z7, z8, z9, z10, z11, z12, z13]
        unfold rv
        simp only [hn' (), e15 ()]
      · rw [e15 ()]
        exact hG
  · obtain ⟨C, q1, q2, q4⟩ : ∃ C : World → Prop, C W35 ∧ (∀ V, C V → Below W35.heap.size W35 V) ∧ (∀ V, C V → C { V with drawn := V.drawn + 1 }) := ⟨fun V => Below W35.heap.size W35 V, Below.refl _ _, fun V h => h, fun V h => h.drew⟩
    have k0 : Hid (∀ V, C V → V.cell? ⟨X, 0, none⟩ = some (.string s)) := Lib.hid (fun V hV => (hHS.out.scn.below (q2 V hV)).c.1)
    have k1 : Hid (∀ V, C V → V.cell? ⟨X, 1, none⟩ = some (.int .i64 (n : Int))) := Lib.hid (fun V hV => (hHS.out.scn.below (q2 V hV)).c.2.1)
    have k2 : Hid (∀ V, C V → V.cell? ⟨X, 2, none⟩ = some (.int .i64 (e : Int))) := Lib.hid (fun V hV => (hHS.out.scn.below (q2 V hV)).c.2.2.1)
    have hC1 := Lib.hid q1
    have hCV := Lib.hid q2
    have hCd := Lib.hid q4
    clear q1 q2 q4
    have g1 : ((e : Int) == 0) = false := beq_false_of_ne (by omega)
    refine q_region C (by kernel_rfl) (by kernel_rfl) (hCd.out _ hC1.out) ?_
    repeat (first
      | (with_reducible refine q_off ?_ ?_
         · rfl
         try simp only [Act.put, List.getElem_toArray, List.getElem_cons_zero, List.getElem_cons_succ, List.setIfInBounds_toArray, List.set_cons_zero, List.set_cons_succ])
      | (with_reducible refine q_lds2 Tryd.isAgg9 ?_ ?_ ⟨X, 0, none⟩ ?_ (.string s) k0.out ?_
         · rfl
         · rfl
         · rfl
         try simp only [Act.put, List.getElem_toArray, List.getElem_cons_zero, List.getElem_cons_succ, List.setIfInBounds_toArray, List.set_cons_zero, List.set_cons_succ])
      | (with_reducible refine q_lds2 Tryd.isAgg3 ?_ ?_ ⟨X, 1, none⟩ ?_ (.int .i64 (n : Int)) k1.out ?_
         · rfl
         · rfl
         · rfl
         try simp only [Act.put, List.getElem_toArray, List.getElem_cons_zero, List.getElem_cons_succ, List.setIfInBounds_toArray, List.set_cons_zero, List.set_cons_succ])
      | (with_reducible refine q_lds2 Tryd.isAgg25 ?_ ?_ ⟨X, 2, none⟩ ?_ (.int .i64 (e : Int)) k2.out ?_
         · rfl
         · rfl
         · rfl
         try simp only [Act.put, List.getElem_toArray, List.getElem_cons_zero, List.getElem_cons_succ, List.setIfInBounds_toArray, List.set_cons_zero, List.set_cons_succ])
      | (with_reducible refine wpQuiet_step ?_
         intro K hK
         go_simp
         first
         | (refine hK _ ?_; clear hK K)
         | (apply Exists.intro
            refine ⟨fun W hW => ?_, hK _ ?_⟩
            first
            | exact rfl
            | exact ⟨rfl, rfl⟩
            clear hK K)))
    refine wpQuiet_nil ?_
    intro V1 h1V1

    have hR1t := hHS.out.below (hCV.out V1 h1V1)
    have hR1u := Lib.hid hR1t
    clear hR1t h1V1 hC1 k0 k1 k2 hCV hCd hHS
    have e15 : Unit → r15 s = ((n, e), 0) := fun _ => by
      have h14 : r14 s = (n, e) := by unfold r14; rw [hne' (), if_neg (fun h => he h.1)]
      unfold r15
      rw [h14, if_neg he]
    have hR1 : Hid (Rd wp X RB PB s (n, e) #[.bool true, .int .i64 ((r1 s).2 : Int), .int .i64 ((r7 s).2 : Int), .int .i64 (1 + ((r5 s).2 : Int)), .int .i64 ((r3 s).2 : Int), .int .i64 ((r9 s).2 : Int), .int .i64 ((r11 s).2 : Int), .int .i64 ((r12 s).2.1 : Int), .int .i64 (((r1 s).1.1 : Nat) : Int), .int .i64 (((r6 s).1 : Nat) : Int), .int .i64 (((r8 s).1 : Nat) : Int), .int .i64 (((r10 s).1 : Nat) : Int), .int .i64 ((r12 s).2.2 : Int), .int .i64 0] V1) := hR1u
    obtain ⟨c0, c1, c2, c3, c4, c5⟩ := hR1.out.scn.c
    try dsimp only at c1 c2
    obtain ⟨p0, f0⟩ := hR1.out.cell 0 _ rfl
    obtain ⟨p1, f1⟩ := hR1.out.cell 1 _ rfl
    obtain ⟨p2, f2⟩ := hR1.out.cell 2 _ rfl
    obtain ⟨p3, f3⟩ := hR1.out.cell 3 _ rfl
    obtain ⟨p4, f4⟩ := hR1.out.cell 4 _ rfl
    obtain ⟨p5, f5⟩ := hR1.out.cell 5 _ rfl
    obtain ⟨p6, f6⟩ := hR1.out.cell 6 _ rfl
    obtain ⟨p7, f7⟩ := hR1.out.cell 7 _ rfl
    obtain ⟨p8, f8⟩ := hR1.out.cell 8 _ rfl
    obtain ⟨p9, f9⟩ := hR1.out.cell 9 _ rfl
    obtain ⟨p10, f10⟩ := hR1.out.cell 10 _ rfl
    obtain ⟨p11, f11⟩ := hR1.out.cell 11 _ rfl
    obtain ⟨p12, f12⟩ := hR1.out.cell 12 _ rfl
    obtain ⟨p13, f13⟩ := hR1.out.cell 13 _ rfl
    obtain ⟨q0, g0⟩ := hR1.out.rcell 0 _ rfl
    obtain ⟨q1, g1⟩ := hR1.out.rcell 1 _ rfl
    obtain ⟨q2, g2⟩ := hR1.out.rcell 2 _ rfl
    obtain ⟨q3, g3⟩ := hR1.out.rcell 3 _ rfl
    obtain ⟨q4, g4⟩ := hR1.out.rcell 4 _ rfl
    obtain ⟨q5, g5⟩ := hR1.out.rcell 5 _ rfl
    obtain ⟨q6, g6⟩ := hR1.out.rcell 6 _ rfl
    obtain ⟨q7, g7⟩ := hR1.out.rcell 7 _ rfl
    obtain ⟨q8, g8⟩ := hR1.out.rcell 8 _ rfl
    obtain ⟨q9, g9⟩ := hR1.out.rcell 9 _ rfl
    obtain ⟨q10, g10⟩ := hR1.out.rcell 10 _ rfl
    obtain ⟨q11, g11⟩ := hR1.out.rcell 11 _ rfl
    obtain ⟨q12, g12⟩ := hR1.out.rcell 12 _ rfl
    obtain ⟨q13, g13⟩ := hR1.out.rcell 13 _ rfl
    go_wp2_with fail
    clear c0 c1 c2 c3 c4 c5 p0 f0 q0 g0 p1 f1 q1 g1 p2 f2 q2 g2 p3 f3 q3 g3 p4 f4 q4 g4 p5 f5 q5 g5 p6 f6 q6 g6 p7 f7 q7 g7 p8 f8 q8 g8 p9 f9 q9 g9 p10 f10 q10 g10 p11 f11 q11 g11 p12 f12 q12 g12 p13 f13 q13 g13
    obtain ⟨hF, hG, hB⟩ := hR1.out.fin (.bool true) (.int .i64 ((r1 s).2 : Int)) (.int .i64 ((r7 s).2 : Int)) (.int .i64 (1 + ((r5 s).2 : Int))) (.int .i64 ((r3 s).2 : Int)) (.int .i64 ((r9 s).2 : Int)) (.int .i64 ((r11 s).2 : Int)) (.int .i64 ((r12 s).2.1 : Int)) (.int .i64 (((r1 s).1.1 : Nat) : Int)) (.int .i64 (((r6 s).1 : Nat) : Int)) (.int .i64 (((r8 s).1 : Nat) : Int)) (.int .i64 (((r10 s).1 : Nat) : Int)) (.int .i64 ((r12 s).2.2 : Int)) (.int .i64 0) rfl
    generalize ((((((((((((((V1.setCell ⟨RB, 0, none⟩ (.bool true)).setCell ⟨RB, 1, none⟩ (.int .i64 ((r1 s).2 : Int))).setCell ⟨RB, 2, none⟩ (.int .i64 ((r7 s).2 : Int))).setCell ⟨RB, 3, none⟩ (.int .i64 (1 + ((r5 s).2 : Int)))).setCell ⟨RB, 4, none⟩ (.int .i64 ((r3 s).2 : Int))).setCell ⟨RB, 5, none⟩ (.int .i64 ((r9 s).2 : Int))).setCell ⟨RB, 6, none⟩ (.int .i64 ((r11 s).2 : Int))).setCell ⟨RB, 7, none⟩ (.int .i64 ((r12 s).2.1 : Int))).setCell ⟨RB, 8, none⟩ (.int .i64 (((r1 s).1.1 : Nat) : Int))).setCell ⟨RB, 9, none⟩ (.int .i64 (((r6 s).1 : Nat) : Int))).setCell ⟨RB, 10, none⟩ (.int .i64 (((r8 s).1 : Nat) : Int))).setCell ⟨RB, 11, none⟩ (.int .i64 (((r10 s).1 : Nat) : Int))).setCell ⟨RB, 12, none⟩ (.int .i64 ((r12 s).2.2 : Int))).setCell ⟨RB, 13, none⟩ (.int .i64 0)) = WF at hF hG hB ⊢
    obtain ⟨z0, z1, z2, z3, z4, z5, z6, z7, z8, z9, z10, z11, z12, z13⟩ := cells14 hF
    clear hF
    refine bodyPost_ret (v := rv s) ?_ rfl ⟨rfl, hB, ?_⟩
    · simp [results, Tryd.results38, go_sem, z0, z1, z2, z3, z4, z5, z6, z7, z8, z9, z10, z11, z12, z13]
      unfold rv
      simp only [hn' (), e15 ()]
    · rw [e15 ()]
      exact hG
set_option maxRecDepth 100000 in
set_option maxHeartbeats 4000000 in
theorem Tryd.dRead_111 (X : Nat) (s : ByteArray) (wp w : World) (h0 : Scn w X s (0, 0)) (hb : Below wp.heap.size wp w) (hX : wp.heap.size ≤ X) (hT : Tabs wp) (hn : spk isLt s (0, 0) = true) (h2 : spk isDg s (r2 s).1 = true) (h3 : spk isCo s (r11 s).1 = true) : Calls Tryd.prog 38 #[.pointer (some ⟨X, 0, none⟩)] w fun z w' => z = .returned (rv s) ∧ Below wp.heap.size wp w' ∧ Scn w' X s (r15 s).1 := by
  have hn' := fun (_ : Unit) => hn
  have h2' := fun (_ : Unit) => h2
  have h3' := fun (_ : Unit) => h3
  have e1 : Unit → (r1 s = (sbl true s (r0b s), (r0 s).2)) := fun _ => (by unfold r1; rw [hn]; rfl)
  have e3 : Unit → (r3 s = ((r2b s).1, 10 * (r2 s).2 + (r2b s).2)) := fun _ => (by unfold r3; rw [h2]; rfl)
  have e12 : Unit → (r12 s = ((r11b s).1, (r11b s).2, (r11 s).1.1 + 1)) := fun _ => (by unfold r12; rw [h3]; rfl)
  clear hn h2 h3
  go_enter Tryd.func38, Tryd.ntmps38
  go_wp2_with fail
  have hR0 : Rd wp X w.heap.size (w.heap.size + 1) s (0, 0) zA ((w.alloc (.cells zA 63)).alloc (.cells zA 63)) := rd_start h0 hb hX hT
  change Calls _ _ _ ((w.alloc (.cells zA 63)).alloc (.cells zA 63)) _
  generalize (w.alloc (.cells zA 63)).alloc (.cells zA 63) = W0 at hR0 ⊢
  generalize w.heap.size + 1 = PB at hR0 ⊢
  generalize w.heap.size = RB at hR0 ⊢
  have hH0 : Hid (Rd wp X RB PB s (0, 0) #[.bool false, .int .i64 0, .int .i64 0, .int .i64 0, .int .i64 0, .int .i64 0, .int .i64 0, .int .i64 0, .int .i64 0, .int .i64 0, .int .i64 0, .int .i64 0, .int .i64 0, .int .i64 0] W0) := Lib.hid hR0
  clear hR0 h0 hb hT hX
  have hc := Tryd.dPeek 47 #[] isLt X s (0, 0) W0 Tryd.cfLetter (fun W _ c => Tryd.pLetter c W) hH0.out.scn
  rw [hn' ()] at hc
  refine hc.mono ?_
  rintro e W1 ⟨rfl, hb⟩
  have hH1t := hH0.out.below hb
  clear hc hb
  have hH1 : Hid (Rd wp X RB PB s (0, 0) #[.bool false, .int .i64 0, .int .i64 0, .int .i64 0, .int .i64 0, .int .i64 0, .int .i64 0, .int .i64 0, .int .i64 0, .int .i64 0, .int .i64 0, .int .i64 0, .int .i64 0, .int .i64 0] W1) := Lib.hid hH1t
  clear hH1t hH0
  obtain ⟨p0, f0⟩ := hH1.out.cell 0 _ rfl
  obtain ⟨c0, c1, c2, c3, c4, c5⟩ := hH1.out.scn.c
  go_wp2_with fail
  clear c0 c1 c2 c3 c4 c5 p0 f0
  have hH2t : Rd wp X RB PB s (0, 0) #[.bool true, .int .i64 0, .int .i64 0, .int .i64 0, .int .i64 0, .int .i64 0, .int .i64 0, .int .i64 0, .int .i64 0, .int .i64 0, .int .i64 0, .int .i64 0, .int .i64 0, .int .i64 0] (W1.setCell ⟨PB, 0, none⟩ (.bool true)) := (hH1.out.store 0 (.bool true))
  generalize (W1.setCell ⟨PB, 0, none⟩ (.bool true)) = W2 at hH2t ⊢
  have hH2 : Hid (Rd wp X RB PB s (0, 0) #[.bool true, .int .i64 0, .int .i64 0, .int .i64 0, .int .i64 0, .int .i64 0, .int .i64 0, .int .i64 0, .int .i64 0, .int .i64 0, .int .i64 0, .int .i64 0, .int .i64 0, .int .i64 0] W2) := Lib.hid hH2t
  clear hH2t hH1
  have hc := Tryd.dDayNames W2
  refine hc.mono ?_
  rintro e W3 ⟨rfl, hb⟩
  have hH3t := hH2.out.below hb
  clear hc hb
  have hH3 : Hid (Rd wp X RB PB s (0, 0) #[.bool true, .int .i64 0, .int .i64 0, .int .i64 0, .int .i64 0, .int .i64 0, .int .i64 0, .int .i64 0, .int .i64 0, .int .i64 0, .int .i64 0, .int .i64 0, .int .i64 0, .int .i64 0] W3) := Lib.hid hH3t
  clear hH3t hH2
  obtain ⟨c0, c1, c2, c3, c4, c5⟩ := hH3.out.scn.c
  have hst : (storeCells ⟨W3.heap.size, 0, none⟩ dnA.toList 0).run Tryd.prog (W3.alloc (.cells #[.string ⟨#[]⟩, .string ⟨#[]⟩, .string ⟨#[]⟩, .string ⟨#[]⟩, .string ⟨#[]⟩, .string ⟨#[]⟩, .string ⟨#[]⟩] 54)) = .ok () (W3.alloc (.cells dnA 54)) := run_storeCells_new W3 54 z7 dnA (by kernel_rfl) rfl (by kernel_rfl)
  go_wp2_with fail
  clear c0 c1 c2 c3 c4 c5
  clear hst
  have hNx : W3.heap.size ≠ X := by have := (Array.getElem?_eq_some_iff.1 hH3.out.scn.1).1; omega
  have hNl : W3.heap.size < (W3.alloc (.cells dnA 54)).heap.size := by simp
  have hNc : ∀ k (h : k < (names dnl).length), (W3.alloc (.cells dnA 54)).cell? ⟨W3.heap.size, k, none⟩ = some (.string (names dnl)[k]) := fun k h => (Go.cell_of_row _ _ _ _ _ _ (Go.heap_alloc_new W3 _)).trans (dn_at k h)
  have hH4t : Rd wp X RB PB s (0, 0) #[.bool true, .int .i64 0, .int .i64 0, .int .i64 0, .int .i64 0, .int .i64 0, .int .i64 0, .int .i64 0, .int .i64 0, .int .i64 0, .int .i64 0, .int .i64 0, .int .i64 0, .int .i64 0] (W3.alloc (.cells dnA 54)) := hH3.out.below ((Below.refl _ _).alloc (Nat.le_refl _) _)
  generalize (W3.alloc (.cells dnA 54)) = W4 at hH4t hNl hNc ⊢
  generalize W3.heap.size = NB4 at hNx hNl hNc ⊢
  have hH4 : Hid (Rd wp X RB PB s (0, 0) #[.bool true, .int .i64 0, .int .i64 0, .int .i64 0, .int .i64 0, .int .i64 0, .int .i64 0, .int .i64 0, .int .i64 0, .int .i64 0, .int .i64 0, .int .i64 0, .int .i64 0, .int .i64 0] W4) := Lib.hid hH4t
  clear hH4t hH3
  have hc := Tryd.dName X s (0, 0) (names dnl) (by decide) dn_3 NB4 W4 hH4.out.scn hNl hNx hNc hH4.out.T
  rw [show sname (names dnl) s (0, 0) = r0 s from rfl] at hc
  clear hNx hNl hNc
  refine hc.mono ?_
  rintro e W5 ⟨rfl, hg, hs⟩
  have hH5t := hH4.out.call hg hs
  clear hc hg hs
  have hH5 : Hid (Rd wp X RB PB s (r0 s).1 #[.bool true, .int .i64 0, .int .i64 0, .int .i64 0, .int .i64 0, .int .i64 0, .int .i64 0, .int .i64 0, .int .i64 0, .int .i64 0, .int .i64 0, .int .i64 0, .int .i64 0, .int .i64 0] W5) := Lib.hid hH5t
  clear hH5t hH4
  obtain ⟨p1, f1⟩ := hH5.out.cell 1 _ rfl
  obtain ⟨c0, c1, c2, c3, c4, c5⟩ := hH5.out.scn.c
  go_wp2_with fail
  clear c0 c1 c2 c3 c4 c5 p1 f1
  have hH6t : Rd wp X RB PB s (r0 s).1 #[.bool true, .int .i64 ((r0 s).2 : Int), .int .i64 0, .int .i64 0, .int .i64 0, .int .i64 0, .int .i64 0, .int .i64 0, .int .i64 0, .int .i64 0, .int .i64 0, .int .i64 0, .int .i64 0, .int .i64 0] (W5.setCell ⟨PB, 1, none⟩ (.int .i64 ((r0 s).2 : Int))) := (hH5.out.store 1 (.int .i64 ((r0 s).2 : Int)))
  generalize (W5.setCell ⟨PB, 1, none⟩ (.int .i64 ((r0 s).2 : Int))) = W6 at hH6t ⊢
  have hH6 : Hid (Rd wp X RB PB s (r0 s).1 #[.bool true, .int .i64 ((r0 s).2 : Int), .int .i64 0, .int .i64 0, .int .i64 0, .int .i64 0, .int .i64 0, .int .i64 0, .int .i64 0, .int .i64 0, .int .i64 0, .int .i64 0, .int .i64 0, .int .i64 0] W6) := Lib.hid hH6t
  clear hH6t hH5
  have hc := Tryd.dJust 44 W6
  have JB6l : W6.heap.size = W6.heap.size := rfl
  generalize hJ : W6.heap.size = JB6 at hc
  clear JB6l
  have hJ2 : ∀ W, Below JB6 W6 W → Below W6.heap.size W6 W := fun W h => by rw [hJ]; exact h
  clear hJ
  replace hc := hc.mono (fun e w' h => (⟨h.1, h.2.1, hJ2 w' h.2.2⟩ : _ ∧ _ ∧ _))
  clear hJ2
  refine hc.mono ?_
  rintro e W7 ⟨rfl, hj, hb⟩
  have hH7t := hH6.out.below hb
  clear hc hb
  have hH7 : Hid (Rd wp X RB PB s (r0 s).1 #[.bool true, .int .i64 ((r0 s).2 : Int), .int .i64 0, .int .i64 0, .int .i64 0, .int .i64 0, .int .i64 0, .int .i64 0, .int .i64 0, .int .i64 0, .int .i64 0, .int .i64 0, .int .i64 0, .int .i64 0] W7) := Lib.hid hH7t
  clear hH7t hH6
  obtain ⟨c0, c1, c2, c3, c4, c5⟩ := hH7.out.scn.c
  go_wp2_with fail
  clear c0 c1 c2 c3 c4 c5
  have hc := Tryd.dTake 65 #[.pointer (some ⟨JB6, 0, none⟩)] isCm X s (r0 s).1 W7 Tryd.cfJustK (fun W h c => Tryd.pJust 44 JB6 c W (cell_keep h hj)) hH7.out.scn
  rw [show stk isCm s (r0 s).1 = r0b s from rfl] at hc
  clear hj
  refine hc.mono ?_
  rintro e W8 ⟨rfl, hg, hs⟩
  have hH8t := hH7.out.call hg hs
  clear hc hg hs
  have hH8 : Hid (Rd wp X RB PB s (r0b s) #[.bool true, .int .i64 ((r0 s).2 : Int), .int .i64 0, .int .i64 0, .int .i64 0, .int .i64 0, .int .i64 0, .int .i64 0, .int .i64 0, .int .i64 0, .int .i64 0, .int .i64 0, .int .i64 0, .int .i64 0] W8) := Lib.hid hH8t
  clear hH8t hH7
  obtain ⟨c0, c1, c2, c3, c4, c5⟩ := hH8.out.scn.c
  go_wp2_with fail
  clear c0 c1 c2 c3 c4 c5
  have hc := Tryd.dBlanks X s (r0b s) true W8 hH8.out.scn
  refine hc.mono ?_
  rintro e W9 ⟨rfl, hg, hs⟩
  have hH9t := hH8.out.call hg hs
  clear hc hg hs
  have hH9 : Hid (Rd wp X RB PB s (sbl true s (r0b s)) #[.bool true, .int .i64 ((r0 s).2 : Int), .int .i64 0, .int .i64 0, .int .i64 0, .int .i64 0, .int .i64 0, .int .i64 0, .int .i64 0, .int .i64 0, .int .i64 0, .int .i64 0, .int .i64 0, .int .i64 0] W9) := Lib.hid hH9t
  clear hH9t hH8
  obtain ⟨c0, c1, c2, c3, c4, c5⟩ := hH9.out.scn.c
  go_wp2_with fail
  clear c0 c1 c2 c3 c4 c5
  have hH10t : Rd wp X RB PB s (r1 s).1 #[.bool true, .int .i64 ((r1 s).2 : Int), .int .i64 0, .int .i64 0, .int .i64 0, .int .i64 0, .int .i64 0, .int .i64 0, .int .i64 0, .int .i64 0, .int .i64 0, .int .i64 0, .int .i64 0, .int .i64 0] W9 := by
    rw [e1 ()]
    try dsimp only
    exact hH9.out
  have hH10 : Hid (Rd wp X RB PB s (r1 s).1 #[.bool true, .int .i64 ((r1 s).2 : Int), .int .i64 0, .int .i64 0, .int .i64 0, .int .i64 0, .int .i64 0, .int .i64 0, .int .i64 0, .int .i64 0, .int .i64 0, .int .i64 0, .int .i64 0, .int .i64 0] W9) := Lib.hid hH10t
  clear hH10t hH9
  have hc := Tryd.dNumber X s (r1 s).1 1 (by omega) W9 hH10.out.scn
  rw [show snum s 1 ((r1 s).1, 0) = r2 s from rfl] at hc
  refine hc.mono ?_
  rintro e W11 ⟨rfl, hg, hs⟩
  have hH11t := hH10.out.call hg hs
  clear hc hg hs
  have hH11 : Hid (Rd wp X RB PB s (r2 s).1 #[.bool true, .int .i64 ((r1 s).2 : Int), .int .i64 0, .int .i64 0, .int .i64 0, .int .i64 0, .int .i64 0, .int .i64 0, .int .i64 0, .int .i64 0, .int .i64 0, .int .i64 0, .int .i64 0, .int .i64 0] W11) := Lib.hid hH11t
  clear hH11t hH10
  obtain ⟨p4, f4⟩ := hH11.out.cell 4 _ rfl
  obtain ⟨p8, f8⟩ := hH11.out.cell 8 _ rfl
  obtain ⟨c0, c1, c2, c3, c4, c5⟩ := hH11.out.scn.c
  go_wp2_with fail
  clear c0 c1 c2 c3 c4 c5 p4 f4 p8 f8
  have hH12t : Rd wp X RB PB s (r2 s).1 #[.bool true, .int .i64 ((r1 s).2 : Int), .int .i64 0, .int .i64 0, .int .i64 ((r2 s).2 : Int), .int .i64 0, .int .i64 0, .int .i64 0, .int .i64 (((r1 s).1.1 : Nat) : Int), .int .i64 0, .int .i64 0, .int .i64 0, .int .i64 0, .int .i64 0] ((W11.setCell ⟨PB, 4, none⟩ (.int .i64 ((r2 s).2 : Int))).setCell ⟨PB, 8, none⟩ (.int .i64 (((r1 s).1.1 : Nat) : Int))) := ((hH11.out.store 4 (.int .i64 ((r2 s).2 : Int))).store 8 (.int .i64 (((r1 s).1.1 : Nat) : Int)))
  generalize ((W11.setCell ⟨PB, 4, none⟩ (.int .i64 ((r2 s).2 : Int))).setCell ⟨PB, 8, none⟩ (.int .i64 (((r1 s).1.1 : Nat) : Int))) = W12 at hH12t ⊢
  have hH12 : Hid (Rd wp X RB PB s (r2 s).1 #[.bool true, .int .i64 ((r1 s).2 : Int), .int .i64 0, .int .i64 0, .int .i64 ((r2 s).2 : Int), .int .i64 0, .int .i64 0, .int .i64 0, .int .i64 (((r1 s).1.1 : Nat) : Int), .int .i64 0, .int .i64 0, .int .i64 0, .int .i64 0, .int .i64 0] W12) := Lib.hid hH12t
  clear hH12t hH11
  have hc := Tryd.dPeek 53 #[] isDg X s (r2 s).1 W12 Tryd.cfDigit (fun W _ c => Tryd.pDigit c W) hH12.out.scn
  rw [h2' ()] at hc
  refine hc.mono ?_
  rintro e W13 ⟨rfl, hb⟩
  have hH13t := hH12.out.below hb
  clear hc hb
  have hH13 : Hid (Rd wp X RB PB s (r2 s).1 #[.bool true, .int .i64 ((r1 s).2 : Int), .int .i64 0, .int .i64 0, .int .i64 ((r2 s).2 : Int), .int .i64 0, .int .i64 0, .int .i64 0, .int .i64 (((r1 s).1.1 : Nat) : Int), .int .i64 0, .int .i64 0, .int .i64 0, .int .i64 0, .int .i64 0] W13) := Lib.hid hH13t
  clear hH13t hH12
  obtain ⟨p4, f4⟩ := hH13.out.cell 4 _ rfl
  obtain ⟨c0, c1, c2, c3, c4, c5⟩ := hH13.out.scn.c
  go_wp2_with fail
  clear c0 c1 c2 c3 c4 c5 p4 f4
  have hc := Tryd.dNumber X s (r2 s).1 1 (by omega) W13 hH13.out.scn
  rw [show snum s 1 ((r2 s).1, 0) = r2b s from rfl] at hc
  refine hc.mono ?_
  rintro e W14 ⟨rfl, hg, hs⟩
  have hH14t := hH13.out.call hg hs
  clear hc hg hs
  have hH14 : Hid (Rd wp X RB PB s (r2b s).1 #[.bool true, .int .i64 ((r1 s).2 : Int), .int .i64 0, .int .i64 0, .int .i64 ((r2 s).2 : Int), .int .i64 0, .int .i64 0, .int .i64 0, .int .i64 (((r1 s).1.1 : Nat) : Int), .int .i64 0, .int .i64 0, .int .i64 0, .int .i64 0, .int .i64 0] W14) := Lib.hid hH14t
  clear hH14t hH13
  obtain ⟨p4, f4⟩ := hH14.out.cell 4 _ rfl
  obtain ⟨c0, c1, c2, c3, c4, c5⟩ := hH14.out.scn.c
  have hda : (r2 s).2 ≤ 255 := snum1_bd _ _
  have hdb : (r2b s).2 ≤ 255 := snum1_bd _ _
  have u1 : IntKind.i64.wrap (10 * ((r2 s).2 : Int)) = 10 * ((r2 s).2 : Int) := IntWalk.i64_in _ (by omega)
  have u2 : IntKind.i64.wrap (10 * ((r2 s).2 : Int) + ((r2b s).2 : Int)) = 10 * ((r2 s).2 : Int) + ((r2b s).2 : Int) := IntWalk.i64_in _ (by omega)
  go_wp2_with fail
  clear c0 c1 c2 c3 c4 c5 p4 f4
  clear u1 u2 hda hdb
  have hH15t : Rd wp X RB PB s (r2b s).1 #[.bool true, .int .i64 ((r1 s).2 : Int), .int .i64 0, .int .i64 0, .int .i64 (10 * ((r2 s).2 : Int) + ((r2b s).2 : Int)), .int .i64 0, .int .i64 0, .int .i64 0, .int .i64 (((r1 s).1.1 : Nat) : Int), .int .i64 0, .int .i64 0, .int .i64 0, .int .i64 0, .int .i64 0] (W14.setCell ⟨PB, 4, none⟩ (.int .i64 (10 * ((r2 s).2 : Int) + ((r2b s).2 : Int)))) := (hH14.out.store 4 (.int .i64 (10 * ((r2 s).2 : Int) + ((r2b s).2 : Int))))
  generalize (W14.setCell ⟨PB, 4, none⟩ (.int .i64 (10 * ((r2 s).2 : Int) + ((r2b s).2 : Int)))) = W15 at hH15t ⊢
  have hH15 : Hid (Rd wp X RB PB s (r2b s).1 #[.bool true, .int .i64 ((r1 s).2 : Int), .int .i64 0, .int .i64 0, .int .i64 (10 * ((r2 s).2 : Int) + ((r2b s).2 : Int)), .int .i64 0, .int .i64 0, .int .i64 0, .int .i64 (((r1 s).1.1 : Nat) : Int), .int .i64 0, .int .i64 0, .int .i64 0, .int .i64 0, .int .i64 0] W15) := Lib.hid hH15t
  clear hH15t hH14
  have hH16t : Rd wp X RB PB s (r3 s).1 #[.bool true, .int .i64 ((r1 s).2 : Int), .int .i64 0, .int .i64 0, .int .i64 ((r3 s).2 : Int), .int .i64 0, .int .i64 0, .int .i64 0, .int .i64 (((r1 s).1.1 : Nat) : Int), .int .i64 0, .int .i64 0, .int .i64 0, .int .i64 0, .int .i64 0] W15 := by
    rw [e3 ()]
    try dsimp only
    rw [Int.natCast_add, Int.natCast_mul]
    exact hH15.out
  have hH16 : Hid (Rd wp X RB PB s (r3 s).1 #[.bool true, .int .i64 ((r1 s).2 : Int), .int .i64 0, .int .i64 0, .int .i64 ((r3 s).2 : Int), .int .i64 0, .int .i64 0, .int .i64 0, .int .i64 (((r1 s).1.1 : Nat) : Int), .int .i64 0, .int .i64 0, .int .i64 0, .int .i64 0, .int .i64 0] W15) := Lib.hid hH16t
  clear hH16t hH15
  have hc := Tryd.dBlanks X s (r3 s).1 false W15 hH16.out.scn
  rw [show sbl false s (r3 s).1 = r4 s from rfl] at hc
  refine hc.mono ?_
  rintro e W17 ⟨rfl, hg, hs⟩
  have hH17t := hH16.out.call hg hs
  clear hc hg hs
  have hH17 : Hid (Rd wp X RB PB s (r4 s) #[.bool true, .int .i64 ((r1 s).2 : Int), .int .i64 0, .int .i64 0, .int .i64 ((r3 s).2 : Int), .int .i64 0, .int .i64 0, .int .i64 0, .int .i64 (((r1 s).1.1 : Nat) : Int), .int .i64 0, .int .i64 0, .int .i64 0, .int .i64 0, .int .i64 0] W17) := Lib.hid hH17t
  clear hH17t hH16
  obtain ⟨c0, c1, c2, c3, c4, c5⟩ := hH17.out.scn.c
  go_wp2_with fail
  clear c0 c1 c2 c3 c4 c5
  have hc := Tryd.dMonthNames W17
  refine hc.mono ?_
  rintro e W18 ⟨rfl, hb⟩
  have hH18t := hH17.out.below hb
  clear hc hb
  have hH18 : Hid (Rd wp X RB PB s (r4 s) #[.bool true, .int .i64 ((r1 s).2 : Int), .int .i64 0, .int .i64 0, .int .i64 ((r3 s).2 : Int), .int .i64 0, .int .i64 0, .int .i64 0, .int .i64 (((r1 s).1.1 : Nat) : Int), .int .i64 0, .int .i64 0, .int .i64 0, .int .i64 0, .int .i64 0] W18) := Lib.hid hH18t
  clear hH18t hH17
  obtain ⟨c0, c1, c2, c3, c4, c5⟩ := hH18.out.scn.c
  have hst : (storeCells ⟨W18.heap.size, 0, none⟩ mnA.toList 0).run Tryd.prog (W18.alloc (.cells #[.string ⟨#[]⟩, .string ⟨#[]⟩, .string ⟨#[]⟩, .string ⟨#[]⟩, .string ⟨#[]⟩, .string ⟨#[]⟩, .string ⟨#[]⟩, .string ⟨#[]⟩, .string ⟨#[]⟩, .string ⟨#[]⟩, .string ⟨#[]⟩, .string ⟨#[]⟩] 56)) = .ok () (W18.alloc (.cells mnA 56)) := run_storeCells_new W18 56 z12 mnA (by kernel_rfl) rfl (by kernel_rfl)
  go_wp2_with fail
  clear c0 c1 c2 c3 c4 c5
  clear hst
  have hNx : W18.heap.size ≠ X := by have := (Array.getElem?_eq_some_iff.1 hH18.out.scn.1).1; omega
  have hNl : W18.heap.size < (W18.alloc (.cells mnA 56)).heap.size := by simp
  have hNc : ∀ k (h : k < (names mnl).length), (W18.alloc (.cells mnA 56)).cell? ⟨W18.heap.size, k, none⟩ = some (.string (names mnl)[k]) := fun k h => (Go.cell_of_row _ _ _ _ _ _ (Go.heap_alloc_new W18 _)).trans (mn_at k h)
  have hH19t : Rd wp X RB PB s (r4 s) #[.bool true, .int .i64 ((r1 s).2 : Int), .int .i64 0, .int .i64 0, .int .i64 ((r3 s).2 : Int), .int .i64 0, .int .i64 0, .int .i64 0, .int .i64 (((r1 s).1.1 : Nat) : Int), .int .i64 0, .int .i64 0, .int .i64 0, .int .i64 0, .int .i64 0] (W18.alloc (.cells mnA 56)) := hH18.out.below ((Below.refl _ _).alloc (Nat.le_refl _) _)
  generalize (W18.alloc (.cells mnA 56)) = W19 at hH19t hNl hNc ⊢
  generalize W18.heap.size = NB19 at hNx hNl hNc ⊢
  have hH19 : Hid (Rd wp X RB PB s (r4 s) #[.bool true, .int .i64 ((r1 s).2 : Int), .int .i64 0, .int .i64 0, .int .i64 ((r3 s).2 : Int), .int .i64 0, .int .i64 0, .int .i64 0, .int .i64 (((r1 s).1.1 : Nat) : Int), .int .i64 0, .int .i64 0, .int .i64 0, .int .i64 0, .int .i64 0] W19) := Lib.hid hH19t
  clear hH19t hH18
  have hc := Tryd.dName X s (r4 s) (names mnl) (by decide) mn_3 NB19 W19 hH19.out.scn hNl hNx hNc hH19.out.T
  rw [show sname (names mnl) s (r4 s) = r5 s from rfl] at hc
  clear hNx hNl hNc
  refine hc.mono ?_
  rintro e W20 ⟨rfl, hg, hs⟩
  have hH20t := hH19.out.call hg hs
  clear hc hg hs
  have hH20 : Hid (Rd wp X RB PB s (r5 s).1 #[.bool true, .int .i64 ((r1 s).2 : Int), .int .i64 0, .int .i64 0, .int .i64 ((r3 s).2 : Int), .int .i64 0, .int .i64 0, .int .i64 0, .int .i64 (((r1 s).1.1 : Nat) : Int), .int .i64 0, .int .i64 0, .int .i64 0, .int .i64 0, .int .i64 0] W20) := Lib.hid hH20t
  clear hH20t hH19
  obtain ⟨p3, f3⟩ := hH20.out.cell 3 _ rfl
  obtain ⟨c0, c1, c2, c3, c4, c5⟩ := hH20.out.scn.c
  have hm5 : (r5 s).2 ≤ 12 := sname_bd _ _ _
  have u1 : IntKind.i64.wrap (1 + ((r5 s).2 : Int)) = 1 + ((r5 s).2 : Int) := IntWalk.i64_in _ (by omega)
  go_wp2_with fail
  clear c0 c1 c2 c3 c4 c5 p3 f3
  clear u1 hm5
  have hH21t : Rd wp X RB PB s (r5 s).1 #[.bool true, .int .i64 ((r1 s).2 : Int), .int .i64 0, .int .i64 (1 + ((r5 s).2 : Int)), .int .i64 ((r3 s).2 : Int), .int .i64 0, .int .i64 0, .int .i64 0, .int .i64 (((r1 s).1.1 : Nat) : Int), .int .i64 0, .int .i64 0, .int .i64 0, .int .i64 0, .int .i64 0] (W20.setCell ⟨PB, 3, none⟩ (.int .i64 (1 + ((r5 s).2 : Int)))) := (hH20.out.store 3 (.int .i64 (1 + ((r5 s).2 : Int))))
  generalize (W20.setCell ⟨PB, 3, none⟩ (.int .i64 (1 + ((r5 s).2 : Int)))) = W21 at hH21t ⊢
  have hH21 : Hid (Rd wp X RB PB s (r5 s).1 #[.bool true, .int .i64 ((r1 s).2 : Int), .int .i64 0, .int .i64 (1 + ((r5 s).2 : Int)), .int .i64 ((r3 s).2 : Int), .int .i64 0, .int .i64 0, .int .i64 0, .int .i64 (((r1 s).1.1 : Nat) : Int), .int .i64 0, .int .i64 0, .int .i64 0, .int .i64 0, .int .i64 0] W21) := Lib.hid hH21t
  clear hH21t hH20
  have hc := Tryd.dBlanks X s (r5 s).1 false W21 hH21.out.scn
  rw [show sbl false s (r5 s).1 = r6 s from rfl] at hc
  refine hc.mono ?_
  rintro e W22 ⟨rfl, hg, hs⟩
  have hH22t := hH21.out.call hg hs
  clear hc hg hs
  have hH22 : Hid (Rd wp X RB PB s (r6 s) #[.bool true, .int .i64 ((r1 s).2 : Int), .int .i64 0, .int .i64 (1 + ((r5 s).2 : Int)), .int .i64 ((r3 s).2 : Int), .int .i64 0, .int .i64 0, .int .i64 0, .int .i64 (((r1 s).1.1 : Nat) : Int), .int .i64 0, .int .i64 0, .int .i64 0, .int .i64 0, .int .i64 0] W22) := Lib.hid hH22t
  clear hH22t hH21
  obtain ⟨c0, c1, c2, c3, c4, c5⟩ := hH22.out.scn.c
  go_wp2_with fail
  clear c0 c1 c2 c3 c4 c5
  have hc := Tryd.dNumber X s (r6 s) 4 (by omega) W22 hH22.out.scn
  rw [show snum s 4 ((r6 s), 0) = r7 s from rfl] at hc
  refine hc.mono ?_
  rintro e W23 ⟨rfl, hg, hs⟩
  have hH23t := hH22.out.call hg hs
  clear hc hg hs
  have hH23 : Hid (Rd wp X RB PB s (r7 s).1 #[.bool true, .int .i64 ((r1 s).2 : Int), .int .i64 0, .int .i64 (1 + ((r5 s).2 : Int)), .int .i64 ((r3 s).2 : Int), .int .i64 0, .int .i64 0, .int .i64 0, .int .i64 (((r1 s).1.1 : Nat) : Int), .int .i64 0, .int .i64 0, .int .i64 0, .int .i64 0, .int .i64 0] W23) := Lib.hid hH23t
  clear hH23t hH22
  obtain ⟨p2, f2⟩ := hH23.out.cell 2 _ rfl
  obtain ⟨p9, f9⟩ := hH23.out.cell 9 _ rfl
  obtain ⟨c0, c1, c2, c3, c4, c5⟩ := hH23.out.scn.c
  go_wp2_with fail
  clear c0 c1 c2 c3 c4 c5 p2 f2 p9 f9
  have hH24t : Rd wp X RB PB s (r7 s).1 #[.bool true, .int .i64 ((r1 s).2 : Int), .int .i64 ((r7 s).2 : Int), .int .i64 (1 + ((r5 s).2 : Int)), .int .i64 ((r3 s).2 : Int), .int .i64 0, .int .i64 0, .int .i64 0, .int .i64 (((r1 s).1.1 : Nat) : Int), .int .i64 (((r6 s).1 : Nat) : Int), .int .i64 0, .int .i64 0, .int .i64 0, .int .i64 0] ((W23.setCell ⟨PB, 2, none⟩ (.int .i64 ((r7 s).2 : Int))).setCell ⟨PB, 9, none⟩ (.int .i64 (((r6 s).1 : Nat) : Int))) := ((hH23.out.store 2 (.int .i64 ((r7 s).2 : Int))).store 9 (.int .i64 (((r6 s).1 : Nat) : Int)))
  generalize ((W23.setCell ⟨PB, 2, none⟩ (.int .i64 ((r7 s).2 : Int))).setCell ⟨PB, 9, none⟩ (.int .i64 (((r6 s).1 : Nat) : Int))) = W24 at hH24t ⊢
  have hH24 : Hid (Rd wp X RB PB s (r7 s).1 #[.bool true, .int .i64 ((r1 s).2 : Int), .int .i64 ((r7 s).2 : Int), .int .i64 (1 + ((r5 s).2 : Int)), .int .i64 ((r3 s).2 : Int), .int .i64 0, .int .i64 0, .int .i64 0, .int .i64 (((r1 s).1.1 : Nat) : Int), .int .i64 (((r6 s).1 : Nat) : Int), .int .i64 0, .int .i64 0, .int .i64 0, .int .i64 0] W24) := Lib.hid hH24t
  clear hH24t hH23
  have hc := Tryd.dBlanks X s (r7 s).1 false W24 hH24.out.scn
  rw [show sbl false s (r7 s).1 = r8 s from rfl] at hc
  refine hc.mono ?_
  rintro e W25 ⟨rfl, hg, hs⟩
  have hH25t := hH24.out.call hg hs
  clear hc hg hs
  have hH25 : Hid (Rd wp X RB PB s (r8 s) #[.bool true, .int .i64 ((r1 s).2 : Int), .int .i64 ((r7 s).2 : Int), .int .i64 (1 + ((r5 s).2 : Int)), .int .i64 ((r3 s).2 : Int), .int .i64 0, .int .i64 0, .int .i64 0, .int .i64 (((r1 s).1.1 : Nat) : Int), .int .i64 (((r6 s).1 : Nat) : Int), .int .i64 0, .int .i64 0, .int .i64 0, .int .i64 0] W25) := Lib.hid hH25t
  clear hH25t hH24
  obtain ⟨c0, c1, c2, c3, c4, c5⟩ := hH25.out.scn.c
  go_wp2_with fail
  clear c0 c1 c2 c3 c4 c5
  have hc := Tryd.dNumber X s (r8 s) 2 (by omega) W25 hH25.out.scn
  rw [show snum s 2 ((r8 s), 0) = r9 s from rfl] at hc
  refine hc.mono ?_
  rintro e W26 ⟨rfl, hg, hs⟩
  have hH26t := hH25.out.call hg hs
  clear hc hg hs
  have hH26 : Hid (Rd wp X RB PB s (r9 s).1 #[.bool true, .int .i64 ((r1 s).2 : Int), .int .i64 ((r7 s).2 : Int), .int .i64 (1 + ((r5 s).2 : Int)), .int .i64 ((r3 s).2 : Int), .int .i64 0, .int .i64 0, .int .i64 0, .int .i64 (((r1 s).1.1 : Nat) : Int), .int .i64 (((r6 s).1 : Nat) : Int), .int .i64 0, .int .i64 0, .int .i64 0, .int .i64 0] W26) := Lib.hid hH26t
  clear hH26t hH25
  obtain ⟨p5, f5⟩ := hH26.out.cell 5 _ rfl
  obtain ⟨p10, f10⟩ := hH26.out.cell 10 _ rfl
  obtain ⟨c0, c1, c2, c3, c4, c5⟩ := hH26.out.scn.c
  go_wp2_with fail
  clear c0 c1 c2 c3 c4 c5 p5 f5 p10 f10
  have hH27t : Rd wp X RB PB s (r9 s).1 #[.bool true, .int .i64 ((r1 s).2 : Int), .int .i64 ((r7 s).2 : Int), .int .i64 (1 + ((r5 s).2 : Int)), .int .i64 ((r3 s).2 : Int), .int .i64 ((r9 s).2 : Int), .int .i64 0, .int .i64 0, .int .i64 (((r1 s).1.1 : Nat) : Int), .int .i64 (((r6 s).1 : Nat) : Int), .int .i64 (((r8 s).1 : Nat) : Int), .int .i64 0, .int .i64 0, .int .i64 0] ((W26.setCell ⟨PB, 5, none⟩ (.int .i64 ((r9 s).2 : Int))).setCell ⟨PB, 10, none⟩ (.int .i64 (((r8 s).1 : Nat) : Int))) := ((hH26.out.store 5 (.int .i64 ((r9 s).2 : Int))).store 10 (.int .i64 (((r8 s).1 : Nat) : Int)))
  generalize ((W26.setCell ⟨PB, 5, none⟩ (.int .i64 ((r9 s).2 : Int))).setCell ⟨PB, 10, none⟩ (.int .i64 (((r8 s).1 : Nat) : Int))) = W27 at hH27t ⊢
  have hH27 : Hid (Rd wp X RB PB s (r9 s).1 #[.bool true, .int .i64 ((r1 s).2 : Int), .int .i64 ((r7 s).2 : Int), .int .i64 (1 + ((r5 s).2 : Int)), .int .i64 ((r3 s).2 : Int), .int .i64 ((r9 s).2 : Int), .int .i64 0, .int .i64 0, .int .i64 (((r1 s).1.1 : Nat) : Int), .int .i64 (((r6 s).1 : Nat) : Int), .int .i64 (((r8 s).1 : Nat) : Int), .int .i64 0, .int .i64 0, .int .i64 0] W27) := Lib.hid hH27t
  clear hH27t hH26
  have hc := Tryd.dJust 58 W27
  have JB27l : W27.heap.size = W27.heap.size := rfl
  generalize hJ : W27.heap.size = JB27 at hc
  clear JB27l
  have hJ2 : ∀ W, Below JB27 W27 W → Below W27.heap.size W27 W := fun W h => by rw [hJ]; exact h
  clear hJ
  replace hc := hc.mono (fun e w' h => (⟨h.1, h.2.1, hJ2 w' h.2.2⟩ : _ ∧ _ ∧ _))
  clear hJ2
  refine hc.mono ?_
  rintro e W28 ⟨rfl, hj, hb⟩
  have hH28t := hH27.out.below hb
  clear hc hb
  have hH28 : Hid (Rd wp X RB PB s (r9 s).1 #[.bool true, .int .i64 ((r1 s).2 : Int), .int .i64 ((r7 s).2 : Int), .int .i64 (1 + ((r5 s).2 : Int)), .int .i64 ((r3 s).2 : Int), .int .i64 ((r9 s).2 : Int), .int .i64 0, .int .i64 0, .int .i64 (((r1 s).1.1 : Nat) : Int), .int .i64 (((r6 s).1 : Nat) : Int), .int .i64 (((r8 s).1 : Nat) : Int), .int .i64 0, .int .i64 0, .int .i64 0] W28) := Lib.hid hH28t
  clear hH28t hH27
  obtain ⟨c0, c1, c2, c3, c4, c5⟩ := hH28.out.scn.c
  go_wp2_with fail
  clear c0 c1 c2 c3 c4 c5
  have hc := Tryd.dTake 65 #[.pointer (some ⟨JB27, 0, none⟩)] isCo X s (r9 s).1 W28 Tryd.cfJustK (fun W h c => Tryd.pJust 58 JB27 c W (cell_keep h hj)) hH28.out.scn
  rw [show stk isCo s (r9 s).1 = r10 s from rfl] at hc
  clear hj
  refine hc.mono ?_
  rintro e W29 ⟨rfl, hg, hs⟩
  have hH29t := hH28.out.call hg hs
  clear hc hg hs
  have hH29 : Hid (Rd wp X RB PB s (r10 s) #[.bool true, .int .i64 ((r1 s).2 : Int), .int .i64 ((r7 s).2 : Int), .int .i64 (1 + ((r5 s).2 : Int)), .int .i64 ((r3 s).2 : Int), .int .i64 ((r9 s).2 : Int), .int .i64 0, .int .i64 0, .int .i64 (((r1 s).1.1 : Nat) : Int), .int .i64 (((r6 s).1 : Nat) : Int), .int .i64 (((r8 s).1 : Nat) : Int), .int .i64 0, .int .i64 0, .int .i64 0] W29) := Lib.hid hH29t
  clear hH29t hH28
  obtain ⟨c0, c1, c2, c3, c4, c5⟩ := hH29.out.scn.c
  go_wp2_with fail
  clear c0 c1 c2 c3 c4 c5
  have hc := Tryd.dNumber X s (r10 s) 2 (by omega) W29 hH29.out.scn
  rw [show snum s 2 ((r10 s), 0) = r11 s from rfl] at hc
  refine hc.mono ?_
  rintro e W30 ⟨rfl, hg, hs⟩
  have hH30t := hH29.out.call hg hs
  clear hc hg hs
  have hH30 : Hid (Rd wp X RB PB s (r11 s).1 #[.bool true, .int .i64 ((r1 s).2 : Int), .int .i64 ((r7 s).2 : Int), .int .i64 (1 + ((r5 s).2 : Int)), .int .i64 ((r3 s).2 : Int), .int .i64 ((r9 s).2 : Int), .int .i64 0, .int .i64 0, .int .i64 (((r1 s).1.1 : Nat) : Int), .int .i64 (((r6 s).1 : Nat) : Int), .int .i64 (((r8 s).1 : Nat) : Int), .int .i64 0, .int .i64 0, .int .i64 0] W30) := Lib.hid hH30t
  clear hH30t hH29
  obtain ⟨p6, f6⟩ := hH30.out.cell 6 _ rfl
  obtain ⟨p11, f11⟩ := hH30.out.cell 11 _ rfl
  obtain ⟨c0, c1, c2, c3, c4, c5⟩ := hH30.out.scn.c
  go_wp2_with fail
  clear c0 c1 c2 c3 c4 c5 p6 f6 p11 f11
  have hH31t : Rd wp X RB PB s (r11 s).1 #[.bool true, .int .i64 ((r1 s).2 : Int), .int .i64 ((r7 s).2 : Int), .int .i64 (1 + ((r5 s).2 : Int)), .int .i64 ((r3 s).2 : Int), .int .i64 ((r9 s).2 : Int), .int .i64 ((r11 s).2 : Int), .int .i64 0, .int .i64 (((r1 s).1.1 : Nat) : Int), .int .i64 (((r6 s).1 : Nat) : Int), .int .i64 (((r8 s).1 : Nat) : Int), .int .i64 (((r10 s).1 : Nat) : Int), .int .i64 0, .int .i64 0] ((W30.setCell ⟨PB, 6, none⟩ (.int .i64 ((r11 s).2 : Int))).setCell ⟨PB, 11, none⟩ (.int .i64 (((r10 s).1 : Nat) : Int))) := ((hH30.out.store 6 (.int .i64 ((r11 s).2 : Int))).store 11 (.int .i64 (((r10 s).1 : Nat) : Int)))
  generalize ((W30.setCell ⟨PB, 6, none⟩ (.int .i64 ((r11 s).2 : Int))).setCell ⟨PB, 11, none⟩ (.int .i64 (((r10 s).1 : Nat) : Int))) = W31 at hH31t ⊢
  have hH31 : Hid (Rd wp X RB PB s (r11 s).1 #[.bool true, .int .i64 ((r1 s).2 : Int), .int .i64 ((r7 s).2 : Int), .int .i64 (1 + ((r5 s).2 : Int)), .int .i64 ((r3 s).2 : Int), .int .i64 ((r9 s).2 : Int), .int .i64 ((r11 s).2 : Int), .int .i64 0, .int .i64 (((r1 s).1.1 : Nat) : Int), .int .i64 (((r6 s).1 : Nat) : Int), .int .i64 (((r8 s).1 : Nat) : Int), .int .i64 (((r10 s).1 : Nat) : Int), .int .i64 0, .int .i64 0] W31) := Lib.hid hH31t
  clear hH31t hH30
  have hc := Tryd.dJust 58 W31
  have JB31l : W31.heap.size = W31.heap.size := rfl
  generalize hJ : W31.heap.size = JB31 at hc
  clear JB31l
  have hJ2 : ∀ W, Below JB31 W31 W → Below W31.heap.size W31 W := fun W h => by rw [hJ]; exact h
  clear hJ
  replace hc := hc.mono (fun e w' h => (⟨h.1, h.2.1, hJ2 w' h.2.2⟩ : _ ∧ _ ∧ _))
  clear hJ2
  refine hc.mono ?_
  rintro e W32 ⟨rfl, hj, hb⟩
  have hH32t := hH31.out.below hb
  clear hc hb
  have hH32 : Hid (Rd wp X RB PB s (r11 s).1 #[.bool true, .int .i64 ((r1 s).2 : Int), .int .i64 ((r7 s).2 : Int), .int .i64 (1 + ((r5 s).2 : Int)), .int .i64 ((r3 s).2 : Int), .int .i64 ((r9 s).2 : Int), .int .i64 ((r11 s).2 : Int), .int .i64 0, .int .i64 (((r1 s).1.1 : Nat) : Int), .int .i64 (((r6 s).1 : Nat) : Int), .int .i64 (((r8 s).1 : Nat) : Int), .int .i64 (((r10 s).1 : Nat) : Int), .int .i64 0, .int .i64 0] W32) := Lib.hid hH32t
  clear hH32t hH31
  obtain ⟨c0, c1, c2, c3, c4, c5⟩ := hH32.out.scn.c
  go_wp2_with fail
  clear c0 c1 c2 c3 c4 c5
  have hc := Tryd.dPeek 65 #[.pointer (some ⟨JB31, 0, none⟩)] isCo X s (r11 s).1 W32 Tryd.cfJustK (fun W h c => Tryd.pJust 58 JB31 c W (cell_keep h hj)) hH32.out.scn
  rw [h3' ()] at hc
  clear hj
  refine hc.mono ?_
  rintro e W33 ⟨rfl, hb⟩
  have hH33t := hH32.out.below hb
  clear hc hb
  have hH33 : Hid (Rd wp X RB PB s (r11 s).1 #[.bool true, .int .i64 ((r1 s).2 : Int), .int .i64 ((r7 s).2 : Int), .int .i64 (1 + ((r5 s).2 : Int)), .int .i64 ((r3 s).2 : Int), .int .i64 ((r9 s).2 : Int), .int .i64 ((r11 s).2 : Int), .int .i64 0, .int .i64 (((r1 s).1.1 : Nat) : Int), .int .i64 (((r6 s).1 : Nat) : Int), .int .i64 (((r8 s).1 : Nat) : Int), .int .i64 (((r10 s).1 : Nat) : Int), .int .i64 0, .int .i64 0] W33) := Lib.hid hH33t
  clear hH33t hH32
  obtain ⟨c0, c1, c2, c3, c4, c5⟩ := hH33.out.scn.c
  have hlt : (r11 s).1.1 < s.size := by have h3t := h3' (); unfold spk at h3t; simp only [Bool.and_eq_true, decide_eq_true_eq] at h3t; exact h3t.1.2
  have h64 : s.size ≤ 64 := hH33.out.scn.2.2
  have u1 : IntKind.i64.wrap (((r11 s).1.1 : Int) + 1) = ((r11 s).1.1 : Int) + 1 := IntWalk.i64_in _ (by omega)
  go_wp2_with fail
  clear c0 c1 c2 c3 c4 c5
  clear u1
  have hH34t : Rd wp X RB PB s ((r11 s).1.1 + 1, (r11 s).1.2) #[.bool true, .int .i64 ((r1 s).2 : Int), .int .i64 ((r7 s).2 : Int), .int .i64 (1 + ((r5 s).2 : Int)), .int .i64 ((r3 s).2 : Int), .int .i64 ((r9 s).2 : Int), .int .i64 ((r11 s).2 : Int), .int .i64 0, .int .i64 (((r1 s).1.1 : Nat) : Int), .int .i64 (((r6 s).1 : Nat) : Int), .int .i64 (((r8 s).1 : Nat) : Int), .int .i64 (((r10 s).1 : Nat) : Int), .int .i64 0, .int .i64 0] (W33.setCell ⟨X, 1, none⟩ (.int .i64 (((r11 s).1.1 : Int) + 1))) := (hH33.out.bump ((r11 s).1.1 + 1) (by omega))
  generalize (W33.setCell ⟨X, 1, none⟩ (.int .i64 (((r11 s).1.1 : Int) + 1))) = W34 at hH34t ⊢
  have hH34 : Hid (Rd wp X RB PB s ((r11 s).1.1 + 1, (r11 s).1.2) #[.bool true, .int .i64 ((r1 s).2 : Int), .int .i64 ((r7 s).2 : Int), .int .i64 (1 + ((r5 s).2 : Int)), .int .i64 ((r3 s).2 : Int), .int .i64 ((r9 s).2 : Int), .int .i64 ((r11 s).2 : Int), .int .i64 0, .int .i64 (((r1 s).1.1 : Nat) : Int), .int .i64 (((r6 s).1 : Nat) : Int), .int .i64 (((r8 s).1 : Nat) : Int), .int .i64 (((r10 s).1 : Nat) : Int), .int .i64 0, .int .i64 0] W34) := Lib.hid hH34t
  clear hH34t hH33
  have hc := Tryd.dNumber X s ((r11 s).1.1 + 1, (r11 s).1.2) 2 (by omega) W34 hH34.out.scn
  rw [show snum s 2 (((r11 s).1.1 + 1, (r11 s).1.2), 0) = r11b s from rfl] at hc
  refine hc.mono ?_
  rintro e W35 ⟨rfl, hg, hs⟩
  have hH35t := hH34.out.call hg hs
  clear hc hg hs
  have hH35 : Hid (Rd wp X RB PB s (r11b s).1 #[.bool true, .int .i64 ((r1 s).2 : Int), .int .i64 ((r7 s).2 : Int), .int .i64 (1 + ((r5 s).2 : Int)), .int .i64 ((r3 s).2 : Int), .int .i64 ((r9 s).2 : Int), .int .i64 ((r11 s).2 : Int), .int .i64 0, .int .i64 (((r1 s).1.1 : Nat) : Int), .int .i64 (((r6 s).1 : Nat) : Int), .int .i64 (((r8 s).1 : Nat) : Int), .int .i64 (((r10 s).1 : Nat) : Int), .int .i64 0, .int .i64 0] W35) := Lib.hid hH35t
  clear hH35t hH34
  obtain ⟨p7, f7⟩ := hH35.out.cell 7 _ rfl
  obtain ⟨p12, f12⟩ := hH35.out.cell 12 _ rfl
  obtain ⟨c0, c1, c2, c3, c4, c5⟩ := hH35.out.scn.c
  go_wp2_with fail
  clear c0 c1 c2 c3 c4 c5 p7 f7 p12 f12
  have hH36t : Rd wp X RB PB s (r11b s).1 #[.bool true, .int .i64 ((r1 s).2 : Int), .int .i64 ((r7 s).2 : Int), .int .i64 (1 + ((r5 s).2 : Int)), .int .i64 ((r3 s).2 : Int), .int .i64 ((r9 s).2 : Int), .int .i64 ((r11 s).2 : Int), .int .i64 ((r11b s).2 : Int), .int .i64 (((r1 s).1.1 : Nat) : Int), .int .i64 (((r6 s).1 : Nat) : Int), .int .i64 (((r8 s).1 : Nat) : Int), .int .i64 (((r10 s).1 : Nat) : Int), .int .i64 (((r11 s).1.1 : Int) + 1), .int .i64 0] ((W35.setCell ⟨PB, 7, none⟩ (.int .i64 ((r11b s).2 : Int))).setCell ⟨PB, 12, none⟩ (.int .i64 (((r11 s).1.1 : Int) + 1))) := ((hH35.out.store 7 (.int .i64 ((r11b s).2 : Int))).store 12 (.int .i64 (((r11 s).1.1 : Int) + 1)))
  generalize ((W35.setCell ⟨PB, 7, none⟩ (.int .i64 ((r11b s).2 : Int))).setCell ⟨PB, 12, none⟩ (.int .i64 (((r11 s).1.1 : Int) + 1))) = W36 at hH36t ⊢
  have hH36 : Hid (Rd wp X RB PB s (r11b s).1 #[.bool true, .int .i64 ((r1 s).2 : Int), .int .i64 ((r7 s).2 : Int), .int .i64 (1 + ((r5 s).2 : Int)), .int .i64 ((r3 s).2 : Int), .int .i64 ((r9 s).2 : Int), .int .i64 ((r11 s).2 : Int), .int .i64 ((r11b s).2 : Int), .int .i64 (((r1 s).1.1 : Nat) : Int), .int .i64 (((r6 s).1 : Nat) : Int), .int .i64 (((r8 s).1 : Nat) : Int), .int .i64 (((r10 s).1 : Nat) : Int), .int .i64 (((r11 s).1.1 : Int) + 1), .int .i64 0] W36) := Lib.hid hH36t
  clear hH36t hH35
  have hH37t : Rd wp X RB PB s (r12 s).1 #[.bool true, .int .i64 ((r1 s).2 : Int), .int .i64 ((r7 s).2 : Int), .int .i64 (1 + ((r5 s).2 : Int)), .int .i64 ((r3 s).2 : Int), .int .i64 ((r9 s).2 : Int), .int .i64 ((r11 s).2 : Int), .int .i64 ((r12 s).2.1 : Int), .int .i64 (((r1 s).1.1 : Nat) : Int), .int .i64 (((r6 s).1 : Nat) : Int), .int .i64 (((r8 s).1 : Nat) : Int), .int .i64 (((r10 s).1 : Nat) : Int), .int .i64 ((r12 s).2.2 : Int), .int .i64 0] W36 := by
    rw [e12 ()]
    try dsimp only
    rw [Int.natCast_add]
    exact hH36.out
  have hH37 : Hid (Rd wp X RB PB s (r12 s).1 #[.bool true, .int .i64 ((r1 s).2 : Int), .int .i64 ((r7 s).2 : Int), .int .i64 (1 + ((r5 s).2 : Int)), .int .i64 ((r3 s).2 : Int), .int .i64 ((r9 s).2 : Int), .int .i64 ((r11 s).2 : Int), .int .i64 ((r12 s).2.1 : Int), .int .i64 (((r1 s).1.1 : Nat) : Int), .int .i64 (((r6 s).1 : Nat) : Int), .int .i64 (((r8 s).1 : Nat) : Int), .int .i64 (((r10 s).1 : Nat) : Int), .int .i64 ((r12 s).2.2 : Int), .int .i64 0] W36) := Lib.hid hH37t
  clear hH37t hH36
  have hc := Tryd.dBlanks X s (r12 s).1 false W36 hH37.out.scn
  rw [show sbl false s (r12 s).1 = r13 s from rfl] at hc
  refine hc.mono ?_
  rintro e W38 ⟨rfl, hg, hs⟩
  have hH38t := hH37.out.call hg hs
  clear hc hg hs
  have hH38 : Hid (Rd wp X RB PB s (r13 s) #[.bool true, .int .i64 ((r1 s).2 : Int), .int .i64 ((r7 s).2 : Int), .int .i64 (1 + ((r5 s).2 : Int)), .int .i64 ((r3 s).2 : Int), .int .i64 ((r9 s).2 : Int), .int .i64 ((r11 s).2 : Int), .int .i64 ((r12 s).2.1 : Int), .int .i64 (((r1 s).1.1 : Nat) : Int), .int .i64 (((r6 s).1 : Nat) : Int), .int .i64 (((r8 s).1 : Nat) : Int), .int .i64 (((r10 s).1 : Nat) : Int), .int .i64 ((r12 s).2.2 : Int), .int .i64 0] W38) := Lib.hid hH38t
  clear hH38t hH37
  obtain ⟨c0, c1, c2, c3, c4, c5⟩ := hH38.out.scn.c
  go_wp2_with fail
  clear c0 c1 c2 c3 c4 c5
  obtain ⟨n, e, hne⟩ : ∃ n e, r13 s = (n, e) := ⟨(r13 s).1, (r13 s).2, (Prod.eta _).symm⟩
  have hS : Rd wp X RB PB s (n, e) #[.bool true, .int .i64 ((r1 s).2 : Int), .int .i64 ((r7 s).2 : Int), .int .i64 (1 + ((r5 s).2 : Int)), .int .i64 ((r3 s).2 : Int), .int .i64 ((r9 s).2 : Int), .int .i64 ((r11 s).2 : Int), .int .i64 ((r12 s).2.1 : Int), .int .i64 (((r1 s).1.1 : Nat) : Int), .int .i64 (((r6 s).1 : Nat) : Int), .int .i64 (((r8 s).1 : Nat) : Int), .int .i64 (((r10 s).1 : Nat) : Int), .int .i64 ((r12 s).2.2 : Int), .int .i64 0] W38 := by rw [← hne]; exact hH38.out
  have hne' := fun (_ : Unit) => hne
  have hnz : n ≤ s.size := hS.scn.2.1
  have hz64 : s.size ≤ 64 := hS.scn.2.2
  have hHS := Lib.hid hS
  clear hne hS hH38
  by_cases he : e = 0
  · subst he
    by_cases hn : n = s.size
    · subst hn
      have hA0 : Hid (Rd wp X RB PB s (s.size, 0) #[.bool true, .int .i64 ((r1 s).2 : Int), .int .i64 ((r7 s).2 : Int), .int .i64 (1 + ((r5 s).2 : Int)), .int .i64 ((r3 s).2 : Int), .int .i64 ((r9 s).2 : Int), .int .i64 ((r11 s).2 : Int), .int .i64 ((r12 s).2.1 : Int), .int .i64 (((r1 s).1.1 : Nat) : Int), .int .i64 (((r6 s).1 : Nat) : Int), .int .i64 (((r8 s).1 : Nat) : Int), .int .i64 (((r10 s).1 : Nat) : Int), .int .i64 ((r12 s).2.2 : Int), .int .i64 0] W38) := hHS
      clear hHS
      obtain ⟨C, q1, q2, q4⟩ : ∃ C : World → Prop, C W38 ∧ (∀ V, C V → Below W38.heap.size W38 V) ∧ (∀ V, C V → C { V with drawn := V.drawn + 1 }) := ⟨fun V => Below W38.heap.size W38 V, Below.refl _ _, fun V h => h, fun V h => h.drew⟩
      have k0 : Hid (∀ V, C V → V.cell? ⟨X, 0, none⟩ = some (.string s)) := Lib.hid (fun V hV => (hA0.out.scn.below (q2 V hV)).c.1)
      have k1 : Hid (∀ V, C V → V.cell? ⟨X, 1, none⟩ = some (.int .i64 (s.size : Int))) := Lib.hid (fun V hV => (hA0.out.scn.below (q2 V hV)).c.2.1)
      have k2 : Hid (∀ V, C V → V.cell? ⟨X, 2, none⟩ = some (.int .i64 ((0 : Nat) : Int))) := Lib.hid (fun V hV => (hA0.out.scn.below (q2 V hV)).c.2.2.1)
      have hC1 := Lib.hid q1
      have hCV := Lib.hid q2
      have hCd := Lib.hid q4
      clear q1 q2 q4
      have g1 : ((s.size : Int) == (s.size : Int)) = true := beq_self_eq_true _
      refine q_region C (by kernel_rfl) (by kernel_rfl) (hCd.out _ hC1.out) ?_
      repeat (first
        | (with_reducible refine q_off ?_ ?_
           · rfl
           try simp only [Act.put, List.getElem_toArray, List.getElem_cons_zero, List.getElem_cons_succ, List.setIfInBounds_toArray, List.set_cons_zero, List.set_cons_succ])
        | (with_reducible refine q_lds2 Tryd.isAgg9 ?_ ?_ ⟨X, 0, none⟩ ?_ (.string s) k0.out ?_
           · rfl
           · rfl
           · rfl
           try simp only [Act.put, List.getElem_toArray, List.getElem_cons_zero, List.getElem_cons_succ, List.setIfInBounds_toArray, List.set_cons_zero, List.set_cons_succ])
        | (with_reducible refine q_lds2 Tryd.isAgg3 ?_ ?_ ⟨X, 1, none⟩ ?_ (.int .i64 (s.size : Int)) k1.out ?_
           · rfl
           · rfl
           · rfl
           try simp only [Act.put, List.getElem_toArray, List.getElem_cons_zero, List.getElem_cons_succ, List.setIfInBounds_toArray, List.set_cons_zero, List.set_cons_succ])
        | (with_reducible refine q_lds2 Tryd.isAgg25 ?_ ?_ ⟨X, 2, none⟩ ?_ (.int .i64 ((0 : Nat) : Int)) k2.out ?_
           · rfl
           · rfl
           · rfl
           try simp only [Act.put, List.getElem_toArray, List.getElem_cons_zero, List.getElem_cons_succ, List.setIfInBounds_toArray, List.set_cons_zero, List.set_cons_succ])
        | (with_reducible refine wpQuiet_step ?_
           intro K hK
           go_simp
           first
           | (refine hK _ ?_; clear hK K)
           | (apply Exists.intro
              refine ⟨fun W hW => ?_, hK _ ?_⟩
              first
              | exact rfl
              | exact ⟨rfl, rfl⟩
              clear hK K)))
      refine wpQuiet_nil ?_
      intro V1 h1V1

      have hR1t := hA0.out.below (hCV.out V1 h1V1)
      have hR1u := Lib.hid hR1t
      clear hR1t h1V1 hC1 k0 k1 k2 hCV hCd hA0
      have hA1 : Hid (Rd wp X RB PB s (s.size, 0) #[.bool true, .int .i64 ((r1 s).2 : Int), .int .i64 ((r7 s).2 : Int), .int .i64 (1 + ((r5 s).2 : Int)), .int .i64 ((r3 s).2 : Int), .int .i64 ((r9 s).2 : Int), .int .i64 ((r11 s).2 : Int), .int .i64 ((r12 s).2.1 : Int), .int .i64 (((r1 s).1.1 : Nat) : Int), .int .i64 (((r6 s).1 : Nat) : Int), .int .i64 (((r8 s).1 : Nat) : Int), .int .i64 (((r10 s).1 : Nat) : Int), .int .i64 ((r12 s).2.2 : Int), .int .i64 0] V1) := hR1u
      clear hR1u
      obtain ⟨c0, c1, c2, c3, c4, c5⟩ := hA1.out.scn.c
      try dsimp only at c1 c2
      go_wp2_with fail
      clear c0 c1 c2 c3 c4 c5 g1
      have hc := Tryd.dFail X s (s.size, 0) s.size 4 V1 hA1.out.scn hnz
      rw [show sf (s.size, 0) s.size 4 = (s.size, 4) from rfl] at hc
      refine hc.mono ?_
      rintro e V2 ⟨rfl, hg, hs⟩
      have hR1t := hA1.out.call hg hs
      have hR1u := Lib.hid hR1t
      clear hR1t hc hg hs hA1
      have e15 : Unit → r15 s = ((s.size, 4), 0) := fun _ => by
        have h14 : r14 s = (s.size, 4) := by unfold r14; rw [hne' (), if_pos ⟨rfl, rfl⟩]
        unfold r15
        rw [h14, if_neg (show ¬ (4 : Nat) = 0 by decide)]
      have hR1 : Hid (Rd wp X RB PB s (s.size, 4) #[.bool true, .int .i64 ((r1 s).2 : Int), .int .i64 ((r7 s).2 : Int), .int .i64 (1 + ((r5 s).2 : Int)), .int .i64 ((r3 s).2 : Int), .int .i64 ((r9 s).2 : Int), .int .i64 ((r11 s).2 : Int), .int .i64 ((r12 s).2.1 : Int), .int .i64 (((r1 s).1.1 : Nat) : Int), .int .i64 (((r6 s).1 : Nat) : Int), .int .i64 (((r8 s).1 : Nat) : Int), .int .i64 (((r10 s).1 : Nat) : Int), .int .i64 ((r12 s).2.2 : Int), .int .i64 0] V2) := hR1u
      obtain ⟨c0, c1, c2, c3, c4, c5⟩ := hR1.out.scn.c
      try dsimp only at c1 c2
      obtain ⟨p0, f0⟩ := hR1.out.cell 0 _ rfl
      obtain ⟨p1, f1⟩ := hR1.out.cell 1 _ rfl
      obtain ⟨p2, f2⟩ := hR1.out.cell 2 _ rfl
      obtain ⟨p3, f3⟩ := hR1.out.cell 3 _ rfl
      obtain ⟨p4, f4⟩ := hR1.out.cell 4 _ rfl
      obtain ⟨p5, f5⟩ := hR1.out.cell 5 _ rfl
      obtain ⟨p6, f6⟩ := hR1.out.cell 6 _ rfl
      obtain ⟨p7, f7⟩ := hR1.out.cell 7 _ rfl
      obtain ⟨p8, f8⟩ := hR1.out.cell 8 _ rfl
      obtain ⟨p9, f9⟩ := hR1.out.cell 9 _ rfl
      obtain ⟨p10, f10⟩ := hR1.out.cell 10 _ rfl
      obtain ⟨p11, f11⟩ := hR1.out.cell 11 _ rfl
      obtain ⟨p12, f12⟩ := hR1.out.cell 12 _ rfl
      obtain ⟨p13, f13⟩ := hR1.out.cell 13 _ rfl
      obtain ⟨q0, g0⟩ := hR1.out.rcell 0 _ rfl
      obtain ⟨q1, g1⟩ := hR1.out.rcell 1 _ rfl
      obtain ⟨q2, g2⟩ := hR1.out.rcell 2 _ rfl
      obtain ⟨q3, g3⟩ := hR1.out.rcell 3 _ rfl
      obtain ⟨q4, g4⟩ := hR1.out.rcell 4 _ rfl
      obtain ⟨q5, g5⟩ := hR1.out.rcell 5 _ rfl
      obtain ⟨q6, g6⟩ := hR1.out.rcell 6 _ rfl
      obtain ⟨q7, g7⟩ := hR1.out.rcell 7 _ rfl
      obtain ⟨q8, g8⟩ := hR1.out.rcell 8 _ rfl
      obtain ⟨q9, g9⟩ := hR1.out.rcell 9 _ rfl
      obtain ⟨q10, g10⟩ := hR1.out.rcell 10 _ rfl
      obtain ⟨q11, g11⟩ := hR1.out.rcell 11 _ rfl
      obtain ⟨q12, g12⟩ := hR1.out.rcell 12 _ rfl
      obtain ⟨q13, g13⟩ := hR1.out.rcell 13 _ rfl
      go_wp2_with fail
      clear c0 c1 c2 c3 c4 c5 p0 f0 q0 g0 p1 f1 q1 g1 p2 f2 q2 g2 p3 f3 q3 g3 p4 f4 q4 g4 p5 f5 q5 g5 p6 f6 q6 g6 p7 f7 q7 g7 p8 f8 q8 g8 p9 f9 q9 g9 p10 f10 q10 g10 p11 f11 q11 g11 p12 f12 q12 g12 p13 f13 q13 g13
      obtain ⟨hF, hG, hB⟩ := hR1.out.fin (.bool true) (.int .i64 ((r1 s).2 : Int)) (.int .i64 ((r7 s).2 : Int)) (.int .i64 (1 + ((r5 s).2 : Int))) (.int .i64 ((r3 s).2 : Int)) (.int .i64 ((r9 s).2 : Int)) (.int .i64 ((r11 s).2 : Int)) (.int .i64 ((r12 s).2.1 : Int)) (.int .i64 (((r1 s).1.1 : Nat) : Int)) (.int .i64 (((r6 s).1 : Nat) : Int)) (.int .i64 (((r8 s).1 : Nat) : Int)) (.int .i64 (((r10 s).1 : Nat) : Int)) (.int .i64 ((r12 s).2.2 : Int)) (.int .i64 0) rfl
      generalize ((((((((((((((V2.setCell ⟨RB, 0, none⟩ (.bool true)).setCell ⟨RB, 1, none⟩ (.int .i64 ((r1 s).2 : Int))).setCell ⟨RB, 2, none⟩ (.int .i64 ((r7 s).2 : Int))).setCell ⟨RB, 3, none⟩ (.int .i64 (1 + ((r5 s).2 : Int)))).setCell ⟨RB, 4, none⟩ (.int .i64 ((r3 s).2 : Int))).setCell ⟨RB, 5, none⟩ (.int .i64 ((r9 s).2 : Int))).setCell ⟨RB, 6, none⟩ (.int .i64 ((r11 s).2 : Int))).setCell ⟨RB, 7, none⟩ (.int .i64 ((r12 s).2.1 : Int))).setCell ⟨RB, 8, none⟩ (.int .i64 (((r1 s).1.1 : Nat) : Int))).setCell ⟨RB, 9, none⟩ (.int .i64 (((r6 s).1 : Nat) : Int))).setCell ⟨RB, 10, none⟩ (.int .i64 (((r8 s).1 : Nat) : Int))).setCell ⟨RB, 11, none⟩ (.int .i64 (((r10 s).1 : Nat) : Int))).setCell ⟨RB, 12, none⟩ (.int .i64 ((r12 s).2.2 : Int))).setCell ⟨RB, 13, none⟩ (.int .i64 0)) = WF at hF hG hB ⊢
      obtain ⟨z0, z1, z2, z3, z4, z5, z6, z7, z8, z9, z10, z11, z12, z13⟩ := cells14 hF
      clear hF
      refine bodyPost_ret (v := rv s) ?_ rfl ⟨rfl, hB, ?_⟩
      · simp [results, Tryd.results38, go_sem, z0, z1, z2, z3, z4, z5, z6, z7, z8, z9, z10, z11, z12, z13]
        unfold rv
        simp only [hn' (), e15 ()]
      · rw [e15 ()]
        exact hG
    · have hB0 : Hid (Rd wp X RB PB s (n, 0) #[.bool true, .int .i64 ((r1 s).2 : Int), .int .i64 ((r7 s).2 : Int), .int .i64 (1 + ((r5 s).2 : Int)), .int .i64 ((r3 s).2 : Int), .int .i64 ((r9 s).2 : Int), .int .i64 ((r11 s).2 : Int), .int .i64 ((r12 s).2.1 : Int), .int .i64 (((r1 s).1.1 : Nat) : Int), .int .i64 (((r6 s).1 : Nat) : Int), .int .i64 (((r8 s).1 : Nat) : Int), .int .i64 (((r10 s).1 : Nat) : Int), .int .i64 ((r12 s).2.2 : Int), .int .i64 0] W38) := hHS
      clear hHS
      obtain ⟨C, q1, q2, q4⟩ : ∃ C : World → Prop, C W38 ∧ (∀ V, C V → Below W38.heap.size W38 V) ∧ (∀ V, C V → C { V with drawn := V.drawn + 1 }) := ⟨fun V => Below W38.heap.size W38 V, Below.refl _ _, fun V h => h, fun V h => h.drew⟩
      have k0 : Hid (∀ V, C V → V.cell? ⟨X, 0, none⟩ = some (.string s)) := Lib.hid (fun V hV => (hB0.out.scn.below (q2 V hV)).c.1)
      have k1 : Hid (∀ V, C V → V.cell? ⟨X, 1, none⟩ = some (.int .i64 (n : Int))) := Lib.hid (fun V hV => (hB0.out.scn.below (q2 V hV)).c.2.1)
      have k2 : Hid (∀ V, C V → V.cell? ⟨X, 2, none⟩ = some (.int .i64 ((0 : Nat) : Int))) := Lib.hid (fun V hV => (hB0.out.scn.below (q2 V hV)).c.2.2.1)
      have hC1 := Lib.hid q1
      have hCV := Lib.hid q2
      have hCd := Lib.hid q4
      clear q1 q2 q4
      have g1 : ((n : Int) == (s.size : Int)) = false := beq_false_of_ne (by omega)
      refine q_region C (by kernel_rfl) (by kernel_rfl) (hCd.out _ hC1.out) ?_
      repeat (first
        | (with_reducible refine q_off ?_ ?_
           · rfl
           try simp only [Act.put, List.getElem_toArray, List.getElem_cons_zero, List.getElem_cons_succ, List.setIfInBounds_toArray, List.set_cons_zero, List.set_cons_succ])
        | (with_reducible refine q_lds2 Tryd.isAgg9 ?_ ?_ ⟨X, 0, none⟩ ?_ (.string s) k0.out ?_
           · rfl
           · rfl
           · rfl
           try simp only [Act.put, List.getElem_toArray, List.getElem_cons_zero, List.getElem_cons_succ, List.setIfInBounds_toArray, List.set_cons_zero, List.set_cons_succ])
        | (with_reducible refine q_lds2 Tryd.isAgg3 ?_ ?_ ⟨X, 1, none⟩ ?_ (.int .i64 (n : Int)) k1.out ?_
           · rfl
           · rfl
           · rfl
           try simp only [Act.put, List.getElem_toArray, List.getElem_cons_zero, List.getElem_cons_succ, List.setIfInBounds_toArray, List.set_cons_zero, List.set_cons_succ])
        | (with_reducible refine q_lds2 Tryd.isAgg25 ?_ ?_ ⟨X, 2, none⟩ ?_ (.int .i64 ((0 : Nat) : Int)) k2.out ?_
           · rfl
           · rfl
           · rfl
           try simp only [Act.put, List.getElem_toArray, List.getElem_cons_zero, List.getElem_cons_succ, List.setIfInBounds_toArray, List.set_cons_zero, List.set_cons_succ])
        | (with_reducible refine wpQuiet_step ?_
           intro K hK
           go_simp
           first
           | (refine hK _ ?_; clear hK K)
           | (apply Exists.intro
              refine ⟨fun W hW => ?_, hK _ ?_⟩
              first
              | exact rfl
              | exact ⟨rfl, rfl⟩
              clear hK K)))
      refine wpQuiet_nil ?_
      intro V1 h1V1

      have hR1t := hB0.out.below (hCV.out V1 h1V1)
      have hR1u := Lib.hid hR1t
      clear hR1t h1V1 hC1 k0 k1 k2 hCV hCd hB0
      have hB1 : Hid (Rd wp X RB PB s (n, 0) #[.bool true, .int .i64 ((r1 s).2 : Int), .int .i64 ((r7 s).2 : Int), .int .i64 (1 + ((r5 s).2 : Int)), .int .i64 ((r3 s).2 : Int), .int .i64 ((r9 s).2 : Int), .int .i64 ((r11 s).2 : Int), .int .i64 ((r12 s).2.1 : Int), .int .i64 (((r1 s).1.1 : Nat) : Int), .int .i64 (((r6 s).1 : Nat) : Int), .int .i64 (((r8 s).1 : Nat) : Int), .int .i64 (((r10 s).1 : Nat) : Int), .int .i64 ((r12 s).2.2 : Int), .int .i64 0] V1) := hR1u
      clear hR1u
      obtain ⟨c0, c1, c2, c3, c4, c5⟩ := hB1.out.scn.c
      try dsimp only at c1 c2
      go_wp2_with fail
      clear c0 c1 c2 c3 c4 c5 g1
      have hzs : (s.extract n s.size).size ≤ 64 := by simp [ByteArray.size_extract]; omega
      obtain ⟨za, zb, hz⟩ : ∃ za zb, zone (s.extract n s.size) = (za, zb) := ⟨(zone (s.extract n s.size)).1, (zone (s.extract n s.size)).2, (Prod.eta _).symm⟩
      obtain ⟨C, q1, q2, q3, q4⟩ : ∃ C : World → Prop, C V1 ∧ (∀ V, C V → Below V1.heap.size V1 V) ∧ (∀ W W', C W → Below W.heap.size W W' → C W') ∧ (∀ V, C V → C { V with drawn := V.drawn + 1 }) := ⟨fun V => Below V1.heap.size V1 V, Below.refl _ _, fun V h => h, fun W W' h hb => h.trans (hb.mono h.size), fun V h => h.drew⟩
      have k0 : Hid (∀ V, C V → V.cell? ⟨X, 0, none⟩ = some (.string s)) := Lib.hid (fun V hV => (hB1.out.scn.below (q2 V hV)).c.1)
      have k1 : Hid (∀ V, C V → V.cell? ⟨X, 1, none⟩ = some (.int .i64 (n : Int))) := Lib.hid (fun V hV => (hB1.out.scn.below (q2 V hV)).c.2.1)
      have k2 : Hid (∀ V, C V → V.cell? ⟨X, 2, none⟩ = some (.int .i64 ((0 : Nat) : Int))) := Lib.hid (fun V hV => (hB1.out.scn.below (q2 V hV)).c.2.2.1)
      have h1 : Hid (∀ W, C W → Calls Tryd.prog 55 #[.string (s.extract n s.size)] W fun e w' => e = .returned (.tuple #[.int .i64 za, .int .i64 (zb : Int)]) ∧ C w') := Lib.hid fun W hW => by
        have h := Tryd.dZone (s.extract n s.size) hzs W (hB1.out.T.below (q2 W hW))
        rw [hz] at h
        exact h.mono fun e w' h => ⟨h.1, q3 _ _ hW h.2⟩
      have hz' := fun (_ : Unit) => hz
      have hC1 := Lib.hid q1
      have hCV := Lib.hid q2
      have hCd := Lib.hid q4
      clear q1 q2 q3 q4 hz hzs
      generalize hex : s.extract n s.size = zs at h1 hz'
      have hex' := fun (_ : Unit) => hex
      refine q_region C (by kernel_rfl) (by kernel_rfl) (hCd.out _ hC1.out) ?_
      repeat (first
        | (with_reducible refine q_off ?_ ?_
           · rfl
           try simp only [Act.put, List.getElem_toArray, List.getElem_cons_zero, List.getElem_cons_succ, List.setIfInBounds_toArray, List.set_cons_zero, List.set_cons_succ])
        | (with_reducible refine q_lds2 Tryd.isAgg9 ?_ ?_ ⟨X, 0, none⟩ ?_ (.string s) k0.out ?_
           · rfl
           · rfl
           · rfl
           try simp only [Act.put, List.getElem_toArray, List.getElem_cons_zero, List.getElem_cons_succ, List.setIfInBounds_toArray, List.set_cons_zero, List.set_cons_succ])
        | (with_reducible refine q_lds2 Tryd.isAgg3 ?_ ?_ ⟨X, 1, none⟩ ?_ (.int .i64 (n : Int)) k1.out ?_
           · rfl
           · rfl
           · rfl
           try simp only [Act.put, List.getElem_toArray, List.getElem_cons_zero, List.getElem_cons_succ, List.setIfInBounds_toArray, List.set_cons_zero, List.set_cons_succ])
        | (with_reducible refine q_lds2 Tryd.isAgg25 ?_ ?_ ⟨X, 2, none⟩ ?_ (.int .i64 ((0 : Nat) : Int)) k2.out ?_
           · rfl
           · rfl
           · rfl
           try simp only [Act.put, List.getElem_toArray, List.getElem_cons_zero, List.getElem_cons_succ, List.setIfInBounds_toArray, List.set_cons_zero, List.set_cons_succ])
        | (with_reducible refine wpQuiet_step ?_
           intro K hK
           go_simp
           first
           | (refine hK _ ?_; clear hK K)
           | (apply Exists.intro
              refine ⟨fun W hW => ?_, hK _ ?_⟩
              first
              | exact rfl
              | exact ⟨rfl, rfl⟩
              | (with_reducible exact h1.out W hW)
              clear hK K)))
      refine wpQuiet_nil ?_
      intro V2 h1V2
      obtain ⟨bz, gz, gz'⟩ : ∃ bz, ((zb : Int) == 0) = bz ∧ (Unit → decide (zb = 0) = bz) := ⟨decide (zb = 0), by rw [Bool.eq_iff_iff]; simp, fun _ => rfl⟩
      have hR1t := hB1.out.below (hCV.out V2 h1V2)
      clear h1V2 hC1 k0 k1 k2 hCV hCd h1 hex
      have hB2 : Hid (Rd wp X RB PB s (n, 0) #[.bool true, .int .i64 ((r1 s).2 : Int), .int .i64 ((r7 s).2 : Int), .int .i64 (1 + ((r5 s).2 : Int)), .int .i64 ((r3 s).2 : Int), .int .i64 ((r9 s).2 : Int), .int .i64 ((r11 s).2 : Int), .int .i64 ((r12 s).2.1 : Int), .int .i64 (((r1 s).1.1 : Nat) : Int), .int .i64 (((r6 s).1 : Nat) : Int), .int .i64 (((r8 s).1 : Nat) : Int), .int .i64 (((r10 s).1 : Nat) : Int), .int .i64 ((r12 s).2.2 : Int), .int .i64 0] V2) := Lib.hid hR1t
      clear hR1t hB1
      obtain ⟨c0, c1, c2, c3, c4, c5⟩ := hB2.out.scn.c
      try dsimp only at c1 c2
      obtain ⟨p13, f13⟩ := hB2.out.cell 13 _ rfl
      go_wp2_with fail
      clear c0 c1 c2 c3 c4 c5 p13 f13 gz
      have hH201t : Rd wp X RB PB s (n, 0) #[.bool true, .int .i64 ((r1 s).2 : Int), .int .i64 ((r7 s).2 : Int), .int .i64 (1 + ((r5 s).2 : Int)), .int .i64 ((r3 s).2 : Int), .int .i64 ((r9 s).2 : Int), .int .i64 ((r11 s).2 : Int), .int .i64 ((r12 s).2.1 : Int), .int .i64 (((r1 s).1.1 : Nat) : Int), .int .i64 (((r6 s).1 : Nat) : Int), .int .i64 (((r8 s).1 : Nat) : Int), .int .i64 (((r10 s).1 : Nat) : Int), .int .i64 ((r12 s).2.2 : Int), .int .i64 za] (V2.setCell ⟨PB, 13, none⟩ (.int .i64 za)) := (hB2.out.store 13 (.int .i64 za))
      generalize (V2.setCell ⟨PB, 13, none⟩ (.int .i64 za)) = W201 at hH201t ⊢
      have hH201 : Hid (Rd wp X RB PB s (n, 0) #[.bool true, .int .i64 ((r1 s).2 : Int), .int .i64 ((r7 s).2 : Int), .int .i64 (1 + ((r5 s).2 : Int)), .int .i64 ((r3 s).2 : Int), .int .i64 ((r9 s).2 : Int), .int .i64 ((r11 s).2 : Int), .int .i64 ((r12 s).2.1 : Int), .int .i64 (((r1 s).1.1 : Nat) : Int), .int .i64 (((r6 s).1 : Nat) : Int), .int .i64 (((r8 s).1 : Nat) : Int), .int .i64 (((r10 s).1 : Nat) : Int), .int .i64 ((r12 s).2.2 : Int), .int .i64 za] W201) := Lib.hid hH201t
      clear hH201t hB2
      have hc := Tryd.dCheck X s (n, 0) bz n zb W201 hH201.out.scn hnz
      refine hc.mono ?_
      rintro e V3 ⟨rfl, hg, hs⟩
      have hR1t := hH201.out.call hg hs
      have hR1u := Lib.hid hR1t
      clear hR1t hc hg hs hH201
      have e15 : Unit → r15 s = (sck (n, 0) bz n zb, za) := fun _ => by
        have h14 : r14 s = (n, 0) := by unfold r14; rw [hne' (), if_neg (fun h => hn h.2)]
        unfold r15
        rw [h14, if_pos rfl]
        show (sck (n, 0) (decide ((zone (s.extract n s.size)).2 = 0)) n (zone (s.extract n s.size)).2, (zone (s.extract n s.size)).1) = _
        rw [hex' (), hz' ()]
        show (sck (n, 0) (decide (zb = 0)) n zb, za) = _
        rw [gz' ()]
      have hR1 : Hid (Rd wp X RB PB s (sck (n, 0) bz n zb) #[.bool true, .int .i64 ((r1 s).2 : Int), .int .i64 ((r7 s).2 : Int), .int .i64 (1 + ((r5 s).2 : Int)), .int .i64 ((r3 s).2 : Int), .int .i64 ((r9 s).2 : Int), .int .i64 ((r11 s).2 : Int), .int .i64 ((r12 s).2.1 : Int), .int .i64 (((r1 s).1.1 : Nat) : Int), .int .i64 (((r6 s).1 : Nat) : Int), .int .i64 (((r8 s).1 : Nat) : Int), .int .i64 (((r10 s).1 : Nat) : Int), .int .i64 ((r12 s).2.2 : Int), .int .i64 za] V3) := hR1u
      obtain ⟨c0, c1, c2, c3, c4, c5⟩ := hR1.out.scn.c
      try dsimp only at c1 c2
      obtain ⟨p0, f0⟩ := hR1.out.cell 0 _ rfl
      obtain ⟨p1, f1⟩ := hR1.out.cell 1 _ rfl
      obtain ⟨p2, f2⟩ := hR1.out.cell 2 _ rfl
      obtain ⟨p3, f3⟩ := hR1.out.cell 3 _ rfl
      obtain ⟨p4, f4⟩ := hR1.out.cell 4 _ rfl
      obtain ⟨p5, f5⟩ := hR1.out.cell 5 _ rfl
      obtain ⟨p6, f6⟩ := hR1.out.cell 6 _ rfl
      obtain ⟨p7, f7⟩ := hR1.out.cell 7 _ rfl
      obtain ⟨p8, f8⟩ := hR1.out.cell 8 _ rfl
      obtain ⟨p9, f9⟩ := hR1.out.cell 9 _ rfl
      obtain ⟨p10, f10⟩ := hR1.out.cell 10 _ rfl
      obtain ⟨p11, f11⟩ := hR1.out.cell 11 _ rfl
      obtain ⟨p12, f12⟩ := hR1.out.cell 12 _ rfl
      obtain ⟨p13, f13⟩ := hR1.out.cell 13 _ rfl
      obtain ⟨q0, g0⟩ := hR1.out.rcell 0 _ rfl
      obtain ⟨q1, g1⟩ := hR1.out.rcell 1 _ rfl
      obtain ⟨q2, g2⟩ := hR1.out.rcell 2 _ rfl
      obtain ⟨q3, g3⟩ := hR1.out.rcell 3 _ rfl
      obtain ⟨q4, g4⟩ := hR1.out.rcell 4 _ rfl
      obtain ⟨q5, g5⟩ := hR1.out.rcell 5 _ rfl
      obtain ⟨q6, g6⟩ := hR1.out.rcell 6 _ rfl
      obtain ⟨q7, g7⟩ := hR1.out.rcell 7 _ rfl
      obtain ⟨q8, g8⟩ := hR1.out.rcell 8 _ rfl
      obtain ⟨q9, g9⟩ := hR1.out.rcell 9 _ rfl
      obtain ⟨q10, g10⟩ := hR1.out.rcell 10 _ rfl
      obtain ⟨q11, g11⟩ := hR1.out.rcell 11 _ rfl
      obtain ⟨q12, g12⟩ := hR1.out.rcell 12 _ rfl
      obtain ⟨q13, g13⟩ := hR1.out.rcell 13 _ rfl
      go_wp2_with fail
      clear c0 c1 c2 c3 c4 c5 p0 f0 q0 g0 p1 f1 q1 g1 p2 f2 q2 g2 p3 f3 q3 g3 p4 f4 q4 g4 p5 f5 q5 g5 p6 f6 q6 g6 p7 f7 q7 g7 p8 f8 q8 g8 p9 f9 q9 g9 p10 f10 q10 g10 p11 f11 q11 g11 p12 f12 q12 g12 p13 f13 q13 g13
      obtain ⟨hF, hG, hB⟩ := hR1.out.fin (.bool true) (.int .i64 ((r1 s).2 : Int)) (.int .i64 ((r7 s).2 : Int)) (.int .i64 (1 + ((r5 s).2 : Int))) (.int .i64 ((r3 s).2 : Int)) (.int .i64 ((r9 s).2 : Int)) (.int .i64 ((r11 s).2 : Int)) (.int .i64 ((r12 s).2.1 : Int)) (.int .i64 (((r1 s).1.1 : Nat) : Int)) (.int .i64 (((r6 s).1 : Nat) : Int)) (.int .i64 (((r8 s).1 : Nat) : Int)) (.int .i64 (((r10 s).1 : Nat) : Int)) (.int .i64 ((r12 s).2.2 : Int)) (.int .i64 za) rfl
      generalize ((((((((((((((V3.setCell ⟨RB, 0, none⟩ (.bool true)).setCell ⟨RB, 1, none⟩ (.int .i64 ((r1 s).2 : Int))).setCell ⟨RB, 2, none⟩ (.int .i64 ((r7 s).2 : Int))).setCell ⟨RB, 3, none⟩ (.int .i64 (1 + ((r5 s).2 : Int)))).setCell ⟨RB, 4, none⟩ (.int .i64 ((r3 s).2 : Int))).setCell ⟨RB, 5, none⟩ (.int .i64 ((r9 s).2 : Int))).setCell ⟨RB, 6, none⟩ (.int .i64 ((r11 s).2 : Int))).setCell ⟨RB, 7, none⟩ (.int .i64 ((r12 s).2.1 : Int))).setCell ⟨RB, 8, none⟩ (.int .i64 (((r1 s).1.1 : Nat) : Int))).setCell ⟨RB, 9, none⟩ (.int .i64 (((r6 s).1 : Nat) : Int))).setCell ⟨RB, 10, none⟩ (.int .i64 (((r8 s).1 : Nat) : Int))).setCell ⟨RB, 11, none⟩ (.int .i64 (((r10 s).1 : Nat) : Int))).setCell ⟨RB, 12, none⟩ (.int .i64 ((r12 s).2.2 : Int))).setCell ⟨RB, 13, none⟩ (.int .i64 za)) = WF at hF hG hB ⊢
      obtain ⟨z0, z1, z2, z3, z4, z5, z6, z7, z8, z9, z10, z11, z12, z13⟩ := cells14 hF
      clear hF
      refine bodyPost_ret (v := rv s) ?_ rfl ⟨rfl, hB, ?_⟩
      · simp [results, Tryd.results38, go_sem, z0, z1, z2, z3, z4, z5, z6, z7, z8, z9, z10, z11, z12, z13]
        unfold rv
        simp only [hn' (), e15 ()]
      · rw [e15 ()]
        exact hG
  · obtain ⟨C, q1, q2, q4⟩ : ∃ C : World → Prop, C W38 ∧ (∀ V, C V → Below W38.heap.size W38 V) ∧ (∀ V, C V → C { V with drawn := V.drawn + 1 }) := ⟨fun V => Below W38.heap.size W38 V, Below.refl _ _, fun V h => h, fun V h => h.drew⟩
    have k0 : Hid (∀ V, C V → V.cell? ⟨X, 0, none⟩ = some (.string s)) := Lib.hid (fun V hV => (hHS.out.scn.below (q2 V hV)).c.1)
    have k1 : Hid (∀ V, C V → V.cell? ⟨X, 1, none⟩ = some (.int .i64 (n : Int))) := Lib.hid (fun V hV => (hHS.out.scn.below (q2 V hV)).c.2.1)
    have k2 : Hid (∀ V, C V → V.cell? ⟨X, 2, none⟩ = some (.int .i64 (e : Int))) := Lib.hid (fun V hV => (hHS.out.scn.below (q2 V hV)).c.2.2.1)
    have hC1 := Lib.hid q1
    have hCV := Lib.hid q2
    have hCd := Lib.hid q4
    clear q1 q2 q4
    have g1 : ((e : Int) == 0) = false := beq_false_of_ne (by omega)
    refine q_region C (by kernel_rfl) (by kernel_rfl) (hCd.out _ hC1.out) ?_
    repeat (first
      | (with_reducible refine q_off ?_ ?_
         · rfl
         try simp only [Act.put, List.getElem_toArray, List.getElem_cons_zero, List.getElem_cons_succ, List.setIfInBounds_toArray, List.set_cons_zero, List.set_cons_succ])
      | (with_reducible refine q_lds2 Tryd.isAgg9 ?_ ?_ ⟨X, 0, none⟩ ?_ (.string s) k0.out ?_
         · rfl
         · rfl
         · rfl
         try simp only [Act.put, List.getElem_toArray, List.getElem_cons_zero, List.getElem_cons_succ, List.setIfInBounds_toArray, List.set_cons_zero, List.set_cons_succ])
      | (with_reducible refine q_lds2 Tryd.isAgg3 ?_ ?_ ⟨X, 1, none⟩ ?_ (.int .i64 (n : Int)) k1.out ?_
         · rfl
         · rfl
         · rfl
         try simp only [Act.put, List.getElem_toArray, List.getElem_cons_zero, List.getElem_cons_succ, List.setIfInBounds_toArray, List.set_cons_zero, List.set_cons_succ])
      | (with_reducible refine q_lds2 Tryd.isAgg25 ?_ ?_ ⟨X, 2, none⟩ ?_ (.int .i64 (e : Int)) k2.out ?_
         · rfl
         · rfl
         · rfl
         try simp only [Act.put, List.getElem_toArray, List.getElem_cons_zero, List.getElem_cons_succ, List.setIfInBounds_toArray, List.set_cons_zero, List.set_cons_succ])
      | (with_reducible refine wpQuiet_step ?_
         intro K hK
         go_simp
         first
         | (refine hK _ ?_; clear hK K)
         | (apply Exists.intro
            refine ⟨fun W hW => ?_, hK _ ?_⟩
            first
            | exact rfl
            | exact ⟨rfl, rfl⟩
            clear hK K)))
    refine wpQuiet_nil ?_
    intro V1 h1V1

    have hR1t := hHS.out.below (hCV.out V1 h1V1)
    have hR1u := Lib.hid hR1t
    clear hR1t h1V1 hC1 k0 k1 k2 hCV hCd hHS
    have e15 : Unit → r15 s = ((n, e), 0) := fun _ => by
      have h14 : r14 s = (n, e) := by unfold r14; rw [hne' (), if_neg (fun h => he h.1)]
      unfold r15
      rw [h14, if_neg he]
    have hR1 : Hid (Rd wp X RB PB s (n, e) #[.bool true, .int .i64 ((r1 s).2 : Int), .int .i64 ((r7 s).2 : Int), .int .i64 (1 + ((r5 s).2 : Int)), .int .i64 ((r3 s).2 : Int), .int .i64 ((r9 s).2 : Int), .int .i64 ((r11 s).2 : Int), .int .i64 ((r12 s).2.1 : Int), .int .i64 (((r1 s).1.1 : Nat) : Int), .int .i64 (((r6 s).1 : Nat) : Int), .int .i64 (((r8 s).1 : Nat) : Int), .int .i64 (((r10 s).1 : Nat) : Int), .int .i64 ((r12 s).2.2 : Int), .int .i64 0] V1) := hR1u
    obtain ⟨c0, c1, c2, c3, c4, c5⟩ := hR1.out.scn.c
    try dsimp only at c1 c2
    obtain ⟨p0, f0⟩ := hR1.out.cell 0 _ rfl
    obtain ⟨p1, f1⟩ := hR1.out.cell 1 _ rfl
    obtain ⟨p2, f2⟩ := hR1.out.cell 2 _ rfl
    obtain ⟨p3, f3⟩ := hR1.out.cell 3 _ rfl
    obtain ⟨p4, f4⟩ := hR1.out.cell 4 _ rfl
    obtain ⟨p5, f5⟩ := hR1.out.cell 5 _ rfl
    obtain ⟨p6, f6⟩ := hR1.out.cell 6 _ rfl
    obtain ⟨p7, f7⟩ := hR1.out.cell 7 _ rfl
    obtain ⟨p8, f8⟩ := hR1.out.cell 8 _ rfl
    obtain ⟨p9, f9⟩ := hR1.out.cell 9 _ rfl
    obtain ⟨p10, f10⟩ := hR1.out.cell 10 _ rfl
    obtain ⟨p11, f11⟩ := hR1.out.cell 11 _ rfl
    obtain ⟨p12, f12⟩ := hR1.out.cell 12 _ rfl
    obtain ⟨p13, f13⟩ := hR1.out.cell 13 _ rfl
    obtain ⟨q0, g0⟩ := hR1.out.rcell 0 _ rfl
    obtain ⟨q1, g1⟩ := hR1.out.rcell 1 _ rfl
    obtain ⟨q2, g2⟩ := hR1.out.rcell 2 _ rfl
    obtain ⟨q3, g3⟩ := hR1.out.rcell 3 _ rfl
    obtain ⟨q4, g4⟩ := hR1.out.rcell 4 _ rfl
    obtain ⟨q5, g5⟩ := hR1.out.rcell 5 _ rfl
    obtain ⟨q6, g6⟩ := hR1.out.rcell 6 _ rfl
    obtain ⟨q7, g7⟩ := hR1.out.rcell 7 _ rfl
    obtain ⟨q8, g8⟩ := hR1.out.rcell 8 _ rfl
    obtain ⟨q9, g9⟩ := hR1.out.rcell 9 _ rfl
    obtain ⟨q10, g10⟩ := hR1.out.rcell 10 _ rfl
    obtain ⟨q11, g11⟩ := hR1.out.rcell 11 _ rfl
    obtain ⟨q12, g12⟩ := hR1.out.rcell 12 _ rfl
    obtain ⟨q13, g13⟩ := hR1.out.rcell 13 _ rfl
    go_wp2_with fail
    clear c0 c1 c2 c3 c4 c5 p0 f0 q0 g0 p1 f1 q1 g1 p2 f2 q2 g2 p3 f3 q3 g3 p4 f4 q4 g4 p5 f5 q5 g5 p6 f6 q6 g6 p7 f7 q7 g7 p8 f8 q8 g8 p9 f9 q9 g9 p10 f10 q10 g10 p11 f11 q11 g11 p12 f12 q12 g12 p13 f13 q13 g13
    obtain ⟨hF, hG, hB⟩ := hR1.out.fin (.bool true) (.int .i64 ((r1 s).2 : Int)) (.int .i64 ((r7 s).2 : Int)) (.int .i64 (1 + ((r5 s).2 : Int))) (.int .i64 ((r3 s).2 : Int)) (.int .i64 ((r9 s).2 : Int)) (.int .i64 ((r11 s).2 : Int)) (.int .i64 ((r12 s).2.1 : Int)) (.int .i64 (((r1 s).1.1 : Nat) : Int)) (.int .i64 (((r6 s).1 : Nat) : Int)) (.int .i64 (((r8 s).1 : Nat) : Int)) (.int .i64 (((r10 s).1 : Nat) : Int)) (.int .i64 ((r12 s).2.2 : Int)) (.int .i64 0) rfl
    generalize ((((((((((((((V1.setCell ⟨RB, 0, none⟩ (.bool true)).setCell ⟨RB, 1, none⟩ (.int .i64 ((r1 s).2 : Int))).setCell ⟨RB, 2, none⟩ (.int .i64 ((r7 s).2 : Int))).setCell ⟨RB, 3, none⟩ (.int .i64 (1 + ((r5 s).2 : Int)))).setCell ⟨RB, 4, none⟩ (.int .i64 ((r3 s).2 : Int))).setCell ⟨RB, 5, none⟩ (.int .i64 ((r9 s).2 : Int))).setCell ⟨RB, 6, none⟩ (.int .i64 ((r11 s).2 : Int))).setCell ⟨RB, 7, none⟩ (.int .i64 ((r12 s).2.1 : Int))).setCell ⟨RB, 8, none⟩ (.int .i64 (((r1 s).1.1 : Nat) : Int))).setCell ⟨RB, 9, none⟩ (.int .i64 (((r6 s).1 : Nat) : Int))).setCell ⟨RB, 10, none⟩ (.int .i64 (((r8 s).1 : Nat) : Int))).setCell ⟨RB, 11, none⟩ (.int .i64 (((r10 s).1 : Nat) : Int))).setCell ⟨RB, 12, none⟩ (.int .i64 ((r12 s).2.2 : Int))).setCell ⟨RB, 13, none⟩ (.int .i64 0)) = WF at hF hG hB ⊢
    obtain ⟨z0, z1, z2, z3, z4, z5, z6, z7, z8, z9, z10, z11, z12, z13⟩ := cells14 hF
    clear hF
    refine bodyPost_ret (v := rv s) ?_ rfl ⟨rfl, hB, ?_⟩
    · simp [results, Tryd.results38, go_sem, z0, z1, z2, z3, z4, z5, z6, z7, z8, z9, z10, z11, z12, z13]
      unfold rv
      simp only [hn' (), e15 ()]
    · rw [e15 ()]
      exact hG
end Go.Proofs
