/- Parse of date -/
import Derived.Test.YtgbpafapmbnfjaaDoorPr
import Derived.Test.YtgbpafapmbnfjaaDoorFromG
import Derived.Test.YtgbpafapmbnfjaaDoorCiv
import Derived.Deep.RegionHeld
namespace Go.Proofs
open Go.RowKit Go.Shelf
set_option linter.unusedVariables false
set_option linter.unusedSimpArgs false
open TK
set_option maxRecDepth 100000 in
set_option maxHeartbeats 1000000 in
theorem Tryd.dParse_long (s : ByteArray) (hs : 64 < s.size) (hz : s.size ≤ 1000) (w : World) : Calls Tryd.prog 20 #[.string s] w fun z w' => z = .returned (.tuple #[.int .i64 (parse s).1, .int .i64 ((parse s).2.1 : Int), .int .i64 ((parse s).2.2 : Int)]) ∧ Below w.heap.size w w' := by
  have hv : parse s = (0, 64, 5) := if_pos hs
  rw [hv]
  clear hv
  have g1 : decide ((64 : Int) < s.size) = true := by simp; omega
  go_enter Tryd.func20, Tryd.ntmps20
  go_wp2_with fail
  exact bodyPost_ret (v := .tuple #[.int .i64 0, .int .i64 64, .int .i64 5]) (by simp [results, Tryd.results20, go_sem]) rfl ⟨rfl, Below.refl _ _⟩
theorem TK.h_off {P : Program} {md : Region.Mode} {ops : Array Oper} {Q : Exit → Act → World → Prop} {S : World → Prop} {i : Nat} {oi : Oper} {fuel : Nat} {listed : Array Bool} {a : Act} {w : World} (hi : ops[i]? = some oi)
    (hs : Region.noSelect ops = true) (hf : Region.free md ops listed i = true) (hr : (Region.ready md ops listed).contains i = true)
    (hQ : ∀ c a w, Q (.panic c) (a.put oi.dst undef) w → Q (.panic c) a w) (hw : Region.wanted oi (yielded ops a.tmps) = false) (hS : S w)
    (h : wpAnyH P md ops Q S fuel (listed.setIfInBounds i true) (a.put oi.dst undef) w) : wpAnyH P md ops Q S (fuel + 1) listed a w :=
  wpAnyH_take hi hs hf hr hQ (.inr ⟨hw, rfl⟩) hS h
structure TK.Ps (wp : World) (X PB : Nat) (s : ByteArray) (x : Nat × Nat) (A : Array Value) (W : World) : Prop where
  scn : Scn W X s x
  par : W.heap[PB]? = some (.cells A 63 (0, 0))
  ne : PB ≠ X
  bel : Below wp.heap.size wp W
  lx : wp.heap.size ≤ X
theorem TK.sf_ne (x : Nat × Nat) (m f : Nat) (hf : f ≠ 0) : ∃ n e, (Unit → sf x m f = (n, e)) ∧ e ≠ 0 ∧ (m ≤ x.1 ∨ True) := by
  refine ⟨(sf x m f).1, (sf x m f).2, fun _ => rfl, ?_, .inr trivial⟩
  unfold sf
  split
  · exact hf
  · assumption
theorem TK.Ps.call {wp W W' : World} {X PB : Nat} {s : ByteArray} {x x' : Nat × Nat} {A : Array Value} (h : Ps wp X PB s x A W) (hg : W.grownBy W' (some X)) (hs : Scn W' X s x') : Ps wp X PB s x' A W' :=
  ⟨hs, (hg.block PB (Array.getElem?_eq_some_iff.1 h.par).1 (by simpa using h.ne)).trans h.par, h.ne, h.bel.grown hg h.bel.size (fun k hk => by cases hk; exact h.lx), h.lx⟩
theorem TK.Ps.below {wp W W' : World} {X PB : Nat} {s : ByteArray} {x : Nat × Nat} {A : Array Value} (h : Ps wp X PB s x A W) (hb : Below W.heap.size W W') : Ps wp X PB s x A W' := h.call (up hb _) (h.scn.below hb)
set_option maxRecDepth 100000 in
set_option maxHeartbeats 1000000 in
theorem Tryd.dParse_x (s : ByteArray) (hs : s.size ≤ 64) (x : Nat × Nat) (nm : Bool) (wk oD oY oH oN oS : Nat) (Y M D H N S z : Int)
    (hD : oD ≤ s.size) (hY : oY ≤ s.size) (hH : oH ≤ s.size) (hN : oN ≤ s.size) (hS : oS ≤ s.size)
    (bY : 0 ≤ Y ∧ Y ≤ 1000000) (bM : 1 ≤ M ∧ M ≤ 12) (bD : 0 ≤ D ∧ D ≤ 1000000) (bH : 0 ≤ H ∧ H ≤ 1000000) (bN : 0 ≤ N ∧ N ≤ 1000000) (bS : 0 ≤ S ∧ S ≤ 1000000) (bz : -1000000 ≤ z ∧ z ≤ 1000000) (bw : wk ≤ 1000)
    (w : World)
    (hr : ∀ X W, Scn W X s (0, 0) → Below w.heap.size w W → w.heap.size ≤ X → Calls Tryd.prog 38 #[.pointer (some ⟨X, 0, none⟩)] W fun e w' => e = .returned (.agg #[.bool nm, .int .i64 (wk : Int), .int .i64 Y, .int .i64 M, .int .i64 D, .int .i64 H, .int .i64 N, .int .i64 S, .int .i64 (oD : Int), .int .i64 (oY : Int), .int .i64 (oH : Int), .int .i64 (oN : Int), .int .i64 (oS : Int), .int .i64 z]) ∧ Below w.heap.size w w' ∧ Scn w' X s x)
    (hT : Tabs w) (R : Int × Nat × Nat) (hR : Unit → pz x nm wk oD oY oH oN oS Y M D H N S z = R) :
    Calls Tryd.prog 20 #[.string s] w fun z w' => z = .returned (.tuple #[.int .i64 R.1, .int .i64 (R.2.1 : Int), .int .i64 (R.2.2 : Int)]) ∧ Below w.heap.size w w' := by
  have g1 : decide ((64 : Int) < s.size) = false := by simp; omega
  go_enter Tryd.func20, Tryd.ntmps20
  go_wp2_with fail
  have hs0 : Scn (w.alloc (.cells #[.string s, .int .i64 0, .int .i64 0] 61)) w.heap.size s (0, 0) := ⟨Go.heap_alloc_new w _, Nat.zero_le _, hs⟩
  have hc := hr w.heap.size _ hs0 ((Below.refl _ _).alloc (Nat.le_refl _) _) (Nat.le_refl _)
  clear hs0
  refine hc.mono ?_
  rintro e W0 ⟨rfl, hb, hs0⟩
  have hP0 : Ps w w.heap.size W0.heap.size s x #[.bool nm, .int .i64 (wk : Int), .int .i64 Y, .int .i64 M, .int .i64 D, .int .i64 H, .int .i64 N, .int .i64 S, .int .i64 (oD : Int), .int .i64 (oY : Int), .int .i64 (oH : Int), .int .i64 (oN : Int), .int .i64 (oS : Int), .int .i64 z] (W0.alloc (.cells #[.bool nm, .int .i64 (wk : Int), .int .i64 Y, .int .i64 M, .int .i64 D, .int .i64 H, .int .i64 N, .int .i64 S, .int .i64 (oD : Int), .int .i64 (oY : Int), .int .i64 (oH : Int), .int .i64 (oN : Int), .int .i64 (oS : Int), .int .i64 z] 63)) := ⟨hs0.below ((Below.refl _ _).alloc (Nat.le_refl _) _), Go.heap_alloc_new W0 _, (by have := (Array.getElem?_eq_some_iff.1 hs0.1).1; omega), hb.trans (((Below.refl _ _).alloc (Nat.le_refl _) _).mono hb.size), Nat.le_refl _⟩
  have hT' := Lib.hid hT
  clear hc hs0 hb hr hT
  obtain ⟨c1, g2⟩ : ∃ c, decide (2000 ≤ Y) = c := ⟨_, rfl⟩
  obtain ⟨c2, g3⟩ : ∃ c, decide (Y ≤ 2199) = c := ⟨_, rfl⟩
  cases c1
  · go_wp2_with fail
    generalize (W0.alloc (.cells #[.bool nm, .int .i64 (wk : Int), .int .i64 Y, .int .i64 M, .int .i64 D, .int .i64 H, .int .i64 N, .int .i64 S, .int .i64 (oD : Int), .int .i64 (oY : Int), .int .i64 (oH : Int), .int .i64 (oN : Int), .int .i64 (oS : Int), .int .i64 z] 63)) = W1 at hP0 ⊢
    generalize W0.heap.size = PB at hP0 ⊢
    generalize hwX : w.heap.size = X at hP0 ⊢
    have hP1 := Lib.hid hP0
    clear hP0
    obtain ⟨n1, e1, hx1, he1, -⟩ := sf_ne x oY 2 (by decide)
    have hc := Tryd.dCheck X s x false oY 2 W1 hP1.out.scn hY
    rw [show sck x false oY 2 = (n1, e1) from hx1 ()] at hc
    refine hc.mono ?_
    rintro e V1 ⟨rfl, hg, hs⟩
    have hV1 := Lib.hid (hP1.out.call hg hs)
    clear hc hg hs hP1
    have g9 : ((e1 : Int) == 0) = false := beq_false_of_ne (by omega)
    have hRe : Unit → R = (0, n1, e1) := fun _ => by rw [← hR (), pz_1 (by unfold TK.q1; rw [g2, g3]; exact hx1 ()) he1]
    obtain ⟨z0, z1, z2, z3, z4, z5, z6, z7, z8, z9, z10, z11, z12, z13⟩ := cells14 hV1.out.par
    obtain ⟨c0, c1, c2, c3, c4, c5⟩ := hV1.out.scn.c
    try dsimp only at c1 c2
    go_wp2_with fail
    clear c0 c1 c2 c3 c4 c5 z0 z1 z2 z3 z4 z5 z6 z7 z8 z9 z10 z11 z12 z13
    obtain ⟨C, q1, q2, q4⟩ : ∃ C : World → Prop, C V1 ∧ (∀ V, C V → Below V1.heap.size V1 V) ∧ (∀ V, C V → C { V with drawn := V.drawn + 1 }) := ⟨fun V => Below V1.heap.size V1 V, Below.refl _ _, fun V h => h, fun V h => h.drew⟩
    have k1 : Hid (∀ V, C V → V.cell? ⟨X, 1, none⟩ = some (.int .i64 (n1 : Int))) := Lib.hid (fun V hV => (hV1.out.scn.below (q2 V hV)).c.2.1)
    have k2 : Hid (∀ V, C V → V.cell? ⟨X, 2, none⟩ = some (.int .i64 (e1 : Int))) := Lib.hid (fun V hV => (hV1.out.scn.below (q2 V hV)).c.2.2.1)
    have hC1 := Lib.hid q1
    have hCV := Lib.hid q2
    have hCd := Lib.hid q4
    clear q1 q2 q4
    refine q_region C (by kernel_rfl) (by kernel_rfl) (hCd.out _ hC1.out) ?_
    repeat (first
      | (with_reducible refine q_off ?_ ?_
         · rfl
         try simp only [Act.put, List.getElem_toArray, List.getElem_cons_zero, List.getElem_cons_succ, List.setIfInBounds_toArray, List.set_cons_zero, List.set_cons_succ])
      | (with_reducible refine q_lds2 Tryd.isAgg3 ?_ ?_ ⟨X, 1, none⟩ ?_ (.int .i64 (n1 : Int)) k1.out ?_
         · rfl
         · rfl
         · rfl
         try simp only [Act.put, List.getElem_toArray, List.getElem_cons_zero, List.getElem_cons_succ, List.setIfInBounds_toArray, List.set_cons_zero, List.set_cons_succ])
      | (with_reducible refine q_lds2 Tryd.isAgg25 ?_ ?_ ⟨X, 2, none⟩ ?_ (.int .i64 (e1 : Int)) k2.out ?_
         · rfl
         · rfl
         · rfl
         try simp only [Act.put, List.getElem_toArray, List.getElem_cons_zero, List.getElem_cons_succ, List.setIfInBounds_toArray, List.set_cons_zero, List.set_cons_succ])
      | (with_reducible refine wpQuiet_step ?_
         intro K hK
         go_simp
         first
         | (refine hK _ ?_; clear hK K)
         | (apply Exists.intro
            refine ⟨fun W hW => ?_, hK _ ?_⟩
            first
            | exact rfl
            | exact ⟨rfl, rfl⟩
            clear hK K)))
    refine wpQuiet_nil ?_
    intro VR h1VR
    have hBR : Below w.heap.size w VR := by rw [hwX]; exact hwX ▸ (hV1.out.below (hCV.out VR h1VR)).bel
    clear h1VR hC1 k1 k2 hCV hCd
    go_wp2_with fail
    have hRe2 := hRe ()
    exact bodyPost_ret (v := .tuple #[.int .i64 0, .int .i64 (n1 : Int), .int .i64 (e1 : Int)]) (by simp [results, Tryd.results20, go_sem]) rfl ⟨by rw [hRe2], hBR⟩
  cases c2
  · go_wp2_with fail
    generalize (W0.alloc (.cells #[.bool nm, .int .i64 (wk : Int), .int .i64 Y, .int .i64 M, .int .i64 D, .int .i64 H, .int .i64 N, .int .i64 S, .int .i64 (oD : Int), .int .i64 (oY : Int), .int .i64 (oH : Int), .int .i64 (oN : Int), .int .i64 (oS : Int), .int .i64 z] 63)) = W1 at hP0 ⊢
    generalize W0.heap.size = PB at hP0 ⊢
    generalize hwX : w.heap.size = X at hP0 ⊢
    have hP1 := Lib.hid hP0
    clear hP0
    obtain ⟨n1, e1, hx1, he1, -⟩ := sf_ne x oY 2 (by decide)
    have hc := Tryd.dCheck X s x false oY 2 W1 hP1.out.scn hY
    rw [show sck x false oY 2 = (n1, e1) from hx1 ()] at hc
    refine hc.mono ?_
    rintro e V1 ⟨rfl, hg, hs⟩
    have hV1 := Lib.hid (hP1.out.call hg hs)
    clear hc hg hs hP1
    have g9 : ((e1 : Int) == 0) = false := beq_false_of_ne (by omega)
    have hRe : Unit → R = (0, n1, e1) := fun _ => by rw [← hR (), pz_1 (by unfold TK.q1; rw [g2, g3]; exact hx1 ()) he1]
    obtain ⟨z0, z1, z2, z3, z4, z5, z6, z7, z8, z9, z10, z11, z12, z13⟩ := cells14 hV1.out.par
    obtain ⟨c0, c1, c2, c3, c4, c5⟩ := hV1.out.scn.c
    try dsimp only at c1 c2
    go_wp2_with fail
    clear c0 c1 c2 c3 c4 c5 z0 z1 z2 z3 z4 z5 z6 z7 z8 z9 z10 z11 z12 z13
    obtain ⟨C, q1, q2, q4⟩ : ∃ C : World → Prop, C V1 ∧ (∀ V, C V → Below V1.heap.size V1 V) ∧ (∀ V, C V → C { V with drawn := V.drawn + 1 }) := ⟨fun V => Below V1.heap.size V1 V, Below.refl _ _, fun V h => h, fun V h => h.drew⟩
    have k1 : Hid (∀ V, C V → V.cell? ⟨X, 1, none⟩ = some (.int .i64 (n1 : Int))) := Lib.hid (fun V hV => (hV1.out.scn.below (q2 V hV)).c.2.1)
    have k2 : Hid (∀ V, C V → V.cell? ⟨X, 2, none⟩ = some (.int .i64 (e1 : Int))) := Lib.hid (fun V hV => (hV1.out.scn.below (q2 V hV)).c.2.2.1)
    have hC1 := Lib.hid q1
    have hCV := Lib.hid q2
    have hCd := Lib.hid q4
    clear q1 q2 q4
    refine q_region C (by kernel_rfl) (by kernel_rfl) (hCd.out _ hC1.out) ?_
    repeat (first
      | (with_reducible refine q_off ?_ ?_
         · rfl
         try simp only [Act.put, List.getElem_toArray, List.getElem_cons_zero, List.getElem_cons_succ, List.setIfInBounds_toArray, List.set_cons_zero, List.set_cons_succ])
      | (with_reducible refine q_lds2 Tryd.isAgg3 ?_ ?_ ⟨X, 1, none⟩ ?_ (.int .i64 (n1 : Int)) k1.out ?_
         · rfl
         · rfl
         · rfl
         try simp only [Act.put, List.getElem_toArray, List.getElem_cons_zero, List.getElem_cons_succ, List.setIfInBounds_toArray, List.set_cons_zero, List.set_cons_succ])
      | (with_reducible refine q_lds2 Tryd.isAgg25 ?_ ?_ ⟨X, 2, none⟩ ?_ (.int .i64 (e1 : Int)) k2.out ?_
         · rfl
         · rfl
         · rfl
         try simp only [Act.put, List.getElem_toArray, List.getElem_cons_zero, List.getElem_cons_succ, List.setIfInBounds_toArray, List.set_cons_zero, List.set_cons_succ])
      | (with_reducible refine wpQuiet_step ?_
         intro K hK
         go_simp
         first
         | (refine hK _ ?_; clear hK K)
         | (apply Exists.intro
            refine ⟨fun W hW => ?_, hK _ ?_⟩
            first
            | exact rfl
            | exact ⟨rfl, rfl⟩
            clear hK K)))
    refine wpQuiet_nil ?_
    intro VR h1VR
    have hBR : Below w.heap.size w VR := by rw [hwX]; exact hwX ▸ (hV1.out.below (hCV.out VR h1VR)).bel
    clear h1VR hC1 k1 k2 hCV hCd
    go_wp2_with fail
    have hRe2 := hRe ()
    exact bodyPost_ret (v := .tuple #[.int .i64 0, .int .i64 (n1 : Int), .int .i64 (e1 : Int)]) (by simp [results, Tryd.results20, go_sem]) rfl ⟨by rw [hRe2], hBR⟩
  · have hY1 : 2000 ≤ Y := of_decide_eq_true g2
    have hY2 : Y ≤ 2199 := of_decide_eq_true g3
    go_wp2_with fail
    generalize (W0.alloc (.cells #[.bool nm, .int .i64 (wk : Int), .int .i64 Y, .int .i64 M, .int .i64 D, .int .i64 H, .int .i64 N, .int .i64 S, .int .i64 (oD : Int), .int .i64 (oY : Int), .int .i64 (oH : Int), .int .i64 (oN : Int), .int .i64 (oS : Int), .int .i64 z] 63)) = W1 at hP0 ⊢
    generalize W0.heap.size = PB at hP0 ⊢
    generalize hwX : w.heap.size = X at hP0 ⊢
    have hP1 := Lib.hid hP0
    clear hP0
    obtain ⟨n, e⟩ := x
    have hc := Tryd.dCheck X s (n, e) true oY 2 W1 hP1.out.scn hY
    rw [show sck (n, e) true oY 2 = (n, e) from rfl] at hc
    refine hc.mono ?_
    rintro e V1 ⟨rfl, hg, hs⟩
    have hV1 := Lib.hid (hP1.out.call hg hs)
    clear hc hg hs hP1
    by_cases he : e = 0
    · subst he
      have hq1 : Unit → TK.q1 (n, 0) Y oY = (n, 0) := fun _ => by unfold TK.q1; rw [g2, g3]; rfl
      obtain ⟨c3, g4⟩ : ∃ c, decide (1 ≤ D) = c := ⟨_, rfl⟩
      obtain ⟨c5, g5⟩ : ∃ c, decide (H ≤ 23) = c := ⟨_, rfl⟩
      obtain ⟨c6, g6⟩ : ∃ c, decide (N ≤ 59) = c := ⟨_, rfl⟩
      obtain ⟨c7, g7⟩ : ∃ c, decide (S ≤ 60) = c := ⟨_, rfl⟩
      cases c3
      · have hq5 : Unit → TK.q5 (n, 0) Y M D H N S oY oD oH oN oS = sck (sck (sck (sck (n, 0) false oD 13) c5 oH 13) c6 oN 13) c7 oS 13 := fun _ => q5_eq g2 g3 (by rw [g4]; rfl) g5 g6 g7
        obtain ⟨z0, z1, z2, z3, z4, z5, z6, z7, z8, z9, z10, z11, z12, z13⟩ := cells14 hV1.out.par
        obtain ⟨c0, c1, c2, c3, c4, c5⟩ := hV1.out.scn.c
        try dsimp only at c1 c2
        go_wp2_with fail
        clear c0 c1 c2 c3 c4 c5 z0 z1 z2 z3 z4 z5 z6 z7 z8 z9 z10 z11 z12 z13
        have hD1 := Lib.hid (hV1.out.below (Below.refl _ V1).drew)
        clear hV1
        have l2 : Hid (∀ W : World, W.heap[PB]? = some (.cells #[.bool nm, .int .i64 (wk : Int), .int .i64 Y, .int .i64 M, .int .i64 D, .int .i64 H, .int .i64 N, .int .i64 S, .int .i64 (oD : Int), .int .i64 (oY : Int), .int .i64 (oH : Int), .int .i64 (oN : Int), .int .i64 (oS : Int), .int .i64 z] 63 (0, 0)) → W.cell? ⟨PB, 2, none⟩ = some (.int .i64 Y)) := Lib.hid fun W h => by obtain ⟨-, -, h2, -, -, -, -, -, -, -, -, -, -, -⟩ := cells14 h; exact h2
        have l3 : Hid (∀ W : World, W.heap[PB]? = some (.cells #[.bool nm, .int .i64 (wk : Int), .int .i64 Y, .int .i64 M, .int .i64 D, .int .i64 H, .int .i64 N, .int .i64 S, .int .i64 (oD : Int), .int .i64 (oY : Int), .int .i64 (oH : Int), .int .i64 (oN : Int), .int .i64 (oS : Int), .int .i64 z] 63 (0, 0)) → W.cell? ⟨PB, 3, none⟩ = some (.int .i64 M)) := Lib.hid fun W h => by obtain ⟨-, -, -, h3, -, -, -, -, -, -, -, -, -, -⟩ := cells14 h; exact h3
        have l4 : Hid (∀ W : World, W.heap[PB]? = some (.cells #[.bool nm, .int .i64 (wk : Int), .int .i64 Y, .int .i64 M, .int .i64 D, .int .i64 H, .int .i64 N, .int .i64 S, .int .i64 (oD : Int), .int .i64 (oY : Int), .int .i64 (oH : Int), .int .i64 (oN : Int), .int .i64 (oS : Int), .int .i64 z] 63 (0, 0)) → W.cell? ⟨PB, 4, none⟩ = some (.int .i64 D)) := Lib.hid fun W h => by obtain ⟨-, -, -, -, h4, -, -, -, -, -, -, -, -, -⟩ := cells14 h; exact h4
        have l8 : Hid (∀ W : World, W.heap[PB]? = some (.cells #[.bool nm, .int .i64 (wk : Int), .int .i64 Y, .int .i64 M, .int .i64 D, .int .i64 H, .int .i64 N, .int .i64 S, .int .i64 (oD : Int), .int .i64 (oY : Int), .int .i64 (oH : Int), .int .i64 (oN : Int), .int .i64 (oS : Int), .int .i64 z] 63 (0, 0)) → W.cell? ⟨PB, 8, none⟩ = some (.int .i64 (oD : Int))) := Lib.hid fun W h => by obtain ⟨-, -, -, -, -, -, -, -, h8, -, -, -, -, -⟩ := cells14 h; exact h8
        refine wp_region_held (S := fun w' => w'.heap[PB]? = some (.cells #[.bool nm, .int .i64 (wk : Int), .int .i64 Y, .int .i64 M, .int .i64 D, .int .i64 H, .int .i64 N, .int .i64 S, .int .i64 (oD : Int), .int .i64 (oY : Int), .int .i64 (oH : Int), .int .i64 (oN : Int), .int .i64 (oS : Int), .int .i64 z] 63 (0, 0))) (by kernel_rfl) ?_
        have hS := hD1.out.par
        refine h_val (i := 0) (v := ?_) rfl (by kernel_rfl) (by kernel_rfl) (by kernel_rfl) (fun _ _ _ h => h) rfl ?_ hS ?_
        rotate_left
        · intro W hW
          go_simp
          try exact rfl
        try simp only [Act.put, List.getElem_toArray, List.getElem_cons_zero, List.getElem_cons_succ, List.setIfInBounds_toArray, List.set_cons_zero, List.set_cons_succ]
        refine h_val (i := 1) (v := ?_) rfl (by kernel_rfl) (by kernel_rfl) (by kernel_rfl) (fun _ _ _ h => h) rfl ?_ hS ?_
        rotate_left
        · intro W hW
          go_simp
          try exact rfl
        try simp only [Act.put, List.getElem_toArray, List.getElem_cons_zero, List.getElem_cons_succ, List.setIfInBounds_toArray, List.set_cons_zero, List.set_cons_succ]
        refine h_val (i := 2) (v := ?_) rfl (by kernel_rfl) (by kernel_rfl) (by kernel_rfl) (fun _ _ _ h => h) rfl ?_ hS ?_
        rotate_left
        · intro W hW
          go_simp
          try exact rfl
        try simp only [Act.put, List.getElem_toArray, List.getElem_cons_zero, List.getElem_cons_succ, List.setIfInBounds_toArray, List.set_cons_zero, List.set_cons_succ]
        refine h_val (i := 3) (v := .int .i64 D) rfl (by kernel_rfl) (by kernel_rfl) (by kernel_rfl) (fun _ _ _ h => h) rfl (fun W hW => h_ld Tryd.isAgg3 (.tmp 48) rfl ⟨PB, 4, none⟩ rfl _ (l4.out W hW)) hS ?_
        try simp only [Act.put, List.getElem_toArray, List.getElem_cons_zero, List.getElem_cons_succ, List.setIfInBounds_toArray, List.set_cons_zero, List.set_cons_succ]
        refine h_val (i := 4) (v := ?_) rfl (by kernel_rfl) (by kernel_rfl) (by kernel_rfl) (fun _ _ _ h => h) rfl ?_ hS ?_
        rotate_left
        · intro W hW
          go_simp
          try exact rfl
        try simp only [Act.put, List.getElem_toArray, List.getElem_cons_zero, List.getElem_cons_succ, List.setIfInBounds_toArray, List.set_cons_zero, List.set_cons_succ]
        refine h_val (i := 5) (v := ?_) rfl (by kernel_rfl) (by kernel_rfl) (by kernel_rfl) (fun _ _ _ h => h) rfl ?_ hS ?_
        rotate_left
        · intro W hW
          go_simp
          try exact rfl
        try simp only [Act.put, List.getElem_toArray, List.getElem_cons_zero, List.getElem_cons_succ, List.setIfInBounds_toArray, List.set_cons_zero, List.set_cons_succ]
        refine h_off (i := 6) rfl (by kernel_rfl) (by kernel_rfl) (by kernel_rfl) (fun _ _ _ h => h) rfl hS ?_
        try simp only [Act.put, List.getElem_toArray, List.getElem_cons_zero, List.getElem_cons_succ, List.setIfInBounds_toArray, List.set_cons_zero, List.set_cons_succ]
        refine h_off (i := 7) rfl (by kernel_rfl) (by kernel_rfl) (by kernel_rfl) (fun _ _ _ h => h) rfl hS ?_
        try simp only [Act.put, List.getElem_toArray, List.getElem_cons_zero, List.getElem_cons_succ, List.setIfInBounds_toArray, List.set_cons_zero, List.set_cons_succ]
        refine h_off (i := 8) rfl (by kernel_rfl) (by kernel_rfl) (by kernel_rfl) (fun _ _ _ h => h) rfl hS ?_
        try simp only [Act.put, List.getElem_toArray, List.getElem_cons_zero, List.getElem_cons_succ, List.setIfInBounds_toArray, List.set_cons_zero, List.set_cons_succ]
        refine h_off (i := 9) rfl (by kernel_rfl) (by kernel_rfl) (by kernel_rfl) (fun _ _ _ h => h) rfl hS ?_
        try simp only [Act.put, List.getElem_toArray, List.getElem_cons_zero, List.getElem_cons_succ, List.setIfInBounds_toArray, List.set_cons_zero, List.set_cons_succ]
        refine h_off (i := 10) rfl (by kernel_rfl) (by kernel_rfl) (by kernel_rfl) (fun _ _ _ h => h) rfl hS ?_
        try simp only [Act.put, List.getElem_toArray, List.getElem_cons_zero, List.getElem_cons_succ, List.setIfInBounds_toArray, List.set_cons_zero, List.set_cons_succ]
        refine h_off (i := 11) rfl (by kernel_rfl) (by kernel_rfl) (by kernel_rfl) (fun _ _ _ h => h) rfl hS ?_
        try simp only [Act.put, List.getElem_toArray, List.getElem_cons_zero, List.getElem_cons_succ, List.setIfInBounds_toArray, List.set_cons_zero, List.set_cons_succ]
        refine h_off (i := 12) rfl (by kernel_rfl) (by kernel_rfl) (by kernel_rfl) (fun _ _ _ h => h) rfl hS ?_
        try simp only [Act.put, List.getElem_toArray, List.getElem_cons_zero, List.getElem_cons_succ, List.setIfInBounds_toArray, List.set_cons_zero, List.set_cons_succ]
        refine h_off (i := 13) rfl (by kernel_rfl) (by kernel_rfl) (by kernel_rfl) (fun _ _ _ h => h) rfl hS ?_
        try simp only [Act.put, List.getElem_toArray, List.getElem_cons_zero, List.getElem_cons_succ, List.setIfInBounds_toArray, List.set_cons_zero, List.set_cons_succ]
        refine h_off (i := 14) rfl (by kernel_rfl) (by kernel_rfl) (by kernel_rfl) (fun _ _ _ h => h) rfl hS ?_
        try simp only [Act.put, List.getElem_toArray, List.getElem_cons_zero, List.getElem_cons_succ, List.setIfInBounds_toArray, List.set_cons_zero, List.set_cons_succ]
        refine h_val (i := 18) (v := ?_) rfl (by kernel_rfl) (by kernel_rfl) (by kernel_rfl) (fun _ _ _ h => h) rfl ?_ hS ?_
        rotate_left
        · intro W hW
          go_simp
          try exact rfl
        try simp only [Act.put, List.getElem_toArray, List.getElem_cons_zero, List.getElem_cons_succ, List.setIfInBounds_toArray, List.set_cons_zero, List.set_cons_succ]
        refine h_val (i := 19) (v := .int .i64 (oD : Int)) rfl (by kernel_rfl) (by kernel_rfl) (by kernel_rfl) (fun _ _ _ h => h) rfl (fun W hW => h_ld Tryd.isAgg3 (.tmp 64) rfl ⟨PB, 8, none⟩ rfl _ (l8.out W hW)) hS ?_
        try simp only [Act.put, List.getElem_toArray, List.getElem_cons_zero, List.getElem_cons_succ, List.setIfInBounds_toArray, List.set_cons_zero, List.set_cons_succ]
        refine h_off (i := 15) rfl (by kernel_rfl) (by kernel_rfl) (by kernel_rfl) (fun _ _ _ h => h) rfl hS ?_
        try simp only [Act.put, List.getElem_toArray, List.getElem_cons_zero, List.getElem_cons_succ, List.setIfInBounds_toArray, List.set_cons_zero, List.set_cons_succ]
        refine h_off (i := 16) rfl (by kernel_rfl) (by kernel_rfl) (by kernel_rfl) (fun _ _ _ h => h) rfl hS ?_
        try simp only [Act.put, List.getElem_toArray, List.getElem_cons_zero, List.getElem_cons_succ, List.setIfInBounds_toArray, List.set_cons_zero, List.set_cons_succ]
        refine h_val (i := 17) (v := ?_) rfl (by kernel_rfl) (by kernel_rfl) (by kernel_rfl) (fun _ _ _ h => h) rfl ?_ hS ?_
        rotate_left
        · intro W hW
          go_simp
          try exact rfl
        try simp only [Act.put, List.getElem_toArray, List.getElem_cons_zero, List.getElem_cons_succ, List.setIfInBounds_toArray, List.set_cons_zero, List.set_cons_succ]
        refine wpAnyH_ready (rs := [20]) (by kernel_rfl) (by simp) ?_
        refine AllReadyH.cons rfl (fun K hK => ?_) AllReadyH.nil
        go_simp
        refine (Tryd.dCheck X s (n, 0) false oD 13 _ hD1.out.scn hD).mono ?_
        rintro e V3 ⟨rfl, hg, hs⟩
        have hV3 := Lib.hid (hD1.out.call hg hs)
        replace hS := hV3.out.par
        refine hK.out _ _ hS (fun _ => ?_)
        clear hK K hg hs hD1
        try simp only [Act.put, List.getElem_toArray, List.getElem_cons_zero, List.getElem_cons_succ, List.setIfInBounds_toArray, List.set_cons_zero, List.set_cons_succ]
        refine wpAnyH_done (by kernel_rfl) ?_ _
        clear hS l2 l3 l4 l8 g4
        obtain ⟨z0, z1, z2, z3, z4, z5, z6, z7, z8, z9, z10, z11, z12, z13⟩ := cells14 hV3.out.par
        obtain ⟨c0, c1, c2, c3, c4, c5⟩ := hV3.out.scn.c
        try dsimp only at c1 c2
        go_wp2_with fail
        clear c0 c1 c2 c3 c4 c5 z0 z1 z2 z3 z4 z5 z6 z7 z8 z9 z10 z11 z12 z13
        have hc := Tryd.dCheck X s (sck (n, 0) false oD 13) c5 oH 13 V3 hV3.out.scn hH
        refine hc.mono ?_
        rintro e V4 ⟨rfl, hg, hs⟩
        have hV4 := Lib.hid (hV3.out.call hg hs)
        clear hc hg hs hV3
        clear g5
        obtain ⟨z0, z1, z2, z3, z4, z5, z6, z7, z8, z9, z10, z11, z12, z13⟩ := cells14 hV4.out.par
        obtain ⟨c0, c1, c2, c3, c4, c5⟩ := hV4.out.scn.c
        try dsimp only at c1 c2
        go_wp2_with fail
        clear c0 c1 c2 c3 c4 c5 z0 z1 z2 z3 z4 z5 z6 z7 z8 z9 z10 z11 z12 z13
        have hc := Tryd.dCheck X s (sck (sck (n, 0) false oD 13) c5 oH 13) c6 oN 13 V4 hV4.out.scn hN
        refine hc.mono ?_
        rintro e V5 ⟨rfl, hg, hs⟩
        have hV5 := Lib.hid (hV4.out.call hg hs)
        clear hc hg hs hV4
        clear g6
        obtain ⟨z0, z1, z2, z3, z4, z5, z6, z7, z8, z9, z10, z11, z12, z13⟩ := cells14 hV5.out.par
        obtain ⟨c0, c1, c2, c3, c4, c5⟩ := hV5.out.scn.c
        try dsimp only at c1 c2
        go_wp2_with fail
        clear c0 c1 c2 c3 c4 c5 z0 z1 z2 z3 z4 z5 z6 z7 z8 z9 z10 z11 z12 z13
        obtain ⟨n5, e5, hx5⟩ : ∃ n5 e5, sck (sck (sck (sck (n, 0) false oD 13) c5 oH 13) c6 oN 13) c7 oS 13 = (n5, e5) := ⟨(sck (sck (sck (sck (n, 0) false oD 13) c5 oH 13) c6 oN 13) c7 oS 13).1, (sck (sck (sck (sck (n, 0) false oD 13) c5 oH 13) c6 oN 13) c7 oS 13).2, (Prod.eta _).symm⟩
        have hx5' := fun (_ : Unit) => hx5
        clear hx5
        have hc := Tryd.dCheck X s (sck (sck (sck (n, 0) false oD 13) c5 oH 13) c6 oN 13) c7 oS 13 V5 hV5.out.scn hS
        rw [show sck (sck (sck (sck (n, 0) false oD 13) c5 oH 13) c6 oN 13) c7 oS 13 = (n5, e5) from hx5' ()] at hc
        refine hc.mono ?_
        rintro e V6 ⟨rfl, hg, hs⟩
        have hV6 := Lib.hid (hV5.out.call hg hs)
        clear hc hg hs hV5
        clear g7
        have hQ5 : Unit → TK.q5 (n, 0) Y M D H N S oY oD oH oN oS = (n5, e5) := fun _ => (hq5 ()).trans (hx5' ())
        clear hq5 hx5'
        by_cases he5 : e5 = 0
        · subst he5
          have hL := from_bd Y M D H N
          have hfc : ∀ W, Calls Tryd.prog 14 #[.agg #[.int .i64 Y, .int .i64 M, .int .i64 D, .int .i64 H, .int .i64 N]] W fun e w' => e = .returned (.tuple #[.int .i64 (Cal.from_ Y M D H N).1, .int .i64 (Cal.from_ Y M D H N).2]) ∧ Below W.heap.size W w' := fun W => Tryd.dFromCivil Y M D H N (by unfold I64; omega) (by unfold I64; omega) (by unfold I64; omega) (by unfold I64; omega) (by unfold I64; omega) W
          obtain ⟨L, hLe⟩ : ∃ L, (Cal.from_ Y M D H N).1 = L := ⟨_, rfl⟩
          obtain ⟨Le, hLe2⟩ : ∃ L, (Cal.from_ Y M D H N).2 = L := ⟨_, rfl⟩
          rw [hLe] at hL
          rw [hLe, hLe2] at hfc
          have hLe' := fun (_ : Unit) => hLe
          clear hLe hLe2
          have hwk : ∃ we : Int, ∀ W, Calls Tryd.prog 24 #[.int .i64 L] W fun e w' => e = .returned (.tuple #[.int .i64 (wdv L), .int .i64 we]) ∧ w' = W := by
            cases hv : Cal.valid L
            · exact ⟨2, fun W => (Tryd.dWeekday L W).mono fun e w' h => ⟨by rw [h.1]; unfold wdv; simp [hv], h.2⟩⟩
            · exact ⟨0, fun W => (Tryd.dWeekday L W).mono fun e w' h => ⟨by rw [h.1]; unfold wdv; simp [hv], h.2⟩⟩
          obtain ⟨we, hwk⟩ := hwk
          have hvl := Tryd.dValid (L - z)
          obtain ⟨vc, hvc⟩ : ∃ c, Cal.valid (L - z) = c := ⟨_, rfl⟩
          rw [hvc] at hvl
          obtain ⟨wv, hwv⟩ : ∃ v, wdv L = v := ⟨_, rfl⟩
          rw [hwv] at hwk
          have hvc' := fun (_ : Unit) => hvc
          have hwv' := fun (_ : Unit) => hwv
          clear hvc hwv
          have u1 : IntKind.i64.wrap (L - z) = L - z := IntWalk.i64_in _ (by omega)
          obtain ⟨z0, z1, z2, z3, z4, z5, z6, z7, z8, z9, z10, z11, z12, z13⟩ := cells14 hV6.out.par
          obtain ⟨c0, c1, c2, c3, c4, c5⟩ := hV6.out.scn.c
          try dsimp only at c1 c2
          go_wp2_with fail
          clear c0 c1 c2 c3 c4 c5 z0 z1 z2 z3 z4 z5 z6 z7 z8 z9 z10 z11 z12 z13
          have hc := hfc V6
          refine hc.mono ?_
          rintro e V7 ⟨rfl, hb⟩
          have hV7 := Lib.hid (hV6.out.below hb)
          clear hc hb hV6
          clear hfc
          obtain ⟨z0, z1, z2, z3, z4, z5, z6, z7, z8, z9, z10, z11, z12, z13⟩ := cells14 hV7.out.par
          obtain ⟨c0, c1, c2, c3, c4, c5⟩ := hV7.out.scn.c
          try dsimp only at c1 c2
          go_wp2_with fail
          clear c0 c1 c2 c3 c4 c5 z0 z1 z2 z3 z4 z5 z6 z7 z8 z9 z10 z11 z12 z13
          refine (hwk V7).mono ?_
          rintro e w9 ⟨rfl, hw9⟩
          rw [hw9]
          clear hw9 w9
          clear hwk
          obtain ⟨c8, g10⟩ : ∃ c, (wv == (wk : Int)) = c := ⟨_, rfl⟩
          cases nm
          · have hb8 : Unit → (!false || decide (wdv (Cal.from_ Y M D H N).1 = (wk : Int))) = true := fun _ => by rw [hLe' (), hwv' ()]; rfl
            have hvc2 : Unit → Cal.valid ((Cal.from_ Y M D H N).1 - z) = vc := fun _ => by rw [hLe' ()]; exact hvc' ()
            obtain ⟨z0, z1, z2, z3, z4, z5, z6, z7, z8, z9, z10, z11, z12, z13⟩ := cells14 hV7.out.par
            obtain ⟨c0, c1, c2, c3, c4, c5⟩ := hV7.out.scn.c
            try dsimp only at c1 c2
            go_wp2_with fail
            clear c0 c1 c2 c3 c4 c5 z0 z1 z2 z3 z4 z5 z6 z7 z8 z9 z10 z11 z12 z13
            have hc := Tryd.dCheck X s (n5, 0) true 0 13 V7 hV7.out.scn (Nat.zero_le _)
            refine hc.mono ?_
            rintro e V8 ⟨rfl, hg, hs⟩
            have hV8 := Lib.hid (hV7.out.call hg hs)
            clear hc hg hs hV7
            obtain ⟨z0, z1, z2, z3, z4, z5, z6, z7, z8, z9, z10, z11, z12, z13⟩ := cells14 hV8.out.par
            obtain ⟨c0, c1, c2, c3, c4, c5⟩ := hV8.out.scn.c
            try dsimp only at c1 c2
            go_wp2_with fail
            clear c0 c1 c2 c3 c4 c5 z0 z1 z2 z3 z4 z5 z6 z7 z8 z9 z10 z11 z12 z13
            refine (hvl V8).mono ?_
            rintro e w9 ⟨rfl, hw9⟩
            rw [hw9]
            clear hw9 w9
            clear hvl
            obtain ⟨z0, z1, z2, z3, z4, z5, z6, z7, z8, z9, z10, z11, z12, z13⟩ := cells14 hV8.out.par
            obtain ⟨c0, c1, c2, c3, c4, c5⟩ := hV8.out.scn.c
            try dsimp only at c1 c2
            go_wp2_with fail
            clear c0 c1 c2 c3 c4 c5 z0 z1 z2 z3 z4 z5 z6 z7 z8 z9 z10 z11 z12 z13
            obtain ⟨n7, e7, hx7⟩ : ∃ n e, sck (sck (n5, 0) true 0 13) vc 0 2 = (n, e) := ⟨(sck (sck (n5, 0) true 0 13) vc 0 2).1, (sck (sck (n5, 0) true 0 13) vc 0 2).2, (Prod.eta _).symm⟩
            have hx7' := fun (_ : Unit) => hx7
            clear hx7
            have hc := Tryd.dCheck X s (sck (n5, 0) true 0 13) vc 0 2 V8 hV8.out.scn (Nat.zero_le _)
            rw [show sck (sck (n5, 0) true 0 13) vc 0 2 = (n7, e7) from hx7' ()] at hc
            refine hc.mono ?_
            rintro e V9 ⟨rfl, hg, hs⟩
            have hV9 := Lib.hid (hV8.out.call hg hs)
            clear hc hg hs hV8
            by_cases he7 : e7 = 0
            · subst he7
              have hRe : Unit → R = (L - z, 0, 0) := fun _ => by rw [← hR (), pz_0 (hq1 ()) (hQ5 ()) (hb8 ()) (hvc2 ()) (hx7' ()), hLe' ()]
              have hBR : Below w.heap.size w V9 := hV9.out.bel
              obtain ⟨z0, z1, z2, z3, z4, z5, z6, z7, z8, z9, z10, z11, z12, z13⟩ := cells14 hV9.out.par
              obtain ⟨c0, c1, c2, c3, c4, c5⟩ := hV9.out.scn.c
              try dsimp only at c1 c2
              go_wp2_with fail
              clear c0 c1 c2 c3 c4 c5 z0 z1 z2 z3 z4 z5 z6 z7 z8 z9 z10 z11 z12 z13
              have hRe2 := hRe ()
              exact bodyPost_ret (v := .tuple #[.int .i64 (L - z), .int .i64 0, .int .i64 0]) (by simp [results, Tryd.results20, go_sem]) rfl ⟨by rw [hRe2]; rfl, hBR⟩
            · have g9 : ((e7 : Int) == 0) = false := beq_false_of_ne (by omega)
              have hRe : Unit → R = (0, n7, e7) := fun _ => by rw [← hR (), pz_7 (hq1 ()) (hQ5 ()) (hb8 ()) (hvc2 ()) (hx7' ()) he7]
              obtain ⟨z0, z1, z2, z3, z4, z5, z6, z7, z8, z9, z10, z11, z12, z13⟩ := cells14 hV9.out.par
              obtain ⟨c0, c1, c2, c3, c4, c5⟩ := hV9.out.scn.c
              try dsimp only at c1 c2
              go_wp2_with fail
              clear c0 c1 c2 c3 c4 c5 z0 z1 z2 z3 z4 z5 z6 z7 z8 z9 z10 z11 z12 z13
              obtain ⟨C, q1, q2, q4⟩ : ∃ C : World → Prop, C V9 ∧ (∀ V, C V → Below V9.heap.size V9 V) ∧ (∀ V, C V → C { V with drawn := V.drawn + 1 }) := ⟨fun V => Below V9.heap.size V9 V, Below.refl _ _, fun V h => h, fun V h => h.drew⟩
              have k1 : Hid (∀ V, C V → V.cell? ⟨X, 1, none⟩ = some (.int .i64 (n7 : Int))) := Lib.hid (fun V hV => (hV9.out.scn.below (q2 V hV)).c.2.1)
              have k2 : Hid (∀ V, C V → V.cell? ⟨X, 2, none⟩ = some (.int .i64 (e7 : Int))) := Lib.hid (fun V hV => (hV9.out.scn.below (q2 V hV)).c.2.2.1)
              have hC1 := Lib.hid q1
              have hCV := Lib.hid q2
              have hCd := Lib.hid q4
              clear q1 q2 q4
              refine q_region C (by kernel_rfl) (by kernel_rfl) (hCd.out _ hC1.out) ?_
              repeat (first
                | (with_reducible refine q_off ?_ ?_
                   · rfl
                   try simp only [Act.put, List.getElem_toArray, List.getElem_cons_zero, List.getElem_cons_succ, List.setIfInBounds_toArray, List.set_cons_zero, List.set_cons_succ])
                | (with_reducible refine q_lds2 Tryd.isAgg3 ?_ ?_ ⟨X, 1, none⟩ ?_ (.int .i64 (n7 : Int)) k1.out ?_
                   · rfl
                   · rfl
                   · rfl
                   try simp only [Act.put, List.getElem_toArray, List.getElem_cons_zero, List.getElem_cons_succ, List.setIfInBounds_toArray, List.set_cons_zero, List.set_cons_succ])
                | (with_reducible refine q_lds2 Tryd.isAgg25 ?_ ?_ ⟨X, 2, none⟩ ?_ (.int .i64 (e7 : Int)) k2.out ?_
                   · rfl
                   · rfl
                   · rfl
                   try simp only [Act.put, List.getElem_toArray, List.getElem_cons_zero, List.getElem_cons_succ, List.setIfInBounds_toArray, List.set_cons_zero, List.set_cons_succ])
                | (with_reducible refine wpQuiet_step ?_
                   intro K hK
                   go_simp
                   first
                   | (refine hK _ ?_; clear hK K)
                   | (apply Exists.intro
                      refine ⟨fun W hW => ?_, hK _ ?_⟩
                      first
                      | exact rfl
                      | exact ⟨rfl, rfl⟩
                      clear hK K)))
              refine wpQuiet_nil ?_
              intro VR h1VR
              have hBR : Below w.heap.size w VR := by rw [hwX]; exact hwX ▸ (hV9.out.below (hCV.out VR h1VR)).bel
              clear h1VR hC1 k1 k2 hCV hCd
              go_wp2_with fail
              have hRe2 := hRe ()
              exact bodyPost_ret (v := .tuple #[.int .i64 0, .int .i64 (n7 : Int), .int .i64 (e7 : Int)]) (by simp [results, Tryd.results20, go_sem]) rfl ⟨by rw [hRe2], hBR⟩
          · have hb8 : Unit → (!true || decide (wdv (Cal.from_ Y M D H N).1 = (wk : Int))) = c8 := fun _ => by rw [hLe' (), hwv' ()]; rw [← g10, Bool.eq_iff_iff]; simp
            have hvc2 : Unit → Cal.valid ((Cal.from_ Y M D H N).1 - z) = vc := fun _ => by rw [hLe' ()]; exact hvc' ()
            obtain ⟨z0, z1, z2, z3, z4, z5, z6, z7, z8, z9, z10, z11, z12, z13⟩ := cells14 hV7.out.par
            obtain ⟨c0, c1, c2, c3, c4, c5⟩ := hV7.out.scn.c
            try dsimp only at c1 c2
            go_wp2_with fail
            clear c0 c1 c2 c3 c4 c5 z0 z1 z2 z3 z4 z5 z6 z7 z8 z9 z10 z11 z12 z13
            have hc := Tryd.dCheck X s (n5, 0) c8 0 13 V7 hV7.out.scn (Nat.zero_le _)
            refine hc.mono ?_
            rintro e V8 ⟨rfl, hg, hs⟩
            have hV8 := Lib.hid (hV7.out.call hg hs)
            clear hc hg hs hV7
            obtain ⟨z0, z1, z2, z3, z4, z5, z6, z7, z8, z9, z10, z11, z12, z13⟩ := cells14 hV8.out.par
            obtain ⟨c0, c1, c2, c3, c4, c5⟩ := hV8.out.scn.c
            try dsimp only at c1 c2
            go_wp2_with fail
            clear c0 c1 c2 c3 c4 c5 z0 z1 z2 z3 z4 z5 z6 z7 z8 z9 z10 z11 z12 z13
            refine (hvl V8).mono ?_
            rintro e w9 ⟨rfl, hw9⟩
            rw [hw9]
            clear hw9 w9
            clear hvl
            obtain ⟨z0, z1, z2, z3, z4, z5, z6, z7, z8, z9, z10, z11, z12, z13⟩ := cells14 hV8.out.par
            obtain ⟨c0, c1, c2, c3, c4, c5⟩ := hV8.out.scn.c
            try dsimp only at c1 c2
            go_wp2_with fail
            clear c0 c1 c2 c3 c4 c5 z0 z1 z2 z3 z4 z5 z6 z7 z8 z9 z10 z11 z12 z13
            obtain ⟨n7, e7, hx7⟩ : ∃ n e, sck (sck (n5, 0) c8 0 13) vc 0 2 = (n, e) := ⟨(sck (sck (n5, 0) c8 0 13) vc 0 2).1, (sck (sck (n5, 0) c8 0 13) vc 0 2).2, (Prod.eta _).symm⟩
            have hx7' := fun (_ : Unit) => hx7
            clear hx7
            have hc := Tryd.dCheck X s (sck (n5, 0) c8 0 13) vc 0 2 V8 hV8.out.scn (Nat.zero_le _)
            rw [show sck (sck (n5, 0) c8 0 13) vc 0 2 = (n7, e7) from hx7' ()] at hc
            refine hc.mono ?_
            rintro e V9 ⟨rfl, hg, hs⟩
            have hV9 := Lib.hid (hV8.out.call hg hs)
            clear hc hg hs hV8
            by_cases he7 : e7 = 0
            · subst he7
              have hRe : Unit → R = (L - z, 0, 0) := fun _ => by rw [← hR (), pz_0 (hq1 ()) (hQ5 ()) (hb8 ()) (hvc2 ()) (hx7' ()), hLe' ()]
              have hBR : Below w.heap.size w V9 := hV9.out.bel
              obtain ⟨z0, z1, z2, z3, z4, z5, z6, z7, z8, z9, z10, z11, z12, z13⟩ := cells14 hV9.out.par
              obtain ⟨c0, c1, c2, c3, c4, c5⟩ := hV9.out.scn.c
              try dsimp only at c1 c2
              go_wp2_with fail
              clear c0 c1 c2 c3 c4 c5 z0 z1 z2 z3 z4 z5 z6 z7 z8 z9 z10 z11 z12 z13
              have hRe2 := hRe ()
              exact bodyPost_ret (v := .tuple #[.int .i64 (L - z), .int .i64 0, .int .i64 0]) (by simp [results, Tryd.results20, go_sem]) rfl ⟨by rw [hRe2]; rfl, hBR⟩
            · have g9 : ((e7 : Int) == 0) = false := beq_false_of_ne (by omega)
              have hRe : Unit → R = (0, n7, e7) := fun _ => by rw [← hR (), pz_7 (hq1 ()) (hQ5 ()) (hb8 ()) (hvc2 ()) (hx7' ()) he7]
              obtain ⟨z0, z1, z2, z3, z4, z5, z6, z7, z8, z9, z10, z11, z12, z13⟩ := cells14 hV9.out.par
              obtain ⟨c0, c1, c2, c3, c4, c5⟩ := hV9.out.scn.c
              try dsimp only at c1 c2
              go_wp2_with fail
              clear c0 c1 c2 c3 c4 c5 z0 z1 z2 z3 z4 z5 z6 z7 z8 z9 z10 z11 z12 z13
              obtain ⟨C, q1, q2, q4⟩ : ∃ C : World → Prop, C V9 ∧ (∀ V, C V → Below V9.heap.size V9 V) ∧ (∀ V, C V → C { V with drawn := V.drawn + 1 }) := ⟨fun V => Below V9.heap.size V9 V, Below.refl _ _, fun V h => h, fun V h => h.drew⟩
              have k1 : Hid (∀ V, C V → V.cell? ⟨X, 1, none⟩ = some (.int .i64 (n7 : Int))) := Lib.hid (fun V hV => (hV9.out.scn.below (q2 V hV)).c.2.1)
              have k2 : Hid (∀ V, C V → V.cell? ⟨X, 2, none⟩ = some (.int .i64 (e7 : Int))) := Lib.hid (fun V hV => (hV9.out.scn.below (q2 V hV)).c.2.2.1)
              have hC1 := Lib.hid q1
              have hCV := Lib.hid q2
              have hCd := Lib.hid q4
              clear q1 q2 q4
              refine q_region C (by kernel_rfl) (by kernel_rfl) (hCd.out _ hC1.out) ?_
              repeat (first
                | (with_reducible refine q_off ?_ ?_
                   · rfl
                   try simp only [Act.put, List.getElem_toArray, List.getElem_cons_zero, List.getElem_cons_succ, List.setIfInBounds_toArray, List.set_cons_zero, List.set_cons_succ])
                | (with_reducible refine q_lds2 Tryd.isAgg3 ?_ ?_ ⟨X, 1, none⟩ ?_ (.int .i64 (n7 : Int)) k1.out ?_
                   · rfl
                   · rfl
                   · rfl
                   try simp only [Act.put, List.getElem_toArray, List.getElem_cons_zero, List.getElem_cons_succ, List.setIfInBounds_toArray, List.set_cons_zero, List.set_cons_succ])
                | (with_reducible refine q_lds2 Tryd.isAgg25 ?_ ?_ ⟨X, 2, none⟩ ?_ (.int .i64 (e7 : Int)) k2.out ?_
                   · rfl
                   · rfl
                   · rfl
                   try simp only [Act.put, List.getElem_toArray, List.getElem_cons_zero, List.getElem_cons_succ, List.setIfInBounds_toArray, List.set_cons_zero, List.set_cons_succ])
                | (with_reducible refine wpQuiet_step ?_
                   intro K hK
                   go_simp
                   first
                   | (refine hK _ ?_; clear hK K)
                   | (apply Exists.intro
                      refine ⟨fun W hW => ?_, hK _ ?_⟩
                      first
                      | exact rfl
                      | exact ⟨rfl, rfl⟩
                      clear hK K)))
              refine wpQuiet_nil ?_
              intro VR h1VR
              have hBR : Below w.heap.size w VR := by rw [hwX]; exact hwX ▸ (hV9.out.below (hCV.out VR h1VR)).bel
              clear h1VR hC1 k1 k2 hCV hCd
              go_wp2_with fail
              have hRe2 := hRe ()
              exact bodyPost_ret (v := .tuple #[.int .i64 0, .int .i64 (n7 : Int), .int .i64 (e7 : Int)]) (by simp [results, Tryd.results20, go_sem]) rfl ⟨by rw [hRe2], hBR⟩
        · have g9 : ((e5 : Int) == 0) = false := beq_false_of_ne (by omega)
          have hRe : Unit → R = (0, n5, e5) := fun _ => by rw [← hR (), pz_5 (hq1 ()) (hQ5 ()) he5]
          obtain ⟨z0, z1, z2, z3, z4, z5, z6, z7, z8, z9, z10, z11, z12, z13⟩ := cells14 hV6.out.par
          obtain ⟨c0, c1, c2, c3, c4, c5⟩ := hV6.out.scn.c
          try dsimp only at c1 c2
          go_wp2_with fail
          clear c0 c1 c2 c3 c4 c5 z0 z1 z2 z3 z4 z5 z6 z7 z8 z9 z10 z11 z12 z13
          obtain ⟨C, q1, q2, q4⟩ : ∃ C : World → Prop, C V6 ∧ (∀ V, C V → Below V6.heap.size V6 V) ∧ (∀ V, C V → C { V with drawn := V.drawn + 1 }) := ⟨fun V => Below V6.heap.size V6 V, Below.refl _ _, fun V h => h, fun V h => h.drew⟩
          have k1 : Hid (∀ V, C V → V.cell? ⟨X, 1, none⟩ = some (.int .i64 (n5 : Int))) := Lib.hid (fun V hV => (hV6.out.scn.below (q2 V hV)).c.2.1)
          have k2 : Hid (∀ V, C V → V.cell? ⟨X, 2, none⟩ = some (.int .i64 (e5 : Int))) := Lib.hid (fun V hV => (hV6.out.scn.below (q2 V hV)).c.2.2.1)
          have hC1 := Lib.hid q1
          have hCV := Lib.hid q2
          have hCd := Lib.hid q4
          clear q1 q2 q4
          refine q_region C (by kernel_rfl) (by kernel_rfl) (hCd.out _ hC1.out) ?_
          repeat (first
            | (with_reducible refine q_off ?_ ?_
               · rfl
               try simp only [Act.put, List.getElem_toArray, List.getElem_cons_zero, List.getElem_cons_succ, List.setIfInBounds_toArray, List.set_cons_zero, List.set_cons_succ])
            | (with_reducible refine q_lds2 Tryd.isAgg3 ?_ ?_ ⟨X, 1, none⟩ ?_ (.int .i64 (n5 : Int)) k1.out ?_
               · rfl
               · rfl
               · rfl
               try simp only [Act.put, List.getElem_toArray, List.getElem_cons_zero, List.getElem_cons_succ, List.setIfInBounds_toArray, List.set_cons_zero, List.set_cons_succ])
            | (with_reducible refine q_lds2 Tryd.isAgg25 ?_ ?_ ⟨X, 2, none⟩ ?_ (.int .i64 (e5 : Int)) k2.out ?_
               · rfl
               · rfl
               · rfl
               try simp only [Act.put, List.getElem_toArray, List.getElem_cons_zero, List.getElem_cons_succ, List.setIfInBounds_toArray, List.set_cons_zero, List.set_cons_succ])
            | (with_reducible refine wpQuiet_step ?_
               intro K hK
               go_simp
               first
               | (refine hK _ ?_; clear hK K)
               | (apply Exists.intro
                  refine ⟨fun W hW => ?_, hK _ ?_⟩
                  first
                  | exact rfl
                  | exact ⟨rfl, rfl⟩
                  clear hK K)))
          refine wpQuiet_nil ?_
          intro VR h1VR
          have hBR : Below w.heap.size w VR := by rw [hwX]; exact hwX ▸ (hV6.out.below (hCV.out VR h1VR)).bel
          clear h1VR hC1 k1 k2 hCV hCd
          go_wp2_with fail
          have hRe2 := hRe ()
          exact bodyPost_ret (v := .tuple #[.int .i64 0, .int .i64 (n5 : Int), .int .i64 (e5 : Int)]) (by simp [results, Tryd.results20, go_sem]) rfl ⟨by rw [hRe2], hBR⟩
      · obtain ⟨qd, hqd⟩ : ∃ qd, Cal.md Y M = qd := ⟨_, rfl⟩
        obtain ⟨c4, g8⟩ : ∃ c, decide (D ≤ qd) = c := ⟨_, rfl⟩
        have hq5 : Unit → TK.q5 (n, 0) Y M D H N S oY oD oH oN oS = sck (sck (sck (sck (n, 0) c4 oD 13) c5 oH 13) c6 oN 13) c7 oS 13 := fun _ => q5_eq g2 g3 (by rw [hqd, g4, g8]; rfl) g5 g6 g7
        have hmd := Tryd.dMonthDays Y M (by omega) (by omega) bM.1 bM.2
        rw [hqd] at hmd
        have hmd' := Lib.hid hmd
        have hqd' := fun (_ : Unit) => hqd
        clear hqd hmd
        obtain ⟨z0, z1, z2, z3, z4, z5, z6, z7, z8, z9, z10, z11, z12, z13⟩ := cells14 hV1.out.par
        obtain ⟨c0, c1, c2, c3, c4, c5⟩ := hV1.out.scn.c
        try dsimp only at c1 c2
        go_wp2_with fail
        clear c0 c1 c2 c3 c4 c5 z0 z1 z2 z3 z4 z5 z6 z7 z8 z9 z10 z11 z12 z13
        have hD1 := Lib.hid (hV1.out.below (Below.refl _ V1).drew)
        clear hV1
        have l2 : Hid (∀ W : World, W.heap[PB]? = some (.cells #[.bool nm, .int .i64 (wk : Int), .int .i64 Y, .int .i64 M, .int .i64 D, .int .i64 H, .int .i64 N, .int .i64 S, .int .i64 (oD : Int), .int .i64 (oY : Int), .int .i64 (oH : Int), .int .i64 (oN : Int), .int .i64 (oS : Int), .int .i64 z] 63 (0, 0)) → W.cell? ⟨PB, 2, none⟩ = some (.int .i64 Y)) := Lib.hid fun W h => by obtain ⟨-, -, h2, -, -, -, -, -, -, -, -, -, -, -⟩ := cells14 h; exact h2
        have l3 : Hid (∀ W : World, W.heap[PB]? = some (.cells #[.bool nm, .int .i64 (wk : Int), .int .i64 Y, .int .i64 M, .int .i64 D, .int .i64 H, .int .i64 N, .int .i64 S, .int .i64 (oD : Int), .int .i64 (oY : Int), .int .i64 (oH : Int), .int .i64 (oN : Int), .int .i64 (oS : Int), .int .i64 z] 63 (0, 0)) → W.cell? ⟨PB, 3, none⟩ = some (.int .i64 M)) := Lib.hid fun W h => by obtain ⟨-, -, -, h3, -, -, -, -, -, -, -, -, -, -⟩ := cells14 h; exact h3
        have l4 : Hid (∀ W : World, W.heap[PB]? = some (.cells #[.bool nm, .int .i64 (wk : Int), .int .i64 Y, .int .i64 M, .int .i64 D, .int .i64 H, .int .i64 N, .int .i64 S, .int .i64 (oD : Int), .int .i64 (oY : Int), .int .i64 (oH : Int), .int .i64 (oN : Int), .int .i64 (oS : Int), .int .i64 z] 63 (0, 0)) → W.cell? ⟨PB, 4, none⟩ = some (.int .i64 D)) := Lib.hid fun W h => by obtain ⟨-, -, -, -, h4, -, -, -, -, -, -, -, -, -⟩ := cells14 h; exact h4
        have l8 : Hid (∀ W : World, W.heap[PB]? = some (.cells #[.bool nm, .int .i64 (wk : Int), .int .i64 Y, .int .i64 M, .int .i64 D, .int .i64 H, .int .i64 N, .int .i64 S, .int .i64 (oD : Int), .int .i64 (oY : Int), .int .i64 (oH : Int), .int .i64 (oN : Int), .int .i64 (oS : Int), .int .i64 z] 63 (0, 0)) → W.cell? ⟨PB, 8, none⟩ = some (.int .i64 (oD : Int))) := Lib.hid fun W h => by obtain ⟨-, -, -, -, -, -, -, -, h8, -, -, -, -, -⟩ := cells14 h; exact h8
        refine wp_region_held (S := fun w' => w'.heap[PB]? = some (.cells #[.bool nm, .int .i64 (wk : Int), .int .i64 Y, .int .i64 M, .int .i64 D, .int .i64 H, .int .i64 N, .int .i64 S, .int .i64 (oD : Int), .int .i64 (oY : Int), .int .i64 (oH : Int), .int .i64 (oN : Int), .int .i64 (oS : Int), .int .i64 z] 63 (0, 0))) (by kernel_rfl) ?_
        have hS := hD1.out.par
        refine h_val (i := 0) (v := ?_) rfl (by kernel_rfl) (by kernel_rfl) (by kernel_rfl) (fun _ _ _ h => h) rfl ?_ hS ?_
        rotate_left
        · intro W hW
          go_simp
          try exact rfl
        try simp only [Act.put, List.getElem_toArray, List.getElem_cons_zero, List.getElem_cons_succ, List.setIfInBounds_toArray, List.set_cons_zero, List.set_cons_succ]
        refine h_val (i := 1) (v := ?_) rfl (by kernel_rfl) (by kernel_rfl) (by kernel_rfl) (fun _ _ _ h => h) rfl ?_ hS ?_
        rotate_left
        · intro W hW
          go_simp
          try exact rfl
        try simp only [Act.put, List.getElem_toArray, List.getElem_cons_zero, List.getElem_cons_succ, List.setIfInBounds_toArray, List.set_cons_zero, List.set_cons_succ]
        refine h_val (i := 2) (v := ?_) rfl (by kernel_rfl) (by kernel_rfl) (by kernel_rfl) (fun _ _ _ h => h) rfl ?_ hS ?_
        rotate_left
        · intro W hW
          go_simp
          try exact rfl
        try simp only [Act.put, List.getElem_toArray, List.getElem_cons_zero, List.getElem_cons_succ, List.setIfInBounds_toArray, List.set_cons_zero, List.set_cons_succ]
        refine h_val (i := 3) (v := .int .i64 D) rfl (by kernel_rfl) (by kernel_rfl) (by kernel_rfl) (fun _ _ _ h => h) rfl (fun W hW => h_ld Tryd.isAgg3 (.tmp 48) rfl ⟨PB, 4, none⟩ rfl _ (l4.out W hW)) hS ?_
        try simp only [Act.put, List.getElem_toArray, List.getElem_cons_zero, List.getElem_cons_succ, List.setIfInBounds_toArray, List.set_cons_zero, List.set_cons_succ]
        refine h_val (i := 4) (v := ?_) rfl (by kernel_rfl) (by kernel_rfl) (by kernel_rfl) (fun _ _ _ h => h) rfl ?_ hS ?_
        rotate_left
        · intro W hW
          go_simp
          try exact rfl
        try simp only [Act.put, List.getElem_toArray, List.getElem_cons_zero, List.getElem_cons_succ, List.setIfInBounds_toArray, List.set_cons_zero, List.set_cons_succ]
        refine h_val (i := 5) (v := ?_) rfl (by kernel_rfl) (by kernel_rfl) (by kernel_rfl) (fun _ _ _ h => h) rfl ?_ hS ?_
        rotate_left
        · intro W hW
          go_simp
          try exact rfl
        try simp only [Act.put, List.getElem_toArray, List.getElem_cons_zero, List.getElem_cons_succ, List.setIfInBounds_toArray, List.set_cons_zero, List.set_cons_succ]
        refine h_val (i := 6) (v := ?_) rfl (by kernel_rfl) (by kernel_rfl) (by kernel_rfl) (fun _ _ _ h => h) rfl ?_ hS ?_
        rotate_left
        · intro W hW
          go_simp
          try exact rfl
        try simp only [Act.put, List.getElem_toArray, List.getElem_cons_zero, List.getElem_cons_succ, List.setIfInBounds_toArray, List.set_cons_zero, List.set_cons_succ]
        refine h_val (i := 7) (v := ?_) rfl (by kernel_rfl) (by kernel_rfl) (by kernel_rfl) (fun _ _ _ h => h) rfl ?_ hS ?_
        rotate_left
        · intro W hW
          go_simp
          try exact rfl
        try simp only [Act.put, List.getElem_toArray, List.getElem_cons_zero, List.getElem_cons_succ, List.setIfInBounds_toArray, List.set_cons_zero, List.set_cons_succ]
        refine h_val (i := 8) (v := .int .i64 D) rfl (by kernel_rfl) (by kernel_rfl) (by kernel_rfl) (fun _ _ _ h => h) rfl (fun W hW => h_ld Tryd.isAgg3 (.tmp 53) rfl ⟨PB, 4, none⟩ rfl _ (l4.out W hW)) hS ?_
        try simp only [Act.put, List.getElem_toArray, List.getElem_cons_zero, List.getElem_cons_succ, List.setIfInBounds_toArray, List.set_cons_zero, List.set_cons_succ]
        refine h_val (i := 9) (v := ?_) rfl (by kernel_rfl) (by kernel_rfl) (by kernel_rfl) (fun _ _ _ h => h) rfl ?_ hS ?_
        rotate_left
        · intro W hW
          go_simp
          try exact rfl
        try simp only [Act.put, List.getElem_toArray, List.getElem_cons_zero, List.getElem_cons_succ, List.setIfInBounds_toArray, List.set_cons_zero, List.set_cons_succ]
        refine h_val (i := 10) (v := ?_) rfl (by kernel_rfl) (by kernel_rfl) (by kernel_rfl) (fun _ _ _ h => h) rfl ?_ hS ?_
        rotate_left
        · intro W hW
          go_simp
          try exact rfl
        try simp only [Act.put, List.getElem_toArray, List.getElem_cons_zero, List.getElem_cons_succ, List.setIfInBounds_toArray, List.set_cons_zero, List.set_cons_succ]
        refine h_val (i := 11) (v := .int .i64 Y) rfl (by kernel_rfl) (by kernel_rfl) (by kernel_rfl) (fun _ _ _ h => h) rfl (fun W hW => h_ld Tryd.isAgg3 (.tmp 56) rfl ⟨PB, 2, none⟩ rfl _ (l2.out W hW)) hS ?_
        try simp only [Act.put, List.getElem_toArray, List.getElem_cons_zero, List.getElem_cons_succ, List.setIfInBounds_toArray, List.set_cons_zero, List.set_cons_succ]
        refine h_val (i := 12) (v := ?_) rfl (by kernel_rfl) (by kernel_rfl) (by kernel_rfl) (fun _ _ _ h => h) rfl ?_ hS ?_
        rotate_left
        · intro W hW
          go_simp
          try exact rfl
        try simp only [Act.put, List.getElem_toArray, List.getElem_cons_zero, List.getElem_cons_succ, List.setIfInBounds_toArray, List.set_cons_zero, List.set_cons_succ]
        refine h_val (i := 13) (v := ?_) rfl (by kernel_rfl) (by kernel_rfl) (by kernel_rfl) (fun _ _ _ h => h) rfl ?_ hS ?_
        rotate_left
        · intro W hW
          go_simp
          try exact rfl
        try simp only [Act.put, List.getElem_toArray, List.getElem_cons_zero, List.getElem_cons_succ, List.setIfInBounds_toArray, List.set_cons_zero, List.set_cons_succ]
        refine h_val (i := 14) (v := .int .i64 M) rfl (by kernel_rfl) (by kernel_rfl) (by kernel_rfl) (fun _ _ _ h => h) rfl (fun W hW => h_ld Tryd.isAgg3 (.tmp 59) rfl ⟨PB, 3, none⟩ rfl _ (l3.out W hW)) hS ?_
        try simp only [Act.put, List.getElem_toArray, List.getElem_cons_zero, List.getElem_cons_succ, List.setIfInBounds_toArray, List.set_cons_zero, List.set_cons_succ]
        refine h_val (i := 18) (v := ?_) rfl (by kernel_rfl) (by kernel_rfl) (by kernel_rfl) (fun _ _ _ h => h) rfl ?_ hS ?_
        rotate_left
        · intro W hW
          go_simp
          try exact rfl
        try simp only [Act.put, List.getElem_toArray, List.getElem_cons_zero, List.getElem_cons_succ, List.setIfInBounds_toArray, List.set_cons_zero, List.set_cons_succ]
        refine h_val (i := 19) (v := .int .i64 (oD : Int)) rfl (by kernel_rfl) (by kernel_rfl) (by kernel_rfl) (fun _ _ _ h => h) rfl (fun W hW => h_ld Tryd.isAgg3 (.tmp 64) rfl ⟨PB, 8, none⟩ rfl _ (l8.out W hW)) hS ?_
        try simp only [Act.put, List.getElem_toArray, List.getElem_cons_zero, List.getElem_cons_succ, List.setIfInBounds_toArray, List.set_cons_zero, List.set_cons_succ]
        refine wpAnyH_ready (rs := [15]) (by kernel_rfl) (by simp) ?_
        refine AllReadyH.cons rfl (fun K hK => ?_) AllReadyH.nil
        go_simp
        refine (hmd'.out _).mono ?_
        rintro e V2 ⟨rfl, hb⟩
        have hV2 := Lib.hid (hD1.out.below hb)
        replace hS := hV2.out.par
        refine hK.out _ _ hS (fun _ => ?_)
        clear hK K hb hD1 hmd'
        try simp only [Act.put, List.getElem_toArray, List.getElem_cons_zero, List.getElem_cons_succ, List.setIfInBounds_toArray, List.set_cons_zero, List.set_cons_succ]
        refine h_val (i := 16) (v := ?_) rfl (by kernel_rfl) (by kernel_rfl) (by kernel_rfl) (fun _ _ _ h => h) rfl ?_ hS ?_
        rotate_left
        · intro W hW
          go_simp
          try exact rfl
        try simp only [Act.put, List.getElem_toArray, List.getElem_cons_zero, List.getElem_cons_succ, List.setIfInBounds_toArray, List.set_cons_zero, List.set_cons_succ]
        refine h_val (i := 17) (v := ?_) rfl (by kernel_rfl) (by kernel_rfl) (by kernel_rfl) (fun _ _ _ h => h) rfl ?_ hS ?_
        rotate_left
        · intro W hW
          go_simp
          try exact rfl
        try simp only [Act.put, List.getElem_toArray, List.getElem_cons_zero, List.getElem_cons_succ, List.setIfInBounds_toArray, List.set_cons_zero, List.set_cons_succ]
        refine wpAnyH_ready (rs := [20]) (by kernel_rfl) (by simp) ?_
        refine AllReadyH.cons rfl (fun K hK => ?_) AllReadyH.nil
        go_simp
        refine (Tryd.dCheck X s (n, 0) c4 oD 13 _ hV2.out.scn hD).mono ?_
        rintro e V3 ⟨rfl, hg, hs⟩
        have hV3 := Lib.hid (hV2.out.call hg hs)
        replace hS := hV3.out.par
        refine hK.out _ _ hS (fun _ => ?_)
        clear hK K hg hs hV2
        try simp only [Act.put, List.getElem_toArray, List.getElem_cons_zero, List.getElem_cons_succ, List.setIfInBounds_toArray, List.set_cons_zero, List.set_cons_succ]
        refine wpAnyH_done (by kernel_rfl) ?_ _
        clear hS l2 l3 l4 l8 g4
        obtain ⟨z0, z1, z2, z3, z4, z5, z6, z7, z8, z9, z10, z11, z12, z13⟩ := cells14 hV3.out.par
        obtain ⟨c0, c1, c2, c3, c4, c5⟩ := hV3.out.scn.c
        try dsimp only at c1 c2
        go_wp2_with fail
        clear c0 c1 c2 c3 c4 c5 z0 z1 z2 z3 z4 z5 z6 z7 z8 z9 z10 z11 z12 z13
        have hc := Tryd.dCheck X s (sck (n, 0) c4 oD 13) c5 oH 13 V3 hV3.out.scn hH
        refine hc.mono ?_
        rintro e V4 ⟨rfl, hg, hs⟩
        have hV4 := Lib.hid (hV3.out.call hg hs)
        clear hc hg hs hV3
        clear g5
        obtain ⟨z0, z1, z2, z3, z4, z5, z6, z7, z8, z9, z10, z11, z12, z13⟩ := cells14 hV4.out.par
        obtain ⟨c0, c1, c2, c3, c4, c5⟩ := hV4.out.scn.c
        try dsimp only at c1 c2
        go_wp2_with fail
        clear c0 c1 c2 c3 c4 c5 z0 z1 z2 z3 z4 z5 z6 z7 z8 z9 z10 z11 z12 z13
        have hc := Tryd.dCheck X s (sck (sck (n, 0) c4 oD 13) c5 oH 13) c6 oN 13 V4 hV4.out.scn hN
        refine hc.mono ?_
        rintro e V5 ⟨rfl, hg, hs⟩
        have hV5 := Lib.hid (hV4.out.call hg hs)
        clear hc hg hs hV4
        clear g6
        obtain ⟨z0, z1, z2, z3, z4, z5, z6, z7, z8, z9, z10, z11, z12, z13⟩ := cells14 hV5.out.par
        obtain ⟨c0, c1, c2, c3, c4, c5⟩ := hV5.out.scn.c
        try dsimp only at c1 c2
        go_wp2_with fail
        clear c0 c1 c2 c3 c4 c5 z0 z1 z2 z3 z4 z5 z6 z7 z8 z9 z10 z11 z12 z13
        obtain ⟨n5, e5, hx5⟩ : ∃ n5 e5, sck (sck (sck (sck (n, 0) c4 oD 13) c5 oH 13) c6 oN 13) c7 oS 13 = (n5, e5) := ⟨(sck (sck (sck (sck (n, 0) c4 oD 13) c5 oH 13) c6 oN 13) c7 oS 13).1, (sck (sck (sck (sck (n, 0) c4 oD 13) c5 oH 13) c6 oN 13) c7 oS 13).2, (Prod.eta _).symm⟩
        have hx5' := fun (_ : Unit) => hx5
        clear hx5
        have hc := Tryd.dCheck X s (sck (sck (sck (n, 0) c4 oD 13) c5 oH 13) c6 oN 13) c7 oS 13 V5 hV5.out.scn hS
        rw [show sck (sck (sck (sck (n, 0) c4 oD 13) c5 oH 13) c6 oN 13) c7 oS 13 = (n5, e5) from hx5' ()] at hc
        refine hc.mono ?_
        rintro e V6 ⟨rfl, hg, hs⟩
        have hV6 := Lib.hid (hV5.out.call hg hs)
        clear hc hg hs hV5
        clear g7
        have hQ5 : Unit → TK.q5 (n, 0) Y M D H N S oY oD oH oN oS = (n5, e5) := fun _ => (hq5 ()).trans (hx5' ())
        clear hq5 hx5'
        by_cases he5 : e5 = 0
        · subst he5
          have hL := from_bd Y M D H N
          have hfc : ∀ W, Calls Tryd.prog 14 #[.agg #[.int .i64 Y, .int .i64 M, .int .i64 D, .int .i64 H, .int .i64 N]] W fun e w' => e = .returned (.tuple #[.int .i64 (Cal.from_ Y M D H N).1, .int .i64 (Cal.from_ Y M D H N).2]) ∧ Below W.heap.size W w' := fun W => Tryd.dFromCivil Y M D H N (by unfold I64; omega) (by unfold I64; omega) (by unfold I64; omega) (by unfold I64; omega) (by unfold I64; omega) W
          obtain ⟨L, hLe⟩ : ∃ L, (Cal.from_ Y M D H N).1 = L := ⟨_, rfl⟩
          obtain ⟨Le, hLe2⟩ : ∃ L, (Cal.from_ Y M D H N).2 = L := ⟨_, rfl⟩
          rw [hLe] at hL
          rw [hLe, hLe2] at hfc
          have hLe' := fun (_ : Unit) => hLe
          clear hLe hLe2
          have hwk : ∃ we : Int, ∀ W, Calls Tryd.prog 24 #[.int .i64 L] W fun e w' => e = .returned (.tuple #[.int .i64 (wdv L), .int .i64 we]) ∧ w' = W := by
            cases hv : Cal.valid L
            · exact ⟨2, fun W => (Tryd.dWeekday L W).mono fun e w' h => ⟨by rw [h.1]; unfold wdv; simp [hv], h.2⟩⟩
            · exact ⟨0, fun W => (Tryd.dWeekday L W).mono fun e w' h => ⟨by rw [h.1]; unfold wdv; simp [hv], h.2⟩⟩
          obtain ⟨we, hwk⟩ := hwk
          have hvl := Tryd.dValid (L - z)
          obtain ⟨vc, hvc⟩ : ∃ c, Cal.valid (L - z) = c := ⟨_, rfl⟩
          rw [hvc] at hvl
          obtain ⟨wv, hwv⟩ : ∃ v, wdv L = v := ⟨_, rfl⟩
          rw [hwv] at hwk
          have hvc' := fun (_ : Unit) => hvc
          have hwv' := fun (_ : Unit) => hwv
          clear hvc hwv
          have u1 : IntKind.i64.wrap (L - z) = L - z := IntWalk.i64_in _ (by omega)
          obtain ⟨z0, z1, z2, z3, z4, z5, z6, z7, z8, z9, z10, z11, z12, z13⟩ := cells14 hV6.out.par
          obtain ⟨c0, c1, c2, c3, c4, c5⟩ := hV6.out.scn.c
          try dsimp only at c1 c2
          go_wp2_with fail
          clear c0 c1 c2 c3 c4 c5 z0 z1 z2 z3 z4 z5 z6 z7 z8 z9 z10 z11 z12 z13
          have hc := hfc V6
          refine hc.mono ?_
          rintro e V7 ⟨rfl, hb⟩
          have hV7 := Lib.hid (hV6.out.below hb)
          clear hc hb hV6
          clear hfc
          obtain ⟨z0, z1, z2, z3, z4, z5, z6, z7, z8, z9, z10, z11, z12, z13⟩ := cells14 hV7.out.par
          obtain ⟨c0, c1, c2, c3, c4, c5⟩ := hV7.out.scn.c
          try dsimp only at c1 c2
          go_wp2_with fail
          clear c0 c1 c2 c3 c4 c5 z0 z1 z2 z3 z4 z5 z6 z7 z8 z9 z10 z11 z12 z13
          refine (hwk V7).mono ?_
          rintro e w9 ⟨rfl, hw9⟩
          rw [hw9]
          clear hw9 w9
          clear hwk
          obtain ⟨c8, g10⟩ : ∃ c, (wv == (wk : Int)) = c := ⟨_, rfl⟩
          cases nm
          · have hb8 : Unit → (!false || decide (wdv (Cal.from_ Y M D H N).1 = (wk : Int))) = true := fun _ => by rw [hLe' (), hwv' ()]; rfl
            have hvc2 : Unit → Cal.valid ((Cal.from_ Y M D H N).1 - z) = vc := fun _ => by rw [hLe' ()]; exact hvc' ()
            obtain ⟨z0, z1, z2, z3, z4, z5, z6, z7, z8, z9, z10, z11, z12, z13⟩ := cells14 hV7.out.par
            obtain ⟨c0, c1, c2, c3, c4, c5⟩ := hV7.out.scn.c
            try dsimp only at c1 c2
            go_wp2_with fail
            clear c0 c1 c2 c3 c4 c5 z0 z1 z2 z3 z4 z5 z6 z7 z8 z9 z10 z11 z12 z13
            have hc := Tryd.dCheck X s (n5, 0) true 0 13 V7 hV7.out.scn (Nat.zero_le _)
            refine hc.mono ?_
            rintro e V8 ⟨rfl, hg, hs⟩
            have hV8 := Lib.hid (hV7.out.call hg hs)
            clear hc hg hs hV7
            obtain ⟨z0, z1, z2, z3, z4, z5, z6, z7, z8, z9, z10, z11, z12, z13⟩ := cells14 hV8.out.par
            obtain ⟨c0, c1, c2, c3, c4, c5⟩ := hV8.out.scn.c
            try dsimp only at c1 c2
            go_wp2_with fail
            clear c0 c1 c2 c3 c4 c5 z0 z1 z2 z3 z4 z5 z6 z7 z8 z9 z10 z11 z12 z13
            refine (hvl V8).mono ?_
            rintro e w9 ⟨rfl, hw9⟩
            rw [hw9]
            clear hw9 w9
            clear hvl
            obtain ⟨z0, z1, z2, z3, z4, z5, z6, z7, z8, z9, z10, z11, z12, z13⟩ := cells14 hV8.out.par
            obtain ⟨c0, c1, c2, c3, c4, c5⟩ := hV8.out.scn.c
            try dsimp only at c1 c2
            go_wp2_with fail
            clear c0 c1 c2 c3 c4 c5 z0 z1 z2 z3 z4 z5 z6 z7 z8 z9 z10 z11 z12 z13
            obtain ⟨n7, e7, hx7⟩ : ∃ n e, sck (sck (n5, 0) true 0 13) vc 0 2 = (n, e) := ⟨(sck (sck (n5, 0) true 0 13) vc 0 2).1, (sck (sck (n5, 0) true 0 13) vc 0 2).2, (Prod.eta _).symm⟩
            have hx7' := fun (_ : Unit) => hx7
            clear hx7
            have hc := Tryd.dCheck X s (sck (n5, 0) true 0 13) vc 0 2 V8 hV8.out.scn (Nat.zero_le _)
            rw [show sck (sck (n5, 0) true 0 13) vc 0 2 = (n7, e7) from hx7' ()] at hc
            refine hc.mono ?_
            rintro e V9 ⟨rfl, hg, hs⟩
            have hV9 := Lib.hid (hV8.out.call hg hs)
            clear hc hg hs hV8
            by_cases he7 : e7 = 0
            · subst he7
              have hRe : Unit → R = (L - z, 0, 0) := fun _ => by rw [← hR (), pz_0 (hq1 ()) (hQ5 ()) (hb8 ()) (hvc2 ()) (hx7' ()), hLe' ()]
              have hBR : Below w.heap.size w V9 := hV9.out.bel
              obtain ⟨z0, z1, z2, z3, z4, z5, z6, z7, z8, z9, z10, z11, z12, z13⟩ := cells14 hV9.out.par
              obtain ⟨c0, c1, c2, c3, c4, c5⟩ := hV9.out.scn.c
              try dsimp only at c1 c2
              go_wp2_with fail
              clear c0 c1 c2 c3 c4 c5 z0 z1 z2 z3 z4 z5 z6 z7 z8 z9 z10 z11 z12 z13
              have hRe2 := hRe ()
              exact bodyPost_ret (v := .tuple #[.int .i64 (L - z), .int .i64 0, .int .i64 0]) (by simp [results, Tryd.results20, go_sem]) rfl ⟨by rw [hRe2]; rfl, hBR⟩
            · have g9 : ((e7 : Int) == 0) = false := beq_false_of_ne (by omega)
              have hRe : Unit → R = (0, n7, e7) := fun _ => by rw [← hR (), pz_7 (hq1 ()) (hQ5 ()) (hb8 ()) (hvc2 ()) (hx7' ()) he7]
              obtain ⟨z0, z1, z2, z3, z4, z5, z6, z7, z8, z9, z10, z11, z12, z13⟩ := cells14 hV9.out.par
              obtain ⟨c0, c1, c2, c3, c4, c5⟩ := hV9.out.scn.c
              try dsimp only at c1 c2
              go_wp2_with fail
              clear c0 c1 c2 c3 c4 c5 z0 z1 z2 z3 z4 z5 z6 z7 z8 z9 z10 z11 z12 z13
              obtain ⟨C, q1, q2, q4⟩ : ∃ C : World → Prop, C V9 ∧ (∀ V, C V → Below V9.heap.size V9 V) ∧ (∀ V, C V → C { V with drawn := V.drawn + 1 }) := ⟨fun V => Below V9.heap.size V9 V, Below.refl _ _, fun V h => h, fun V h => h.drew⟩
              have k1 : Hid (∀ V, C V → V.cell? ⟨X, 1, none⟩ = some (.int .i64 (n7 : Int))) := Lib.hid (fun V hV => (hV9.out.scn.below (q2 V hV)).c.2.1)
              have k2 : Hid (∀ V, C V → V.cell? ⟨X, 2, none⟩ = some (.int .i64 (e7 : Int))) := Lib.hid (fun V hV => (hV9.out.scn.below (q2 V hV)).c.2.2.1)
              have hC1 := Lib.hid q1
              have hCV := Lib.hid q2
              have hCd := Lib.hid q4
              clear q1 q2 q4
              refine q_region C (by kernel_rfl) (by kernel_rfl) (hCd.out _ hC1.out) ?_
              repeat (first
                | (with_reducible refine q_off ?_ ?_
                   · rfl
                   try simp only [Act.put, List.getElem_toArray, List.getElem_cons_zero, List.getElem_cons_succ, List.setIfInBounds_toArray, List.set_cons_zero, List.set_cons_succ])
                | (with_reducible refine q_lds2 Tryd.isAgg3 ?_ ?_ ⟨X, 1, none⟩ ?_ (.int .i64 (n7 : Int)) k1.out ?_
                   · rfl
                   · rfl
                   · rfl
                   try simp only [Act.put, List.getElem_toArray, List.getElem_cons_zero, List.getElem_cons_succ, List.setIfInBounds_toArray, List.set_cons_zero, List.set_cons_succ])
                | (with_reducible refine q_lds2 Tryd.isAgg25 ?_ ?_ ⟨X, 2, none⟩ ?_ (.int .i64 (e7 : Int)) k2.out ?_
                   · rfl
                   · rfl
                   · rfl
                   try simp only [Act.put, List.getElem_toArray, List.getElem_cons_zero, List.getElem_cons_succ, List.setIfInBounds_toArray, List.set_cons_zero, List.set_cons_succ])
                | (with_reducible refine wpQuiet_step ?_
                   intro K hK
                   go_simp
                   first
                   | (refine hK _ ?_; clear hK K)
                   | (apply Exists.intro
                      refine ⟨fun W hW => ?_, hK _ ?_⟩
                      first
                      | exact rfl
                      | exact ⟨rfl, rfl⟩
                      clear hK K)))
              refine wpQuiet_nil ?_
              intro VR h1VR
              have hBR : Below w.heap.size w VR := by rw [hwX]; exact hwX ▸ (hV9.out.below (hCV.out VR h1VR)).bel
              clear h1VR hC1 k1 k2 hCV hCd
              go_wp2_with fail
              have hRe2 := hRe ()
              exact bodyPost_ret (v := .tuple #[.int .i64 0, .int .i64 (n7 : Int), .int .i64 (e7 : Int)]) (by simp [results, Tryd.results20, go_sem]) rfl ⟨by rw [hRe2], hBR⟩
          · have hb8 : Unit → (!true || decide (wdv (Cal.from_ Y M D H N).1 = (wk : Int))) = c8 := fun _ => by rw [hLe' (), hwv' ()]; rw [← g10, Bool.eq_iff_iff]; simp
            have hvc2 : Unit → Cal.valid ((Cal.from_ Y M D H N).1 - z) = vc := fun _ => by rw [hLe' ()]; exact hvc' ()
            obtain ⟨z0, z1, z2, z3, z4, z5, z6, z7, z8, z9, z10, z11, z12, z13⟩ := cells14 hV7.out.par
            obtain ⟨c0, c1, c2, c3, c4, c5⟩ := hV7.out.scn.c
            try dsimp only at c1 c2
            go_wp2_with fail
            clear c0 c1 c2 c3 c4 c5 z0 z1 z2 z3 z4 z5 z6 z7 z8 z9 z10 z11 z12 z13
            have hc := Tryd.dCheck X s (n5, 0) c8 0 13 V7 hV7.out.scn (Nat.zero_le _)
            refine hc.mono ?_
            rintro e V8 ⟨rfl, hg, hs⟩
            have hV8 := Lib.hid (hV7.out.call hg hs)
            clear hc hg hs hV7
            obtain ⟨z0, z1, z2, z3, z4, z5, z6, z7, z8, z9, z10, z11, z12, z13⟩ := cells14 hV8.out.par
            obtain ⟨c0, c1, c2, c3, c4, c5⟩ := hV8.out.scn.c
            try dsimp only at c1 c2
            go_wp2_with fail
            clear c0 c1 c2 c3 c4 c5 z0 z1 z2 z3 z4 z5 z6 z7 z8 z9 z10 z11 z12 z13
            refine (hvl V8).mono ?_
            rintro e w9 ⟨rfl, hw9⟩
            rw [hw9]
            clear hw9 w9
            clear hvl
            obtain ⟨z0, z1, z2, z3, z4, z5, z6, z7, z8, z9, z10, z11, z12, z13⟩ := cells14 hV8.out.par
            obtain ⟨c0, c1, c2, c3, c4, c5⟩ := hV8.out.scn.c
            try dsimp only at c1 c2
            go_wp2_with fail
            clear c0 c1 c2 c3 c4 c5 z0 z1 z2 z3 z4 z5 z6 z7 z8 z9 z10 z11 z12 z13
            obtain ⟨n7, e7, hx7⟩ : ∃ n e, sck (sck (n5, 0) c8 0 13) vc 0 2 = (n, e) := ⟨(sck (sck (n5, 0) c8 0 13) vc 0 2).1, (sck (sck (n5, 0) c8 0 13) vc 0 2).2, (Prod.eta _).symm⟩
            have hx7' := fun (_ : Unit) => hx7
            clear hx7
            have hc := Tryd.dCheck X s (sck (n5, 0) c8 0 13) vc 0 2 V8 hV8.out.scn (Nat.zero_le _)
            rw [show sck (sck (n5, 0) c8 0 13) vc 0 2 = (n7, e7) from hx7' ()] at hc
            refine hc.mono ?_
            rintro e V9 ⟨rfl, hg, hs⟩
            have hV9 := Lib.hid (hV8.out.call hg hs)
            clear hc hg hs hV8
            by_cases he7 : e7 = 0
            · subst he7
              have hRe : Unit → R = (L - z, 0, 0) := fun _ => by rw [← hR (), pz_0 (hq1 ()) (hQ5 ()) (hb8 ()) (hvc2 ()) (hx7' ()), hLe' ()]
              have hBR : Below w.heap.size w V9 := hV9.out.bel
              obtain ⟨z0, z1, z2, z3, z4, z5, z6, z7, z8, z9, z10, z11, z12, z13⟩ := cells14 hV9.out.par
              obtain ⟨c0, c1, c2, c3, c4, c5⟩ := hV9.out.scn.c
              try dsimp only at c1 c2
              go_wp2_with fail
              clear c0 c1 c2 c3 c4 c5 z0 z1 z2 z3 z4 z5 z6 z7 z8 z9 z10 z11 z12 z13
              have hRe2 := hRe ()
              exact bodyPost_ret (v := .tuple #[.int .i64 (L - z), .int .i64 0, .int .i64 0]) (by simp [results, Tryd.results20, go_sem]) rfl ⟨by rw [hRe2]; rfl, hBR⟩
            · have g9 : ((e7 : Int) == 0) = false := beq_false_of_ne (by omega)
              have hRe : Unit → R = (0, n7, e7) := fun _ => by rw [← hR (), pz_7 (hq1 ()) (hQ5 ()) (hb8 ()) (hvc2 ()) (hx7' ()) he7]
              obtain ⟨z0, z1, z2, z3, z4, z5, z6, z7, z8, z9, z10, z11, z12, z13⟩ := cells14 hV9.out.par
              obtain ⟨c0, c1, c2, c3, c4, c5⟩ := hV9.out.scn.c
              try dsimp only at c1 c2
              go_wp2_with fail
              clear c0 c1 c2 c3 c4 c5 z0 z1 z2 z3 z4 z5 z6 z7 z8 z9 z10 z11 z12 z13
              obtain ⟨C, q1, q2, q4⟩ : ∃ C : World → Prop, C V9 ∧ (∀ V, C V → Below V9.heap.size V9 V) ∧ (∀ V, C V → C { V with drawn := V.drawn + 1 }) := ⟨fun V => Below V9.heap.size V9 V, Below.refl _ _, fun V h => h, fun V h => h.drew⟩
              have k1 : Hid (∀ V, C V → V.cell? ⟨X, 1, none⟩ = some (.int .i64 (n7 : Int))) := Lib.hid (fun V hV => (hV9.out.scn.below (q2 V hV)).c.2.1)
              have k2 : Hid (∀ V, C V → V.cell? ⟨X, 2, none⟩ = some (.int .i64 (e7 : Int))) := Lib.hid (fun V hV => (hV9.out.scn.below (q2 V hV)).c.2.2.1)
              have hC1 := Lib.hid q1
              have hCV := Lib.hid q2
              have hCd := Lib.hid q4
              clear q1 q2 q4
              refine q_region C (by kernel_rfl) (by kernel_rfl) (hCd.out _ hC1.out) ?_
              repeat (first
                | (with_reducible refine q_off ?_ ?_
                   · rfl
                   try simp only [Act.put, List.getElem_toArray, List.getElem_cons_zero, List.getElem_cons_succ, List.setIfInBounds_toArray, List.set_cons_zero, List.set_cons_succ])
                | (with_reducible refine q_lds2 Tryd.isAgg3 ?_ ?_ ⟨X, 1, none⟩ ?_ (.int .i64 (n7 : Int)) k1.out ?_
                   · rfl
                   · rfl
                   · rfl
                   try simp only [Act.put, List.getElem_toArray, List.getElem_cons_zero, List.getElem_cons_succ, List.setIfInBounds_toArray, List.set_cons_zero, List.set_cons_succ])
                | (with_reducible refine q_lds2 Tryd.isAgg25 ?_ ?_ ⟨X, 2, none⟩ ?_ (.int .i64 (e7 : Int)) k2.out ?_
                   · rfl
                   · rfl
                   · rfl
                   try simp only [Act.put, List.getElem_toArray, List.getElem_cons_zero, List.getElem_cons_succ, List.setIfInBounds_toArray, List.set_cons_zero, List.set_cons_succ])
                | (with_reducible refine wpQuiet_step ?_
                   intro K hK
                   go_simp
                   first
                   | (refine hK _ ?_; clear hK K)
                   | (apply Exists.intro
                      refine ⟨fun W hW => ?_, hK _ ?_⟩
                      first
                      | exact rfl
                      | exact ⟨rfl, rfl⟩
                      clear hK K)))
              refine wpQuiet_nil ?_
              intro VR h1VR
              have hBR : Below w.heap.size w VR := by rw [hwX]; exact hwX ▸ (hV9.out.below (hCV.out VR h1VR)).bel
              clear h1VR hC1 k1 k2 hCV hCd
              go_wp2_with fail
              have hRe2 := hRe ()
              exact bodyPost_ret (v := .tuple #[.int .i64 0, .int .i64 (n7 : Int), .int .i64 (e7 : Int)]) (by simp [results, Tryd.results20, go_sem]) rfl ⟨by rw [hRe2], hBR⟩
        · have g9 : ((e5 : Int) == 0) = false := beq_false_of_ne (by omega)
          have hRe : Unit → R = (0, n5, e5) := fun _ => by rw [← hR (), pz_5 (hq1 ()) (hQ5 ()) he5]
          obtain ⟨z0, z1, z2, z3, z4, z5, z6, z7, z8, z9, z10, z11, z12, z13⟩ := cells14 hV6.out.par
          obtain ⟨c0, c1, c2, c3, c4, c5⟩ := hV6.out.scn.c
          try dsimp only at c1 c2
          go_wp2_with fail
          clear c0 c1 c2 c3 c4 c5 z0 z1 z2 z3 z4 z5 z6 z7 z8 z9 z10 z11 z12 z13
          obtain ⟨C, q1, q2, q4⟩ : ∃ C : World → Prop, C V6 ∧ (∀ V, C V → Below V6.heap.size V6 V) ∧ (∀ V, C V → C { V with drawn := V.drawn + 1 }) := ⟨fun V => Below V6.heap.size V6 V, Below.refl _ _, fun V h => h, fun V h => h.drew⟩
          have k1 : Hid (∀ V, C V → V.cell? ⟨X, 1, none⟩ = some (.int .i64 (n5 : Int))) := Lib.hid (fun V hV => (hV6.out.scn.below (q2 V hV)).c.2.1)
          have k2 : Hid (∀ V, C V → V.cell? ⟨X, 2, none⟩ = some (.int .i64 (e5 : Int))) := Lib.hid (fun V hV => (hV6.out.scn.below (q2 V hV)).c.2.2.1)
          have hC1 := Lib.hid q1
          have hCV := Lib.hid q2
          have hCd := Lib.hid q4
          clear q1 q2 q4
          refine q_region C (by kernel_rfl) (by kernel_rfl) (hCd.out _ hC1.out) ?_
          repeat (first
            | (with_reducible refine q_off ?_ ?_
               · rfl
               try simp only [Act.put, List.getElem_toArray, List.getElem_cons_zero, List.getElem_cons_succ, List.setIfInBounds_toArray, List.set_cons_zero, List.set_cons_succ])
            | (with_reducible refine q_lds2 Tryd.isAgg3 ?_ ?_ ⟨X, 1, none⟩ ?_ (.int .i64 (n5 : Int)) k1.out ?_
               · rfl
               · rfl
               · rfl
               try simp only [Act.put, List.getElem_toArray, List.getElem_cons_zero, List.getElem_cons_succ, List.setIfInBounds_toArray, List.set_cons_zero, List.set_cons_succ])
            | (with_reducible refine q_lds2 Tryd.isAgg25 ?_ ?_ ⟨X, 2, none⟩ ?_ (.int .i64 (e5 : Int)) k2.out ?_
               · rfl
               · rfl
               · rfl
               try simp only [Act.put, List.getElem_toArray, List.getElem_cons_zero, List.getElem_cons_succ, List.setIfInBounds_toArray, List.set_cons_zero, List.set_cons_succ])
            | (with_reducible refine wpQuiet_step ?_
               intro K hK
               go_simp
               first
               | (refine hK _ ?_; clear hK K)
               | (apply Exists.intro
                  refine ⟨fun W hW => ?_, hK _ ?_⟩
                  first
                  | exact rfl
                  | exact ⟨rfl, rfl⟩
                  clear hK K)))
          refine wpQuiet_nil ?_
          intro VR h1VR
          have hBR : Below w.heap.size w VR := by rw [hwX]; exact hwX ▸ (hV6.out.below (hCV.out VR h1VR)).bel
          clear h1VR hC1 k1 k2 hCV hCd
          go_wp2_with fail
          have hRe2 := hRe ()
          exact bodyPost_ret (v := .tuple #[.int .i64 0, .int .i64 (n5 : Int), .int .i64 (e5 : Int)]) (by simp [results, Tryd.results20, go_sem]) rfl ⟨by rw [hRe2], hBR⟩
    · have g9 : ((e : Int) == 0) = false := beq_false_of_ne (by omega)
      have hRe : Unit → R = (0, n, e) := fun _ => by rw [← hR (), pz_1 (by unfold TK.q1; rw [g2, g3]; rfl) he]
      obtain ⟨z0, z1, z2, z3, z4, z5, z6, z7, z8, z9, z10, z11, z12, z13⟩ := cells14 hV1.out.par
      obtain ⟨c0, c1, c2, c3, c4, c5⟩ := hV1.out.scn.c
      try dsimp only at c1 c2
      go_wp2_with fail
      clear c0 c1 c2 c3 c4 c5 z0 z1 z2 z3 z4 z5 z6 z7 z8 z9 z10 z11 z12 z13
      obtain ⟨C, q1, q2, q4⟩ : ∃ C : World → Prop, C V1 ∧ (∀ V, C V → Below V1.heap.size V1 V) ∧ (∀ V, C V → C { V with drawn := V.drawn + 1 }) := ⟨fun V => Below V1.heap.size V1 V, Below.refl _ _, fun V h => h, fun V h => h.drew⟩
      have k1 : Hid (∀ V, C V → V.cell? ⟨X, 1, none⟩ = some (.int .i64 (n : Int))) := Lib.hid (fun V hV => (hV1.out.scn.below (q2 V hV)).c.2.1)
      have k2 : Hid (∀ V, C V → V.cell? ⟨X, 2, none⟩ = some (.int .i64 (e : Int))) := Lib.hid (fun V hV => (hV1.out.scn.below (q2 V hV)).c.2.2.1)
      have hC1 := Lib.hid q1
      have hCV := Lib.hid q2
      have hCd := Lib.hid q4
      clear q1 q2 q4
      refine q_region C (by kernel_rfl) (by kernel_rfl) (hCd.out _ hC1.out) ?_
      repeat (first
        | (with_reducible refine q_off ?_ ?_
           · rfl
           try simp only [Act.put, List.getElem_toArray, List.getElem_cons_zero, List.getElem_cons_succ, List.setIfInBounds_toArray, List.set_cons_zero, List.set_cons_succ])
        | (with_reducible refine q_lds2 Tryd.isAgg3 ?_ ?_ ⟨X, 1, none⟩ ?_ (.int .i64 (n : Int)) k1.out ?_
           · rfl
           · rfl
           · rfl
           try simp only [Act.put, List.getElem_toArray, List.getElem_cons_zero, List.getElem_cons_succ, List.setIfInBounds_toArray, List.set_cons_zero, List.set_cons_succ])
        | (with_reducible refine q_lds2 Tryd.isAgg25 ?_ ?_ ⟨X, 2, none⟩ ?_ (.int .i64 (e : Int)) k2.out ?_
           · rfl
           · rfl
           · rfl
           try simp only [Act.put, List.getElem_toArray, List.getElem_cons_zero, List.getElem_cons_succ, List.setIfInBounds_toArray, List.set_cons_zero, List.set_cons_succ])
        | (with_reducible refine wpQuiet_step ?_
           intro K hK
           go_simp
           first
           | (refine hK _ ?_; clear hK K)
           | (apply Exists.intro
              refine ⟨fun W hW => ?_, hK _ ?_⟩
              first
              | exact rfl
              | exact ⟨rfl, rfl⟩
              clear hK K)))
      refine wpQuiet_nil ?_
      intro VR h1VR
      have hBR : Below w.heap.size w VR := by rw [hwX]; exact hwX ▸ (hV1.out.below (hCV.out VR h1VR)).bel
      clear h1VR hC1 k1 k2 hCV hCd
      go_wp2_with fail
      have hRe2 := hRe ()
      exact bodyPost_ret (v := .tuple #[.int .i64 0, .int .i64 (n : Int), .int .i64 (e : Int)]) (by simp [results, Tryd.results20, go_sem]) rfl ⟨by rw [hRe2], hBR⟩

end Go.Proofs
