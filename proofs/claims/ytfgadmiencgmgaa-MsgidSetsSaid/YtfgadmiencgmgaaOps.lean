/- Union, Minus and Both of two lists -/
import Derived.Test.YtfgadmiencgmgaaMerge
import Derived.Test.YtfgadmiencgmgaaL8
namespace Go.Proofs
open Go.RowKit Go.Shelf XK Go.Sort
set_option linter.unusedVariables false
set_option linter.unusedSimpArgs false
namespace XK
theorem mrg_length (keep : Bool → Bool → Bool) (a b : List I32) : (mrg keep a b).length ≤ a.length + b.length := by
  fun_induction mrg keep a b <;> simp_all <;> (try split) <;> simp <;> omega
theorem SL.below {W W' : World} (hb : Go.RowKit.Below W.heap.size W W') {a : Option Addr} {n : Nat} {zs : List I32} (h : SL W a n zs) : SL W' a n zs :=
  ⟨h.1, fun h0 => by
    obtain ⟨b, off, e, hg, hc⟩ := h.2 h0
    exact ⟨b, off, e, Nat.lt_of_lt_of_le hg hb.size, fun j hj => range_below hb hg (hc j hj)⟩⟩
theorem OwnIds.sl {n₀ : Nat} {W : World} {v : Value} {zs : List I32} (h : OwnIds n₀ W v zs) : ∃ a n c, v = .slice a n c ∧ SL W a n zs ∧ n ≤ c := by
  have hi := h.ids
  rcases h with ⟨rfl, rfl⟩ | ⟨g, cap, rfl, _, hc, hg, hr⟩
  · exact ⟨none, 0, 0, rfl, ⟨rfl, fun h => absurd h (Nat.lt_irrefl _)⟩, Nat.le_refl _⟩
  · obtain ⟨a, n, c, e, hs⟩ := SL.of hi
    cases e
    exact ⟨_, _, _, rfl, hs, hc⟩
def kU : Bool → Bool → Bool := fun _ _ => true
def kM : Bool → Bool → Bool := fun p q => p && !q
def kB : Bool → Bool → Bool := fun p q => p && q
end XK
theorem Try.unionK (p q : Bool) (W : World) : Calls Try.prog 44 #[.bool p, .bool q] W fun e w' => e = .returned (.bool (kU p q)) ∧ Go.RowKit.Below W.heap.size W w' := by
  cases p <;> cases q <;> (go_enter Try.func44, Try.ntmps44; go_wp2; go_ret; exact ⟨rfl, Go.RowKit.Below.refl _ _⟩)
theorem Try.union (zs ys : List I32) (hz : zs.length ≤ 500) (hy : ys.length ≤ 500) (sv tv : Value) (w : World) (hI : Ids w.heap.size w sv zs) (hJ : Ids w.heap.size w tv ys) :
    Calls Try.prog 27 #[sv, tv] w fun e w' => ∃ v, e = .returned v ∧ Ids w'.heap.size w' v (mrg kU (sset zs) (sset ys)) ∧ Go.RowKit.Below w.heap.size w w' := by
  have eg : ∀ args w, (callFunc 44 args).run Try.prog w = .ok (.enter 44 args) w := enters_of Try.func44 (by kernel_rfl) rfl
  have lz := sset_length zs
  have ly := sset_length ys
  have hHI := Lib.hid hI
  have hHJ := Lib.hid hJ
  clear hI hJ
  go_enter Try.func27, Try.ntmps27
  go_wp2_with fail
  refine (Try.set zs (by omega) _ w hHI.out).mono ?_
  rintro e W1 ⟨v1, rfl, hO1, hb1⟩
  have hH1 := Lib.hid hO1
  have hB1 := Lib.hid hb1
  clear hO1 hb1
  go_wp2_with fail
  refine (Try.set ys (by omega) _ W1 ((hHJ.out.below hB1.out).mono hB1.out.size)).mono ?_
  rintro e W2 ⟨v2, rfl, hO2, hb2⟩
  obtain ⟨a, n, c, rfl, hs1, hnc⟩ := hH1.out.sl
  obtain ⟨b, m, d, rfl, hs2, hmd⟩ := hO2.sl
  have hm := Try.merge kU 44 eg Try.unionK (sset zs) (sset ys) (by omega) (by omega) a b n m c d hnc hmd W2 (hs1.below hb2) hs2
  have hB2 := Lib.hid (hB1.out.trans (hb2.mono hB1.out.size))
  clear hs1 hs2 hO2 hb2
  go_wp2_with fail
  refine hm.mono ?_
  rintro e W3 ⟨v3, rfl, hO3, hb3⟩
  have hH3 := Lib.hid hO3
  have hB3 := Lib.hid hb3
  clear hO3 hb3
  go_wp2
  go_ret
  exact ⟨v3, rfl, ids_own hH3.out, hB2.out.trans (hB3.out.mono hB2.out.size)⟩
theorem Try.minusK (p q : Bool) (W : World) : Calls Try.prog 45 #[.bool p, .bool q] W fun e w' => e = .returned (.bool (kM p q)) ∧ Go.RowKit.Below W.heap.size W w' := by
  cases p <;> cases q <;> (go_enter Try.func45, Try.ntmps45; go_wp2; go_ret; exact ⟨rfl, Go.RowKit.Below.refl _ _⟩)
theorem Try.minus (zs ys : List I32) (hz : zs.length ≤ 500) (hy : ys.length ≤ 500) (sv tv : Value) (w : World) (hI : Ids w.heap.size w sv zs) (hJ : Ids w.heap.size w tv ys) :
    Calls Try.prog 28 #[sv, tv] w fun e w' => ∃ v, e = .returned v ∧ Ids w'.heap.size w' v (mrg kM (sset zs) (sset ys)) ∧ Go.RowKit.Below w.heap.size w w' := by
  have eg : ∀ args w, (callFunc 45 args).run Try.prog w = .ok (.enter 45 args) w := enters_of Try.func45 (by kernel_rfl) rfl
  have lz := sset_length zs
  have ly := sset_length ys
  have hHI := Lib.hid hI
  have hHJ := Lib.hid hJ
  clear hI hJ
  go_enter Try.func28, Try.ntmps28
  go_wp2_with fail
  refine (Try.set zs (by omega) _ w hHI.out).mono ?_
  rintro e W1 ⟨v1, rfl, hO1, hb1⟩
  have hH1 := Lib.hid hO1
  have hB1 := Lib.hid hb1
  clear hO1 hb1
  go_wp2_with fail
  refine (Try.set ys (by omega) _ W1 ((hHJ.out.below hB1.out).mono hB1.out.size)).mono ?_
  rintro e W2 ⟨v2, rfl, hO2, hb2⟩
  obtain ⟨a, n, c, rfl, hs1, hnc⟩ := hH1.out.sl
  obtain ⟨b, m, d, rfl, hs2, hmd⟩ := hO2.sl
  have hm := Try.merge kM 45 eg Try.minusK (sset zs) (sset ys) (by omega) (by omega) a b n m c d hnc hmd W2 (hs1.below hb2) hs2
  have hB2 := Lib.hid (hB1.out.trans (hb2.mono hB1.out.size))
  clear hs1 hs2 hO2 hb2
  go_wp2_with fail
  refine hm.mono ?_
  rintro e W3 ⟨v3, rfl, hO3, hb3⟩
  have hH3 := Lib.hid hO3
  have hB3 := Lib.hid hb3
  clear hO3 hb3
  go_wp2
  go_ret
  exact ⟨v3, rfl, ids_own hH3.out, hB2.out.trans (hB3.out.mono hB2.out.size)⟩
theorem Try.bothK (p q : Bool) (W : World) : Calls Try.prog 46 #[.bool p, .bool q] W fun e w' => e = .returned (.bool (kB p q)) ∧ Go.RowKit.Below W.heap.size W w' := by
  cases p <;> cases q <;> (go_enter Try.func46, Try.ntmps46; go_wp2; go_ret; exact ⟨rfl, Go.RowKit.Below.refl _ _⟩)
theorem Try.both (zs ys : List I32) (hz : zs.length ≤ 500) (hy : ys.length ≤ 500) (sv tv : Value) (w : World) (hI : Ids w.heap.size w sv zs) (hJ : Ids w.heap.size w tv ys) :
    Calls Try.prog 30 #[sv, tv] w fun e w' => ∃ v, e = .returned v ∧ Ids w'.heap.size w' v (mrg kB (sset zs) (sset ys)) ∧ Go.RowKit.Below w.heap.size w w' := by
  have eg : ∀ args w, (callFunc 46 args).run Try.prog w = .ok (.enter 46 args) w := enters_of Try.func46 (by kernel_rfl) rfl
  have lz := sset_length zs
  have ly := sset_length ys
  have hHI := Lib.hid hI
  have hHJ := Lib.hid hJ
  clear hI hJ
  go_enter Try.func30, Try.ntmps30
  go_wp2_with fail
  refine (Try.set zs (by omega) _ w hHI.out).mono ?_
  rintro e W1 ⟨v1, rfl, hO1, hb1⟩
  have hH1 := Lib.hid hO1
  have hB1 := Lib.hid hb1
  clear hO1 hb1
  go_wp2_with fail
  refine (Try.set ys (by omega) _ W1 ((hHJ.out.below hB1.out).mono hB1.out.size)).mono ?_
  rintro e W2 ⟨v2, rfl, hO2, hb2⟩
  obtain ⟨a, n, c, rfl, hs1, hnc⟩ := hH1.out.sl
  obtain ⟨b, m, d, rfl, hs2, hmd⟩ := hO2.sl
  have hm := Try.merge kB 46 eg Try.bothK (sset zs) (sset ys) (by omega) (by omega) a b n m c d hnc hmd W2 (hs1.below hb2) hs2
  have hB2 := Lib.hid (hB1.out.trans (hb2.mono hB1.out.size))
  clear hs1 hs2 hO2 hb2
  go_wp2_with fail
  refine hm.mono ?_
  rintro e W3 ⟨v3, rfl, hO3, hb3⟩
  have hH3 := Lib.hid hO3
  have hB3 := Lib.hid hb3
  clear hO3 hb3
  go_wp2
  go_ret
  exact ⟨v3, rfl, ids_own hH3.out, hB2.out.trans (hB3.out.mono hB2.out.size)⟩
end Go.Proofs
