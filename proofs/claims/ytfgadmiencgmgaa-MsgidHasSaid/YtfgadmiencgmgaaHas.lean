/- msgid.Has, the reference's Has, and the list's conversion -/
import Derived.Test.YtfgadmiencgmgaaSet
import Derived.Test.YtfgadmiencgmgaaContLay
import Derived.Shelf.SlicesQ.Contains
namespace Go.Proofs
open Go.RowKit Go.Shelf XK Go.Sort
set_option linter.unusedVariables false
namespace XK
def memb (x : I32) (zs : List I32) : Bool := decide (x ∈ zs)
theorem any_memb (x : I32) (zs : List I32) : (zs.any fun y => x.1 == y.1) = memb x zs := by
  unfold memb
  rw [Bool.eq_iff_iff]
  simp only [List.any_eq_true, beq_iff_eq, decide_eq_true_eq]
  constructor
  · rintro ⟨y, hy, e⟩
    rw [Subtype.ext e]; exact hy
  · intro h
    exact ⟨x, h, rfl⟩
theorem eqlAt {P : Program} {T e : TypeId} (A : Arr P T e) : EqlAt P T (fun x : I32 => .agg (enc x).toArray) (fun x y => x.1 == y.1) :=
  ⟨fun x y w => by
    show (binOp .eql T (.agg (bv x.1).toArray) (.agg (bv y.1).toArray)).run P w = _
    simp only [binOp, Op.equal, Op.maxDepth, Sem.run_bind, run_equalIn_bytes w 9998 T e 32 A.ut A.ue A.se x.1 y.1 x.2 y.2, Result.andThen_ok, Sem.run_pure], GuardAt.agg (fun x : I32 => (enc x).toArray) A.gt⟩
end XK
set_option maxHeartbeats 1000000 in
theorem Try.indexNil (a : Option Addr) (cap : Nat) (x : I32) (w : World) : Calls Try.prog 53 #[.slice a 0 cap, .agg (bv x.1).toArray] w fun e w' => e = .returned (.int .i64 (-1)) ∧ Go.RowKit.Below w.heap.size w w' := by
  go_enter Try.func53, Try.ntmps53
  go_wp2_with (refine x_bx rfl _ rfl _ rfl ?_)
  refine wp_loop_rounds 1 ?_
  rw [rounds_succ]
  go_wp2
  go_ret
  exact ⟨rfl, (Go.RowKit.Below.refl _ w).alloc (Nat.le_refl _) _⟩
set_option maxHeartbeats 1000000 in
theorem Try.containsNil (a : Option Addr) (cap : Nat) (x : I32) (w : World) : Calls Try.prog 39 #[.slice a 0 cap, .agg (bv x.1).toArray] w fun e w' => e = .returned (.bool false) ∧ Go.RowKit.Below w.heap.size w w' := by
  have hI := fun W => Try.indexNil a cap x W
  have hlx := Lib.hid x.2
  go_enter Try.func39, Try.ntmps39
  go_wp2_with (first
    | (refine x_bx rfl _ rfl _ rfl ?_)
    | (refine x_ld Try.arrId rfl _ rfl _ _ rfl x.1 hlx.out ?_ ?_; exact fun j v hj => by rw [Go.cell_of_row _ _ _ _ _ _ (Go.heap_alloc_new w _)]; simpa using hj)
    | (go_at_call 53; refine (hI _).mono ?_; rintro e w1 ⟨rfl, hb1⟩))
  go_ret
  exact ⟨rfl, ((Go.RowKit.Below.refl _ w).alloc (Nat.le_refl _) _).trans (hb1.mono (by simp))⟩
theorem Try.contains (zs : List I32) (hlim : zs.length ≤ 1000) (sv : Value) (w : World) (hI : Ids w.heap.size w sv zs) (x : I32) :
    Calls Try.prog 39 #[sv, .agg (bv x.1).toArray] w fun e w' => e = .returned (.bool (memb x zs)) ∧ Go.RowKit.Below w.heap.size w w' := by
  rcases hI with ⟨⟨a, cap, rfl⟩, rfl⟩ | ⟨b, off, cap, rfl, hb, hc⟩
  · exact Try.containsNil a cap x w
  · have h := AnyQ.slices_Contains Try.containsId 32 Try.isAgg23 Try.sizeOf23 enc (fun x => by rw [enc, bv_length, x.2]) (fun x y => x.1 == y.1) (XK.eqlAt Try.arrId) b off zs.length cap zs x w (Nat.le_refl _) (by omega) (fun j hj i v hv => by
      rw [getElem!_pos zs j hj] at hv
      exact hc j hj i v hv)
    change Calls Try.prog 39 _ _ _ at h
    rw [List.take_length, XK.any_memb] at h
    exact h
set_option maxHeartbeats 1000000 in
theorem Try.has (zs : List I32) (hlim : zs.length ≤ 1000) (sv : Value) (w : World) (hI : Ids w.heap.size w sv zs) (x : I32) :
    Calls Try.prog 23 #[sv, .agg (bv x.1).toArray] w fun e w' => e = .returned (.bool (memb x zs)) ∧ Go.RowKit.Below w.heap.size w w' := by
  have hC := Try.contains zs hlim sv (w.alloc (.cells (bv x.1).toArray 23)) ((hI.below ((Go.RowKit.Below.refl _ w).alloc (Nat.le_refl _) _)).mono (by simp)) x
  have hlx := Lib.hid x.2
  clear hI
  generalize memb x zs = r at hC ⊢
  go_enter Try.func23, Try.ntmps23
  go_wp2_with (first
    | (refine x_bx rfl _ rfl _ rfl ?_)
    | (refine x_ld Try.arrId rfl _ rfl _ _ rfl x.1 hlx.out ?_ ?_; exact fun j v hj => by rw [Go.cell_of_row _ _ _ _ _ _ (Go.heap_alloc_new w _)]; simpa using hj)
    | (go_at_call 39; refine hC.mono ?_; rintro e w1 ⟨rfl, hb1⟩))
  go_ret
  exact ⟨rfl, ((Go.RowKit.Below.refl _ w).alloc (Nat.le_refl _) _).trans (hb1.mono (by simp))⟩
end Go.Proofs
