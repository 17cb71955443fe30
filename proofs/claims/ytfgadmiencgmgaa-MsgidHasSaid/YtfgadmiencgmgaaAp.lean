/- slices.AppendSeq and slices.Collect over an iterator of identities: a new list of all that it gives -/
import Derived.Test.YtfgadmiencgmgaaBuild
namespace Go.Proofs
open Go.RowKit Go.Shelf XK
attribute [local go_sem] Oper.semAt_some
namespace XK
def flat (zs : List I32) : List Value := zs.flatMap fun x => bv x.1
theorem flat_nil : flat [] = [] := rfl
theorem flat_snoc (zs : List I32) (x : I32) : flat (zs ++ [x]) = flat zs ++ bv x.1 := by simp [flat]
theorem flat_length (zs : List I32) : (flat zs).length = zs.length * 32 := by
  induction zs with
  | nil => rfl
  | cons x zs ih => rw [flat, List.flatMap_cons, List.length_append, ← flat, ih, bv_length, x.2, List.length_cons]; omega
theorem flat_get (zs : List I32) (j : Nat) (h : j < zs.length) (i : Nat) (v : Value) (hv : (bv zs[j].1)[i]? = some v) : (flat zs)[j * 32 + i]? = some v := by
  induction zs generalizing j with
  | nil => cases h
  | cons x zs ih =>
    have hi : i < 32 := by
      rcases Nat.lt_or_ge i 32 with h1 | h1
      · exact h1
      · rw [List.getElem?_eq_none (by rw [bv_length, ((x :: zs)[j]).2]; exact h1)] at hv; cases hv
    rw [flat, List.flatMap_cons, ← flat]
    cases j with
    | zero =>
      rw [List.getElem?_append_left (by rw [bv_length, x.2]; omega)]
      simpa using hv
    | succ j =>
      rw [List.getElem?_append_right (by rw [bv_length, x.2]; omega), bv_length, x.2, show (j + 1) * 32 + i - 32 = j * 32 + i by omega]
      exact ih j (by simpa using h) (by simpa using hv)
theorem flat_one (zs : List I32) : ∀ v ∈ flat zs, v.oneCell' = true := fun v hv => by
  obtain ⟨x, _, h⟩ := List.mem_flatMap.1 hv
  exact bv_one x.1 v h
theorem cells_new (w : World) (cs : List Value) (t : TypeId) : ∀ j u, cs[j]? = some u → (w.alloc (.cells cs.toArray t)).cell? ((⟨w.heap.size, 0, none⟩ : Addr).add j) = some u := fun j u hj => by
  rw [Addr.add_mid, Nat.zero_add, Go.cell_of_row _ _ _ _ _ _ (Go.heap_alloc_new w _)]
  simpa using hj
theorem row_kept {W W' : World} {row : Option Nat} {B : Nat} {cs : Array Value} {t : TypeId} (h : W.heap[B]? = some (.cells cs t (0, 0))) (hg : W.grownBy W' row) (hr : ∀ r, row = some r → ∃ o : Obj, W.heap[r]? = some o ∧ o.isCells = false) : W'.heap[B]? = some (.cells cs t (0, 0)) := by
  rw [hg.block B (Array.getElem?_eq_some_iff.1 h).1 (fun e => by
    obtain ⟨o, ho, hc⟩ := hr B e.symm
    rw [h] at ho; cases ho; cases hc)]
  exact h
end XK
theorem Try.infoId : (Try.prog.info? 23).map (fun i => (i.zero, i.size, i.bytes)) = some (some (.agg (bv z32).toArray), 32, 32) := by kernel_rfl
set_option maxRecDepth 100000 in
set_option maxHeartbeats 2000000 in
theorem Try.appendSeq_in (F : Fence) (n : Nat) (h3 : F.fn 60) (h5 : F.fn 56) (hro : F.round = none) (hn : 3 ≤ n) (lb : Array Value) (zs : List I32) (hlim : zs.length ≤ 1000) (w : World)
    (hseq : SeqStopsK F (n - 1) Try.prog 56 lb (fun x : I32 => #[iv x]) (Below w.heap.size) (fun ys => ys = zs) (fun pre => pre <+: zs) zs.length w) :
    CallsIn F n Try.prog 60 #[.slice none 0 0, .func (.func 56) #[] lb] w fun e W' => ∃ v, e = .returned v ∧ W'.ownsRow w.heap.size 23 32 v zs.length (flat zs) ∧ (v = .slice none 0 0 ↔ zs = []) ∧ Below w.heap.size w W' := by
  have h1 : 1 ≤ n := by omega
  obtain ⟨i0, hi, hz0, hz1, hz2⟩ := info_parts Try.infoId
  refine callsIn_of_wp_marks Try.func60 rfl h3 ?_ hro
  simp only [Try.ntmps60, List.size_toArray, List.length_cons, List.length_nil, Nat.reduceAdd, Nat.reduceSub, Array.replicate_succ, Array.replicate_zero, List.push_toArray, List.append_toArray, List.nil_append, List.cons_append]
  gi_wp2
  have bO := Boxed.new w 45 (.slice none 0 0)
  have hB0 : Below w.heap.size w (w.alloc (.cells #[.slice none 0 0] 45)) := (Below.refl _ w).alloc (Nat.le_refl _) _
  have hOwn : OwnFrom (w.alloc (.cells #[.slice none 0 0] 45)).heap.size (fun (pre : List I32) W => (∃ v, Boxed W w.heap.size 45 v ∧ W.ownsRow w.heap.size 23 32 v pre.length (flat pre) ∧ (v = .slice none 0 0 ↔ pre = [])) ∧ Below w.heap.size w W) :=
    OwnFrom.and (Own.from (holdsRow_own (β := List I32) w.heap.size w.heap.size 45 23 32 (fun pre => pre.length) (fun pre => flat pre) (fun pre v => v = .slice none 0 0 ↔ pre = [])) _) (ownFrom_below (Nat.le_refl _) (by simp))
  refine wpIn_rangeFunc_ownH hro h1 (gf := 56) (lb := lb) rfl h5 (enters_of Try.func56 (by kernel_rfl) rfl) hseq belowK_t (belowK_b (by simp)) hB0 (fun _ => rfl)
    (fun pre W => (∃ v, Boxed W w.heap.size 45 v ∧ W.ownsRow w.heap.size 23 32 v pre.length (flat pre) ∧ (v = .slice none 0 0 ↔ pre = [])) ∧ Below w.heap.size w W)
    (fun _ _ _ => False)
    hOwn
    (fun _ _ _ _ _ hs _ _ => hs)
    ⟨⟨_, bO, World.ownsRow_nil _ _ _ _, by simp⟩, hB0⟩
    (fun x a' W => ∃ Bx, w.heap.size < Bx ∧ W.heap[Bx]? = some (.cells (bv x.1).toArray 23 (0, 0)) ∧ a' = { tmps := #[.slice none 0 0, .func (.func 56) #[] lb, .pointer (some ⟨w.heap.size, 0, none⟩), undef, .slice none 0 0, .pointer (some ⟨Bx, 0, none⟩), .func (.func 56) #[] lb, iv x, undef, undef, undef, undef, undef], defers := [] })
    (fun x a' _ X Y row hs hg hr => by obtain ⟨Bx, h1, h2, h3⟩ := hs; exact ⟨Bx, h1, row_kept h2 hg (fun r e => (hr r e).2), h3⟩)
    ?assign ?body ?done ?stop
  case assign =>
    rintro l pre x W K ⟨⟨v, hv, hrow, hnil⟩, hB⟩ hK
    have hlk := x.2
    have hlt := hv.lt
    have hz : ∀ (t : Array Value) (v : Value), Array.foldl (fun (t : Array Value) (x : Tmp × Value) => match x with | (p, v) => t.setIfInBounds p v) t (#[7].zip #[v]) = t.setIfInBounds 7 v := fun t v => by simp
    rw [hz]
    simp only [List.setIfInBounds_toArray, List.set_cons_succ, List.set_cons_zero]
    unfold iv
    gi_wp2_with (first
      | (refine y_al Try.arrId rfl rfl ?_)
      | (refine y_stn Try.arrId _ _ rfl rfl rfl x.1 rfl hlk _ _ rfl ?_))
    exact hK _ _ ((KeepsOthers.alloc _ _).from _) ((Below.refl _ W).alloc hB.size _) ⟨⟨v, hv.alloc _, hrow.alloc _, hnil⟩, hB.alloc hB.size _⟩ ⟨W.heap.size, hlt, Go.heap_alloc_new W _, rfl⟩
  case body =>
    rintro l pre x a' W hl ⟨r, hr⟩ ⟨⟨v, hv, hrow, hnil⟩, hB⟩ ⟨Bx, hBx, hX, rfl⟩ hlt
    have hc := hv.cell
    have hlk := x.2
    gi_wp2_with (first
      | (refine y_ld Try.arrId _ rfl rfl _ _ rfl x.1 hlk (fun j v hj => by rw [Go.cell_of_row _ _ _ _ _ _ hX]; simpa using hj) ?_)
      | (refine y_bsl Try.arrId _ _ rfl rfl Try.underlying45 x.1 hlk rfl ?_)
      | (gi_at_builtin; refine wpListIn_append_own _ rfl _ _ 45 rfl w.heap.size 23 i0 (.agg (bv z32).toArray) 32 32 Try.underlying45 hi hz0 hz1 hz2 rfl (by decide) _ _ _ rfl (hrow.alloc _) ⟨W.heap.size, 0, none⟩ 1 1 (bv x.1) rfl (by rw [bv_length, hlk]) (cells_new _ _ _) (bv_one x.1) (by simp only [maxLen]; omega) (by omega) (by have := hB.size; simp; omega) ?_; intro v' w1 hown' hgrow _; obtain ⟨g', cap', rfl⟩ := ownsRow_succ hown'; obtain ⟨hv1, hv2, hr2, hk2, hb2⟩ := hv.appended (by decide) hrow hB.size (Nat.le_refl _) hown' hgrow; have hc1 := hv1.cell; have hf1 := hv1.frozen))
    exact ⟨hk2.from _, hb2, ⟨_, hv2, by rw [flat_snoc]; simpa using hr2, by simp⟩, hB.trans hb2⟩
  case done =>
    rintro D ys W hD rfl ⟨⟨v, hv, hrow, hnil⟩, hB⟩ hK
    have hc := hv.cell
    gi_wp2
    refine ⟨by simp, .inl ⟨_, _, rfl, run_takeDeferred hK, ?_⟩⟩
    exact ⟨_, results_tmp rfl _ _ _, v, rfl, ownsRow_putObj hrow _ hK rfl, hnil, hB.trans (belowK_b (w := w) (Nat.le_refl _) W D _ _ (by simp at hD; omega) hK rfl rfl)⟩
  case stop =>
    rintro D c pre W _ _ h _
    exact h.elim
end Go.Proofs
