/- steps for a statement that builds and appends in an order that is drawn -/
import Derived.Test.YtfgadmiencgmgaaAlg
namespace Go.Proofs.XK
open Go.RowKit
set_option linter.unusedVariables false
section
variable {P : Program} {md : Region.Mode} {ops : Array Oper} {Q : Exit → Act → World → Prop} {S : World → Prop}
/-- an operation that may come up first, gives a value and may change the world -/
theorem h_upd {i : Nat} {oi : Oper} {fuel : Nat} {listed : Array Bool} {a : Act} {w w' : World} {v : Value} {rs : List Nat} (hi : ops[i]? = some oi) (hw : Region.wanted oi (yielded ops a.tmps) = true)
    (hrun : (execOp a.eval oi).run P w = .ok (.value v) w') (hS : S w') (h : wpAnyH P md ops Q S fuel (listed.setIfInBounds i true) (a.put oi.dst v) w') (hs : AllReadyH P md ops Q S fuel listed a w rs) : AllReadyH P md ops Q S fuel listed a w (i :: rs) := fun j hj => by
  rcases List.mem_cons.1 hj with rfl | hj
  · unfold wpOp
    rw [hi]
    show if Region.wanted oi (yielded ops a.tmps) = true then _ else _
    rw [if_pos hw]
    refine .inl ?_
    unfold Oper.wp
    rw [hrun]
    exact ⟨hS, h⟩
  · exact hs j hj
/-- an empty list, built -/
theorem run_bsl0 {T e U : TypeId} (A : Arr P T e) (hU : P.underlying U = some (.slice T)) (w : World) : (Instr.buildSlice U 0 #[]).run P w = .ok (.slice (some ⟨w.heap.size, 0, none⟩) 0 0) (w.alloc (.cells #[] T)) := by
  have h2 := A.st
  have h3 : (sizeOf T).run P w = .ok 32 w := by
    cases hq : P.info? T with
    | none => simp [hq] at h2
    | some j =>
      have : j.size = 32 := by simpa [hq] using h2
      simp [sizeOf, typeInfo, hq, this]
  unfold Instr.buildSlice
  simp only [Sem.run_bind, run_underlying hU, Result.andThen_ok, h3, Nat.zero_mul]
  rw [if_neg (by decide), if_pos trivial]
  simp [Instr.fill, newRow, newObj]
  have h1 : (Array.range 0).map (fun (x : Nat) => (default : Value)) = #[] := by rw [show Array.range 0 = #[] from by simp [Array.range]]; simp
  rw [h1]
  rfl
theorem own_new (w : World) (T : TypeId) : (w.alloc (.cells #[] T)).ownsRow w.heap.size T 32 (.slice (some ⟨w.heap.size, 0, none⟩) 0 0) 0 [] :=
  ⟨rfl, .inr ⟨w.heap.size, 0, #[], rfl, Nat.le_refl _, Go.heap_alloc_new w _, Nat.le_refl _, Nat.zero_le _, rfl, rfl⟩⟩
/-- the cells of a slice that holds identities -/
theorem ids_cells {n₀ : Nat} {W : World} {b off : Nat} {zs : List I32} (hc : ∀ j (h : j < zs.length), W.rangeAt b (off + j * 32) (bv zs[j].1)) :
    ∀ j u, (flat zs)[j]? = some u → W.cell? ((⟨b, off, none⟩ : Addr).add j) = some u := fun j u hj => by
  have h1 := (List.getElem?_eq_some_iff.1 hj).1
  rw [flat_length] at h1
  have hq : j / 32 < zs.length := by omega
  have hm : j % 32 < 32 := Nat.mod_lt _ (by decide)
  have h2 : (bv zs[j / 32].1)[j % 32]? = some (.int .u8 (zs[j / 32].1.getD (j % 32) 0).toNat) := bv_get _ _ (by rw [zs[j / 32].2]; exact hm)
  have h3 := flat_get zs (j / 32) hq (j % 32) _ h2
  rw [show j / 32 * 32 + j % 32 = j by omega, hj] at h3
  have h4 := hc (j / 32) hq (j % 32) _ h2
  rw [Addr.add_mid]
  rw [show off + j / 32 * 32 + j % 32 = off + j by omega] at h4
  rw [h4, h3]
/-- append of a list of identities, wherever it lies, to a row of the call's own -/
theorem run_app_ids {T e U ty : TypeId} (A : Arr P T e) (hU : P.underlying U = some (.slice T)) (hinfo : (P.info? T).map (fun i => (i.zero, i.size, i.bytes)) = some (some (.agg (bv z32).toArray), 32, 32)) (w : World) (base : Nat) (v : Value) (n : Nat) (xs : List Value) (hown : w.ownsRow base T 32 v n xs) {n₀ : Nat} (sv : Value) (zs : List I32) (hI : Ids n₀ w sv zs)
    (hlim : n + zs.length ≤ 4000) (hbase : base ≤ w.heap.size) :
    ∃ v' w', (Builtin.append_ #[U, U] ty #[v, sv]).run P w = .ok v' w' ∧ w'.ownsRow base T 32 v' (n + zs.length) (xs ++ flat zs) ∧ w.grownBy w' v.ownBlock ∧ (v'.ownBlock = v.ownBlock ∨ v'.ownBlock = some w.heap.size) := by
  obtain ⟨i0, hi, hz0, hz1, hz2⟩ := info_parts hinfo
  rcases hI with ⟨⟨a, cap, rfl⟩, rfl⟩ | ⟨b, off, cap, rfl, hb, hc⟩
  · cases a with
    | some a =>
      obtain ⟨v', w', h1, h2, h3, _, h5⟩ := run_append_own_at (P := P) w base U ty T i0 _ 32 32 hU hi hz0 hz1 hz2 rfl (by decide) v n xs hown a 0 cap [] rfl (by simp) (by simp) (by simp only [maxLen]; simp at hlim; omega) (by simp at hlim; omega) hbase
      exact ⟨v', w', h1, by simpa [flat] using h2, h3, h5⟩
    | none =>
      refine ⟨v, w, ?_, by simpa [flat] using hown, World.grownBy.refl w _, .inl rfl⟩
      rcases hown.2 with ⟨rfl, rfl⟩ | ⟨g, c, cur, rfl, _, _, hnc, _, _, _⟩
      · simp [Builtin.append_, run_underlying hU, sizeOf, typeInfo, hi, Builtin.lenOf, Builtin.firstCells]
      · simp [Builtin.append_, run_underlying hU, sizeOf, typeInfo, hi, Builtin.lenOf, Builtin.firstCells, hnc, storeCells]
  · obtain ⟨v', w', h1, h2, h3, _, h5⟩ := run_append_own_at (P := P) w base U ty T i0 _ 32 32 hU hi hz0 hz1 hz2 rfl (by decide) v n xs hown ⟨b, off, none⟩ zs.length cap (flat zs) (flat_length zs) (ids_cells (n₀ := n₀) hc) (flat_one zs) (by simp only [maxLen]; omega) (by omega) hbase
    exact ⟨v', w', h1, h2, h3, h5⟩
theorem h_app {i : Nat} {oi : Oper} {fuel : Nat} {listed : Array Bool} {a : Act} {w : World} {rs : List Nat} {T e U : TypeId} (A : Arr P T e) (hU : P.underlying U = some (.slice T)) (hinfo : (P.info? T).map (fun i => (i.zero, i.size, i.bytes)) = some (some (.agg (bv z32).toArray), 32, 32))
    (hi : ops[i]? = some oi) (hw : Region.wanted oi (yielded ops a.tmps) = true) (s x : Operand) (ho : oi.op = .call { callee := .builtin .append, args := #[s, x], argTypes := #[U, U] }) (base : Nat) (v : Value) (n : Nat) (xs : List Value) (hs : a.eval s = v) (hown : w.ownsRow base T 32 v n xs) {n₀ : Nat} (sv : Value) (zs : List I32) (hx : a.eval x = sv) (hI : Ids n₀ w sv zs)
    (hlim : n + zs.length ≤ 4000) (hbase : base ≤ w.heap.size)
    (h : ∀ v' w', w'.ownsRow base T 32 v' (n + zs.length) (xs ++ flat zs) → w.grownBy w' v.ownBlock → S w' ∧ wpAnyH P md ops Q S fuel (listed.setIfInBounds i true) (a.put oi.dst v') w') (hrs : AllReadyH P md ops Q S fuel listed a w rs) : AllReadyH P md ops Q S fuel listed a w (i :: rs) := by
  obtain ⟨v', w', h1, h2, h3, _⟩ := run_app_ids (P := P) (ty := oi.type) A hU hinfo w base v n xs hown sv zs hI hlim hbase
  refine h_upd hi hw (v := v') (w' := w') ?_ (h v' w' h2 h3).1 (h v' w' h2 h3).2 hrs
  unfold execOp
  simp only [ho, resolve, invoke, builtin, Sem.run_bind, Sem.run_pure, Result.andThen_ok, List.map_toArray, List.map_cons, List.map_nil, hs, hx, h1]
theorem x_appids {Q : Exit → Act → World → Prop} {ops : Array Oper} {rest : List Oper} {o : Oper} {a : Act} {w : World} {T e U : TypeId} (A : Arr P T e) (hU : P.underlying U = some (.slice T)) (hinfo : (P.info? T).map (fun i => (i.zero, i.size, i.bytes)) = some (some (.agg (bv z32).toArray), 32, 32))
    (hw : Region.wanted o (yielded ops a.tmps) = true) (s x : Operand) (ho : o.op = .call { callee := .builtin .append, args := #[s, x], argTypes := #[U, U] }) (base : Nat) (v : Value) (n : Nat) (xs : List Value) (hs : a.eval s = v) (hown : w.ownsRow base T 32 v n xs) {n₀ : Nat} (sv : Value) (zs : List I32) (hx : a.eval x = sv) (hI : Ids n₀ w sv zs)
    (hlim : n + zs.length ≤ 4000) (hbase : base ≤ w.heap.size)
    (h : ∀ v' w', w'.ownsRow base T 32 v' (n + zs.length) (xs ++ flat zs) → w.grownBy w' v.ownBlock → wpList P ops Q rest (a.put o.dst v') w') : wpList P ops Q (o :: rest) a w := by
  obtain ⟨v', w', h1, h2, h3, _⟩ := run_app_ids (P := P) (ty := o.type) A hU hinfo w base v n xs hown sv zs hI hlim hbase
  refine x_val hw (v := v') (w' := w') ?_ (h v' w' h2 h3)
  unfold execOp
  simp only [ho, resolve, invoke, builtin, Sem.run_bind, Sem.run_pure, Result.andThen_ok, List.map_toArray, List.map_cons, List.map_nil, hs, hx, h1]
theorem h_b0 {i : Nat} {oi : Oper} {fuel : Nat} {listed : Array Bool} {a : Act} {w : World} {rs : List Nat} {T e U : TypeId} (A : Arr P T e) (hU : P.underlying U = some (.slice T))
    (hi : ops[i]? = some oi) (hw : Region.wanted oi (yielded ops a.tmps) = true) (ho : oi.op = .buildSlice U 0 #[])
    (hS : S (w.alloc (.cells #[] T))) (h : wpAnyH P md ops Q S fuel (listed.setIfInBounds i true) (a.put oi.dst (.slice (some ⟨w.heap.size, 0, none⟩) 0 0)) (w.alloc (.cells #[] T))) (hrs : AllReadyH P md ops Q S fuel listed a w rs) : AllReadyH P md ops Q S fuel listed a w (i :: rs) := by
  refine h_upd hi hw (v := .slice (some ⟨w.heap.size, 0, none⟩) 0 0) (w' := w.alloc (.cells #[] T)) ?_ hS h hrs
  have := run_bsl0 (P := P) A hU w
  unfold execOp
  simp only [ho, List.map_toArray, List.map_nil, Sem.run_bind, this, Result.andThen_ok, Sem.run_pure]
theorem h_b1 {i : Nat} {oi : Oper} {fuel : Nat} {listed : Array Bool} {a : Act} {w : World} {rs : List Nat} {T e U : TypeId} (A : Arr P T e) (hU : P.underlying U = some (.slice T))
    (hi : ops[i]? = some oi) (hw : Region.wanted oi (yielded ops a.tmps) = true) (x : Operand) (ho : oi.op = .buildSlice U 1 #[(0, x)]) (l : List UInt8) (hl : l.length = 32) (hx : a.eval x = .agg (bv l).toArray)
    (hS : S (w.alloc (.cells (bv l).toArray T))) (h : wpAnyH P md ops Q S fuel (listed.setIfInBounds i true) (a.put oi.dst (.slice (some ⟨w.heap.size, 0, none⟩) 1 1)) (w.alloc (.cells (bv l).toArray T))) (hrs : AllReadyH P md ops Q S fuel listed a w rs) : AllReadyH P md ops Q S fuel listed a w (i :: rs) := by
  refine h_upd hi hw (v := .slice (some ⟨w.heap.size, 0, none⟩) 1 1) (w' := w.alloc (.cells (bv l).toArray T)) ?_ hS h hrs
  have := run_buildSlice_arr (P := P) w A hU l hl
  unfold execOp
  simp only [ho, List.map_toArray, List.map_cons, List.map_nil, hx, Sem.run_bind, this, Result.andThen_ok, Sem.run_pure]
/-- one identity in a block of its own -/
theorem one_new (w : World) (x : I32) (T : TypeId) : (w.alloc (.cells (bv x.1).toArray T)).rangeAt w.heap.size 0 (bv x.1) := fun j v hj => by
  rw [Go.cell_of_row _ _ _ _ _ _ (Go.heap_alloc_new w _)]; simpa using hj
theorem one_ids {W : World} {b c : Nat} {x : I32} (hb : b < W.heap.size) (h : W.rangeAt b 0 (bv x.1)) : Ids W.heap.size W (.slice (some ⟨b, 0, none⟩) 1 c) [x] :=
  .inr ⟨b, 0, c, rfl, hb, fun j hj => by
    obtain rfl : j = 0 := by simp at hj; omega
    simpa using h⟩
theorem range_grown {W W' : World} {row : Option Nat} {b o : Nat} {cs : List Value} (h : W.grownBy W' row) (hb : b < W.heap.size) (hn : some b ≠ row) (hr : W.rangeAt b o cs) : W'.rangeAt b o cs := fun j v hj => by
  rw [World.cell?_of_block (w := W) (h.block b hb hn)]; exact hr j v hj
theorem own_base {W : World} {B B' : Nat} {T : TypeId} {v : Value} {n : Nat} {xs : List Value} (hB : B' ≤ B) (h : W.ownsRow B T 32 v n xs) : W.ownsRow B' T 32 v n xs :=
  ⟨h.1, h.2.elim .inl fun ⟨g, cap, cur, h1, h2, h3⟩ => .inr ⟨g, cap, cur, h1, Nat.le_trans hB h2, h3⟩⟩
/-- the two parts of a list of the call's own -/
theorem ids_head {W : World} {base : Nat} {T : TypeId} {g c : Nat} {zs : List I32} (h : W.ownsRow base T 32 (.slice (some ⟨g, 0, none⟩) zs.length c) zs.length (flat zs)) (t : Nat) (ht : t ≤ zs.length) : Ids W.heap.size W (.slice (some ⟨g, 0, none⟩) t c) (zs.take t) := by
  rcases ids_own h with ⟨⟨a', c', e⟩, e2⟩ | ⟨b', off', c', e, hb', hc'⟩
  · subst e2
    exact .inl ⟨⟨_, _, by rw [show t = 0 from by simpa using ht]⟩, by simp⟩
  · cases e
    have := Ids.take (cap := c) hb' hc' t
    rwa [List.length_take, Nat.min_eq_left ht] at this
theorem ids_tail {W : World} {base : Nat} {T : TypeId} {g c : Nat} {zs : List I32} (h : W.ownsRow base T 32 (.slice (some ⟨g, 0, none⟩) zs.length c) zs.length (flat zs)) (t : Nat) (ht : t ≤ zs.length) (b2 : Option Addr) (hb2 : (if t = c then some ⟨g, 0, none⟩ else some ⟨g, t * 32, none⟩ : Option Addr) = b2) : Ids W.heap.size W (.slice b2 (zs.length - t) (c - t)) (zs.drop t) := by
  have hc : zs.length ≤ c := by
    rcases h.2 with ⟨e, _⟩ | ⟨g', cap, cur, e, _, _, h5, _⟩
    · cases e
    · cases e; exact h5
  rcases Nat.lt_or_ge t zs.length with hlt | hge
  · rw [if_neg (by omega)] at hb2
    subst hb2
    rcases ids_own h with ⟨⟨a', c', e⟩, e2⟩ | ⟨b', off', c', e, hb', hc'⟩
    · rw [e2] at hlt; simp at hlt
    · cases e
      refine .inr ⟨g, t * 32, c - t, by rw [List.length_drop], hb', fun j hj => ?_⟩
      rw [List.length_drop] at hj
      have h1 := hc' (t + j) (by omega)
      rw [Nat.zero_add, Nat.add_mul] at h1
      rwa [List.getElem_drop]
  · exact .inl ⟨⟨b2, c - t, by rw [Nat.sub_eq_zero_of_le hge]⟩, List.drop_eq_nil_of_le hge⟩
theorem own_cases {W : World} {base : Nat} {T : TypeId} {A : Option Addr} {c : Nat} {zs : List I32} (h : W.ownsRow base T 32 (.slice A zs.length c) zs.length (flat zs)) : (A = none ∧ c = 0 ∧ zs = []) ∨ ∃ g, A = some ⟨g, 0, none⟩ ∧ zs.length ≤ c := by
  rcases h.2 with ⟨e, h0⟩ | ⟨g, cap, cur, e, _, _, h5, _⟩
  · have h1 := List.eq_nil_of_length_eq_zero h0
    subst h1
    cases e
    exact .inl ⟨rfl, rfl, rfl⟩
  · cases e
    exact .inr ⟨g, rfl, h5⟩
/-- an identity put in where it belongs -/
theorem ins_asc (out : List I32) (x : I32) (t : Nat) (ht : t ≤ out.length) (hA : Asc out) (hx : x ∉ out) (hpre : ∀ j (h : j < out.length), j < t → cf out[j] x < 0) (hpost : t = out.length ∨ ∃ h : t < out.length, 0 ≤ cf out[t] x) : Asc (out.take t ++ x :: out.drop t) := by
  have hAp := List.pairwise_iff_getElem.1 hA
  refine List.pairwise_append.2 ⟨hA.sublist (List.take_sublist _ _), List.pairwise_cons.2 ⟨fun y hy => ?_, hA.sublist (List.drop_sublist _ _)⟩, fun a ha b hb => ?_⟩
  · obtain ⟨j, hj, rfl⟩ := List.mem_iff_getElem.1 hy
    rw [List.length_drop] at hj
    rw [List.getElem_drop]
    rcases hpost with e | ⟨h, h0⟩
    · omega
    · have h1 : num x.1 ≤ num out[t].1 := by
        rcases Nat.lt_or_ge (num out[t].1) (num x.1) with q | q
        · exact absurd ((cf_lt _ _).2 q) (by omega)
        · exact q
      have h2 : num x.1 ≠ num out[t].1 := fun q => hx (by rw [num_inj _ _ q]; exact List.getElem_mem h)
      rcases Nat.eq_zero_or_pos j with rfl | hj0
      · have e0 : out[t + 0] = out[t] := rfl
        rw [e0]; omega
      · have := hAp t (t + j) h (by omega) (by omega)
        omega
  · obtain ⟨j, hj, rfl⟩ := List.mem_iff_getElem.1 ha
    rw [List.length_take] at hj
    rw [List.getElem_take]
    have h1 := (cf_lt _ _).1 (hpre j (by omega) (by omega))
    rcases List.mem_cons.1 hb with rfl | hb
    · exact h1
    · obtain ⟨k, hk, rfl⟩ := List.mem_iff_getElem.1 hb
      rw [List.length_drop] at hk
      rw [List.getElem_drop]
      exact hAp j (t + k) (by omega) (by omega) (by omega)
theorem ins_mem (out : List I32) (x : I32) (t : Nat) (z : I32) : z ∈ out.take t ++ x :: out.drop t ↔ z ∈ out ∨ z = x := by
  have h : z ∈ out ↔ z ∈ out.take t ∨ z ∈ out.drop t := by rw [← List.mem_append, List.take_append_drop]
  rw [List.mem_append, List.mem_cons, h]
  constructor
  · rintro (h | rfl | h)
    · exact .inl (.inl h)
    · exact .inr rfl
    · exact .inl (.inr h)
  · rintro ((h | h) | rfl)
    · exact .inl h
    · exact .inr (.inr h)
    · exact .inr (.inl rfl)
end
end Go.Proofs.XK
