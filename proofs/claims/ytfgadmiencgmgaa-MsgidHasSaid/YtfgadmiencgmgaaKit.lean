/- steps of the program at arrays of 32 bytes: built, loaded, stored, compared, appended -/
import Derived.Laws.StructEq
import Derived.Laws.Rows
import Derived.Below
import Derived.Deep.Draws
import Derived.Deep.Quiet
import Derived.Lib.Bytealg
import Derived.Lib.UnsafeStr
import Derived.WalkKit
import Derived.Deep.MidRow
import Derived.Deep.WholeRow
import Derived.Laws.Tables
import Derived.Maps.AppendAt
import Derived.OwnWalk
import Derived.Lib.Hide
import Derived.IntWalk
import Derived.KernelRfl
namespace Go.Proofs.XK
open Go.RowKit
abbrev bv (l : List UInt8) : List Value := Lib.byteCells l
theorem bv_length (l : List UInt8) : (bv l).length = l.length := by simp [bv, Lib.byteCells]
theorem bv_get (l : List UInt8) (i : Nat) (h : i < l.length) : (bv l)[i]? = some (.int .u8 (l.getD i 0).toNat) := by
  simp [bv, Lib.byteCells, List.getElem?_eq_getElem h, List.getD_eq_getElem?_getD]
section
variable {P : Program} (w : World)
theorem run_part_byte (e : TypeId) (hs : (P.info? e).map (·.size) = some 1) (hu : P.underlying e = some (.int .u8)) (l : List UInt8) (i : Nat) (h : i < l.length) :
    (part e (bv l).toArray i).run P w = .ok (.int .u8 (l.getD i 0).toNat) w := by
  cases hq : P.info? e with
  | none => simp [hq] at hs
  | some j =>
    have hg := bv_get l i h
    simp only [part, isAgg, Sem.run_bind, run_underlying hu, Result.andThen_ok, Sem.run_pure]
    simp only [List.getElem?_toArray, hg]
    rfl
theorem run_equalIn_bytes (d : Nat) (t e n : Nat) (ht : P.underlying t = some (.array n e)) (he : P.underlying e = some (.int .u8)) (hs : (P.info? e).map (·.size) = some 1) (l m : List UInt8) (hl : l.length = n) (hm : m.length = n) :
    (Op.equalIn (d + 2) t (.agg (bv l).toArray) (.agg (bv m).toArray)).run P w = .ok (l == m) w := by
  cases hq : P.info? e with
  | none => simp [hq] at hs
  | some j =>
    have hs' : j.size = 1 := by simpa [hq] using hs
    have key : ∀ k i, i + k = n → (∀ x, x < i → l.getD x 0 = m.getD x 0) → Sem.run P
          (forIn (List.range' i k) (none, ()) fun i (_ : Option Bool × Unit) => do
            let a ← part e (bv l).toArray i
            let b ← part e (bv m).toArray i
            let r ← Op.equalIn (d + 1) e a b
            if r = false then pure (ForInStep.done (some false, ())) else pure (ForInStep.yield (none, ()))) w = .ok (if l == m then (none, ()) else (some false, ())) w := by
      intro k
      induction k with
      | zero =>
        intro i hi hx
        have : l = m := List.ext_getElem? fun x => by
          rcases Nat.lt_or_ge x n with h | h
          · have := hx x (by omega)
            simp only [List.getD_eq_getElem?_getD] at this
            rw [List.getElem?_eq_getElem (by omega), List.getElem?_eq_getElem (by omega)] at this ⊢
            simpa using this
          · rw [List.getElem?_eq_none (by omega), List.getElem?_eq_none (by omega)]
        simp [this]
      | succ k ih =>
        intro i hi hx
        rw [List.range'_succ, List.forIn_cons]
        simp only [Sem.run_bind, run_part_byte w e hs he l i (by omega), run_part_byte w e hs he m i (by omega), Result.andThen_ok, run_equalIn_int w d e .u8 .u8 _ _ he]
        by_cases h : l.getD i 0 = m.getD i 0
        · rw [h]
          simp only [BEq.rfl, Bool.true_eq_false, if_false, Sem.run_pure, Result.andThen_ok]
          exact ih (i + 1) (by omega) fun x hx' => by
            rcases Nat.lt_or_eq_of_le (Nat.lt_succ_iff.1 hx') with h' | h'
            · exact hx x h'
            · rw [h']; exact h
        · have h1 : (((l.getD i 0).toNat : Int) == ((m.getD i 0).toNat : Int)) = false := by
            rw [beq_eq_false_iff_ne]; intro e; exact h (UInt8.toNat_inj.1 (by omega))
          have h2 : (l == m) = false := by
            rw [beq_eq_false_iff_ne]; intro e; exact h (by rw [e])
          rw [h1, h2]
          simp
    have hk := key n 0 (by omega) (fun x hx => by omega)
    rw [Op.equalIn]
    simp only [Sem.run_bind, run_underlying ht, Result.andThen_ok, sizeOf, typeInfo, run_program, hq]
    simp [hs', hk]
    by_cases h : l = m <;> simp [h]
/-- '==' of two arrays of bytes, the guard ahead of it too -/
theorem run_eql_bytes (t e n : Nat) (x y : Operand) (ht : P.underlying t = some (.array n e)) (he : P.underlying e = some (.int .u8)) (hs : (P.info? e).map (·.size) = some 1) (hg : P.eqGuardType P.depth t = false) (l m : List UInt8) (hl : l.length = n) (hm : m.length = n) :
    (do eqGuard .eql t x y (.agg (bv l).toArray) (.agg (bv m).toArray); binOp .eql t (.agg (bv l).toArray) (.agg (bv m).toArray)).run P w = .ok (.bool (l == m)) w := by
  rw [Sem.run_bind, run_eqGuard_agg w .eql t x y _ _ hg, Result.andThen_ok]
  simp only [binOp, Op.equal, Op.maxDepth, Sem.run_bind, run_equalIn_bytes w 9998 t e n ht he hs l m hl hm, Result.andThen_ok, Sem.run_pure]
theorem run_neq_bytes (t e n : Nat) (x y : Operand) (ht : P.underlying t = some (.array n e)) (he : P.underlying e = some (.int .u8)) (hs : (P.info? e).map (·.size) = some 1) (hg : P.eqGuardType P.depth t = false) (l m : List UInt8) (hl : l.length = n) (hm : m.length = n) :
    (do eqGuard .neq t x y (.agg (bv l).toArray) (.agg (bv m).toArray); binOp .neq t (.agg (bv l).toArray) (.agg (bv m).toArray)).run P w = .ok (.bool (!(l == m))) w := by
  rw [Sem.run_bind, run_eqGuard_agg w .neq t x y _ _ hg, Result.andThen_ok]
  simp only [binOp, Op.equal, Op.maxDepth, Sem.run_bind, run_equalIn_bytes w 9998 t e n ht he hs l m hl hm, Result.andThen_ok, Sem.run_pure]
end

/-! ### steps at arrays of 32 bytes -/
def z32 : List UInt8 := List.replicate 32 0
/-- type T is an array of 32 bytes (of type e) -/
structure Arr (P : Program) (T e : TypeId) : Prop where
  ut : P.underlying T = some (.array 32 e)
  ue : P.underlying e = some (.int .u8)
  se : (P.info? e).map (·.size) = some 1
  st : (P.info? T).map (·.size) = some 32
  zt : (P.info? T).map (·.zero) = some (some (.agg (bv z32).toArray))
  gt : P.eqGuardType P.depth T = false
theorem bv_one (l : List UInt8) : ∀ v ∈ bv l, v.oneCell' = true := by
  intro v hv
  simp only [bv, Lib.byteCells, List.mem_map] at hv
  obtain ⟨b, _, rfl⟩ := hv
  rfl
theorem zeroValue_of {P : Program} {T : TypeId} {v : Value} (h : (P.info? T).map (·.zero) = some (some v)) (w : World) : (zeroValue T).run P w = .ok v w := by
  cases hq : P.info? T with
  | none => simp [hq] at h
  | some i =>
    have : i.zero = some v := by simpa [hq] using h
    simp [zeroValue, typeInfo, hq, this]
section
variable {P : Program} {T e : TypeId} {ops : Array Oper} {rest : List Oper} {o : Oper} {a : Act} {w : World} {Q : Exit → Act → World → Prop}
theorem wpList_want (hw : Region.wanted o (yielded ops a.tmps) = true) (h : o.wp P a w (wpList P ops Q rest) Q) : wpList P ops Q (o :: rest) a w := by
  unfold wpList
  rw [if_pos hw]
  exact .inl h
/-- an operation that gives a value -/
theorem x_val {v : Value} {w' : World} (hw : Region.wanted o (yielded ops a.tmps) = true) (hr : (execOp a.eval o).run P w = .ok (.value v) w') (h : wpList P ops Q rest (a.put o.dst v) w') : wpList P ops Q (o :: rest) a w :=
  wpList_want hw (by unfold Oper.wp; rw [hr]; exact h)
theorem x_skip {w' : World} (hw : Region.wanted o (yielded ops a.tmps) = true) (hr : (execOp a.eval o).run P w = .ok .skip w') (h : wpList P ops Q rest (a.put o.dst undef) w') : wpList P ops Q (o :: rest) a w :=
  wpList_want hw (by unfold Oper.wp; rw [hr]; exact h)
/-- the whole array out of memory -/
theorem x_ld (A : Arr P T e) (hw : Region.wanted o (yielded ops a.tmps) = true) (x : Operand) (ho : o.op = .load T x) (b f : Nat) (hx : a.eval x = .pointer (some ⟨b, f, none⟩)) (l : List UInt8) (hl : l.length = 32) (hc : w.rangeAt b f (bv l))
    (h : wpList P ops Q rest (a.put o.dst (.agg (bv l).toArray)) w) : wpList P ops Q (o :: rest) a w := by
  refine x_val hw ?_ h
  unfold execOp
  simp only [ho, hx, Sem.run_bind, Sem.run_pure, run_loadAt_mid w b f T (bv l) _ hc A.ut rfl (by rw [A.st, bv_length, hl]), Result.andThen_ok]
/-- the whole array into memory -/
theorem x_st (A : Arr P T e) (hw : Region.wanted o (yielded ops a.tmps) = true) (x y : Operand) (ho : o.op = .store T x y) (b f : Nat) (hx : a.eval x = .pointer (some ⟨b, f, none⟩)) (l : List UInt8) (hy : a.eval y = .agg (bv l).toArray) (hl : l.length = 32)
    (hc : w.there b f 32) (h : wpList P ops Q rest (a.put o.dst undef) (w.setCells b f (bv l))) : wpList P ops Q (o :: rest) a w := by
  refine x_skip hw ?_ h
  unfold execOp
  simp only [ho, hx, hy, Sem.run_bind, Sem.run_pure, run_storeAt_mid w b f T (bv l).toArray (by simpa [bv_length, hl] using hc) (by rw [A.st]; simp [bv_length, hl]) (all_oneCell_toArray (bv_one l)), Result.andThen_ok]
/-- the whole array into a block that is all this array -/
theorem x_st0 (A : Arr P T e) (hw : Region.wanted o (yielded ops a.tmps) = true) (x y : Operand) (ho : o.op = .store T x y) (b : Nat) (hx : a.eval x = .pointer (some ⟨b, 0, none⟩)) (l : List UInt8) (hy : a.eval y = .agg (bv l).toArray) (hl : l.length = 32)
    (cs : Array Value) (t : TypeId) (hc : w.heap[b]? = some (.cells cs t (0, 0))) (hs : cs.size = 32) (h : wpList P ops Q rest (a.put o.dst undef) (w.setRow b (bv l).toArray)) : wpList P ops Q (o :: rest) a w := by
  refine x_skip hw ?_ h
  unfold execOp
  simp only [ho, hx, hy, Instr.storeAt, Instr.sureAddr, Sem.run_bind, Sem.run_pure, Result.andThen_ok, run_storeVar_row w b t T cs (bv l).toArray hc (by rw [A.st]; simp [bv_length, hl]) (by simp [bv_length, hl, hs]) (all_oneCell_toArray (bv_one l))]
/-- .. that was made last -/
theorem x_stn {W : World} (A : Arr P T e) (hw : Region.wanted o (yielded ops a.tmps) = true) (x y : Operand) (ho : o.op = .store T x y) (hx : a.eval x = .pointer (some ⟨W.heap.size, 0, none⟩)) (l : List UInt8) (hy : a.eval y = .agg (bv l).toArray) (hl : l.length = 32)
    (cs : Array Value) (t : TypeId) (hs : cs.size = 32) (h : wpList P ops Q rest (a.put o.dst undef) (W.alloc (.cells (bv l).toArray t))) : wpList P ops Q (o :: rest) a (W.alloc (.cells cs t)) :=
  x_st0 A hw x y ho W.heap.size hx l hy hl cs t (Go.heap_alloc_new W _) hs (by rw [World.setRow_alloc_new]; exact h)
theorem x_eq (A : Arr P T e) (hw : Region.wanted o (yielded ops a.tmps) = true) (x y : Operand) (r : TypeId) (ho : o.op = .binOp .eql T x y r) (l m : List UInt8) (hx : a.eval x = .agg (bv l).toArray) (hy : a.eval y = .agg (bv m).toArray) (hl : l.length = 32) (hm : m.length = 32)
    (h : wpList P ops Q rest (a.put o.dst (.bool (l == m))) w) : wpList P ops Q (o :: rest) a w := by
  refine x_val hw ?_ h
  have := run_eql_bytes (P := P) w T e 32 x y A.ut A.ue A.se A.gt l m hl hm
  unfold execOp
  simp only [ho, hx, hy]
  rw [Sem.run_bind, this]
  rfl
theorem x_eqt (A : Arr P T e) (hw : Region.wanted o (yielded ops a.tmps) = true) (x y : Operand) (r : TypeId) (ho : o.op = .binOp .eql T x y r) (l m : List UInt8) (hx : a.eval x = .agg (bv l).toArray) (hy : a.eval y = .agg (bv m).toArray) (hl : l.length = 32) (hm : m.length = 32) (b : Bool) (he : (l == m) = b)
    (h : wpList P ops Q rest (a.put o.dst (.bool b)) w) : wpList P ops Q (o :: rest) a w :=
  x_eq A hw x y r ho l m hx hy hl hm (by rw [he]; exact h)
theorem x_ne (A : Arr P T e) (hw : Region.wanted o (yielded ops a.tmps) = true) (x y : Operand) (r : TypeId) (ho : o.op = .binOp .neq T x y r) (l m : List UInt8) (hx : a.eval x = .agg (bv l).toArray) (hy : a.eval y = .agg (bv m).toArray) (hl : l.length = 32) (hm : m.length = 32)
    (h : wpList P ops Q rest (a.put o.dst (.bool (!(l == m)))) w) : wpList P ops Q (o :: rest) a w := by
  refine x_val hw ?_ h
  have := run_neq_bytes (P := P) w T e 32 x y A.ut A.ue A.se A.gt l m hl hm
  unfold execOp
  simp only [ho, hx, hy]
  rw [Sem.run_bind, this]
  rfl
/-- the zero array -/
theorem x_bz (A : Arr P T e) (hw : Region.wanted o (yielded ops a.tmps) = true) (ho : o.op = .build T #[])
    (h : wpList P ops Q rest (a.put o.dst (.agg (bv z32).toArray)) w) : wpList P ops Q (o :: rest) a w := by
  refine x_val hw ?_ h
  unfold execOp
  simp only [ho, Instr.build, Sem.run_bind, zeroValue_of A.zt, Result.andThen_ok, run_underlying A.ut, sizeOf, typeInfo, run_program]
  have h2 := A.se
  cases hq : P.info? e with
  | none => simp [hq] at h2
  | some i => simp [Instr.fill, Value.cells]
/-- an array with one element given -/
theorem x_bp (A : Arr P T e) (hw : Region.wanted o (yielded ops a.tmps) = true) (i : Nat) (x : Operand) (ho : o.op = .build T #[(i, x)]) (c : UInt8) (hx : a.eval x = .int .u8 c.toNat) (hi : i < 32)
    (h : wpList P ops Q rest (a.put o.dst (.agg (bv (z32.set i c)).toArray)) w) : wpList P ops Q (o :: rest) a w := by
  refine x_val hw ?_ h
  unfold execOp
  simp only [ho, Instr.build, Sem.run_bind, zeroValue_of A.zt, Result.andThen_ok, run_underlying A.ut, sizeOf, typeInfo, run_program]
  have h2 := A.se
  cases hq : P.info? e with
  | none => simp [hq] at h2
  | some j =>
    have hj : j.size = 1 := by simpa [hq] using h2
    have hs : (bv z32).toArray.setIfInBounds i (.int .u8 c.toNat) = (bv (z32.set i c)).toArray := by
      simp [bv, Lib.byteCells, List.map_set]
    have hz : (bv z32).length = 32 := rfl
    simp only [List.map_toArray, List.map_cons, List.map_nil, hx, Instr.fill, Value.cells]
    simp [hz, hj]
    rw [if_neg (by omega)]
    have hs' : ((bv z32).set i (.int .u8 c.toNat)).toArray = (bv (z32.set i c)).toArray := by simpa using hs
    rw [hs']
    rfl
/-- a new variable -/
theorem x_al (A : Arr P T e) (hw : Region.wanted o (yielded ops a.tmps) = true) (ho : o.op = .alloc T)
    (h : wpList P ops Q rest (a.put o.dst (.pointer (some ⟨w.heap.size, 0, none⟩))) (w.alloc (.cells (bv z32).toArray T))) : wpList P ops Q (o :: rest) a w := by
  refine x_val hw ?_ h
  unfold execOp
  simp [ho, Instr.alloc, zeroValue_of A.zt, newVar, Value.cells, newRow, newObj]
  rfl
theorem x_bx (hw : Region.wanted o (yielded ops a.tmps) = true) (x : Operand) (ho : o.op = .box T x) (cs : Array Value) (hx : a.eval x = .agg cs)
    (h : wpList P ops Q rest (a.put o.dst (.pointer (some ⟨w.heap.size, 0, none⟩))) (w.alloc (.cells cs T))) : wpList P ops Q (o :: rest) a w := by
  refine x_val hw ?_ h
  unfold execOp
  simp [ho, hx, Instr.box, newVar, Value.cells, newRow, newObj]
  rfl
theorem one_of {v : Value} (h : v.oneCell' = true) : ∀ u ∈ [v], u.oneCell' = true := fun u hu => by
  rw [List.mem_singleton] at hu; subst hu; exact h
theorem own_slice {w : World} {base n : Nat} {e : TypeId} {size : Nat} {v : Value} {xs : List Value} (h : w.ownsRow base e size v n xs) : ∃ A c, v = .slice A n c := by
  rcases h.2 with ⟨rfl, rfl⟩ | ⟨g, cap, cur, rfl, _⟩
  · exact ⟨none, 0, rfl⟩
  · exact ⟨_, cap, rfl⟩
/-- append of a literal's elements, which lie in the block that was made last, to a row of the call's own -/
theorem x_app {W : World} (hgd : o.guard = none) (s x : Operand) (t : TypeId) (ho : o.op = .call { callee := .builtin .append, args := #[s, x], argTypes := #[t, t] })
    (base : Nat) (el : TypeId) (z : Value) (size bytes : Nat) (ht : P.underlying t = some (.slice el)) (hinfo : (P.info? el).map (fun i => (i.zero, i.size, i.bytes)) = some (some z, size, bytes)) (hzs : z.cells.size = size) (hsz : 0 < size)
    (v : Value) (n : Nat) (xs : List Value) (hs : a.eval s = v) (hown : W.ownsRow base el size v n xs) (m : Nat) (news : List Value) (cs : Array Value) (hcs : cs = news.toArray) (hx : a.eval x = .slice (some ⟨W.heap.size, 0, none⟩) m m) (hl : news.length = m * size)
    (h1 : ∀ u ∈ news, u.oneCell' = true) (hbytes : (n + m) * bytes ≤ 140737488355328) (hb0 : 0 < bytes) (hbase : base ≤ W.heap.size)
    (h : ∀ v' w', w'.ownsRow base el size v' (n + m) (xs ++ news) → W.grownBy w' v.ownBlock → (v' = .slice none 0 0 ↔ v = .slice none 0 0 ∧ m = 0) → (v'.ownBlock = v.ownBlock ∨ ∃ b, v'.ownBlock = some b ∧ W.heap.size ≤ b) → wpList P ops Q rest (a.put o.dst v') w') :
    wpList P ops Q (o :: rest) a (W.alloc (.cells cs el)) := by
  obtain ⟨i0, hi, hz0, hz1, hz2⟩ := info_parts hinfo
  subst hcs
  have hnm : n + m ≤ 140737488355328 := Nat.le_trans (Nat.le_mul_of_pos_right _ hb0) hbytes
  refine wpList_append_own_at (W.alloc (.cells news.toArray el)) hgd s x t ho base el i0 z size bytes ht hi hz0 hz1 hz2 hzs hsz v n xs hs (hown.alloc _) ⟨W.heap.size, 0, none⟩ m m news hx hl (fun j u hj => ?_) h1 (by simp only [maxLen]; omega) hbytes (by simp; omega) ?_
  · have e : (⟨W.heap.size, 0, none⟩ : Addr).add j = ⟨W.heap.size, j, none⟩ := by unfold Addr.add; split <;> simp_all
    rw [e, Go.cell_of_row _ _ _ _ _ _ (Go.heap_alloc_new W _)]
    simpa using hj
  · intro v' w' hown' hg hnil hat
    refine h v' w' hown' (World.grownBy.trans (World.grownBy_alloc W _ _) hg) hnil ?_
    rcases hat with hat | hat
    · exact .inl hat
    · exact .inr ⟨_, hat, by simp⟩
end
end Go.Proofs.XK
