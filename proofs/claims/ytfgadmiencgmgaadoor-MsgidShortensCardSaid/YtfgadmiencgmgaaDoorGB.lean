/- parts of this proof in one text: Cmp, Quiet, Held, It, Build, Ap, SortLay, Sort, Compact, Set, ContLay, Has, RHas, To, Equal, L8, Merge, Ops, Alg, App3 -/
import Derived.Test.YtfgadmiencgmgaaDoorKnown
import Derived.Test.YtfgadmiencgmgaaDoorGA
import Derived.Deep.QuietTactic
import Derived.Deep.RegionHeld
import Derived.RangeFuncNested
import Derived.RangeFuncBound
import Derived.RangeFuncCalls
import Derived.RangeFuncLeaves
import Derived.RangeFuncBox
import Derived.Shelf.Abstract
import Derived.Shelf.RegionOpen
import Derived.WalkKit
import Derived.OwnWalkIn
import Derived.TacticsInMore
import Derived.LoopNIn
import Derived.LoopIn
import Derived.Maps.AppendAt
import Derived.Shelf.SlSortCmp.WholeK
import Derived.Shelf.SlSortCmp.NoneTotal
import Derived.Test.YtfgadmiencgmgaaDoorProg
import Derived.Lib.SlicesCompact
import Derived.Lib.SliceRun
import Derived.IntWalk
import Derived.Shelf.SlicesQ.Contains
/- the order of two identities is the order of their texts -/
namespace Go.Proofs
open Go.RowKit XK
theorem XK.hd_lt_iff : ∀ n, n < 16 → ∀ m, m < 16 → (decide (MsgPure.hd n < MsgPure.hd m)) = decide (n < m) := by decide +kernel
theorem XK.hd_eq_iff : ∀ n, n < 16 → ∀ m, m < 16 → (MsgPure.hd n == MsgPure.hd m) = decide (n = m) := by decide +kernel
theorem XK.cmp_cons (x y : UInt8) (a b : List UInt8) : Lib.compareBytes (x :: a) (y :: b) = if x < y then -1 else if y < x then 1 else Lib.compareBytes a b := by
  rw [Lib.compareBytes]
theorem XK.less_self : ∀ l : List UInt8, Op.bytesLess l l = false
  | [] => rfl
  | a :: l => by simp [Op.bytesLess, XK.less_self l]
theorem XK.less_hex (t : List UInt8) : ∀ a b : List UInt8, a.length = b.length → Op.bytesLess (MsgPure.hex a ++ t) (MsgPure.hex b ++ t) = decide (Lib.compareBytes a b = -1)
  | [], [], _ => by simp [MsgPure.hex, XK.less_self, Lib.compareBytes]
  | x :: a, y :: b, h => by
    have ih := XK.less_hex t a b (by simpa using h)
    have hx := x.toNat_lt
    have hy := y.toNat_lt
    have e1 := XK.hd_lt_iff (x.toNat / 16) (by omega) (y.toNat / 16) (by omega)
    have e2 := XK.hd_eq_iff (x.toNat / 16) (by omega) (y.toNat / 16) (by omega)
    have e3 := XK.hd_lt_iff (x.toNat % 16) (by omega) (y.toNat % 16) (by omega)
    have e4 := XK.hd_eq_iff (x.toNat % 16) (by omega) (y.toNat % 16) (by omega)
    rw [MsgPure.hex_cons, MsgPure.hex_cons]
    simp only [List.cons_append, Op.bytesLess, ih, e1, e2, e3, e4]
    rw [XK.cmp_cons]
    have hlt : x < y ↔ x.toNat < y.toNat := UInt8.lt_iff_toNat_lt
    have hgt : y < x ↔ y.toNat < x.toNat := UInt8.lt_iff_toNat_lt
    by_cases h1 : x < y
    · rw [if_pos h1]
      have := hlt.1 h1
      have hh : x.toNat / 16 < y.toNat / 16 ∨ x.toNat / 16 = y.toNat / 16 ∧ (x.toNat % 16 < y.toNat % 16 ∨ x.toNat % 16 = y.toNat % 16 ∧ Lib.compareBytes a b = -1) := by omega
      simpa using hh
    · rw [if_neg h1]
      have h1' : ¬ x.toNat < y.toNat := fun q => h1 (hlt.2 q)
      by_cases h2 : y < x
      · rw [if_pos h2]
        have := hgt.1 h2
        simp
        omega
      · rw [if_neg h2]
        have h2' : ¬ y.toNat < x.toNat := fun q => h2 (hgt.2 q)
        have : x.toNat = y.toNat := by omega
        simp [this]
theorem XK.less_prn {a b : List UInt8} (h : a.length = b.length) : Op.bytesLess (MsgPure.prn a) (MsgPure.prn b) = decide (Lib.compareBytes a b = -1) := by
  rw [MsgPure.prn, MsgPure.prn, Op.bytesLess, XK.less_hex MsgPure.tail a b h]
  simp
theorem XK.cmp_neg : ∀ a b : List UInt8, Lib.compareBytes b a = - Lib.compareBytes a b
  | [], [] => rfl
  | [], _ :: _ => rfl
  | _ :: _, [] => rfl
  | x :: a, y :: b => by
    have ih := XK.cmp_neg a b
    rw [XK.cmp_cons, XK.cmp_cons]
    have hlt : x < y ↔ x.toNat < y.toNat := UInt8.lt_iff_toNat_lt
    have hgt : y < x ↔ y.toNat < x.toNat := UInt8.lt_iff_toNat_lt
    by_cases h1 : x < y
    · rw [if_pos h1, if_neg (fun q => by have := hlt.1 h1; have := hgt.1 q; omega), if_pos h1]; rfl
    · by_cases h2 : y < x
      · rw [if_pos h2, if_neg h1, if_pos h2]
      · rw [if_neg h2, if_neg h1, if_neg h1, if_neg h2, ih]
theorem XK.cmp_three : ∀ a b : List UInt8, Lib.compareBytes a b = -1 ∨ Lib.compareBytes a b = 0 ∨ Lib.compareBytes a b = 1
  | [], [] => .inr (.inl rfl)
  | [], _ :: _ => .inl rfl
  | _ :: _, [] => .inr (.inr rfl)
  | x :: a, y :: b => by
    rw [XK.cmp_cons]
    by_cases h1 : x < y
    · rw [if_pos h1]; exact .inl rfl
    · by_cases h2 : y < x
      · rw [if_neg h1, if_pos h2]; exact .inr (.inr rfl)
      · rw [if_neg h1, if_neg h2]; exact XK.cmp_three a b
theorem XK.cmp_zero : ∀ a b : List UInt8, Lib.compareBytes a b = 0 → a = b
  | [], [], _ => rfl
  | [], _ :: _, h => by simp [Lib.compareBytes] at h
  | _ :: _, [], h => by simp [Lib.compareBytes] at h
  | x :: a, y :: b, h => by
    rw [XK.cmp_cons] at h
    have hlt : x < y ↔ x.toNat < y.toNat := UInt8.lt_iff_toNat_lt
    have hgt : y < x ↔ y.toNat < x.toNat := UInt8.lt_iff_toNat_lt
    by_cases h1 : x < y
    · rw [if_pos h1] at h; cases h
    · by_cases h2 : y < x
      · rw [if_neg h1, if_pos h2] at h; cases h
      · rw [if_neg h1, if_neg h2] at h
        have h1' : ¬ x.toNat < y.toNat := fun q => h1 (hlt.2 q)
        have h2' : ¬ y.toNat < x.toNat := fun q => h2 (hgt.2 q)
        rw [XK.cmp_zero a b h, UInt8.toNat_inj.1 (by omega : x.toNat = y.toNat)]
theorem XK.eq_prn {a b : List UInt8} (ha : a.length = 32) (hb : b.length = 32) : (MsgPure.prn a == MsgPure.prn b) = decide (Lib.compareBytes a b = 0) := by
  by_cases h : a = b
  · subst h
    simp [XK.cmp_self]
  · have h1 : MsgPure.prn a ≠ MsgPure.prn b := fun e => h (by
      have h2 := MsgPure.parse_prn ha
      rw [e, MsgPure.parse_prn hb] at h2
      injection h2 with h3
      exact h3.symm)
    have h2 : Lib.compareBytes a b ≠ 0 := fun e => h (XK.cmp_zero a b e)
    rw [decide_eq_false h2, beq_eq_false_iff_ne]
    exact h1
end Go.Proofs

/- a statement whose order is drawn, walked once: its calls make memory, and all that it reads lies below -/
namespace Go.Proofs.XK
open Go.RowKit
section
variable {P : Program} {T e : TypeId} {ops : Array Oper} {rest : List Oper} {o : Oper} {a : Act} {C : World → Prop} {Q : Act → Prop}
theorem q_region {id : Nat} {Q : Exit → Act → World → Prop} {a : Act} {w : World} {l : List Oper} (C : World → Prop) (hm : P.follows .mixedOrders = true) (hB : Region.lexB .any l.toArray = true) (hC : C { w with drawn := w.drawn + 1 })
    (h : wpQuiet P l.toArray C (fun a' => ∀ w', C w' → Q .normal a' w') l a) : (Code.region id l.toArray true).wp P Q a w :=
  wp_region_quiet (C := C) hm hB hC (by simpa using h)
theorem q_val {v : Value} (hw : Region.wanted o (yielded ops a.tmps) = true) (hr : ∀ w, C w → (execOp a.eval o).run P w = .ok (.value v) w) (h : wpQuiet P ops C Q rest (a.put o.dst v)) : wpQuiet P ops C Q (o :: rest) a := by
  unfold wpQuiet
  rw [if_pos hw]
  exact ⟨v, fun w hC => by unfold Oper.quietAt; rw [hr w hC]; exact ⟨rfl, rfl⟩, h⟩
theorem q_ld (A : Arr P T e) (x : Operand) (ho : o.op = .load T x) (hw : Region.wanted o (yielded ops a.tmps) = true) (b f : Nat) (hx : a.eval x = .pointer (some ⟨b, f, none⟩)) (l : List UInt8) (hl : l.length = 32) (hc : ∀ w, C w → w.rangeAt b f (bv l))
    (h : wpQuiet P ops C Q rest (a.put o.dst (.agg (bv l).toArray))) : wpQuiet P ops C Q (o :: rest) a :=
  q_val hw (fun w hC => by
    unfold execOp
    simp only [ho, hx, Sem.run_bind, Sem.run_pure, run_loadAt_mid w b f T (bv l) _ (hc w hC) A.ut rfl (by rw [A.st, bv_length, hl]), Result.andThen_ok]) h
theorem q_eqt (A : Arr P T e) (x y : Operand) (r : TypeId) (ho : o.op = .binOp .eql T x y r) (hw : Region.wanted o (yielded ops a.tmps) = true) (l m : List UInt8) (hx : a.eval x = .agg (bv l).toArray) (hy : a.eval y = .agg (bv m).toArray) (hl : l.length = 32) (hm : m.length = 32) (b : Bool) (he : (l == m) = b)
    (h : wpQuiet P ops C Q rest (a.put o.dst (.bool b))) : wpQuiet P ops C Q (o :: rest) a :=
  q_val hw (fun w _ => by
    have := run_eql_bytes (P := P) w T e 32 x y A.ut A.ue A.se A.gt l m hl hm
    rw [he] at this
    unfold execOp
    simp only [ho, hx, hy]
    rw [Sem.run_bind, this]
    rfl) h
theorem q_bz (A : Arr P T e) (ho : o.op = .build T #[]) (hw : Region.wanted o (yielded ops a.tmps) = true)
    (h : wpQuiet P ops C Q rest (a.put o.dst (.agg (bv z32).toArray))) : wpQuiet P ops C Q (o :: rest) a :=
  q_val hw (fun w _ => by
    unfold execOp
    simp only [ho, Instr.build, Sem.run_bind, zeroValue_of A.zt, Result.andThen_ok, run_underlying A.ut, sizeOf, typeInfo, run_program]
    have h2 := A.se
    cases hq : P.info? e with
    | none => simp [hq] at h2
    | some i => simp [Instr.fill, Value.cells]) h
end
theorem two : ∀ l : List UInt8, l.length = 2 → ∃ x y, l = [x, y]
  | [x, y], _ => ⟨x, y, rfl⟩
end Go.Proofs.XK

/- a statement whose order is drawn, stepped by hand: what yields in every world first, then the calls -/
namespace Go.Proofs.XK
open Go.RowKit
section
variable {P : Program} {md : Region.Mode} {ops : Array Oper} {Q : Exit → Act → World → Prop} {S : World → Prop}
theorem h_val {i : Nat} {oi : Oper} {v : Value} {fuel : Nat} {listed : Array Bool} {a : Act} {w : World} (hi : ops[i]? = some oi)
    (hs : Region.noSelect ops = true) (hf : Region.free md ops listed i = true) (hr : (Region.ready md ops listed).contains i = true)
    (hQ : ∀ c a w, Q (.panic c) (a.put oi.dst v) w → Q (.panic c) a w) (hw : Region.wanted oi (yielded ops a.tmps) = true) (hv : ∀ w, S w → (execOp a.eval oi).run P w = .ok (.value v) w) (hS : S w)
    (h : wpAnyH P md ops Q S fuel (listed.setIfInBounds i true) (a.put oi.dst v) w) : wpAnyH P md ops Q S (fuel + 1) listed a w :=
  wpAnyH_take hi hs hf hr hQ (.inl ⟨hw, hv⟩) hS h
theorem h_call {i : Nat} {oi : Oper} {fuel : Nat} {listed : Array Bool} {a : Act} {w : World} (hr : Region.ready md ops listed = [i]) (hi : ops[i]? = some oi) (hw : Region.wanted oi (yielded ops a.tmps) = true) (f : FuncId) (args : Array Value)
    (hrun : (execOp a.eval oi).run P w = .ok (.enter f args) w)
    (hc : Calls P f args w (fun e w' => ∃ v, e = .returned v ∧ S w' ∧ wpAnyH P md ops Q S fuel (listed.setIfInBounds i true) (a.put oi.dst v) w')) : wpAnyH P md ops Q S (fuel + 1) listed a w := by
  refine wpAnyH_all hr (by simp) fun j hj => ?_
  obtain rfl : j = i := by simpa using hj
  unfold wpOp
  rw [hi]
  show if Region.wanted oi (yielded ops a.tmps) = true then _ else _
  rw [if_pos hw]
  refine .inl ?_
  unfold Oper.wp
  rw [hrun]
  refine hc.mono ?_
  rintro e w' ⟨v, rfl, hS, hh⟩
  exact ⟨hS, hh⟩
/-- the value of the load of an array -/
theorem run_ld {T e : TypeId} (A : Arr P T e) {o : Oper} {a : Act} (x : Operand) (ho : o.op = .load T x) (b f : Nat) (hx : a.eval x = .pointer (some ⟨b, f, none⟩)) (l : List UInt8) (hl : l.length = 32) {w : World} (hc : w.rangeAt b f (bv l)) :
    (execOp a.eval o).run P w = .ok (.value (.agg (bv l).toArray)) w := by
  unfold execOp
  simp only [ho, hx, Sem.run_bind, Sem.run_pure, run_loadAt_mid w b f T (bv l) _ hc A.ut rfl (by rw [A.st, bv_length, hl]), Result.andThen_ok]
end
end Go.Proofs.XK

/- slices.Values over a list of identities hands back an iterator that gives them in their order -/
namespace Go.Proofs
open Go.RowKit Go.Shelf XK
attribute [local go_sem] Oper.semAt_some
/-- an identity -/
abbrev XK.I32 := { l : List UInt8 // l.length = 32 }
namespace XK
def iv (x : I32) : Value := .agg (bv x.1).toArray
/-- a slice value that holds identities, in a block below n₀ -/
def Ids (n₀ : Nat) (W : World) (sv : Value) (zs : List I32) : Prop :=
  ((∃ a cap, sv = .slice a 0 cap) ∧ zs = []) ∨ ∃ b off cap, sv = .slice (some ⟨b, off, none⟩) zs.length cap ∧ b < n₀ ∧ ∀ j (h : j < zs.length), W.rangeAt b (off + j * 32) (bv zs[j].1)
theorem range_below {n₀ : Nat} {A B : World} (h : Below n₀ A B) {b o : Nat} {cs : List Value} (hb : b < n₀) (hr : A.rangeAt b o cs) : B.rangeAt b o cs := fun j v hj => by
  rw [h.cell (p := ⟨b, o + j, none⟩) hb]; exact hr j v hj
theorem Ids.below {n₀ : Nat} {A B : World} (h : Below n₀ A B) {sv : Value} {zs : List I32} : Ids n₀ A sv zs → Ids n₀ B sv zs
  | .inl e => .inl e
  | .inr ⟨b, off, cap, e, hb, hc⟩ => .inr ⟨b, off, cap, e, hb, fun j hj => range_below h hb (hc j hj)⟩
theorem Ids.mono {n₀ n₁ : Nat} {A : World} (h : n₀ ≤ n₁) {sv : Value} {zs : List I32} : Ids n₀ A sv zs → Ids n₁ A sv zs
  | .inl e => .inl e
  | .inr ⟨b, off, cap, e, hb, hc⟩ => .inr ⟨b, off, cap, e, by omega, hc⟩
section
variable {F : Fence} {n : Nat} {P : Program} {T e : TypeId} {ops : Array Oper} {rest : List Oper} {o : Oper} {a : Act} {w : World} {Q : Exit → Act → World → Prop}
theorem y_want (hw : Region.wanted o (yielded ops a.tmps) = true) (h : o.wpIn F n P a w (wpListIn F n P ops Q rest) Q) : wpListIn F n P ops Q (o :: rest) a w := by
  unfold wpListIn
  rw [if_pos hw]
  exact h
theorem y_val {v : Value} {w' : World} (hw : Region.wanted o (yielded ops a.tmps) = true) (hn : ∀ c, o.op ≠ .call c) (hd : ∀ c, o.op ≠ .defer c) (hr : (execOp a.eval o).run P w = .ok (.value v) w') (h : wpListIn F n P ops Q rest (a.put o.dst v) w') : wpListIn F n P ops Q (o :: rest) a w := by
  refine y_want hw ⟨fun f hf => ?_, ?_⟩
  · unfold Oper.about at hf
    split at hf
    · rename_i c hc; exact absurd hc (hn c)
    · cases hf
  · rw [Oper.semAt_plain F _ _ hd, hr]; exact h
theorem y_skip {w' : World} (hw : Region.wanted o (yielded ops a.tmps) = true) (hn : ∀ c, o.op ≠ .call c) (hd : ∀ c, o.op ≠ .defer c) (hr : (execOp a.eval o).run P w = .ok .skip w') (h : wpListIn F n P ops Q rest (a.put o.dst undef) w') : wpListIn F n P ops Q (o :: rest) a w := by
  refine y_want hw ⟨fun f hf => ?_, ?_⟩
  · unfold Oper.about at hf
    split at hf
    · rename_i c hc; exact absurd hc (hn c)
    · cases hf
  · rw [Oper.semAt_plain F _ _ hd, hr]; exact h
theorem y_ld (A : Arr P T e) (x : Operand) (ho : o.op = .load T x) (hw : Region.wanted o (yielded ops a.tmps) = true) (b f : Nat) (hx : a.eval x = .pointer (some ⟨b, f, none⟩)) (l : List UInt8) (hl : l.length = 32) (hc : w.rangeAt b f (bv l))
    (h : wpListIn F n P ops Q rest (a.put o.dst (.agg (bv l).toArray)) w) : wpListIn F n P ops Q (o :: rest) a w := by
  refine y_val hw (by rw [ho]; intro c h; cases h) (by rw [ho]; intro c h; cases h) ?_ h
  unfold execOp
  simp only [ho, hx, Sem.run_bind, Sem.run_pure, run_loadAt_mid w b f T (bv l) _ hc A.ut rfl (by rw [A.st, bv_length, hl]), Result.andThen_ok]
theorem y_al (A : Arr P T e) (ho : o.op = .alloc T) (hw : Region.wanted o (yielded ops a.tmps) = true)
    (h : wpListIn F n P ops Q rest (a.put o.dst (.pointer (some ⟨w.heap.size, 0, none⟩))) (w.alloc (.cells (bv z32).toArray T))) : wpListIn F n P ops Q (o :: rest) a w := by
  refine y_val hw (by rw [ho]; intro c h; cases h) (by rw [ho]; intro c h; cases h) ?_ h
  unfold execOp
  simp [ho, Instr.alloc, zeroValue_of A.zt, newVar, Value.cells, newRow, newObj]
  rfl
theorem y_stn {W : World} (A : Arr P T e) (x y : Operand) (ho : o.op = .store T x y) (hw : Region.wanted o (yielded ops a.tmps) = true) (hx : a.eval x = .pointer (some ⟨W.heap.size, 0, none⟩)) (l : List UInt8) (hy : a.eval y = .agg (bv l).toArray) (hl : l.length = 32)
    (cs : Array Value) (t : TypeId) (hs : cs.size = 32) (h : wpListIn F n P ops Q rest (a.put o.dst undef) (W.alloc (.cells (bv l).toArray t))) : wpListIn F n P ops Q (o :: rest) a (W.alloc (.cells cs t)) := by
  refine y_skip hw (by rw [ho]; intro c h; cases h) (by rw [ho]; intro c h; cases h) ?_ (w' := (W.alloc (.cells cs t)).setRow W.heap.size (bv l).toArray) (by rw [World.setRow_alloc_new]; exact h)
  unfold execOp
  simp only [ho, hx, hy, Instr.storeAt, Instr.sureAddr, Sem.run_bind, Sem.run_pure, Result.andThen_ok, run_storeVar_row _ W.heap.size t T cs (bv l).toArray (Go.heap_alloc_new W _) (by rw [A.st]; simp [bv_length, hl]) (by simp [bv_length, hl, hs]) (all_oneCell_toArray (bv_one l))]
end
end XK
set_option maxRecDepth 100000 in
set_option maxHeartbeats 2000000 in
theorem Tryd.values1_in (F : Fence) (n : Nat) (h7 : F.fn 51) (hro : F.round = none) (hn : 1 ≤ n) (l Bs n₀ b off cap : Nat) (zs : List I32) (hlim : zs.length ≤ 1000) (hb : b < n₀) (J Jx : List I32 → World → Prop)
    (hY : ∀ pre x W, J pre W → pre.length < zs.length → YieldAt F (n - 1) Tryd.prog l #[iv x] W fun e W' =>
      (e = .returned (.bool true) ∧ J (pre ++ [x]) W' ∧ Below n₀ W W') ∨ (e = .returned (.bool false) ∧ Jx (pre ++ [x]) W'))
    (W : World) (hJ : AbidesFrom W.heap.size J) (hW0 : n₀ ≤ W.heap.size) (hBs : W.cell? ⟨Bs, 0, none⟩ = some (.slice (some ⟨b, off, none⟩) zs.length cap)) (hc : ∀ j (h : j < zs.length), W.rangeAt b (off + j * 32) (bv zs[j].1)) (h0 : J [] W) :
    CallsIn F n Tryd.prog 51 #[.func (.yield l) #[] #[], .pointer (some ⟨Bs, 0, none⟩)] W fun e W' => (∃ v, e = .returned v) ∧ ((∃ ys, ys = zs ∧ J ys W') ∨ (∃ pre, pre <+: zs ∧ Jx pre W')) := by
  refine callsIn_of_wp Tryd.func51 rfl h7 ?_ hro
  simp only [Tryd.ntmps51, List.size_toArray, List.length_cons, List.length_nil, Nat.reduceAdd, Nat.reduceSub, Array.replicate_succ, Array.replicate_zero, List.push_toArray, List.append_toArray, List.nil_append, List.cons_append]
  gi_wp2
  gi_loopw [7] (fun i wr => ∃ k : Nat, k ≤ zs.length ∧ i = .int .i64 k ∧ J (zs.take k) wr ∧ Below n₀ W wr)
    (fun i _ => zs.length - (intOf i).toNat)
  case atStart => exact ⟨0, Nat.zero_le _, rfl, by simpa using h0, Below.refl _ _⟩
  case round =>
    obtain ⟨k, hk, rfl, hJs, hnx⟩ := hrel
    by_cases hlt : k < zs.length
    · have hcx := range_below hnx hb (hc k hlt)
      have hJ2 := hJ _ wr (wr.alloc (.cells (bv zs[k].1).toArray 24)) none hJs (World.grownBy_alloc _ _ _) (fun r e => by cases e)
      obtain ⟨fn, tmps, assign, body, hy, hR⟩ := hY _ zs[k] _ hJ2 (by rw [List.length_take]; omega)
      have hlk := zs[k].2
      have hi0 : (0 : Int) ≤ k := by omega
      have hi1 : (k : Int) < zs.length := by omega
      have hin : (k : Int).toNat = k := by omega
      have hlt' : decide ((k : Int) < zs.length) = true := by simp; omega
      have htk : zs.take (k + 1) = zs.take k ++ [zs[k]] := (List.take_append_getElem hlt).symm
      generalize zs[k] = x at hcx hy hR hlk hJ2 htk
      unfold iv at hy
      gi_wp2_with (first
        | (refine y_ld Tryd.arrId _ rfl rfl _ _ rfl x.1 hlk hcx ?_)
        | (refine y_al Tryd.arrId rfl rfl ?_)
        | (refine y_stn Tryd.arrId _ _ rfl rfl rfl x.1 rfl hlk _ _ rfl ?_)
        | (refine y_ld Tryd.arrId _ rfl rfl _ _ rfl x.1 hlk (fun j v hj => by rw [Go.cell_of_row _ _ _ _ _ _ (Go.heap_alloc_new wr _)]; simpa using hj) ?_))
      have hwr : n₀ ≤ wr.heap.size := Nat.le_trans hW0 hnx.size
      refine hR.mono ?_
      rintro e W3 (⟨rfl, hJ3, hk3⟩ | ⟨rfl, hJx3⟩)
      · gi_wp2
        go_roundw
        case rel => exact ⟨k + 1, by omega, by simp, by rw [htk]; exact hJ3, hnx.trans (((Below.refl n₀ wr).alloc hwr _).trans hk3)⟩
        case measure => simp [intOf]; omega
      · gi_wp2
        refine bodyPost_ret (results_none rfl _ _ _) rfl ?_
        exact ⟨⟨_, rfl⟩, .inr ⟨_, by rw [← htk]; exact List.take_prefix _ _, hJx3⟩⟩
    · obtain rfl : k = zs.length := by omega
      rw [List.take_length] at hJs
      gi_wp2
      go_end0
      exact ⟨⟨_, rfl⟩, .inl ⟨_, rfl, hJs⟩⟩
set_option maxRecDepth 100000 in
set_option maxHeartbeats 1000000 in
theorem Tryd.values1_nil_in (F : Fence) (n : Nat) (h7 : F.fn 51) (hro : F.round = none) (l Bs : Nat) (a : Option Addr) (cap : Nat) (J : List I32 → World → Prop) (W : World) (hBs : W.cell? ⟨Bs, 0, none⟩ = some (.slice a 0 cap)) (h0 : J [] W) :
    CallsIn F n Tryd.prog 51 #[.func (.yield l) #[] #[], .pointer (some ⟨Bs, 0, none⟩)] W fun e W' => (∃ v, e = .returned v) ∧ J [] W' := by
  refine callsIn_of_wp Tryd.func51 rfl h7 ?_ hro
  simp only [Tryd.ntmps51, List.size_toArray, List.length_cons, List.length_nil, Nat.reduceAdd, Nat.reduceSub, Array.replicate_succ, Array.replicate_zero, List.push_toArray, List.append_toArray, List.nil_append, List.cons_append]
  gi_wp2
  gi_loopw [7] (fun i wr => i = .int .i64 0 ∧ J [] wr) (fun _ _ => 0)
  case atStart => exact ⟨rfl, h0⟩
  case round =>
    obtain ⟨rfl, hJs⟩ := hrel
    gi_wp2
    go_end0
    exact ⟨⟨_, rfl⟩, hJs⟩
theorem Tryd.values_in (F : Fence) (n : Nat) (h5 : F.fn 36) (hro : F.round = none) (a : Option Addr) (len cap : Nat) (w : World) :
    CallsIn F n Tryd.prog 36 #[.slice a len cap] w fun e w' => e = .returned (.func (.func 51) #[] #[.pointer (some ⟨w.heap.size, 0, none⟩)]) ∧ w' = w.alloc (.cells #[.slice a len cap] 22) := by
  refine callsIn_of_wp Tryd.func36 rfl h5 ?_ hro
  simp only [Tryd.ntmps36, List.size_toArray, List.length_cons, List.length_nil, Nat.reduceAdd, Nat.reduceSub, Array.replicate_succ, Array.replicate_zero, List.push_toArray, List.append_toArray, List.nil_append, List.cons_append]
  gi_wp2
  go_ret
  exact ⟨rfl, rfl⟩
theorem Tryd.values_stops (F : Fence) (n : Nat) (h7 : F.fn 51) (hro : F.round = none) (hn : 1 ≤ n) (Bs n₀ : Nat) (sv : Value) (zs : List I32) (hlim : zs.length ≤ 1000) (w : World) (hBs : Bs < w.heap.size) (hn₀ : n₀ ≤ w.heap.size)
    (hc : w.cell? ⟨Bs, 0, none⟩ = some sv) (hI : Ids n₀ w sv zs) :
    SeqStopsK F n Tryd.prog 51 #[.pointer (some ⟨Bs, 0, none⟩)] (fun x : I32 => #[iv x]) (Below n₀) (fun ys => ys = zs) (fun pre => pre <+: zs) zs.length w := fun l J Jx W hW hJ _ hY h0 => by
  have hc' := (hW.cell (p := ⟨Bs, 0, none⟩) hBs).trans hc
  rcases hI.below (hW.mono hn₀) with ⟨⟨a, cap, rfl⟩, rfl⟩ | ⟨b, off, cap, rfl, hb, hcs⟩
  · exact (Tryd.values1_nil_in F n h7 hro l Bs a cap J W hc' h0).mono fun e W' ⟨he, hj⟩ => ⟨he, .inl ⟨_, rfl, hj⟩⟩
  · exact Tryd.values1_in F n h7 hro hn l Bs n₀ b off cap zs hlim hb J Jx hY W hJ (Nat.le_trans hn₀ hW.size) hc' hcs h0
end Go.Proofs


/- a list of one identity, built -/
namespace Go.Proofs.XK
open Go.RowKit
theorem fill_all (l : List Value) : ∀ (pre suf : List Value), suf.length = l.length → (l.zipIdx pre.length).foldl (fun (cs : Array Value) x => cs.setIfInBounds x.2 x.1) (pre ++ suf).toArray = (pre ++ l).toArray := by
  induction l with
  | nil => intro pre suf h; rw [List.eq_nil_of_length_eq_zero h]; rfl
  | cons x l ih =>
    intro pre suf h
    match suf, h with
    | y :: suf, h =>
      rw [List.zipIdx_cons, List.foldl_cons]
      have h1 : (pre ++ y :: suf).toArray.setIfInBounds pre.length x = ((pre ++ [x]) ++ suf).toArray := by
        simp
      rw [h1]
      have := ih (pre ++ [x]) suf (by simpa using h)
      rw [List.length_append, List.length_singleton] at this
      rw [this]
      simp
theorem zeros_all (n : Nat) (hn : 0 < n) (v : Value) : (Array.range n).map (fun i => (List.replicate n v).toArray[i % n]!) = (List.replicate n v).toArray := by
  apply Array.ext
  · simp
  · intro i h1 h2
    have h3 : i % n < n := Nat.mod_lt _ hn
    simp [getElem!_pos, h3]
theorem run_buildSlice_arr {P : Program} {T e S : TypeId} (w : World) (A : Arr P T e) (hS : P.underlying S = some (.slice T)) (l : List UInt8) (hl : l.length = 32) :
    (Instr.buildSlice S 1 #[(0, .agg (bv l).toArray)]).run P w = .ok (.slice (some ⟨w.heap.size, 0, none⟩) 1 1) (w.alloc (.cells (bv l).toArray T)) := by
  have h2 := A.st
  have h3 : (sizeOf T).run P w = .ok 32 w := by
    cases hq : P.info? T with
    | none => simp [hq] at h2
    | some j =>
      have : j.size = 32 := by simpa [hq] using h2
      simp [sizeOf, typeInfo, hq, this]
  have hf : Instr.fill (fun i => some (i * 32, 32)) ((Array.range 32).map (fun i => (bv z32).toArray[i % 32]!)) [(0, .agg (bv l).toArray)] = some (bv l).toArray := by
    have hz : (Array.range 32).map (fun i => (bv z32).toArray[i % 32]!) = ([] ++ bv z32).toArray := by
      exact zeros_all 32 (by decide) (.int .u8 0)
    rw [hz]
    have hlen : (bv l).length = 32 := by rw [bv_length, hl]
    have hzl : (bv z32).length = 32 := rfl
    have hfa := fill_all (bv l) [] (bv z32) (by rw [hlen, hzl])
    simp only [List.nil_append, List.length_nil] at hfa
    simp only [Instr.fill, Value.cells, List.nil_append, List.size_toArray, hlen, hzl]
    rw [if_neg (by simp)]
    simp only [Nat.zero_mul, Nat.zero_add]
    simpa using hfa
  unfold Instr.buildSlice
  simp only [Sem.run_bind, run_underlying hS, Result.andThen_ok, h3, Nat.one_mul]
  rw [if_neg (by decide), if_neg (by decide)]
  simp only [Sem.run_bind, zeroValue_of A.zt, Result.andThen_ok, Sem.run_pure]
  have hzl : (bv z32).length = 32 := rfl
  simp only [Value.cells, List.size_toArray, hzl, hf]
  simp [newRow, newObj]
  rfl
section
variable {F : Fence} {n : Nat} {P : Program} {T e : TypeId} {ops : Array Oper} {rest : List Oper} {o : Oper} {a : Act} {w : World} {Q : Exit → Act → World → Prop}
theorem y_bsl (A : Arr P T e) (S : TypeId) (x : Operand) (ho : o.op = .buildSlice S 1 #[(0, x)]) (hw : Region.wanted o (yielded ops a.tmps) = true) (hS : P.underlying S = some (.slice T)) (l : List UInt8) (hl : l.length = 32) (hx : a.eval x = .agg (bv l).toArray)
    (h : wpListIn F n P ops Q rest (a.put o.dst (.slice (some ⟨w.heap.size, 0, none⟩) 1 1)) (w.alloc (.cells (bv l).toArray T))) : wpListIn F n P ops Q (o :: rest) a w := by
  refine y_val hw (by rw [ho]; intro c h; cases h) (by rw [ho]; intro c h; cases h) ?_ h
  have := run_buildSlice_arr w A hS l hl
  unfold execOp
  simp only [ho, List.map_toArray, List.map_cons, List.map_nil, hx, Sem.run_bind, this, Result.andThen_ok, Sem.run_pure]
theorem x_bsl (A : Arr P T e) (S : TypeId) (x : Operand) (ho : o.op = .buildSlice S 1 #[(0, x)]) (hw : Region.wanted o (yielded ops a.tmps) = true) (hS : P.underlying S = some (.slice T)) (l : List UInt8) (hl : l.length = 32) (hx : a.eval x = .agg (bv l).toArray)
    (h : wpList P ops Q rest (a.put o.dst (.slice (some ⟨w.heap.size, 0, none⟩) 1 1)) (w.alloc (.cells (bv l).toArray T))) : wpList P ops Q (o :: rest) a w := by
  refine x_val hw ?_ h
  have := run_buildSlice_arr w A hS l hl
  unfold execOp
  simp only [ho, List.map_toArray, List.map_cons, List.map_nil, hx, Sem.run_bind, this, Result.andThen_ok, Sem.run_pure]
end
end Go.Proofs.XK


/- slices.AppendSeq and slices.Collect over an iterator of identities: a new list of all that it gives -/
namespace Go.Proofs
open Go.RowKit Go.Shelf XK
attribute [local go_sem] Oper.semAt_some
namespace XK
def flat (zs : List I32) : List Value := zs.flatMap fun x => bv x.1
theorem flat_nil : flat [] = [] := rfl
theorem flat_snoc (zs : List I32) (x : I32) : flat (zs ++ [x]) = flat zs ++ bv x.1 := by simp [flat]
theorem flat_length (zs : List I32) : (flat zs).length = zs.length * 32 := by
  induction zs with
  | nil => rfl
  | cons x zs ih => rw [flat, List.flatMap_cons, List.length_append, ← flat, ih, bv_length, x.2, List.length_cons]; omega
theorem flat_get (zs : List I32) (j : Nat) (h : j < zs.length) (i : Nat) (v : Value) (hv : (bv zs[j].1)[i]? = some v) : (flat zs)[j * 32 + i]? = some v := by
  induction zs generalizing j with
  | nil => cases h
  | cons x zs ih =>
    have hi : i < 32 := by
      rcases Nat.lt_or_ge i 32 with h1 | h1
      · exact h1
      · rw [List.getElem?_eq_none (by rw [bv_length, ((x :: zs)[j]).2]; exact h1)] at hv; cases hv
    rw [flat, List.flatMap_cons, ← flat]
    cases j with
    | zero =>
      rw [List.getElem?_append_left (by rw [bv_length, x.2]; omega)]
      simpa using hv
    | succ j =>
      rw [List.getElem?_append_right (by rw [bv_length, x.2]; omega), bv_length, x.2, show (j + 1) * 32 + i - 32 = j * 32 + i by omega]
      exact ih j (by simpa using h) (by simpa using hv)
theorem flat_one (zs : List I32) : ∀ v ∈ flat zs, v.oneCell' = true := fun v hv => by
  obtain ⟨x, _, h⟩ := List.mem_flatMap.1 hv
  exact bv_one x.1 v h
theorem cells_new (w : World) (cs : List Value) (t : TypeId) : ∀ j u, cs[j]? = some u → (w.alloc (.cells cs.toArray t)).cell? ((⟨w.heap.size, 0, none⟩ : Addr).add j) = some u := fun j u hj => by
  rw [Addr.add_mid, Nat.zero_add, Go.cell_of_row _ _ _ _ _ _ (Go.heap_alloc_new w _)]
  simpa using hj
theorem row_kept {W W' : World} {row : Option Nat} {B : Nat} {cs : Array Value} {t : TypeId} (h : W.heap[B]? = some (.cells cs t (0, 0))) (hg : W.grownBy W' row) (hr : ∀ r, row = some r → ∃ o : Obj, W.heap[r]? = some o ∧ o.isCells = false) : W'.heap[B]? = some (.cells cs t (0, 0)) := by
  rw [hg.block B (Array.getElem?_eq_some_iff.1 h).1 (fun e => by
    obtain ⟨o, ho, hc⟩ := hr B e.symm
    rw [h] at ho; cases ho; cases hc)]
  exact h
end XK
theorem Tryd.infoId : (Tryd.prog.info? 24).map (fun i => (i.zero, i.size, i.bytes)) = some (some (.agg (bv z32).toArray), 32, 32) := by kernel_rfl
set_option maxRecDepth 100000 in
set_option maxHeartbeats 2000000 in
theorem Tryd.appendSeq_in (F : Fence) (n : Nat) (h3 : F.fn 62) (h5 : F.fn 51) (hro : F.round = none) (hn : 3 ≤ n) (lb : Array Value) (zs : List I32) (hlim : zs.length ≤ 1000) (w : World)
    (hseq : SeqStopsK F (n - 1) Tryd.prog 51 lb (fun x : I32 => #[iv x]) (Below w.heap.size) (fun ys => ys = zs) (fun pre => pre <+: zs) zs.length w) :
    CallsIn F n Tryd.prog 62 #[.slice none 0 0, .func (.func 51) #[] lb] w fun e W' => ∃ v, e = .returned v ∧ W'.ownsRow w.heap.size 24 32 v zs.length (flat zs) ∧ (v = .slice none 0 0 ↔ zs = []) ∧ Below w.heap.size w W' := by
  have h1 : 1 ≤ n := by omega
  obtain ⟨i0, hi, hz0, hz1, hz2⟩ := info_parts Tryd.infoId
  refine callsIn_of_wp_marks Tryd.func62 rfl h3 ?_ hro
  simp only [Tryd.ntmps62, List.size_toArray, List.length_cons, List.length_nil, Nat.reduceAdd, Nat.reduceSub, Array.replicate_succ, Array.replicate_zero, List.push_toArray, List.append_toArray, List.nil_append, List.cons_append]
  gi_wp2
  have bO := Boxed.new w 22 (.slice none 0 0)
  have hB0 : Below w.heap.size w (w.alloc (.cells #[.slice none 0 0] 22)) := (Below.refl _ w).alloc (Nat.le_refl _) _
  have hOwn : OwnFrom (w.alloc (.cells #[.slice none 0 0] 22)).heap.size (fun (pre : List I32) W => (∃ v, Boxed W w.heap.size 22 v ∧ W.ownsRow w.heap.size 24 32 v pre.length (flat pre) ∧ (v = .slice none 0 0 ↔ pre = [])) ∧ Below w.heap.size w W) :=
    OwnFrom.and (Own.from (holdsRow_own (β := List I32) w.heap.size w.heap.size 22 24 32 (fun pre => pre.length) (fun pre => flat pre) (fun pre v => v = .slice none 0 0 ↔ pre = [])) _) (ownFrom_below (Nat.le_refl _) (by simp))
  refine wpIn_rangeFunc_ownH hro h1 (gf := 51) (lb := lb) rfl h5 (enters_of Tryd.func51 (by kernel_rfl) rfl) hseq belowK_t (belowK_b (by simp)) hB0 (fun _ => rfl)
    (fun pre W => (∃ v, Boxed W w.heap.size 22 v ∧ W.ownsRow w.heap.size 24 32 v pre.length (flat pre) ∧ (v = .slice none 0 0 ↔ pre = [])) ∧ Below w.heap.size w W)
    (fun _ _ _ => False)
    hOwn
    (fun _ _ _ _ _ hs _ _ => hs)
    ⟨⟨_, bO, World.ownsRow_nil _ _ _ _, by simp⟩, hB0⟩
    (fun x a' W => ∃ Bx, w.heap.size < Bx ∧ W.heap[Bx]? = some (.cells (bv x.1).toArray 24 (0, 0)) ∧ a' = { tmps := #[.slice none 0 0, .func (.func 51) #[] lb, .pointer (some ⟨w.heap.size, 0, none⟩), undef, .slice none 0 0, .pointer (some ⟨Bx, 0, none⟩), .func (.func 51) #[] lb, iv x, undef, undef, undef, undef, undef], defers := [] })
    (fun x a' _ X Y row hs hg hr => by obtain ⟨Bx, h1, h2, h3⟩ := hs; exact ⟨Bx, h1, row_kept h2 hg (fun r e => (hr r e).2), h3⟩)
    ?assign ?body ?done ?stop
  case assign =>
    rintro l pre x W K ⟨⟨v, hv, hrow, hnil⟩, hB⟩ hK
    have hlk := x.2
    have hlt := hv.lt
    have hz : ∀ (t : Array Value) (v : Value), Array.foldl (fun (t : Array Value) (x : Tmp × Value) => match x with | (p, v) => t.setIfInBounds p v) t (#[7].zip #[v]) = t.setIfInBounds 7 v := fun t v => by simp
    rw [hz]
    simp only [List.setIfInBounds_toArray, List.set_cons_succ, List.set_cons_zero]
    unfold iv
    gi_wp2_with (first
      | (refine y_al Tryd.arrId rfl rfl ?_)
      | (refine y_stn Tryd.arrId _ _ rfl rfl rfl x.1 rfl hlk _ _ rfl ?_))
    exact hK _ _ ((KeepsOthers.alloc _ _).from _) ((Below.refl _ W).alloc hB.size _) ⟨⟨v, hv.alloc _, hrow.alloc _, hnil⟩, hB.alloc hB.size _⟩ ⟨W.heap.size, hlt, Go.heap_alloc_new W _, rfl⟩
  case body =>
    rintro l pre x a' W hl ⟨r, hr⟩ ⟨⟨v, hv, hrow, hnil⟩, hB⟩ ⟨Bx, hBx, hX, rfl⟩ hlt
    have hc := hv.cell
    have hlk := x.2
    gi_wp2_with (first
      | (refine y_ld Tryd.arrId _ rfl rfl _ _ rfl x.1 hlk (fun j v hj => by rw [Go.cell_of_row _ _ _ _ _ _ hX]; simpa using hj) ?_)
      | (refine y_bsl Tryd.arrId _ _ rfl rfl Tryd.underlying22 x.1 hlk rfl ?_)
      | (gi_at_builtin; refine wpListIn_append_own _ rfl _ _ 22 rfl w.heap.size 24 i0 (.agg (bv z32).toArray) 32 32 Tryd.underlying22 hi hz0 hz1 hz2 rfl (by decide) _ _ _ rfl (hrow.alloc _) ⟨W.heap.size, 0, none⟩ 1 1 (bv x.1) rfl (by rw [bv_length, hlk]) (cells_new _ _ _) (bv_one x.1) (by simp only [maxLen]; omega) (by omega) (by have := hB.size; simp; omega) ?_; intro v' w1 hown' hgrow _; obtain ⟨g', cap', rfl⟩ := ownsRow_succ hown'; obtain ⟨hv1, hv2, hr2, hk2, hb2⟩ := hv.appended (by decide) hrow hB.size (Nat.le_refl _) hown' hgrow; have hc1 := hv1.cell; have hf1 := hv1.frozen))
    exact ⟨hk2.from _, hb2, ⟨_, hv2, by rw [flat_snoc]; simpa using hr2, by simp⟩, hB.trans hb2⟩
  case done =>
    rintro D ys W hD rfl ⟨⟨v, hv, hrow, hnil⟩, hB⟩ hK
    have hc := hv.cell
    gi_wp2
    refine ⟨by simp, .inl ⟨_, _, rfl, run_takeDeferred hK, ?_⟩⟩
    exact ⟨_, results_tmp rfl _ _ _, v, rfl, ownsRow_putObj hrow _ hK rfl, hnil, hB.trans (belowK_b (w := w) (Nat.le_refl _) W D _ _ (by simp at hD; omega) hK rfl rfl)⟩
  case stop =>
    rintro D c pre W _ _ h _
    exact h.elim
end Go.Proofs

/- slices.SortFunc of the library laid at lists of identities -/
/-
  DERIVED: THE SHELF's CONTRACTS AT THIS DUMP, IN PLAIN WORDS (tools/lay-plain.mjs out of 'YtfgadmiencgmgaaDoorSL.lean', which tools/lay-shelf.mjs wrote): THE SAME DECLARATIONS UNDER THE SAME NAMES: 'import', 'namespace', 'open', 'def', 'theorem' AND NOTHING ELSE: no command of the shelf's: FOR A HAND-IN. Each laying: the table of numbers ('.._ren') and one theorem, a field a fact of the dump's own or the kernel's comparison; each contract: ONE APPLICATION.
-/
namespace Go.Proofs
open Go.Shelf
def Tryd.sortId_ren : Go.Shelf.Ren := ⟨fun | 6 => 50 | 15 => 64 | 14 => 63 | 28 => 78 | 29 => 79 | 20 => 70 | 21 => 71 | 22 => 72 | 23 => 73 | 24 => 74 | 25 => 75 | 26 => 76 | 27 => 77 | 46 => 81 | 47 => 82 | 48 => 83 | 49 => 84 | 50 => 85 | 57 => 86 | n => n, fun | 22 => 22 | 24 => 24 | 25 => 53 | 3 => 3 | 39 => 87 | 0 => 0 | 53 => 110 | 55 => 112 | 4 => 4 | 46 => 103 | 45 => 102 | 50 => 107 | 5 => 5 | 9 => 9 | 66 => 115 | 70 => 119 | 76 => 121 | 77 => 122 | n => n, fun | n => n⟩
theorem Tryd.sortId : Go.Proofs.SlLaysF0.n6 Tryd.prog Tryd.sortId_ren := {
  mixed := by kernel_rfl
  f6 := ⟨Tryd.f50.name, by decide, Tryd.func50.trans (congrArg some (by kernel_rfl))⟩
  f14 := ⟨Tryd.f63.name, by decide, Tryd.func63.trans (congrArg some (by kernel_rfl))⟩
  f15 := Tryd.func64.trans (congrArg some (by kernel_rfl))
  f20 := ⟨Tryd.f70.name, by decide, Tryd.func70.trans (congrArg some (by kernel_rfl))⟩
  f21 := ⟨Tryd.f71.name, by decide, Tryd.func71.trans (congrArg some (by kernel_rfl))⟩
  f22 := ⟨Tryd.f72.name, by decide, Tryd.func72.trans (congrArg some (by kernel_rfl))⟩
  f23 := ⟨Tryd.f73.name, by decide, Tryd.func73.trans (congrArg some (by kernel_rfl))⟩
  f24 := ⟨Tryd.f74.name, by decide, Tryd.func74.trans (congrArg some (by kernel_rfl))⟩
  f25 := ⟨Tryd.f75.name, by decide, Tryd.func75.trans (congrArg some (by kernel_rfl))⟩
  f26 := ⟨Tryd.f76.name, by decide, Tryd.func76.trans (congrArg some (by kernel_rfl))⟩
  f27 := ⟨Tryd.f77.name, by decide, Tryd.func77.trans (congrArg some (by kernel_rfl))⟩
  f28 := Tryd.func78.trans (congrArg some (by kernel_rfl))
  f29 := Tryd.func79.trans (congrArg some (by kernel_rfl))
  f46 := ⟨Tryd.f81.name, by decide, Tryd.func81.trans (congrArg some (by kernel_rfl))⟩
  f47 := Tryd.func82.trans (congrArg some (by kernel_rfl))
  f48 := Tryd.func83.trans (congrArg some (by kernel_rfl))
  f49 := ⟨Tryd.f84.name, by decide, Tryd.func84.trans (congrArg some (by kernel_rfl))⟩
  f50 := ⟨Tryd.f85.name, by decide, Tryd.func85.trans (congrArg some (by kernel_rfl))⟩
  f57 := ⟨Tryd.f86.name, by decide, Tryd.func86.trans (congrArg some (by kernel_rfl))⟩
  t0 := Tryd.underlying0
  a0 := Tryd.isAgg0
  z0 := Tryd.sizeOf0
  v0 := Tryd.zeroValue0
  t3 := Tryd.underlying3
  a3 := Tryd.isAgg3
  z3 := Tryd.sizeOf3
  v3 := Tryd.zeroValue3
  t4 := Tryd.underlying4
  a4 := Tryd.isAgg4
  z4 := Tryd.sizeOf4
  v4 := Tryd.zeroValue4
  t5 := Tryd.underlying5
  a5 := Tryd.isAgg5
  z5 := Tryd.sizeOf5
  v5 := Tryd.zeroValue5
  t9 := Tryd.underlying9
  a9 := Tryd.isAgg9
  z9 := Tryd.sizeOf9
  v9 := Tryd.zeroValue9
  t22 := Tryd.underlying22
  a22 := Tryd.isAgg22
  z22 := Tryd.sizeOf22
  v22 := Tryd.zeroValue22
  t25 := Tryd.underlying53
  a25 := Tryd.isAgg53
  z25 := Tryd.sizeOf53
  v25 := Tryd.zeroValue53
  t39 := Tryd.underlying87
  a39 := Tryd.isAgg87
  z39 := Tryd.sizeOf87
  v39 := Tryd.zeroValue87
  t45 := Tryd.underlying102
  a45 := Tryd.isAgg102
  z45 := Tryd.sizeOf102
  v45 := Tryd.zeroValue102
  t46 := Tryd.underlying103
  a46 := Tryd.isAgg103
  z46 := Tryd.sizeOf103
  v46 := Tryd.zeroValue103
  t50 := Tryd.underlying107
  a50 := Tryd.isAgg107
  z50 := Tryd.sizeOf107
  v50 := Tryd.zeroValue107
  t53 := Tryd.underlying110
  a53 := Tryd.isAgg110
  z53 := Tryd.sizeOf110
  v53 := Tryd.zeroValue110
  t55 := Tryd.underlying112
  a55 := Tryd.isAgg112
  z55 := Tryd.sizeOf112
  v55 := Tryd.zeroValue112
  t66 := Tryd.underlying115
  a66 := Tryd.isAgg115
  z66 := Tryd.sizeOf115
  v66 := Tryd.zeroValue115
  t70 := Tryd.underlying119
  a70 := Tryd.isAgg119
  z70 := Tryd.sizeOf119
  v70 := Tryd.zeroValue119
  t76 := Tryd.underlying121
  a76 := Tryd.isAgg121
  z76 := Tryd.sizeOf121
  v76 := Tryd.zeroValue121
  t77 := Tryd.underlying122
  a77 := Tryd.isAgg122
  z77 := Tryd.sizeOf122
  v77 := Tryd.zeroValue122 }
end Go.Proofs


/- slices.SortFunc over a list of identities of the call's own, by Compare -/
namespace Go.Proofs
open Go.RowKit Go.Shelf XK Go.Sort
namespace XK
instance : Inhabited I32 := ⟨⟨z32, rfl⟩⟩
def enc (x : I32) : List Value := bv x.1
/-- a list of bytes as a number -/
def num : List UInt8 → Nat
  | [] => 0
  | x :: l => x.toNat * 256 ^ l.length + num l
theorem num_lt : ∀ l : List UInt8, num l < 256 ^ l.length
  | [] => by simp [num]
  | x :: l => by
    have h := num_lt l
    have hx := x.toNat_lt
    rw [num, List.length_cons, Nat.pow_succ]
    have : x.toNat * 256 ^ l.length ≤ 255 * 256 ^ l.length := Nat.mul_le_mul_right _ (by omega)
    omega
theorem cmp_num : ∀ a b : List UInt8, a.length = b.length → Lib.compareBytes a b = if num a < num b then -1 else if num b < num a then 1 else 0
  | [], [], _ => rfl
  | x :: a, y :: b, h => by
    have hl : a.length = b.length := by simpa using h
    have ih := cmp_num a b hl
    have ha := num_lt a
    have hb := num_lt b
    rw [cmp_cons, ih]
    have hlt : x < y ↔ x.toNat < y.toNat := UInt8.lt_iff_toNat_lt
    have hgt : y < x ↔ y.toNat < x.toNat := UInt8.lt_iff_toNat_lt
    have e1 : num (x :: a) = x.toNat * 256 ^ a.length + num a := rfl
    have e2 : num (y :: b) = y.toNat * 256 ^ a.length + num b := by rw [num, hl]
    rw [← hl] at hb
    generalize num (x :: a) = X at e1 ⊢
    generalize num (y :: b) = Y at e2 ⊢
    generalize 256 ^ a.length = p at ha hb e1 e2
    by_cases h1 : x < y
    · have h1' := hlt.1 h1
      have : (x.toNat + 1) * p ≤ y.toNat * p := Nat.mul_le_mul_right _ h1'
      rw [Nat.add_mul, Nat.one_mul] at this
      rw [if_pos h1, if_pos (by omega)]
    · by_cases h2 : y < x
      · have h2' := hgt.1 h2
        have : (y.toNat + 1) * p ≤ x.toNat * p := Nat.mul_le_mul_right _ h2'
        rw [Nat.add_mul, Nat.one_mul] at this
        rw [if_neg h1, if_pos h2, if_neg (by omega), if_pos (by omega)]
      · have h1' : ¬ x.toNat < y.toNat := fun q => h1 (hlt.2 q)
        have h2' : ¬ y.toNat < x.toNat := fun q => h2 (hgt.2 q)
        have he : x.toNat = y.toNat := by omega
        rw [he] at e1
        rw [if_neg h1, if_neg h2]
        by_cases h3 : num a < num b
        · rw [if_pos h3, if_pos (by omega)]
        · by_cases h4 : num b < num a
          · rw [if_neg h3, if_pos h4, if_neg (by omega), if_pos (by omega)]
          · rw [if_neg h3, if_neg h4, if_neg (by omega), if_neg (by omega)]
def cf (x y : I32) : Int := Lib.compareBytes x.1 y.1
theorem ltOf_cf (x y : I32) : ltOf cf x y = decide (num x.1 < num y.1) := by
  unfold ltOf cf
  rw [cmp_num _ _ (x.2.trans y.2.symm)]
  by_cases h : num x.1 < num y.1
  · simp [h]
  · by_cases h2 : num y.1 < num x.1 <;> simp [h, h2]
theorem num_inj (x y : I32) (h : num x.1 = num y.1) : x = y := by
  have := cmp_num x.1 y.1 (x.2.trans y.2.symm)
  rw [h, if_neg (Nat.lt_irrefl _), if_neg (Nat.lt_irrefl _)] at this
  exact Subtype.ext (cmp_zero _ _ this)
theorem swo : SWO (ltOf cf) where
  irrefl x := by rw [ltOf_cf]; simp
  trans x y z h1 h2 := by rw [ltOf_cf] at *; simp at *; omega
  ntrans x y z h1 h2 := by rw [ltOf_cf] at *; simp at *; omega
theorem total (x y : I32) (h1 : ltOf cf x y = false) (h2 : ltOf cf y x = false) : x = y := by
  rw [ltOf_cf] at h1 h2
  simp at h1 h2
  exact num_inj x y (by omega)
/-- sorted -/
def srt (zs : List I32) : List I32 := zs.mergeSort fun x y => !(ltOf cf) y x
end XK
theorem Tryd.compareG (x y : I32) (w : World) : Calls Tryd.prog 24 #[.agg (bv x.1).toArray, .agg (bv y.1).toArray] w fun e w' => e = .returned (.int .i64 (cf x y)) ∧ ∃ q os', w' = grow (w.drewN q) os' := by
  obtain ⟨l, hl⟩ := x
  obtain ⟨m, hm⟩ := y
  show Calls Tryd.prog 24 #[.agg (bv l).toArray, .agg (bv m).toArray] w fun e w' => e = .returned (.int .i64 (Lib.compareBytes l m)) ∧ ∃ q os', w' = grow (w.drewN q) os'
  have key : ∀ n, Calls Tryd.prog 43 #[.slice (some ⟨w.heap.size, 0, none⟩) 32 32, .slice (some ⟨w.heap.size + 1, 0, none⟩) 32 32] (((w.alloc (.cells (bv l).toArray 24)).alloc (.cells (bv m).toArray 24)).drewN n) fun e w' => e = .returned (.int .i64 (Lib.compareBytes l m)) ∧ w' = (((w.alloc (.cells (bv l).toArray 24)).alloc (.cells (bv m).toArray 24)).drewN n) := by
    intro n
    have h := Tryd.bytesCompare (((w.alloc (.cells (bv l).toArray 24)).alloc (.cells (bv m).toArray 24)).drewN n) l m w.heap.size 0 32 (w.heap.size + 1) 0 32 (fun j hj => by
      show World.cell? ((w.alloc (.cells (bv l).toArray 24)).alloc (.cells (bv m).toArray 24)) _ = _
      rw [Go.cell_of_row _ _ _ _ _ _ (Go.heap_alloc2_old w _ _)]; simpa using bv_get l j hj) (fun j hj => by
      show World.cell? ((w.alloc (.cells (bv l).toArray 24)).alloc (.cells (bv m).toArray 24)) _ = _
      rw [Go.cell_of_row _ _ _ _ _ _ (Go.heap_alloc2_new w _ _)]; simpa using bv_get m j hj)
    rw [hl, hm] at h
    exact h
  generalize Lib.compareBytes l m = r at key ⊢
  go_enter Tryd.func24, Tryd.ntmps24
  go_wp2_with fail
  go_quiet ((go_at_call 43; exact Calls.quiet_of_same (key _)))
  go_wp2
  go_ret
  exact ⟨rfl, nq, _, by rw [alloc_eq_grow, alloc_eq_grow, grow_grow]; rfl⟩
theorem Tryd.cmpLays (blk off size : Nat) (w : World) : CmpLays Tryd.prog 24 #[] enc 32 cf blk off size w :=
  fun _ _ _ _ x y => Tryd.compareG x y _
namespace XK
theorem flatK_eq (zs : List I32) : (flatK enc 32 zs.toArray).toList = flat zs := by
  apply List.ext_getElem?
  intro i
  rcases Nat.lt_or_ge i (zs.length * 32) with h | h
  · have hj : i / 32 < zs.length := by omega
    have h2 : i % 32 < 32 := Nat.mod_lt _ (by decide)
    have e1 := flat_get zs (i / 32) hj (i % 32) ((bv zs[i / 32].1)[i % 32]'(by rw [bv_length, (zs[i / 32]).2]; exact h2)) (List.getElem?_eq_getElem _)
    rw [show i / 32 * 32 + i % 32 = i by omega] at e1
    rw [e1]
    have h3 : i < (flatK enc 32 zs.toArray).size := by simpa using h
    rw [Array.getElem?_toList, Array.getElem?_eq_getElem h3, ← getElem!_pos (flatK enc 32 zs.toArray) i h3, get_flatK enc 32 zs.toArray i (by simpa using h)]
    have h4 : zs.toArray[i / 32]! = zs[i / 32] := by rw [getElem!_pos zs.toArray (i / 32) (by simpa using hj)]; simp
    rw [h4]
    unfold enc
    rw [getElem!_pos (bv zs[i / 32].1) (i % 32) (by rw [bv_length, (zs[i / 32]).2]; exact h2)]
  · rw [List.getElem?_eq_none (by rw [Array.length_toList, size_flatK]; simpa using h), List.getElem?_eq_none (by rw [flat_length]; exact h)]
/-- a list of the call's own is a row that the sort takes -/
theorem holds_own {W : World} {T : TypeId} {g : Nat} {zs : List I32} {cur : Array Value} (hg : W.heap[g]? = some (.cells cur T (0, 0))) (hc : cur.toList.take (zs.length * 32) = flat zs) : HoldsK enc 32 W g 0 zs.toArray := by
  intro j hj
  rw [size_flatK] at hj
  have hj' : j < zs.length * 32 := by simpa using hj
  have e1 : cur.toList[j]? = (flat zs)[j]? := by rw [← hc, List.getElem?_take, if_pos hj']
  rw [← flatK_eq] at e1
  constructor
  · rw [Go.cell_of_row _ _ _ _ _ _ hg, Nat.zero_add, ← Array.getElem?_toList, e1, Array.getElem?_toList, Array.getElem?_eq_getElem (by simpa using hj'), ← getElem!_pos (flatK enc 32 zs.toArray) j (by simpa using hj')]
    rfl
  · simp [World.frozen?, hg]
end XK
end Go.Proofs

/- slices.Compact over a list of identities of the call's own -/
namespace Go.Proofs
open Go.RowKit XK Go.Sort
set_option linter.unusedVariables false
namespace XK
/-- the row in block b holds these identities, and they may be written -/
def Row (W : World) (b : Nat) (d : Array I32) : Prop := ∀ j, j < d.size → W.rangeAt b (j * 32) (bv d[j]!.1) ∧ W.there b (j * 32) 32
theorem Row.below {n₀ : Nat} {A B : World} {b : Nat} {d : Array I32} (h : Go.RowKit.Below n₀ A B) (hb : b < n₀) (hr : Row A b d) : Row B b d := fun j hj => by
  refine ⟨range_below h hb (hr j hj).1, fun i hi => ?_⟩
  have := (hr j hj).2 i hi
  rw [h.cell (p := ⟨b, j * 32 + i, none⟩) hb, h.frozen (p := ⟨b, j * 32 + i, none⟩) hb]
  exact this
theorem Row.drewN {W : World} {b : Nat} {d : Array I32} (h : Row W b d) (n : Nat) : Row (W.drewN n) b d := h
theorem Row.set {W : World} {b : Nat} {d : Array I32} (h : Row W b d) {i : Nat} (hi : i < d.size) (x : I32) : Row (W.setCells b (i * 32) (bv x.1)) b (d.setIfInBounds i x) := fun j hj => by
  have hj' : j < d.size := by simpa using hj
  have hlx : (bv x.1).length = 32 := by rw [bv_length, x.2]
  by_cases hij : j = i
  · subst hij
    rw [getElem!_set_same d j x hj']
    constructor
    · intro c v hv
      have hc : c < (bv x.1).length := (List.getElem?_eq_some_iff.1 hv).1
      rw [World.cell?_setCells_in b (bv x.1) (j * 32) W (fun t ht => ((h j hj').2 t (by omega)).1) c hc]
      rw [List.getElem?_eq_getElem hc] at hv
      exact hv
    · intro c hc
      rw [World.cell?_setCells_in b (bv x.1) (j * 32) W (fun t ht => ((h j hj').2 t (by omega)).1) c (by omega), World.frozen?_setCells]
      exact ⟨rfl, ((h j hj').2 c hc).2⟩
  · rw [getElem!_set_other d i j x hij]
    have out : ∀ c, c < 32 → (W.setCells b (i * 32) (bv x.1)).cell? ⟨b, j * 32 + c, none⟩ = W.cell? ⟨b, j * 32 + c, none⟩ := fun c hc =>
      World.cell?_setCells_out b (bv x.1) (i * 32) W _ (fun _ _ => by show j * 32 + c < i * 32 ∨ _ ≤ j * 32 + c; rw [hlx]; omega)
    constructor
    · intro c v hv
      have hc : c < 32 := by have := (List.getElem?_eq_some_iff.1 hv).1; rwa [bv_length, d[j]!.2] at this
      rw [out c hc]
      exact (h j hj').1 c v hv
    · intro c hc
      rw [out c hc, World.frozen?_setCells]
      exact (h j hj').2 c hc
theorem below_setCells {B : Nat} {a : World} (b : Nat) (hb : B ≤ b) : ∀ (vs : List Value) (o : Nat) (w : World), Go.RowKit.Below B a w → Go.RowKit.Below B a (w.setCells b o vs)
  | [], _, _, h => h
  | v :: vs, o, w, h => by
    rw [World.setCells]
    exact below_setCells b hb vs (o + 1) _ (h.setCell (p := ⟨b, o, none⟩) hb v)
theorem classD (V : World) : ∃ C : World → Prop, C { V with drawn := V.drawn + 1 } ∧ (∀ w, C w → ∃ n, w = V.drewN n) := ⟨fun w => ∃ n, w = V.drewN n, ⟨1, rfl⟩, fun _ h => h⟩
theorem beq_sub (x y : I32) : (x.1 == y.1) = decide (x = y) := by
  by_cases h : x = y
  · simp [h]
  · have : x.1 ≠ y.1 := fun e => h (Subtype.ext e)
    simp [h, this]
theorem run_clear {P : Program} {T e S : TypeId} (A : Arr P T e) (hS : P.underlying S = some (.slice T)) (w : World) (b o n c : Nat) (hn : 0 < n) (hc : w.there b o (n * 32)) :
    ∃ vs : List Value, vs.length = n * 32 ∧ ∀ ty, (Builtin.clear_ #[S] ty #[.slice (some ⟨b, o, none⟩) n c]).run P w = .ok (.tuple #[]) (w.setCells b o vs) := by
  refine ⟨(Builtin.zeroCells (bv z32).toArray n).toList, ?_, fun ty => ?_⟩
  · simp [Builtin.zeroCells, bv_length, z32]
  · obtain ⟨m, rfl⟩ : ∃ m, n = m + 1 := ⟨n - 1, by omega⟩
    have hl : (Builtin.zeroCells (bv z32).toArray (m + 1)).toList.length = (m + 1) * 32 := by simp [Builtin.zeroCells, bv_length, z32]
    have hst := run_storeCells_cells (P := P) b o (Builtin.zeroCells (bv z32).toArray (m + 1)).toList 0 w (fun j hj => by rw [Nat.add_zero]; exact (hc j (by omega)).1) (fun j hj => by rw [Nat.add_zero]; exact (hc j (by omega)).2) (fun v hv => by
      simp only [Builtin.zeroCells, Array.toList_map, List.mem_map] at hv
      obtain ⟨i, _, rfl⟩ := hv
      have hi : i % (bv z32).toArray.size < (bv z32).toArray.size := Nat.mod_lt _ (by decide)
      rw [getElem!_pos (bv z32).toArray _ hi]
      exact bv_one z32 _ (Array.mem_toList_iff.2 (Array.getElem_mem hi)))
    simp only [Nat.add_zero] at hst
    simp [Builtin.clear_, run_underlying hS, zeroValue_of A.zt, Value.cells, hst]
theorem row_low {W : World} {b : Nat} {dk d : Array I32} {l : List I32} {k : Nat} {vs : List Value} (h : Row W b dk) (hs : dk.size = d.size) (hl : l.length = k) (hlow : ∀ j, j < k → l[j]? = some dk[j]!) (hk : k ≤ d.size) : Row (W.setCells b (k * 32) vs) b l.toArray := fun j hj => by
  have hj' : j < k := by simpa [hl] using hj
  have hx : l.toArray[j]! = dk[j]! := by
    have h1 := hlow j hj'
    have h2 : j < l.length := by omega
    rw [List.getElem?_eq_getElem h2] at h1
    rw [getElem!_pos l.toArray j (by simpa using h2)]
    simpa using h1
  rw [hx]
  have out : ∀ c, c < 32 → (W.setCells b (k * 32) vs).cell? ⟨b, j * 32 + c, none⟩ = W.cell? ⟨b, j * 32 + c, none⟩ := fun c hc =>
    World.cell?_setCells_out b vs (k * 32) W _ (fun _ _ => .inl (by show j * 32 + c < k * 32; omega))
  have hr := h j (by omega)
  constructor
  · intro c v hv
    have hc : c < 32 := by have := (List.getElem?_eq_some_iff.1 hv).1; rwa [bv_length, dk[j]!.2] at this
    rw [out c hc]
    exact hr.1 c v hv
  · intro c hc
    rw [out c hc, World.frozen?_setCells]
    exact hr.2 c hc
theorem q_net {P : Program} {T e : TypeId} {ops : Array Oper} {rest : List Oper} {o : Oper} {a : Act} {C : World → Prop} {Q : Act → Prop} (A : Arr P T e) (x y : Operand) (r : TypeId) (ho : o.op = .binOp .neq T x y r) (hw : Region.wanted o (yielded ops a.tmps) = true) (l m : List UInt8) (hx : a.eval x = .agg (bv l).toArray) (hy : a.eval y = .agg (bv m).toArray) (hl : l.length = 32) (hm : m.length = 32) (b : Bool) (he : (!(l == m)) = b)
    (h : wpQuiet P ops C Q rest (a.put o.dst (.bool b))) : wpQuiet P ops C Q (o :: rest) a :=
  q_val hw (fun w _ => by
    have := run_neq_bytes (P := P) w T e 32 x y A.ut A.ue A.se A.gt l m hl hm
    rw [he] at this
    unfold execOp
    simp only [ho, hx, hy]
    rw [Sem.run_bind, this]
    rfl) h
end XK
set_option maxRecDepth 100000 in
set_option maxHeartbeats 4000000 in
theorem Tryd.compactRow (d : Array I32) (b cap : Nat) (hcap : d.size ≤ cap) (hlim : d.size ≤ 1000) (n₀ : Nat) (hb : n₀ ≤ b) (w : World) (hR : Row w b d) :
    Calls Tryd.prog 34 #[.slice (some ⟨b, 0, none⟩) d.size cap] w fun e w' => e = .returned (.slice (some ⟨b, 0, none⟩) (Lib.compactUpTo d d.size).length cap) ∧ Row w' b (Lib.compactUpTo d d.size).toArray ∧ Go.RowKit.Below n₀ w w' := by
  have same : (∀ j, j < d.size → Lib.keeps d j = true) → Lib.compactUpTo d d.size = d.toList := fun hall => by
    rw [Lib.compactUpTo_all d _ hall, Lib.range_map_get]
  by_cases h2 : d.size < 2
  · have e := same (fun j hj => Lib.keeps_lt_one d j (by omega))
    rw [e, Array.toArray_toList, Array.length_toList]
    go_enter Tryd.func34, Tryd.ntmps34
    go_wp2
    go_ret
    exact ⟨rfl, hR, Go.RowKit.Below.refl _ _⟩
  · have HS := Lib.hid same
    have HR := Lib.hid hR
    clear same hR
    go_enter Tryd.func34, Tryd.ntmps34
    go_wp2
    go_loopw [3] (fun s3 wr => ∃ k : Nat, 1 ≤ k ∧ k ≤ d.size ∧ s3 = .int .i64 k ∧ Hid (Row wr b d) ∧ Hid (Go.RowKit.Below n₀ w wr) ∧ Hid (∀ j, j < k → Lib.keeps d j = true)) (fun s3 _ => d.size - (intOf s3).toNat)
    case atStart => exact ⟨1, Nat.le_refl _, by omega, rfl, HR, Lib.hid (Go.RowKit.Below.refl _ _), Lib.hid (Lib.keeps_lt_one d)⟩
    case round =>
      obtain ⟨k, hk1, hk, rfl, hRr, hBr, hall⟩ := hrel
      by_cases hlt : k < d.size
      · have hR1 := Lib.hid (hRr.out k hlt)
        have hR0 := Lib.hid (hRr.out (k - 1) (by omega))
        obtain ⟨x, hx⟩ : ∃ x, d[k]! = x := ⟨_, rfl⟩
        obtain ⟨y, hy⟩ : ∃ y, d[k - 1]! = y := ⟨_, rfl⟩
        rw [hx] at hR1
        rw [hy] at hR0
        have hHx := Lib.hid hx
        have hHy := Lib.hid hy
        clear hx hy
        obtain ⟨C, hC1, hCn⟩ := XK.classD wr
        have hC1' := Lib.hid hC1
        have hCn' := Lib.hid hCn
        clear hC1 hCn
        have i0 : (0 : Int) ≤ k := by omega
        have i7 : (1 : Int) ≤ k := by omega
        have i1 : (k : Int) < d.size := by omega
        have i2 : (k : Int).toNat = k := by omega
        have i3 : IntKind.i64.wrap ((k : Int) - 1) = (k : Int) - 1 := IntWalk.i64_in _ (by omega)
        have i4 : ((k : Int) - 1).toNat = k - 1 := by omega
        have i5 : (0 : Int) ≤ (k : Int) - 1 := by omega
        have i6 : (k : Int) - 1 < d.size := by omega
        go_wp2_with fail
        refine q_region C (by kernel_rfl) (by kernel_rfl) hC1'.out ?_
        repeat (first
          | (refine q_ld Tryd.arrId _ rfl rfl b (k * 32) rfl x.1 x.2 (fun W hW => by obtain ⟨n, rfl⟩ := hCn'.out W hW; exact hR1.out.1) ?_)
          | (refine q_ld Tryd.arrId _ rfl rfl b ((k - 1) * 32) rfl y.1 y.2 (fun W hW => by obtain ⟨n, rfl⟩ := hCn'.out W hW; exact hR0.out.1) ?_)
          | (refine q_eqt Tryd.arrId _ _ _ rfl rfl x.1 y.1 rfl rfl x.2 y.2 (decide (x = y)) (XK.beq_sub x y) ?_)
          | (refine wpQuiet_step (fun K hK => ?_)
             go_simp
             first
             | (refine hK _ ?_; clear hK K)
             | (apply Exists.intro
                refine ⟨fun W hW => ?_, hK _ ?_⟩
                first
                | exact rfl
                | exact ⟨rfl, rfl⟩
                clear hK K)))
        refine wpQuiet_nil ?_
        intro V2 hV2
        obtain ⟨n, rfl⟩ := hCn'.out V2 hV2
        have hBn := Lib.hid (XK.below_drewN hBr.out n)
        have hRn := Lib.hid (hRr.out.drewN n)
        clear hV2 hRr hBr hC1' hCn' hR1 hR0
        generalize wr.drewN n = V at hBn hRn ⊢
        by_cases hxy : x = y
        · have i8 : decide (x = y) = true := by simp [hxy]
          go_wp2
          have hI0 := Lib.hid (Lib.CompInv.start hall.out (Lib.keeps_neg (by omega) (by rw [hHx.out, hHy.out, hxy])))
          clear hall
          go_loopw [3, 5] (fun s3 s5 wr => ∃ (kk k2 : Nat) (dk : Array I32), s3 = .int .i64 kk ∧ s5 = .int .i64 k2 ∧ 1 ≤ k2 ∧ k + k2 ≤ d.size ∧ Hid (Row wr b dk) ∧ Hid (Go.RowKit.Below n₀ w wr) ∧ Hid (Lib.CompInv d (k + k2) kk dk)) (fun _ s5 _ => d.size - k - (intOf s5).toNat)
          case atStart => exact ⟨k, 1, d, rfl, rfl, Nat.le_refl _, by omega, hRn, hBn, hI0⟩
          case round =>
            obtain ⟨kk, k2, dk, rfl, rfl, hk2, hle, hRk, hBk, hI⟩ := hrel
            have hkk := hI.out.lt
            have hds := hI.out.size
            have j0 : (0 : Int) ≤ k2 := by omega
            have j7 : (1 : Int) ≤ k2 := by omega
            have j2 : (k2 : Int).toNat = k2 := by omega
            have j3 : IntKind.i64.wrap ((k2 : Int) - 1) = (k2 : Int) - 1 := IntWalk.i64_in _ (by omega)
            have j4 : ((k2 : Int) - 1).toNat = k2 - 1 := by omega
            have j5 : (0 : Int) ≤ (k2 : Int) - 1 := by omega
            have l0 : (0 : Int) ≤ kk := by omega
            have l1 : (kk : Int) < d.size := by omega
            have l2 : (kk : Int).toNat = kk := by omega
            by_cases hlt2 : k + k2 < d.size
            · have j1 : (k2 : Int) < ((d.size - k : Nat) : Int) := by omega
              have j6 : (k2 : Int) - 1 < ((d.size - k : Nat) : Int) := by omega
              have hM := Lib.hid (hRk.out (k + k2) (by omega)).1
              have hP := Lib.hid (hRk.out (k + k2 - 1) (by omega)).1
              obtain ⟨u, hu⟩ : ∃ u, d[k + k2]! = u := ⟨_, rfl⟩
              obtain ⟨v, hv⟩ : ∃ v, d[k + k2 - 1]! = v := ⟨_, rfl⟩
              rw [hI.out.high (k + k2) (by omega), hu, show (k + k2) * 32 = k * 32 + k2 * 32 by omega] at hM
              rw [hI.out.high (k + k2 - 1) (by omega), hv, show (k + k2 - 1) * 32 = k * 32 + (k2 - 1) * 32 by omega] at hP
              have hHu := Lib.hid hu
              have hHv := Lib.hid hv
              clear hu hv
              obtain ⟨bq, hbq⟩ : ∃ bq, (!(u.1 == v.1)) = bq := ⟨_, rfl⟩
              have hBq := Lib.hid hbq
              clear hbq
              obtain ⟨C2, hD1, hDn⟩ := XK.classD wr
              have hD1' := Lib.hid hD1
              have hDn' := Lib.hid hDn
              clear hD1 hDn
              go_wp2_with fail
              refine q_region C2 (by kernel_rfl) (by kernel_rfl) hD1'.out ?_
              repeat (first
                | (refine q_ld Tryd.arrId _ rfl rfl b (k * 32 + k2 * 32) rfl u.1 u.2 (fun W hW => by obtain ⟨n, rfl⟩ := hDn'.out W hW; exact hM.out) ?_)
                | (refine q_ld Tryd.arrId _ rfl rfl b (k * 32 + (k2 - 1) * 32) rfl v.1 v.2 (fun W hW => by obtain ⟨n, rfl⟩ := hDn'.out W hW; exact hP.out) ?_)
                | (refine q_net Tryd.arrId _ _ _ rfl rfl u.1 v.1 rfl rfl u.2 v.2 bq hBq.out ?_)
                | (refine wpQuiet_step (fun K hK => ?_)
                   go_simp
                   first
                   | (refine hK _ ?_; clear hK K)
                   | (apply Exists.intro
                      refine ⟨fun W hW => ?_, hK _ ?_⟩
                      first
                      | exact rfl
                      | exact ⟨rfl, rfl⟩
                      clear hK K)))
              refine wpQuiet_nil ?_
              intro V2 hV2
              obtain ⟨n2, rfl⟩ := hDn'.out V2 hV2
              have hBm := Lib.hid (XK.below_drewN hBk.out n2)
              have hRm := Lib.hid (hRk.out.drewN n2)
              have hM2 : Hid ((wr.drewN n2).rangeAt b (k * 32 + k2 * 32) (bv u.1)) := Lib.hid hM.out
              clear hV2 hRk hBk hD1' hDn' hM hP
              generalize wr.drewN n2 = V' at hBm hRm hM2 ⊢
              cases bq
              · have huv : Hid (u = v) := Lib.hid (by have := hBq.out; rw [XK.beq_sub] at this; simpa using this)
                go_wp2
                go_roundw
                case rel => exact ⟨kk, k2 + 1, dk, rfl, by simp, by omega, by omega, hRm, hBm, Lib.hid (hI.out.skip (Lib.keeps_neg (by omega) (by rw [hHu.out, hHv.out, huv.out])))⟩
                case measure => simp [intOf]; omega
              · have huv : Hid (u ≠ v) := Lib.hid (by have := hBq.out; rw [XK.beq_sub] at this; simpa using this)
                have hlu := Lib.hid u.2
                go_wp2_with (first
                  | (refine x_ld Tryd.arrId rfl _ rfl _ _ rfl u.1 hlu.out hM2.out ?_)
                  | (refine x_st Tryd.arrId rfl _ _ rfl b (kk * 32) rfl u.1 rfl hlu.out (hRm.out kk (by omega)).2 ?_))
                go_roundw
                case rel =>
                  have hI2 := hI.out.keep hlt2 (Lib.keeps_pos (by rw [hHu.out, hHv.out]; exact huv.out))
                  rw [hHu.out] at hI2
                  exact ⟨kk + 1, k2 + 1, dk.setIfInBounds kk u, by simp, by simp, by omega, by omega, Lib.hid (hRm.out.set (by omega) u), Lib.hid (XK.below_setCells b hb _ _ _ hBm.out), Lib.hid hI2⟩
                case measure => simp [intOf]; omega
            · have hend : k + k2 = d.size := by omega
              obtain ⟨vs, hvl, hcl⟩ := XK.run_clear Tryd.arrId Tryd.underlying22 wr b (kk * 32) (d.size - kk) (cap - kk) (by omega) (fun j hj => by
                have := (hRk.out (kk + j / 32) (by omega)).2 (j % 32) (Nat.mod_lt _ (by decide))
                rw [show (kk + j / 32) * 32 + j % 32 = kk * 32 + j by omega] at this
                exact this)
              have hRz : Hid (Row (wr.setCells b (kk * 32) vs) b (Lib.compactUpTo d d.size).toArray) := Lib.hid (by
                have hI2 := hI.out
                rw [hend] at hI2
                exact XK.row_low hRk.out hI2.size hI2.len hI2.low (by omega))
              have hBz := Lib.hid (XK.below_setCells b hb vs (kk * 32) _ hBk.out)
              have hlen : (Lib.compactUpTo d d.size).length = kk := by
                have := hI.out.len
                rwa [hend] at this
              have hHl := Lib.hid hlen
              clear hlen hRk hBk
              generalize wr.setCells b (kk * 32) vs = Z at hcl hRz hBz
              go_wp2
              go_ret
              exact ⟨by rw [hHl.out]; rfl, hRz.out, hBz.out⟩
        · have i8 : decide (x = y) = false := by simp [hxy]
          go_wp2
          go_roundw
          case rel =>
            refine ⟨k + 1, by omega, by omega, by simp, hRn, hBn, Lib.hid fun j hj => ?_⟩
            by_cases e : j = k
            · subst e
              exact Lib.keeps_pos (by rw [hHx.out, hHy.out]; exact hxy)
            · exact hall.out j (by omega)
          case measure => simp [intOf]; omega
      · obtain rfl : k = d.size := by omega
        go_wp2
        go_ret
        have e := HS.out hall.out
        rw [e, Array.toArray_toList, Array.length_toList]
        exact ⟨rfl, hRr.out, hBr.out⟩
end Go.Proofs


/- msgid.Set: the sorted list without neighbours that are equal -/
namespace Go.Proofs
open Go.RowKit Go.Shelf XK Go.Sort
attribute [local go_sem] Oper.semAt_some
set_option linter.unusedVariables false
namespace XK
/-- a list of identities of the call's own -/
def OwnIds (n₀ : Nat) (W : World) (v : Value) (zs : List I32) : Prop :=
  (v = .slice none 0 0 ∧ zs = []) ∨ ∃ g cap, v = .slice (some ⟨g, 0, none⟩) zs.length cap ∧ n₀ ≤ g ∧ zs.length ≤ cap ∧ g < W.heap.size ∧ Row W g zs.toArray
theorem OwnIds.ids {n₀ : Nat} {W : World} {v : Value} {zs : List I32} : OwnIds n₀ W v zs → Ids W.heap.size W v zs
  | .inl e => .inl ⟨⟨none, 0, e.1⟩, e.2⟩
  | .inr ⟨g, cap, e, _, _, hg, hr⟩ => .inr ⟨g, 0, cap, e, hg, fun j hj => by
      have := (hr j (by simpa using hj)).1
      rw [getElem!_pos zs.toArray j (by simpa using hj)] at this
      rw [Nat.zero_add]
      simpa using this⟩
theorem row_of_holds {W : World} {b : Nat} {d : Array I32} (h : HoldsK enc 32 W b 0 d) : Row W b d := fun j hj => by
  have hk : ∀ c, c < 32 → W.cell? ⟨b, j * 32 + c, none⟩ = some (enc d[j]!)[c]! ∧ W.frozen? ⟨b, j * 32 + c, none⟩ = false := fun c hc => by
    have := h.cell hj hc
    rwa [Nat.zero_add] at this
  constructor
  · intro c v hv
    have hc : c < (bv d[j]!.1).length := (List.getElem?_eq_some_iff.1 hv).1
    have hc' : c < 32 := by rwa [bv_length, d[j]!.2] at hc
    rw [(hk c hc').1]
    unfold enc
    rw [getElem!_pos (bv d[j]!.1) c hc]
    rw [List.getElem?_eq_getElem hc] at hv
    exact hv
  · intro c hc
    rw [(hk c hc).1]
    exact ⟨rfl, (hk c hc).2⟩
theorem below_sort {n₀ : Nat} {w : World} {b : Nat} (hb : n₀ ≤ b) (hn : n₀ ≤ w.heap.size) (n : Nat) (d : Array I32) (os : Array Obj) : Go.RowKit.Below n₀ w (sortWorldK enc 32 w b 0 n d os) := by
  refine ⟨rfl, rfl, rfl, size_sortWorldK_c enc 32 w b 0 n d os, fun k hk => ?_⟩
  show ((w.heap.modify b _) ++ os)[k]? = w.heap[k]?
  rw [Array.getElem?_append_left (by rw [Array.size_modify]; omega), Array.getElem?_modify, if_neg (by omega)]
end XK
theorem Tryd.sortRow (zs : List I32) (hlim : zs.length ≤ 1000) (n₀ g cap : Nat) (hg : n₀ ≤ g) (cur : Array Value) (w : World) (hn : n₀ ≤ w.heap.size) (hc : w.heap[g]? = some (.cells cur 24 (0, 0))) (ht : cur.toList.take (zs.length * 32) = flat zs) :
    Calls Tryd.prog 50 #[.slice (some ⟨g, 0, none⟩) zs.length cap, .func (.func 24) #[] #[]] w fun e w' => e = .returned (.tuple #[]) ∧ Row w' g (srt zs).toArray ∧ Go.RowKit.Below n₀ w w' := by
  have eg : ∀ args w, (callFunc 24 args).run Tryd.prog w = .ok (.enter 24 args) w := enters_of Tryd.func24 (by kernel_rfl) rfl
  have hH := XK.holds_own hc ht
  have hblk : g < w.heap.size := (Array.getElem?_eq_some_iff.1 hc).1
  have hcon := AnyQ.slices_SortFunc_total Tryd.sortId 32 Tryd.isAgg24 Tryd.sizeOf24 enc (fun x => by rw [enc, bv_length, x.2]) (fun x v hv => bv_one x.1 v hv) cf swo 24 #[] g 0 cap zs.toArray w eg (Tryd.cmpLays g 0 zs.toArray.size w) hH hblk (by simp; omega) total
  change Calls Tryd.prog 50 _ _ _ at hcon
  rw [List.size_toArray] at hcon
  refine hcon.mono ?_
  rintro e w' ⟨he, n, os, rfl⟩
  refine ⟨he, ?_, XK.below_sort hg hn _ _ _⟩
  exact XK.row_of_holds (holdsK_sortWorldK_c enc 32 w g 0 zs.toArray _ n os hH hblk (by simp))
theorem Tryd.collect (zs : List I32) (hlim : zs.length ≤ 1000) (sv : Value) (Bs : Nat) (w : World) (hBs : Bs < w.heap.size) (hc : w.cell? ⟨Bs, 0, none⟩ = some sv) (hI : Ids w.heap.size w sv zs) :
    Calls Tryd.prog 49 #[.func (.func 51) #[] #[.pointer (some ⟨Bs, 0, none⟩)]] w fun e W' => ∃ v, e = .returned v ∧ W'.ownsRow w.heap.size 24 32 v zs.length (flat zs) ∧ (v = .slice none 0 0 ↔ zs = []) ∧ Go.RowKit.Below w.heap.size w W' := by
  have hap := callsIn_wide.1 (Tryd.appendSeq_in Fence.wide 4 trivial trivial rfl (by decide) #[.pointer (some ⟨Bs, 0, none⟩)] zs hlim w (Tryd.values_stops Fence.wide 3 trivial rfl (by decide) Bs w.heap.size sv zs hlim w hBs (Nat.le_refl _) hc hI))
  clear hc hI
  go_enter Tryd.func49, Tryd.ntmps49
  go_wp2_with (go_at_call 62; refine hap.mono ?_; rintro e w' ⟨v, rfl, h1, h2, h3⟩)
  go_ret
  exact ⟨v, rfl, h1, h2, h3⟩
theorem Tryd.values (a : Option Addr) (len cap : Nat) (w : World) : Calls Tryd.prog 36 #[.slice a len cap] w fun e w' => e = .returned (.func (.func 51) #[] #[.pointer (some ⟨w.heap.size, 0, none⟩)]) ∧ w' = w.alloc (.cells #[.slice a len cap] 22) :=
  callsIn_wide.1 (Tryd.values_in Fence.wide 2 trivial rfl a len cap w)
/-- slices.SortedFunc -/
theorem Tryd.sortedFunc (zs : List I32) (hlim : zs.length ≤ 1000) (sv : Value) (Bs : Nat) (w : World) (hBs : Bs < w.heap.size) (hc : w.cell? ⟨Bs, 0, none⟩ = some sv) (hI : Ids w.heap.size w sv zs) :
    Calls Tryd.prog 35 #[.func (.func 51) #[] #[.pointer (some ⟨Bs, 0, none⟩)], .func (.func 24) #[] #[]] w fun e W' => ∃ v, e = .returned v ∧ OwnIds w.heap.size W' v (srt zs) ∧ Go.RowKit.Below w.heap.size w W' := by
  have hcl := Tryd.collect zs hlim sv Bs w hBs hc hI
  clear hc hI
  have hsl : (srt zs).length = zs.length := by simp [srt]
  by_cases hz : zs = []
  · subst hz
    have hcl' := hcl.mono (fun e w' (h : ∃ v, _) => (by
      obtain ⟨v, h1, h2, h3, h4⟩ := h
      exact ⟨by rw [h1, h3.2 rfl], h4⟩ : e = .returned (.slice none 0 0) ∧ Go.RowKit.Below w.heap.size w w'))
    have hno := fun W => AnyF.slices_SortFunc_none Tryd.sortId none 0 (.func (.func 24) #[] #[]) W
    change ∀ W, Calls Tryd.prog 50 _ _ _ at hno
    clear hcl
    go_enter Tryd.func35, Tryd.ntmps35
    go_wp2_with (first
      | (go_at_call 49; refine hcl'.mono ?_; rintro e w1 ⟨rfl, hb1⟩)
      | (go_at_call 50; refine (hno _).mono ?_; rintro e w2 ⟨rfl, rfl⟩))
    go_ret
    exact ⟨.slice none 0 0, rfl, .inl ⟨rfl, by simp [srt]⟩, hb1⟩
  · have hcl' := hcl.mono (fun e w' (h : ∃ v, _) => (by
      obtain ⟨v, h1, h2, h3, h4⟩ := h
      rcases h2.2 with ⟨hv, _⟩ | ⟨g, cap, cur, hv, hg, hh, hcap, _, hcs, hcu⟩
      · exact absurd (h3.1 hv) hz
      · exact ⟨g, cap, cur, by rw [h1, hv], hg, hcap, Lib.hid ⟨hh, hcu⟩, h4⟩ : ∃ g cap cur, e = .returned (.slice (some ⟨g, 0, none⟩) zs.length cap) ∧ w.heap.size ≤ g ∧ zs.length ≤ cap ∧ Hid (w'.heap[g]? = some (.cells cur 24 (0, 0)) ∧ cur.toList.take (zs.length * 32) = flat zs) ∧ Go.RowKit.Below w.heap.size w w'))
    clear hcl
    go_enter Tryd.func35, Tryd.ntmps35
    go_wp2_with (first
      | (go_at_call 49; refine hcl'.mono ?_; rintro e w1 ⟨g, cap, cur, rfl, hg, hcap, hH, hb1⟩)
      | (go_at_call 50; refine (Tryd.sortRow zs hlim w.heap.size g cap hg cur w1 hb1.size hH.out.1 hH.out.2).mono ?_; rintro e w2 ⟨rfl, hR2, hb2⟩))
    go_ret
    refine ⟨.slice (some ⟨g, 0, none⟩) zs.length cap, rfl, .inr ⟨g, cap, by rw [hsl], hg, by rw [hsl]; exact hcap, ?_, hR2⟩, hb1.trans hb2⟩
    have := (Array.getElem?_eq_some_iff.1 hH.out.1).1
    have := hb2.size
    omega
theorem Tryd.compactNil (w : World) : Calls Tryd.prog 34 #[.slice none 0 0] w fun e w' => e = .returned (.slice none 0 0) ∧ w' = w := by
  go_enter Tryd.func34, Tryd.ntmps34
  go_wp2
  go_ret
  exact ⟨rfl, rfl⟩
/-- the set of a list -/
def XK.sset (zs : List I32) : List I32 := Lib.compactUpTo (srt zs).toArray (srt zs).toArray.size
theorem Tryd.set (zs : List I32) (hlim : zs.length ≤ 1000) (sv : Value) (w : World) (hI : Ids w.heap.size w sv zs) :
    Calls Tryd.prog 13 #[sv] w fun e W' => ∃ v, e = .returned v ∧ OwnIds w.heap.size W' v (sset zs) ∧ Go.RowKit.Below w.heap.size w W' := by
  obtain ⟨a, len, cap0, rfl⟩ : ∃ a len cap, sv = .slice a len cap := by
    rcases hI with ⟨⟨a, cap, rfl⟩, _⟩ | ⟨b, off, cap, rfl, _⟩
    · exact ⟨_, _, _, rfl⟩
    · exact ⟨_, _, _, rfl⟩
  have hB0 : Go.RowKit.Below w.heap.size w (w.alloc (.cells #[.slice a len cap0] 22)) := (Go.RowKit.Below.refl _ w).alloc (Nat.le_refl _) _
  have hsf := Tryd.sortedFunc zs hlim (.slice a len cap0) w.heap.size (w.alloc (.cells #[.slice a len cap0] 22)) (by simp) (Boxed.new w 22 (.slice a len cap0)).cell ((hI.below hB0).mono (by simp))
  have hsl : Hid ((srt zs).length = zs.length) := Lib.hid (by simp [srt])
  have hv := Tryd.values a len cap0 w
  have hsf2 := hsf.mono (fun e w' (h : ∃ v, _) => (by
    obtain ⟨v, h1, h2, h3⟩ := h
    exact ⟨v, h1, Lib.hid h2, Lib.hid (hB0.trans (h3.mono (by simp)))⟩ : ∃ v, e = .returned v ∧ Hid (OwnIds (w.alloc (.cells #[.slice a len cap0] 22)).heap.size w' v (srt zs)) ∧ Hid (Go.RowKit.Below w.heap.size w w')))
  clear hsf hI hB0
  go_enter Tryd.func13, Tryd.ntmps13
  go_wp2_with (first
    | (go_at_call 36; refine hv.mono ?_; rintro e w1 ⟨rfl, rfl⟩)
    | (go_at_call 35; refine hsf2.mono ?_; rintro e w2 ⟨v, rfl, hO, hb⟩))
  rcases hO.out with ⟨rfl, hz⟩ | ⟨g, cap, rfl, hg, hcap, hgl, hR⟩
  · refine (Tryd.compactNil _).mono ?_
    rintro e w3 ⟨rfl, rfl⟩
    go_wp2
    go_ret
    exact ⟨.slice none 0 0, rfl, .inl ⟨rfl, by rw [sset, hz]; rfl⟩, hb.out⟩
  · have hco := Tryd.compactRow (srt zs).toArray g cap (by simpa using hcap) (by rw [List.size_toArray, hsl.out]; exact hlim) w.heap.size (by simp at hg; omega) w2 hR
    rw [List.size_toArray, show Lib.compactUpTo (srt zs).toArray (srt zs).length = sset zs by rw [sset, List.size_toArray]] at hco
    refine hco.mono ?_
    rintro e w3 ⟨rfl, hR3, hb3⟩
    go_wp2
    go_ret
    refine ⟨.slice (some ⟨g, 0, none⟩) (sset zs).length cap, rfl, .inr ⟨g, cap, rfl, by simp at hg; omega, ?_, ?_, hR3⟩, hb.out.trans hb3⟩
    · have : (sset zs).length ≤ (srt zs).length := by
        rw [sset, Lib.compactUpTo, List.length_map, List.size_toArray]
        exact Nat.le_trans (List.length_filter_le _ _) (by simp)
      omega
    · have := hb3.size; omega
end Go.Proofs

/- slices.Contains of the library laid at lists of identities -/
/-
  DERIVED: THE SHELF's CONTRACTS AT THIS DUMP, IN PLAIN WORDS (tools/lay-plain.mjs out of 'YtfgadmiencgmgaaDoorSL.lean', which tools/lay-shelf.mjs wrote): THE SAME DECLARATIONS UNDER THE SAME NAMES: 'import', 'namespace', 'open', 'def', 'theorem' AND NOTHING ELSE: no command of the shelf's: FOR A HAND-IN. Each laying: the table of numbers ('.._ren') and one theorem, a field a fact of the dump's own or the kernel's comparison; each contract: ONE APPLICATION.
-/
namespace Go.Proofs
open Go.Shelf
def Tryd.containsId_ren : Go.Shelf.Ren := ⟨fun | 7 => 25 | 6 => 44 | n => n, fun | 22 => 22 | 24 => 24 | 4 => 4 | 0 => 0 | 3 => 3 | n => n, fun | n => n⟩
theorem Tryd.containsId : Go.Proofs.SlLaysQ.n7 Tryd.prog Tryd.containsId_ren := {
  mixed := by kernel_rfl
  f6 := ⟨Tryd.f44.name, by decide, Tryd.func44.trans (congrArg some (by kernel_rfl))⟩
  f7 := ⟨Tryd.f25.name, by decide, Tryd.func25.trans (congrArg some (by kernel_rfl))⟩
  t0 := Tryd.underlying0
  a0 := Tryd.isAgg0
  z0 := Tryd.sizeOf0
  v0 := Tryd.zeroValue0
  t3 := Tryd.underlying3
  a3 := Tryd.isAgg3
  z3 := Tryd.sizeOf3
  v3 := Tryd.zeroValue3
  t4 := Tryd.underlying4
  a4 := Tryd.isAgg4
  z4 := Tryd.sizeOf4
  v4 := Tryd.zeroValue4
  t22 := Tryd.underlying22
  a22 := Tryd.isAgg22
  z22 := Tryd.sizeOf22
  v22 := Tryd.zeroValue22 }
end Go.Proofs

/- msgid.Has, the reference's Has, and the list's conversion -/
namespace Go.Proofs
open Go.RowKit Go.Shelf XK Go.Sort
set_option linter.unusedVariables false
namespace XK
def memb (x : I32) (zs : List I32) : Bool := decide (x ∈ zs)
theorem any_memb (x : I32) (zs : List I32) : (zs.any fun y => x.1 == y.1) = memb x zs := by
  unfold memb
  rw [Bool.eq_iff_iff]
  simp only [List.any_eq_true, beq_iff_eq, decide_eq_true_eq]
  constructor
  · rintro ⟨y, hy, e⟩
    rw [Subtype.ext e]; exact hy
  · intro h
    exact ⟨x, h, rfl⟩
theorem eqlAt {P : Program} {T e : TypeId} (A : Arr P T e) : EqlAt P T (fun x : I32 => .agg (enc x).toArray) (fun x y => x.1 == y.1) :=
  ⟨fun x y w => by
    show (binOp .eql T (.agg (bv x.1).toArray) (.agg (bv y.1).toArray)).run P w = _
    simp only [binOp, Op.equal, Op.maxDepth, Sem.run_bind, run_equalIn_bytes w 9998 T e 32 A.ut A.ue A.se x.1 y.1 x.2 y.2, Result.andThen_ok, Sem.run_pure], GuardAt.agg (fun x : I32 => (enc x).toArray) A.gt⟩
end XK
set_option maxHeartbeats 1000000 in
theorem Tryd.indexNil (a : Option Addr) (cap : Nat) (x : I32) (w : World) : Calls Tryd.prog 44 #[.slice a 0 cap, .agg (bv x.1).toArray] w fun e w' => e = .returned (.int .i64 (-1)) ∧ Go.RowKit.Below w.heap.size w w' := by
  go_enter Tryd.func44, Tryd.ntmps44
  go_wp2_with (refine x_bx rfl _ rfl _ rfl ?_)
  refine wp_loop_rounds 1 ?_
  rw [rounds_succ]
  go_wp2
  go_ret
  exact ⟨rfl, (Go.RowKit.Below.refl _ w).alloc (Nat.le_refl _) _⟩
set_option maxHeartbeats 1000000 in
theorem Tryd.containsNil (a : Option Addr) (cap : Nat) (x : I32) (w : World) : Calls Tryd.prog 25 #[.slice a 0 cap, .agg (bv x.1).toArray] w fun e w' => e = .returned (.bool false) ∧ Go.RowKit.Below w.heap.size w w' := by
  have hI := fun W => Tryd.indexNil a cap x W
  have hlx := Lib.hid x.2
  go_enter Tryd.func25, Tryd.ntmps25
  go_wp2_with (first
    | (refine x_bx rfl _ rfl _ rfl ?_)
    | (refine x_ld Tryd.arrId rfl _ rfl _ _ rfl x.1 hlx.out ?_ ?_; exact fun j v hj => by rw [Go.cell_of_row _ _ _ _ _ _ (Go.heap_alloc_new w _)]; simpa using hj)
    | (go_at_call 44; refine (hI _).mono ?_; rintro e w1 ⟨rfl, hb1⟩))
  go_ret
  exact ⟨rfl, ((Go.RowKit.Below.refl _ w).alloc (Nat.le_refl _) _).trans (hb1.mono (by simp))⟩
theorem Tryd.contains (zs : List I32) (hlim : zs.length ≤ 1000) (sv : Value) (w : World) (hI : Ids w.heap.size w sv zs) (x : I32) :
    Calls Tryd.prog 25 #[sv, .agg (bv x.1).toArray] w fun e w' => e = .returned (.bool (memb x zs)) ∧ Go.RowKit.Below w.heap.size w w' := by
  rcases hI with ⟨⟨a, cap, rfl⟩, rfl⟩ | ⟨b, off, cap, rfl, hb, hc⟩
  · exact Tryd.containsNil a cap x w
  · have h := AnyQ.slices_Contains Tryd.containsId 32 Tryd.isAgg24 Tryd.sizeOf24 enc (fun x => by rw [enc, bv_length, x.2]) (fun x y => x.1 == y.1) (XK.eqlAt Tryd.arrId) b off zs.length cap zs x w (Nat.le_refl _) (by omega) (fun j hj i v hv => by
      rw [getElem!_pos zs j hj] at hv
      exact hc j hj i v hv)
    change Calls Tryd.prog 25 _ _ _ at h
    rw [List.take_length, XK.any_memb] at h
    exact h
end Go.Proofs


/- the reference's Has -/
namespace Go.Proofs
open Go.RowKit Go.Shelf XK Go.Sort
set_option linter.unusedVariables false
set_option maxRecDepth 100000 in
set_option maxHeartbeats 2000000 in
theorem Tryd.rHas (zs : List I32) (hlim : zs.length ≤ 1000) (sv : Value) (w : World) (hI : Ids w.heap.size w sv zs) (x : I32) :
    Calls Tryd.prog 19 #[sv, .agg (bv x.1).toArray] w fun e w' => e = .returned (.bool (memb x zs)) ∧ Go.RowKit.Below w.heap.size w w' := by
  rcases hI with ⟨⟨a, cap, rfl⟩, rfl⟩ | ⟨b, off, cap, rfl, hb, hc⟩
  · go_enter Tryd.func19, Tryd.ntmps19
    go_wp2_with (refine x_bx rfl _ rfl _ rfl ?_)
    refine wp_loop_rounds 1 ?_
    rw [rounds_succ]
    go_wp2
    go_ret
    exact ⟨rfl, (Go.RowKit.Below.refl _ w).alloc (Nat.le_refl _) _⟩
  · have hW0 : Hid (Go.RowKit.Below w.heap.size w (w.alloc (.cells (bv x.1).toArray 28))) := Lib.hid ((Go.RowKit.Below.refl _ w).alloc (Nat.le_refl _) _)
    have hX0 : Hid ((w.alloc (.cells (bv x.1).toArray 28)).rangeAt w.heap.size 0 (bv x.1)) := Lib.hid (fun j v hj => by rw [Go.cell_of_row _ _ _ _ _ _ (Go.heap_alloc_new w _)]; simpa using hj)
    have hs0 : Hid (w.heap.size < (w.alloc (.cells (bv x.1).toArray 28)).heap.size) := Lib.hid (by simp)
    have hC := Lib.hid hc
    have hlx := Lib.hid x.2
    clear hc
    go_enter Tryd.func19, Tryd.ntmps19
    go_wp2_with (refine x_bx rfl _ rfl _ rfl ?_)
    generalize w.alloc (.cells (bv x.1).toArray 28) = W0 at hW0 hX0 hs0 ⊢
    generalize hX : w.heap.size = X at hb hW0 hX0 hs0 ⊢
    have hHX := Lib.hid hX
    clear hX
    go_loopw [5] (fun s5 wr => ∃ k : Nat, k ≤ zs.length ∧ s5 = .int .i64 k ∧ Hid (x ∉ zs.take k) ∧ Hid (Go.RowKit.Below W0.heap.size W0 wr)) (fun s5 _ => zs.length - (intOf s5).toNat)
    case atStart => exact ⟨0, Nat.zero_le _, rfl, Lib.hid (by simp), Lib.hid (Go.RowKit.Below.refl _ _)⟩
    case round =>
      obtain ⟨k, hk, rfl, hno, hB⟩ := hrel
      have i0 : (0 : Int) ≤ k := by omega
      have i2 : (k : Int).toNat = k := by omega
      by_cases hlt : k < zs.length
      · have i1 : (k : Int) < zs.length := by omega
        have hw0 : Hid (Go.RowKit.Below X w wr) := Lib.hid (hW0.out.trans (hB.out.mono (by have := hs0.out; omega)))
        have hR := Lib.hid (range_below hw0.out hb (hC.out k hlt))
        have hRx := Lib.hid (range_below hB.out hs0.out hX0.out)
        have htk : Hid (zs.take (k + 1) = zs.take k ++ [zs[k]]) := Lib.hid (List.take_append_getElem hlt).symm
        have hmem : Hid (zs[k] ∈ zs) := Lib.hid (List.getElem_mem hlt)
        generalize zs[k] = y at hR htk hmem
        have hly := Lib.hid y.2
        obtain ⟨bq, hbq⟩ : ∃ bq, (y.1 == x.1) = bq := ⟨_, rfl⟩
        have hBq := Lib.hid hbq
        clear hbq
        obtain ⟨C2, hD1, hDn⟩ := XK.classD wr
        have hD1' := Lib.hid hD1
        have hDn' := Lib.hid hDn
        clear hD1 hDn
        go_wp2_with fail
        refine q_region C2 (by kernel_rfl) (by kernel_rfl) hD1'.out ?_
        repeat (first
          | (refine q_ld Tryd.arrRId _ rfl rfl b (off + k * 32) rfl y.1 hly.out (fun W hW => by obtain ⟨n, rfl⟩ := hDn'.out W hW; exact hR.out) ?_)
          | (refine q_ld Tryd.arrRId _ rfl rfl X 0 rfl x.1 hlx.out (fun W hW => by obtain ⟨n, rfl⟩ := hDn'.out W hW; exact hRx.out) ?_)
          | (refine q_eqt Tryd.arrRId _ _ _ rfl rfl y.1 x.1 rfl rfl hly.out hlx.out bq hBq.out ?_)
          | (refine wpQuiet_step (fun K hK => ?_)
             go_simp
             first
             | (refine hK _ ?_; clear hK K)
             | (apply Exists.intro
                refine ⟨fun W hW => ?_, hK _ ?_⟩
                first
                | exact rfl
                | exact ⟨rfl, rfl⟩
                clear hK K)))
        refine wpQuiet_nil ?_
        intro V2 hV2
        obtain ⟨n2, rfl⟩ := hDn'.out V2 hV2
        have hBm := Lib.hid (XK.below_drewN hB.out n2)
        have hwm := Lib.hid (XK.below_drewN hw0.out n2)
        clear hV2 hB hw0 hD1' hDn' hR hRx
        generalize wr.drewN n2 = V' at hBm hwm ⊢
        cases bq
        · go_wp2
          go_roundw
          case rel =>
            refine ⟨k + 1, by omega, by simp, Lib.hid ?_, hBm⟩
            rw [htk.out]
            have h1 := hBq.out
            rw [XK.beq_sub] at h1
            have h2 : y ≠ x := by simpa using h1
            intro h
            rcases List.mem_append.1 h with h | h
            · exact hno.out h
            · exact h2 (List.mem_singleton.1 h).symm
          case measure => simp [intOf]; omega
        · go_wp2
          go_ret
          refine ⟨?_, by rw [hHX.out]; exact hwm.out⟩
          have h1 := hBq.out
          rw [XK.beq_sub] at h1
          have h2 : y = x := by simpa using h1
          have h3 : memb x zs = true := by unfold memb; rw [decide_eq_true_eq, ← h2]; exact hmem.out
          rw [h3]
          rfl
      · obtain rfl : k = zs.length := by omega
        have h3 : Hid (memb x zs = false) := Lib.hid (by
          have := hno.out
          rw [List.take_length] at this
          unfold memb
          exact decide_eq_false this)
        go_wp2
        go_ret
        exact ⟨by rw [h3.out]; rfl, by rw [hHX.out]; exact hW0.out.trans (hB.out.mono (by have := hs0.out; omega))⟩
end Go.Proofs


/- the law's own conversion of a list -/
namespace Go.Proofs
open Go.RowKit Go.Shelf XK Go.Sort
set_option linter.unusedVariables false
theorem Tryd.infoRId : (Tryd.prog.info? 28).map (fun i => (i.zero, i.size, i.bytes)) = some (some (.agg (bv z32).toArray), 32, 32) := by kernel_rfl
set_option maxRecDepth 100000 in
set_option maxHeartbeats 2000000 in
theorem Tryd.to (zs : List I32) (hlim : zs.length ≤ 40) (sv : Value) (w : World) (hI : Ids w.heap.size w sv zs) :
    Calls Tryd.prog 7 #[sv] w fun e w' => ∃ v, e = .returned v ∧ w'.ownsRow w.heap.size 28 32 v zs.length (flat zs) ∧ Go.RowKit.Below w.heap.size w w' := by
  rcases hI with ⟨⟨a, cap, rfl⟩, rfl⟩ | ⟨b, off, cap, rfl, hb, hc⟩
  · go_enter Tryd.func7, Tryd.ntmps7
    go_wp2
    refine wp_loop_rounds 1 ?_
    rw [rounds_succ]
    go_wp2
    go_ret
    exact ⟨.slice none 0 0, rfl, World.ownsRow_nil _ _ _ _, Go.RowKit.Below.refl _ _⟩
  · have hC := Lib.hid hc
    clear hc
    go_enter Tryd.func7, Tryd.ntmps7
    go_wp2
    go_loopw [3, 4] (fun s3 s4 wr => ∃ k : Nat, k ≤ zs.length ∧ s4 = .int .i64 k ∧ Hid (wr.ownsRow w.heap.size 28 32 s3 k (flat (zs.take k))) ∧ Hid (Go.RowKit.Below w.heap.size w wr)) (fun _ s4 _ => zs.length - (intOf s4).toNat)
    case atStart => exact ⟨0, Nat.zero_le _, rfl, Lib.hid (by simpa [flat] using World.ownsRow_nil w w.heap.size 28 32), Lib.hid (Go.RowKit.Below.refl _ _)⟩
    case round =>
      obtain ⟨k, hk, rfl, hO, hB⟩ := hrel
      have i0 : (0 : Int) ≤ k := by omega
      have i2 : (k : Int).toNat = k := by omega
      by_cases hlt : k < zs.length
      · have i1 : (k : Int) < zs.length := by omega
        have i3 : decide ((k : Int) < zs.length) = true := by simp; omega
        have i4 : decide ((k : Int) < 40) = true := by simp; omega
        have hR := Lib.hid (range_below hB.out hb (hC.out k hlt))
        have htk : Hid (zs.take (k + 1) = zs.take k ++ [zs[k]]) := Lib.hid (List.take_append_getElem hlt).symm
        generalize zs[k] = y at hR htk
        have hly := Lib.hid y.2
        go_wp2_with (first
          | (refine x_ld Tryd.arrId rfl _ rfl _ _ rfl y.1 hly.out hR.out ?_)
          | (refine x_bsl Tryd.arrRId _ _ rfl rfl Tryd.underlying31 y.1 hly.out rfl ?_)
          | (at_builtin; refine x_app rfl _ _ 31 rfl w.heap.size 28 (.agg (bv z32).toArray) 32 32 Tryd.underlying31 Tryd.infoRId rfl (by decide) _ k _ rfl hO.out 1 (bv y.1) _ rfl rfl (by rw [bv_length, hly.out]) (bv_one y.1) (by omega) (by decide) hB.out.size ?_))
        intro v' w1 hown1 hg1 _ _
        obtain ⟨A, c, rfl⟩ := XK.own_slice hown1
        have hb1 : Hid (Go.RowKit.Below w.heap.size w w1) := Lib.hid (hB.out.grown hg1 hB.out.size (fun j e => (hO.out.lt j e).1))
        have hown2 : Hid (w1.ownsRow w.heap.size 28 32 (.slice A (k + 1) c) (k + 1) (flat (zs.take (k + 1)))) := Lib.hid (by
          rw [htk.out, flat_snoc]
          exact hown1)
        clear hown1 hg1 hB hO hR
        go_wp2
        go_roundw
        case rel => exact ⟨k + 1, by omega, by simp, hown2, hb1⟩
        case measure => simp [intOf]; omega
      · obtain rfl : k = zs.length := by omega
        have i3 : decide ((zs.length : Int) < zs.length) = false := by simp
        have hO2 := hO.out
        rw [List.take_length] at hO2
        obtain ⟨A, c, rfl⟩ := XK.own_slice hO2
        have hO3 := Lib.hid hO2
        clear hO2 hO
        go_wp2
        go_ret
        exact ⟨_, rfl, hO3.out, hB.out⟩
end Go.Proofs


/- the law's own comparison of two lists -/
namespace Go.Proofs
open Go.RowKit Go.Shelf XK Go.Sort
set_option linter.unusedVariables false
theorem XK.ne_len {a b : List I32} (h : a.length ≠ b.length) : decide (a = b) = false := decide_eq_false fun e => h (by rw [e])
end Go.Proofs

/- the law MsgidHas: for every list and identity it answers true; it leaves all that was there as it was -/
namespace Go.Proofs
open Go.RowKit Go.Shelf XK Go.Sort
set_option linter.unusedVariables false
set_option linter.unusedSimpArgs false
namespace XK
/-- the worlds behind V in which an array lies where it lay -/
theorem class1 {V : World} {A : Nat} {a : List UInt8} (hA : A < V.heap.size) (h1 : V.rangeAt A 0 (bv a)) :
    ∃ C : World → Prop, C V ∧ (∀ w, C w → C { w with drawn := w.drawn + 1 }) ∧ (∀ w, C w → Go.RowKit.Below V.heap.size V w) ∧ (∀ w w', C w → Go.RowKit.Below w.heap.size w w' → C w') ∧ (∀ w, C w → w.rangeAt A 0 (bv a)) :=
  ⟨fun w => Go.RowKit.Below V.heap.size V w, Go.RowKit.Below.refl _ _, fun w h => h.drew, fun w h => h, fun w w' h hb => h.trans (hb.mono h.size), fun w h => range_below h hA h1⟩
theorem Ids.take {n₀ : Nat} {W : World} {b off cap : Nat} {zs : List I32} (hb : b < n₀) (hc : ∀ j (h : j < zs.length), W.rangeAt b (off + j * 32) (bv zs[j].1)) (k : Nat) : Ids n₀ W (.slice (some ⟨b, off, none⟩) (zs.take k).length cap) (zs.take k) :=
  .inr ⟨b, off, cap, rfl, hb, fun j hj => by
    have hj' : j < zs.length := by rw [List.length_take] at hj; omega
    have := hc j hj'
    rwa [List.getElem_take]⟩
theorem ids_own {W : World} {base : Nat} {T : TypeId} {v : Value} {zs : List I32} (h : W.ownsRow base T 32 v zs.length (flat zs)) : Ids W.heap.size W v zs := by
  rcases h.2 with ⟨rfl, h0⟩ | ⟨g, cap, cur, rfl, _, hg, _, _, _, ht⟩
  · exact .inl ⟨⟨none, 0, rfl⟩, List.eq_nil_of_length_eq_zero h0⟩
  · refine .inr ⟨g, 0, cap, rfl, (Array.getElem?_eq_some_iff.1 hg).1, fun j hj i v hv => ?_⟩
    have h1 := flat_get zs j hj i v hv
    have h2 : j * 32 + i < zs.length * 32 := by
      have := (List.getElem?_eq_some_iff.1 h1).1
      rwa [flat_length] at this
    rw [← ht, List.getElem?_take, if_pos h2] at h1
    rw [Go.cell_of_row _ _ _ _ _ _ hg, Nat.zero_add, ← Array.getElem?_toList]
    exact h1
theorem mem_compact (d : Array I32) (x : I32) : ∀ m, m ≤ d.size → (x ∈ Lib.compactUpTo d m ↔ ∃ j, j < m ∧ d[j]! = x)
  | 0, _ => by simp [Lib.compactUpTo]
  | m + 1, h => by
    have ih := mem_compact d x m (by omega)
    rw [Lib.compactUpTo_succ, List.mem_append, ih]
    by_cases hk : Lib.keeps d m = true
    · rw [if_pos hk]
      simp only [List.mem_singleton]
      constructor
      · rintro (⟨j, hj, e⟩ | e)
        · exact ⟨j, by omega, e⟩
        · exact ⟨m, by omega, e.symm⟩
      · rintro ⟨j, hj, e⟩
        by_cases hjm : j = m
        · subst hjm; exact .inr e.symm
        · exact .inl ⟨j, by omega, e⟩
    · rw [if_neg hk]
      simp only [List.not_mem_nil, or_false]
      constructor
      · rintro ⟨j, hj, e⟩
        exact ⟨j, by omega, e⟩
      · rintro ⟨j, hj, e⟩
        by_cases hjm : j = m
        · subst hjm
          have h2 : ¬ (j = 0 ∨ d[j]! ≠ d[j - 1]!) := by simpa [Lib.keeps] using hk
          have h3 : j ≠ 0 := fun q => h2 (.inl q)
          have h4 : d[j]! = d[j - 1]! := Decidable.byContradiction fun q => h2 (.inr q)
          exact ⟨j - 1, by omega, by rw [← h4]; exact e⟩
        · exact ⟨j, by omega, e⟩
theorem mem_sset (zs : List I32) (x : I32) : x ∈ sset zs ↔ x ∈ zs := by
  rw [sset, mem_compact _ _ _ (Nat.le_refl _)]
  have h1 : x ∈ srt zs ↔ x ∈ zs := by simp [srt]
  rw [← h1, List.mem_iff_getElem]
  constructor
  · rintro ⟨j, hj, e⟩
    have hj' : j < (srt zs).length := by simpa using hj
    rw [getElem!_pos (srt zs).toArray j (by simpa using hj)] at e
    exact ⟨j, hj', by simpa using e⟩
  · rintro ⟨j, hj, e⟩
    refine ⟨j, by simpa using hj, ?_⟩
    rw [getElem!_pos (srt zs).toArray j (by simpa using hj)]
    simpa using e
theorem sset_length (zs : List I32) : (sset zs).length ≤ zs.length := by
  rw [sset, Lib.compactUpTo, List.length_map, List.size_toArray]
  exact Nat.le_trans (List.length_filter_le _ _) (by simp [srt])
theorem memb_sset (x : I32) (zs : List I32) : memb x (sset zs) = memb x zs := by
  unfold memb
  simp only [mem_sset]
end XK
end Go.Proofs


/- merge of two sorted lists -/
namespace Go.Proofs
open Go.RowKit Go.Shelf XK Go.Sort
set_option linter.unusedVariables false
set_option linter.unusedSimpArgs false
namespace XK
def mrg (keep : Bool → Bool → Bool) : List I32 → List I32 → List I32
  | [], [] => []
  | [], y :: b => (if keep false true then [y] else []) ++ mrg keep [] b
  | x :: a, [] => (if keep true false then [x] else []) ++ mrg keep a []
  | x :: a, y :: b => if cf x y < 0 then (if keep true false then [x] else []) ++ mrg keep a (y :: b) else if 0 < cf x y then (if keep false true then [y] else []) ++ mrg keep (x :: a) b else (if keep true true then [y] else []) ++ mrg keep a b
termination_by a b => a.length + b.length
/-- a slice that holds identities in w -/
def SL (w : World) (a : Option Addr) (n : Nat) (zs : List I32) : Prop :=
  n = zs.length ∧ (0 < n → ∃ b off, a = some ⟨b, off, none⟩ ∧ b < w.heap.size ∧ ∀ j (h : j < zs.length), w.rangeAt b (off + j * 32) (bv zs[j].1))
theorem SL.of {w : World} {sv : Value} {zs : List I32} (h : Ids w.heap.size w sv zs) : ∃ a n c, sv = .slice a n c ∧ SL w a n zs := by
  rcases h with ⟨⟨a, cap, rfl⟩, rfl⟩ | ⟨b, off, cap, rfl, hb, hc⟩
  · exact ⟨a, 0, cap, rfl, rfl, fun h => absurd h (Nat.lt_irrefl _)⟩
  · exact ⟨_, _, _, rfl, rfl, fun _ => ⟨b, off, rfl, hb, hc⟩⟩
theorem SL.tail {w : World} {g off m d : Nat} {y : I32} {zs : List I32} {b2 : Option Addr} (h : SL w (some ⟨g, off, none⟩) m (y :: zs)) (hd : m ≤ d) (hb : (if d = 1 then some ⟨g, off, none⟩ else some ⟨g, off + 32, none⟩ : Option Addr) = b2) : SL w b2 (m - 1) zs := by
  have h1 := h.1
  rw [List.length_cons] at h1
  refine ⟨by omega, fun h0 => ?_⟩
  rw [if_neg (by omega)] at hb
  obtain ⟨g', off', e, hg, hc⟩ := h.2 (by omega)
  cases e
  refine ⟨g, off + 32, hb.symm, hg, fun j hj => ?_⟩
  have := hc (j + 1) (by rw [List.length_cons]; omega)
  rw [show off + (j + 1) * 32 = off + 32 + j * 32 by omega] at this
  exact this
theorem grown_setCells (b : Nat) : ∀ (vs : List Value) (o : Nat) (W V : World), W.grownBy V (some b) → W.grownBy (V.setCells b o vs) (some b)
  | [], _, _, _, h => h
  | v :: vs, o, W, V, h => by
    rw [World.setCells]
    refine grown_setCells b vs (o + 1) W _ ?_
    have hs : (V.setCell ⟨b, o, none⟩ v).heap.size = V.heap.size := World.size_setCell V _ _
    exact ⟨h.os, h.tape, h.output, by rw [hs]; exact h.size, fun k hk hne => (Go.RowKit.Below.heap_setCell V ⟨b, o, none⟩ v k (fun e => hne (by rw [e]))).trans (h.block k hk hne)⟩
theorem store_new {X : Nat} {w V : World} {T : Nat} (hT : V.there T 0 32) (hX : X ≤ T) (hB : Go.RowKit.Below X w V) {ty : TypeId} {s9 : Value} {k : Nat} {xs : List Value} (hO : V.ownsRow X ty 32 s9 k xs) (hne : s9.ownBlock ≠ some T) (y : I32) :
    (V.setCells T 0 (bv y.1)).there T 0 32 ∧ Go.RowKit.Below X w (V.setCells T 0 (bv y.1)) ∧ (V.setCells T 0 (bv y.1)).ownsRow X ty 32 s9 k xs ∧ (V.setCells T 0 (bv y.1)).rangeAt T 0 (bv y.1) := by
  have hl : (bv y.1).length = 32 := by rw [bv_length, y.2]
  have hin := World.cell?_setCells_in T (bv y.1) 0 V (fun j hj => (hT j (by omega)).1)
  refine ⟨fun j hj => ?_, below_setCells T hX _ _ _ hB, hO.kept (grown_setCells T _ _ _ _ ⟨rfl, rfl, rfl, Nat.le_refl _, fun _ _ _ => rfl⟩) (.inr hne), fun j v hv => ?_⟩
  · rw [hin j (by omega), World.frozen?_setCells]
    exact ⟨rfl, (hT j hj).2⟩
  · have hj := (List.getElem?_eq_some_iff.1 hv).1
    rw [hin j hj]
    rw [List.getElem?_eq_getElem hj] at hv
    exact hv
theorem there_new (W : World) (t : TypeId) : (W.alloc (.cells (bv z32).toArray t)).there W.heap.size 0 32 := fun j hj => by
  have hl : (bv z32).length = 32 := rfl
  rw [Go.cell_of_row _ _ _ _ _ _ (Go.heap_alloc_new W _), Nat.zero_add]
  refine ⟨by simp [hj, hl], ?_⟩
  unfold World.frozen?
  rw [show (W.alloc (.cells (bv z32).toArray t)).heap[W.heap.size]? = _ from Go.heap_alloc_new W _]
  simp
theorem own_below {V V2 : World} {X : Nat} {ty : TypeId} {s9 : Value} {k : Nat} {xs : List Value} (h : V.ownsRow X ty 32 s9 k xs) (hb : Go.RowKit.Below V.heap.size V V2) : V2.ownsRow X ty 32 s9 k xs :=
  h.kept (row := none) ⟨hb.os, hb.tape, hb.output, hb.size, fun k hk _ => hb.block k hk⟩ (by cases s9.ownBlock <;> simp)
theorem there_lt {V : World} {T : Nat} (h : V.there T 0 32) : T < V.heap.size := by
  have h1 := (h 0 (by decide)).1
  unfold World.cell? at h1
  split at h1
  · rename_i hh
    exact (Array.getElem?_eq_some_iff.1 hh).1
  · cases h1
theorem own_ne {W : World} {X : Nat} {ty : TypeId} {s9 : Value} {k : Nat} {xs : List Value} (hO : W.ownsRow X ty 32 s9 k xs) : s9.ownBlock ≠ some W.heap.size := fun e => by
  rcases hO.2 with ⟨rfl, _⟩ | ⟨g, cap, cur, rfl, _, hg, _⟩
  · simp [Value.ownBlock] at e
  · have h1 : g = W.heap.size := by simpa [Value.ownBlock] using e
    have h2 := (Array.getElem?_eq_some_iff.1 hg).1
    omega
section
variable {P : Program} {md : Region.Mode} {ops : Array Oper} {Q : Exit → Act → World → Prop} {S : World → Prop}
theorem h_skip {i : Nat} {oi : Oper} {fuel : Nat} {listed : Array Bool} {a : Act} {w w' : World} (hr : Region.ready md ops listed = [i]) (hi : ops[i]? = some oi) (hw : Region.wanted oi (yielded ops a.tmps) = true)
    (hrun : (execOp a.eval oi).run P w = .ok .skip w') (hS : S w') (h : wpAnyH P md ops Q S fuel (listed.setIfInBounds i true) (a.put oi.dst undef) w') : wpAnyH P md ops Q S (fuel + 1) listed a w := by
  refine wpAnyH_all hr (by simp) fun j hj => ?_
  obtain rfl : j = i := by simpa using hj
  unfold wpOp
  rw [hi]
  show if Region.wanted oi (yielded ops a.tmps) = true then _ else _
  rw [if_pos hw]
  refine .inl ?_
  unfold Oper.wp
  rw [hrun]
  exact ⟨hS, h⟩
theorem run_st {T e : TypeId} (A : Arr P T e) {o : Oper} {a : Act} (x y : Operand) (ho : o.op = .store T x y) (b f : Nat) (hx : a.eval x = .pointer (some ⟨b, f, none⟩)) (l : List UInt8) (hy : a.eval y = .agg (bv l).toArray) (hl : l.length = 32) {w : World} (hc : w.there b f 32) :
    (execOp a.eval o).run P w = .ok .skip (w.setCells b f (bv l)) := by
  unfold execOp
  simp only [ho, hx, hy, Sem.run_bind, Sem.run_pure, run_storeAt_mid w b f T (bv l).toArray (by simpa [bv_length, hl] using hc) (by rw [A.st]; simp [bv_length, hl]) (all_oneCell_toArray (bv_one l)), Result.andThen_ok]
end
end XK
end Go.Proofs


/- Union, Minus and Both of two lists -/
namespace Go.Proofs
open Go.RowKit Go.Shelf XK Go.Sort
set_option linter.unusedVariables false
set_option linter.unusedSimpArgs false
namespace XK
theorem mrg_length (keep : Bool → Bool → Bool) (a b : List I32) : (mrg keep a b).length ≤ a.length + b.length := by
  fun_induction mrg keep a b <;> simp_all <;> (try split) <;> simp <;> omega
theorem SL.below {W W' : World} (hb : Go.RowKit.Below W.heap.size W W') {a : Option Addr} {n : Nat} {zs : List I32} (h : SL W a n zs) : SL W' a n zs :=
  ⟨h.1, fun h0 => by
    obtain ⟨b, off, e, hg, hc⟩ := h.2 h0
    exact ⟨b, off, e, Nat.lt_of_lt_of_le hg hb.size, fun j hj => range_below hb hg (hc j hj)⟩⟩
theorem OwnIds.sl {n₀ : Nat} {W : World} {v : Value} {zs : List I32} (h : OwnIds n₀ W v zs) : ∃ a n c, v = .slice a n c ∧ SL W a n zs ∧ n ≤ c := by
  have hi := h.ids
  rcases h with ⟨rfl, rfl⟩ | ⟨g, cap, rfl, _, hc, hg, hr⟩
  · exact ⟨none, 0, 0, rfl, ⟨rfl, fun h => absurd h (Nat.lt_irrefl _)⟩, Nat.le_refl _⟩
  · obtain ⟨a, n, c, e, hs⟩ := SL.of hi
    cases e
    exact ⟨_, _, _, rfl, hs, hc⟩
def kU : Bool → Bool → Bool := fun _ _ => true
def kM : Bool → Bool → Bool := fun p q => p && !q
def kB : Bool → Bool → Bool := fun p q => p && q
end XK
end Go.Proofs


/- sets of identities in plain Lean: strictly ascending lists and their merging -/
namespace Go.Proofs.XK
open Go.RowKit Go.Shelf Go.Sort
set_option linter.unusedVariables false
def Asc (l : List I32) : Prop := l.Pairwise fun x y => num x.1 < num y.1
theorem asc_unique : ∀ {a b : List I32}, Asc a → Asc b → (∀ x, x ∈ a ↔ x ∈ b) → a = b
  | [], [], _, _, _ => rfl
  | [], y :: b, _, _, h => absurd ((h y).2 (List.mem_cons_self ..)) (by simp)
  | x :: a, [], _, _, h => absurd ((h x).1 (List.mem_cons_self ..)) (by simp)
  | x :: a, y :: b, ha, hb, h => by
    obtain ⟨ha1, ha2⟩ := List.pairwise_cons.1 ha
    obtain ⟨hb1, hb2⟩ := List.pairwise_cons.1 hb
    have hxy : x = y := by
      rcases List.mem_cons.1 ((h x).1 (List.mem_cons_self ..)) with e | e
      · exact e
      · rcases List.mem_cons.1 ((h y).2 (List.mem_cons_self ..)) with e' | e'
        · exact e'.symm
        · have := hb1 x e
          have := ha1 y e'
          omega
    subst hxy
    rw [asc_unique ha2 hb2 fun z => ⟨fun hz => by
      rcases List.mem_cons.1 ((h z).1 (List.mem_cons_of_mem _ hz)) with e | e
      · subst e; have := ha1 z hz; omega
      · exact e, fun hz => by
      rcases List.mem_cons.1 ((h z).2 (List.mem_cons_of_mem _ hz)) with e | e
      · subst e; have := hb1 z hz; omega
      · exact e⟩]
theorem cf_lt (x y : I32) : cf x y < 0 ↔ num x.1 < num y.1 := by
  have := ltOf_cf x y
  unfold ltOf at this
  exact decide_eq_decide.1 this
theorem cf_gt (x y : I32) : 0 < cf x y ↔ num y.1 < num x.1 := by
  rw [← cf_lt y x]
  have : cf y x = - cf x y := cmp_neg x.1 y.1
  omega
/-- who is in a merged list -/
theorem mem_mrg (keep : Bool → Bool → Bool) (a b : List I32) (ha : Asc a) (hb : Asc b) (z : I32) :
    z ∈ mrg keep a b ↔ (z ∈ a ∧ z ∉ b ∧ keep true false = true) ∨ (z ∉ a ∧ z ∈ b ∧ keep false true = true) ∨ (z ∈ a ∧ z ∈ b ∧ keep true true = true) := by
  fun_induction mrg keep a b with
  | case1 => simp
  | case2 y b ih =>
    have := ih ha (List.pairwise_cons.1 hb).2
    rw [List.mem_append, this]
    have hn : ∀ w ∈ b, num y.1 < num w.1 := (List.pairwise_cons.1 hb).1
    by_cases hk : keep false true = true <;> simp [hk]
  | case3 x a ih =>
    have := ih (List.pairwise_cons.1 ha).2 hb
    rw [List.mem_append, this]
    by_cases hk : keep true false = true <;> simp [hk]
  | case4 x a y b h ih =>
    have hx := (cf_lt x y).1 h
    have ha1 := (List.pairwise_cons.1 ha).1
    have hb1 := (List.pairwise_cons.1 hb).1
    have := ih (List.pairwise_cons.1 ha).2 hb
    rw [List.mem_append, this]
    have hxb : x ∉ y :: b := fun hm => by
      rcases List.mem_cons.1 hm with e | e
      · rw [e] at hx; omega
      · have := hb1 x e; omega
    have hxa : x ∉ a := fun hm => by have := ha1 x hm; omega
    by_cases hz : z = x
    · subst hz
      by_cases hk : keep true false = true <;> simp [hk, hxb, hxa]
    · have hz1 : z ∈ x :: a ↔ z ∈ a := by simp [hz]
      have hz2 : z ∉ (if keep true false = true then [x] else []) := by split <;> simp [hz]
      simp only [hz1, hz2, false_or]
  | case5 x a y b h h2 ih =>
    have hy := (cf_gt x y).1 h2
    have ha1 := (List.pairwise_cons.1 ha).1
    have hb1 := (List.pairwise_cons.1 hb).1
    have := ih ha (List.pairwise_cons.1 hb).2
    rw [List.mem_append, this]
    have hya : y ∉ x :: a := fun hm => by
      rcases List.mem_cons.1 hm with e | e
      · rw [e] at hy; omega
      · have := ha1 y e; omega
    have hyb : y ∉ b := fun hm => by have := hb1 y hm; omega
    by_cases hz : z = y
    · subst hz
      by_cases hk : keep false true = true <;> simp [hk, hya, hyb]
    · have hz1 : z ∈ y :: b ↔ z ∈ b := by simp [hz]
      have hz2 : z ∉ (if keep false true = true then [y] else []) := by split <;> simp [hz]
      simp only [hz1, hz2, false_or]
  | case6 x a y b h h2 ih =>
    have hxy : x = y := by
      apply num_inj
      have h3 : ¬ num x.1 < num y.1 := fun q => h ((cf_lt x y).2 q)
      have h4 : ¬ num y.1 < num x.1 := fun q => h2 ((cf_gt x y).2 q)
      omega
    subst hxy
    have ha1 := (List.pairwise_cons.1 ha).1
    have hb1 := (List.pairwise_cons.1 hb).1
    have := ih (List.pairwise_cons.1 ha).2 (List.pairwise_cons.1 hb).2
    rw [List.mem_append, this]
    have hxa : x ∉ a := fun hm => by have := ha1 x hm; omega
    have hxb : x ∉ b := fun hm => by have := hb1 x hm; omega
    by_cases hz : z = x
    · subst hz
      by_cases hk : keep true true = true <;> simp [hk, hxa, hxb]
    · have hz1 : z ∈ x :: a ↔ z ∈ a := by simp [hz]
      have hz3 : z ∈ x :: b ↔ z ∈ b := by simp [hz]
      have hz2 : z ∉ (if keep true true = true then [x] else []) := by split <;> simp [hz]
      simp only [hz1, hz2, hz3, false_or]
theorem mrg_asc (keep : Bool → Bool → Bool) (a b : List I32) (ha : Asc a) (hb : Asc b) : Asc (mrg keep a b) := by
  have cons : ∀ (p : Bool) (x : I32) (l : List I32), Asc l → (∀ z ∈ l, num x.1 < num z.1) → Asc ((if p = true then [x] else []) ++ l) := fun p x l hl hx => by
    cases p
    · simpa using hl
    · exact List.pairwise_cons.2 ⟨hx, hl⟩
  fun_induction mrg keep a b with
  | case1 => exact List.Pairwise.nil
  | case2 y b ih =>
    obtain ⟨hb1, hb2⟩ := List.pairwise_cons.1 hb
    refine cons _ _ _ (ih ha hb2) fun z hz => ?_
    rcases (mem_mrg keep [] b ha hb2 z).1 hz with h | h | h
    · exact absurd h.1 (by simp)
    · exact hb1 z h.2.1
    · exact hb1 z h.2.1
  | case3 x a ih =>
    obtain ⟨ha1, ha2⟩ := List.pairwise_cons.1 ha
    refine cons _ _ _ (ih ha2 hb) fun z hz => ?_
    rcases (mem_mrg keep a [] ha2 hb z).1 hz with h | h | h
    · exact ha1 z h.1
    · exact absurd h.2.1 (by simp)
    · exact ha1 z h.1
  | case4 x a y b h ih =>
    have hx := (cf_lt x y).1 h
    obtain ⟨ha1, ha2⟩ := List.pairwise_cons.1 ha
    have hb1 := (List.pairwise_cons.1 hb).1
    have hy : ∀ z ∈ y :: b, num x.1 < num z.1 := fun z hz => by
      rcases List.mem_cons.1 hz with e | e
      · rw [e]; exact hx
      · have := hb1 z e; omega
    refine cons _ _ _ (ih ha2 hb) fun z hz => ?_
    rcases (mem_mrg keep a (y :: b) ha2 hb z).1 hz with h | h | h
    · exact ha1 z h.1
    · exact hy z h.2.1
    · exact ha1 z h.1
  | case5 x a y b h h2 ih =>
    have hy := (cf_gt x y).1 h2
    have ha1 := (List.pairwise_cons.1 ha).1
    obtain ⟨hb1, hb2⟩ := List.pairwise_cons.1 hb
    have hx : ∀ z ∈ x :: a, num y.1 < num z.1 := fun z hz => by
      rcases List.mem_cons.1 hz with e | e
      · rw [e]; exact hy
      · have := ha1 z e; omega
    refine cons _ _ _ (ih ha hb2) fun z hz => ?_
    rcases (mem_mrg keep (x :: a) b ha hb2 z).1 hz with h | h | h
    · exact hx z h.1
    · exact hb1 z h.2.1
    · exact hb1 z h.2.1
  | case6 x a y b h h2 ih =>
    have hxy : x = y := by
      apply num_inj
      have h3 : ¬ num x.1 < num y.1 := fun q => h ((cf_lt x y).2 q)
      have h4 : ¬ num y.1 < num x.1 := fun q => h2 ((cf_gt x y).2 q)
      omega
    subst hxy
    obtain ⟨ha1, ha2⟩ := List.pairwise_cons.1 ha
    obtain ⟨hb1, hb2⟩ := List.pairwise_cons.1 hb
    refine cons _ _ _ (ih ha2 hb2) fun z hz => ?_
    rcases (mem_mrg keep a b ha2 hb2 z).1 hz with h | h | h
    · exact ha1 z h.1
    · exact hb1 z h.2.1
    · exact ha1 z h.1
theorem srt_le (zs : List I32) : (srt zs).Pairwise fun x y => num x.1 ≤ num y.1 := by
  have h := List.pairwise_mergeSort (le := fun x y => !(ltOf cf) y x) (fun a b c h1 h2 => by rw [ltOf_cf] at *; simp at *; omega) (fun a b => by rw [ltOf_cf, ltOf_cf]; simp; omega) zs
  refine h.imp fun {x y} h => ?_
  rw [ltOf_cf] at h
  simpa using h
theorem compact_asc (d : Array I32) (hd : ∀ i j, i ≤ j → j < d.size → num d[i]!.1 ≤ num d[j]!.1) : ∀ m, m ≤ d.size → Asc (Lib.compactUpTo d m)
  | 0, _ => by simp [Lib.compactUpTo, Asc]
  | m + 1, h => by
    have ih := compact_asc d hd m (by omega)
    rw [Lib.compactUpTo_succ]
    by_cases hk : Lib.keeps d m = true
    · rw [if_pos hk]
      refine List.pairwise_append.2 ⟨ih, List.pairwise_singleton _ _, fun x hx y hy => ?_⟩
      obtain ⟨j, hj, rfl⟩ := (mem_compact d x m (by omega)).1 hx
      rw [List.mem_singleton.1 hy]
      have h2 : m = 0 ∨ d[m]! ≠ d[m - 1]! := by simpa [Lib.keeps] using hk
      have h3 : d[m]! ≠ d[m - 1]! := by
        rcases h2 with e | e
        · omega
        · exact e
      have h4 := hd j (m - 1) (by omega) (by omega)
      have h5 := hd (m - 1) m (by omega) (by omega)
      have h6 : num d[m]!.1 ≠ num d[m - 1]!.1 := fun e => h3 (num_inj _ _ e)
      omega
    · rw [if_neg hk, List.append_nil]
      exact ih
theorem sset_asc (zs : List I32) : Asc (sset zs) := by
  refine compact_asc _ (fun i j hij hj => ?_) _ (Nat.le_refl _)
  have hj' : j < (srt zs).length := by simpa using hj
  rw [getElem!_pos (srt zs).toArray i (by simp; omega), getElem!_pos (srt zs).toArray j (by simpa using hj)]
  rcases Nat.lt_or_eq_of_le hij with h | h
  · have := List.pairwise_iff_getElem.1 (srt_le zs) i j (by omega) hj' h
    simpa using this
  · subst h; exact Nat.le_refl _
/-- the two equations of the law -/
theorem algebra1 (a b c : List I32) : mrg kM (sset a) (sset (mrg kU (sset b) (sset c))) = mrg kM (sset (mrg kM (sset a) (sset b))) (sset c) := by
  refine asc_unique (mrg_asc _ _ _ (sset_asc _) (sset_asc _)) (mrg_asc _ _ _ (sset_asc _) (sset_asc _)) fun z => ?_
  simp only [mem_mrg, sset_asc, mem_sset, kM, kU]
  by_cases h1 : z ∈ a <;> by_cases h2 : z ∈ b <;> by_cases h3 : z ∈ c <;> simp [h1, h2, h3]
theorem algebra2 (a b : List I32) : mrg kU (sset (mrg kB (sset a) (sset b))) (sset (mrg kM (sset a) (sset b))) = sset a := by
  refine asc_unique (mrg_asc _ _ _ (sset_asc _) (sset_asc _)) (sset_asc _) fun z => ?_
  simp only [mem_mrg, sset_asc, mem_sset, kM, kU, kB]
  by_cases h1 : z ∈ a <;> by_cases h2 : z ∈ b <;> simp [h1, h2]
end Go.Proofs.XK


/- steps for a statement that builds and appends in an order that is drawn -/
namespace Go.Proofs.XK
open Go.RowKit
set_option linter.unusedVariables false
section
variable {P : Program} {md : Region.Mode} {ops : Array Oper} {Q : Exit → Act → World → Prop} {S : World → Prop}
/-- an operation that may come up first, gives a value and may change the world -/
theorem h_upd {i : Nat} {oi : Oper} {fuel : Nat} {listed : Array Bool} {a : Act} {w w' : World} {v : Value} {rs : List Nat} (hi : ops[i]? = some oi) (hw : Region.wanted oi (yielded ops a.tmps) = true)
    (hrun : (execOp a.eval oi).run P w = .ok (.value v) w') (hS : S w') (h : wpAnyH P md ops Q S fuel (listed.setIfInBounds i true) (a.put oi.dst v) w') (hs : AllReadyH P md ops Q S fuel listed a w rs) : AllReadyH P md ops Q S fuel listed a w (i :: rs) := fun j hj => by
  rcases List.mem_cons.1 hj with rfl | hj
  · unfold wpOp
    rw [hi]
    show if Region.wanted oi (yielded ops a.tmps) = true then _ else _
    rw [if_pos hw]
    refine .inl ?_
    unfold Oper.wp
    rw [hrun]
    exact ⟨hS, h⟩
  · exact hs j hj
/-- an empty list, built -/
theorem run_bsl0 {T e U : TypeId} (A : Arr P T e) (hU : P.underlying U = some (.slice T)) (w : World) : (Instr.buildSlice U 0 #[]).run P w = .ok (.slice (some ⟨w.heap.size, 0, none⟩) 0 0) (w.alloc (.cells #[] T)) := by
  have h2 := A.st
  have h3 : (sizeOf T).run P w = .ok 32 w := by
    cases hq : P.info? T with
    | none => simp [hq] at h2
    | some j =>
      have : j.size = 32 := by simpa [hq] using h2
      simp [sizeOf, typeInfo, hq, this]
  unfold Instr.buildSlice
  simp only [Sem.run_bind, run_underlying hU, Result.andThen_ok, h3, Nat.zero_mul]
  rw [if_neg (by decide), if_pos trivial]
  simp [Instr.fill, newRow, newObj]
  have h1 : (Array.range 0).map (fun (x : Nat) => (default : Value)) = #[] := by rw [show Array.range 0 = #[] from by simp [Array.range]]; simp
  rw [h1]
  rfl
theorem own_new (w : World) (T : TypeId) : (w.alloc (.cells #[] T)).ownsRow w.heap.size T 32 (.slice (some ⟨w.heap.size, 0, none⟩) 0 0) 0 [] :=
  ⟨rfl, .inr ⟨w.heap.size, 0, #[], rfl, Nat.le_refl _, Go.heap_alloc_new w _, Nat.le_refl _, Nat.zero_le _, rfl, rfl⟩⟩
/-- the cells of a slice that holds identities -/
theorem ids_cells {n₀ : Nat} {W : World} {b off : Nat} {zs : List I32} (hc : ∀ j (h : j < zs.length), W.rangeAt b (off + j * 32) (bv zs[j].1)) :
    ∀ j u, (flat zs)[j]? = some u → W.cell? ((⟨b, off, none⟩ : Addr).add j) = some u := fun j u hj => by
  have h1 := (List.getElem?_eq_some_iff.1 hj).1
  rw [flat_length] at h1
  have hq : j / 32 < zs.length := by omega
  have hm : j % 32 < 32 := Nat.mod_lt _ (by decide)
  have h2 : (bv zs[j / 32].1)[j % 32]? = some (.int .u8 (zs[j / 32].1.getD (j % 32) 0).toNat) := bv_get _ _ (by rw [zs[j / 32].2]; exact hm)
  have h3 := flat_get zs (j / 32) hq (j % 32) _ h2
  rw [show j / 32 * 32 + j % 32 = j by omega, hj] at h3
  have h4 := hc (j / 32) hq (j % 32) _ h2
  rw [Addr.add_mid]
  rw [show off + j / 32 * 32 + j % 32 = off + j by omega] at h4
  rw [h4, h3]
/-- append of a list of identities, wherever it lies, to a row of the call's own -/
theorem run_app_ids {T e U ty : TypeId} (A : Arr P T e) (hU : P.underlying U = some (.slice T)) (hinfo : (P.info? T).map (fun i => (i.zero, i.size, i.bytes)) = some (some (.agg (bv z32).toArray), 32, 32)) (w : World) (base : Nat) (v : Value) (n : Nat) (xs : List Value) (hown : w.ownsRow base T 32 v n xs) {n₀ : Nat} (sv : Value) (zs : List I32) (hI : Ids n₀ w sv zs)
    (hlim : n + zs.length ≤ 4000) (hbase : base ≤ w.heap.size) :
    ∃ v' w', (Builtin.append_ #[U, U] ty #[v, sv]).run P w = .ok v' w' ∧ w'.ownsRow base T 32 v' (n + zs.length) (xs ++ flat zs) ∧ w.grownBy w' v.ownBlock ∧ (v'.ownBlock = v.ownBlock ∨ v'.ownBlock = some w.heap.size) := by
  obtain ⟨i0, hi, hz0, hz1, hz2⟩ := info_parts hinfo
  rcases hI with ⟨⟨a, cap, rfl⟩, rfl⟩ | ⟨b, off, cap, rfl, hb, hc⟩
  · cases a with
    | some a =>
      obtain ⟨v', w', h1, h2, h3, _, h5⟩ := run_append_own_at (P := P) w base U ty T i0 _ 32 32 hU hi hz0 hz1 hz2 rfl (by decide) v n xs hown a 0 cap [] rfl (by simp) (by simp) (by simp only [maxLen]; simp at hlim; omega) (by simp at hlim; omega) hbase
      exact ⟨v', w', h1, by simpa [flat] using h2, h3, h5⟩
    | none =>
      refine ⟨v, w, ?_, by simpa [flat] using hown, World.grownBy.refl w _, .inl rfl⟩
      rcases hown.2 with ⟨rfl, rfl⟩ | ⟨g, c, cur, rfl, _, _, hnc, _, _, _⟩
      · simp [Builtin.append_, run_underlying hU, sizeOf, typeInfo, hi, Builtin.lenOf, Builtin.firstCells]
      · simp [Builtin.append_, run_underlying hU, sizeOf, typeInfo, hi, Builtin.lenOf, Builtin.firstCells, hnc, storeCells]
  · obtain ⟨v', w', h1, h2, h3, _, h5⟩ := run_append_own_at (P := P) w base U ty T i0 _ 32 32 hU hi hz0 hz1 hz2 rfl (by decide) v n xs hown ⟨b, off, none⟩ zs.length cap (flat zs) (flat_length zs) (ids_cells (n₀ := n₀) hc) (flat_one zs) (by simp only [maxLen]; omega) (by omega) hbase
    exact ⟨v', w', h1, h2, h3, h5⟩
theorem h_app {i : Nat} {oi : Oper} {fuel : Nat} {listed : Array Bool} {a : Act} {w : World} {rs : List Nat} {T e U : TypeId} (A : Arr P T e) (hU : P.underlying U = some (.slice T)) (hinfo : (P.info? T).map (fun i => (i.zero, i.size, i.bytes)) = some (some (.agg (bv z32).toArray), 32, 32))
    (hi : ops[i]? = some oi) (hw : Region.wanted oi (yielded ops a.tmps) = true) (s x : Operand) (ho : oi.op = .call { callee := .builtin .append, args := #[s, x], argTypes := #[U, U] }) (base : Nat) (v : Value) (n : Nat) (xs : List Value) (hs : a.eval s = v) (hown : w.ownsRow base T 32 v n xs) {n₀ : Nat} (sv : Value) (zs : List I32) (hx : a.eval x = sv) (hI : Ids n₀ w sv zs)
    (hlim : n + zs.length ≤ 4000) (hbase : base ≤ w.heap.size)
    (h : ∀ v' w', w'.ownsRow base T 32 v' (n + zs.length) (xs ++ flat zs) → w.grownBy w' v.ownBlock → S w' ∧ wpAnyH P md ops Q S fuel (listed.setIfInBounds i true) (a.put oi.dst v') w') (hrs : AllReadyH P md ops Q S fuel listed a w rs) : AllReadyH P md ops Q S fuel listed a w (i :: rs) := by
  obtain ⟨v', w', h1, h2, h3, _⟩ := run_app_ids (P := P) (ty := oi.type) A hU hinfo w base v n xs hown sv zs hI hlim hbase
  refine h_upd hi hw (v := v') (w' := w') ?_ (h v' w' h2 h3).1 (h v' w' h2 h3).2 hrs
  unfold execOp
  simp only [ho, resolve, invoke, builtin, Sem.run_bind, Sem.run_pure, Result.andThen_ok, List.map_toArray, List.map_cons, List.map_nil, hs, hx, h1]
theorem x_appids {Q : Exit → Act → World → Prop} {ops : Array Oper} {rest : List Oper} {o : Oper} {a : Act} {w : World} {T e U : TypeId} (A : Arr P T e) (hU : P.underlying U = some (.slice T)) (hinfo : (P.info? T).map (fun i => (i.zero, i.size, i.bytes)) = some (some (.agg (bv z32).toArray), 32, 32))
    (hw : Region.wanted o (yielded ops a.tmps) = true) (s x : Operand) (ho : o.op = .call { callee := .builtin .append, args := #[s, x], argTypes := #[U, U] }) (base : Nat) (v : Value) (n : Nat) (xs : List Value) (hs : a.eval s = v) (hown : w.ownsRow base T 32 v n xs) {n₀ : Nat} (sv : Value) (zs : List I32) (hx : a.eval x = sv) (hI : Ids n₀ w sv zs)
    (hlim : n + zs.length ≤ 4000) (hbase : base ≤ w.heap.size)
    (h : ∀ v' w', w'.ownsRow base T 32 v' (n + zs.length) (xs ++ flat zs) → w.grownBy w' v.ownBlock → wpList P ops Q rest (a.put o.dst v') w') : wpList P ops Q (o :: rest) a w := by
  obtain ⟨v', w', h1, h2, h3, _⟩ := run_app_ids (P := P) (ty := o.type) A hU hinfo w base v n xs hown sv zs hI hlim hbase
  refine x_val hw (v := v') (w' := w') ?_ (h v' w' h2 h3)
  unfold execOp
  simp only [ho, resolve, invoke, builtin, Sem.run_bind, Sem.run_pure, Result.andThen_ok, List.map_toArray, List.map_cons, List.map_nil, hs, hx, h1]
theorem h_b0 {i : Nat} {oi : Oper} {fuel : Nat} {listed : Array Bool} {a : Act} {w : World} {rs : List Nat} {T e U : TypeId} (A : Arr P T e) (hU : P.underlying U = some (.slice T))
    (hi : ops[i]? = some oi) (hw : Region.wanted oi (yielded ops a.tmps) = true) (ho : oi.op = .buildSlice U 0 #[])
    (hS : S (w.alloc (.cells #[] T))) (h : wpAnyH P md ops Q S fuel (listed.setIfInBounds i true) (a.put oi.dst (.slice (some ⟨w.heap.size, 0, none⟩) 0 0)) (w.alloc (.cells #[] T))) (hrs : AllReadyH P md ops Q S fuel listed a w rs) : AllReadyH P md ops Q S fuel listed a w (i :: rs) := by
  refine h_upd hi hw (v := .slice (some ⟨w.heap.size, 0, none⟩) 0 0) (w' := w.alloc (.cells #[] T)) ?_ hS h hrs
  have := run_bsl0 (P := P) A hU w
  unfold execOp
  simp only [ho, List.map_toArray, List.map_nil, Sem.run_bind, this, Result.andThen_ok, Sem.run_pure]
theorem h_b1 {i : Nat} {oi : Oper} {fuel : Nat} {listed : Array Bool} {a : Act} {w : World} {rs : List Nat} {T e U : TypeId} (A : Arr P T e) (hU : P.underlying U = some (.slice T))
    (hi : ops[i]? = some oi) (hw : Region.wanted oi (yielded ops a.tmps) = true) (x : Operand) (ho : oi.op = .buildSlice U 1 #[(0, x)]) (l : List UInt8) (hl : l.length = 32) (hx : a.eval x = .agg (bv l).toArray)
    (hS : S (w.alloc (.cells (bv l).toArray T))) (h : wpAnyH P md ops Q S fuel (listed.setIfInBounds i true) (a.put oi.dst (.slice (some ⟨w.heap.size, 0, none⟩) 1 1)) (w.alloc (.cells (bv l).toArray T))) (hrs : AllReadyH P md ops Q S fuel listed a w rs) : AllReadyH P md ops Q S fuel listed a w (i :: rs) := by
  refine h_upd hi hw (v := .slice (some ⟨w.heap.size, 0, none⟩) 1 1) (w' := w.alloc (.cells (bv l).toArray T)) ?_ hS h hrs
  have := run_buildSlice_arr (P := P) w A hU l hl
  unfold execOp
  simp only [ho, List.map_toArray, List.map_cons, List.map_nil, hx, Sem.run_bind, this, Result.andThen_ok, Sem.run_pure]
/-- one identity in a block of its own -/
theorem one_new (w : World) (x : I32) (T : TypeId) : (w.alloc (.cells (bv x.1).toArray T)).rangeAt w.heap.size 0 (bv x.1) := fun j v hj => by
  rw [Go.cell_of_row _ _ _ _ _ _ (Go.heap_alloc_new w _)]; simpa using hj
theorem one_ids {W : World} {b c : Nat} {x : I32} (hb : b < W.heap.size) (h : W.rangeAt b 0 (bv x.1)) : Ids W.heap.size W (.slice (some ⟨b, 0, none⟩) 1 c) [x] :=
  .inr ⟨b, 0, c, rfl, hb, fun j hj => by
    obtain rfl : j = 0 := by simp at hj; omega
    simpa using h⟩
theorem range_grown {W W' : World} {row : Option Nat} {b o : Nat} {cs : List Value} (h : W.grownBy W' row) (hb : b < W.heap.size) (hn : some b ≠ row) (hr : W.rangeAt b o cs) : W'.rangeAt b o cs := fun j v hj => by
  rw [World.cell?_of_block (w := W) (h.block b hb hn)]; exact hr j v hj
theorem own_base {W : World} {B B' : Nat} {T : TypeId} {v : Value} {n : Nat} {xs : List Value} (hB : B' ≤ B) (h : W.ownsRow B T 32 v n xs) : W.ownsRow B' T 32 v n xs :=
  ⟨h.1, h.2.elim .inl fun ⟨g, cap, cur, h1, h2, h3⟩ => .inr ⟨g, cap, cur, h1, Nat.le_trans hB h2, h3⟩⟩
/-- the two parts of a list of the call's own -/
theorem ids_head {W : World} {base : Nat} {T : TypeId} {g c : Nat} {zs : List I32} (h : W.ownsRow base T 32 (.slice (some ⟨g, 0, none⟩) zs.length c) zs.length (flat zs)) (t : Nat) (ht : t ≤ zs.length) : Ids W.heap.size W (.slice (some ⟨g, 0, none⟩) t c) (zs.take t) := by
  rcases ids_own h with ⟨⟨a', c', e⟩, e2⟩ | ⟨b', off', c', e, hb', hc'⟩
  · subst e2
    exact .inl ⟨⟨_, _, by rw [show t = 0 from by simpa using ht]⟩, by simp⟩
  · cases e
    have := Ids.take (cap := c) hb' hc' t
    rwa [List.length_take, Nat.min_eq_left ht] at this
theorem ids_tail {W : World} {base : Nat} {T : TypeId} {g c : Nat} {zs : List I32} (h : W.ownsRow base T 32 (.slice (some ⟨g, 0, none⟩) zs.length c) zs.length (flat zs)) (t : Nat) (ht : t ≤ zs.length) (b2 : Option Addr) (hb2 : (if t = c then some ⟨g, 0, none⟩ else some ⟨g, t * 32, none⟩ : Option Addr) = b2) : Ids W.heap.size W (.slice b2 (zs.length - t) (c - t)) (zs.drop t) := by
  have hc : zs.length ≤ c := by
    rcases h.2 with ⟨e, _⟩ | ⟨g', cap, cur, e, _, _, h5, _⟩
    · cases e
    · cases e; exact h5
  rcases Nat.lt_or_ge t zs.length with hlt | hge
  · rw [if_neg (by omega)] at hb2
    subst hb2
    rcases ids_own h with ⟨⟨a', c', e⟩, e2⟩ | ⟨b', off', c', e, hb', hc'⟩
    · rw [e2] at hlt; simp at hlt
    · cases e
      refine .inr ⟨g, t * 32, c - t, by rw [List.length_drop], hb', fun j hj => ?_⟩
      rw [List.length_drop] at hj
      have h1 := hc' (t + j) (by omega)
      rw [Nat.zero_add, Nat.add_mul] at h1
      rwa [List.getElem_drop]
  · exact .inl ⟨⟨b2, c - t, by rw [Nat.sub_eq_zero_of_le hge]⟩, List.drop_eq_nil_of_le hge⟩
theorem own_cases {W : World} {base : Nat} {T : TypeId} {A : Option Addr} {c : Nat} {zs : List I32} (h : W.ownsRow base T 32 (.slice A zs.length c) zs.length (flat zs)) : (A = none ∧ c = 0 ∧ zs = []) ∨ ∃ g, A = some ⟨g, 0, none⟩ ∧ zs.length ≤ c := by
  rcases h.2 with ⟨e, h0⟩ | ⟨g, cap, cur, e, _, _, h5, _⟩
  · have h1 := List.eq_nil_of_length_eq_zero h0
    subst h1
    cases e
    exact .inl ⟨rfl, rfl, rfl⟩
  · cases e
    exact .inr ⟨g, rfl, h5⟩
/-- an identity put in where it belongs -/
theorem ins_asc (out : List I32) (x : I32) (t : Nat) (ht : t ≤ out.length) (hA : Asc out) (hx : x ∉ out) (hpre : ∀ j (h : j < out.length), j < t → cf out[j] x < 0) (hpost : t = out.length ∨ ∃ h : t < out.length, 0 ≤ cf out[t] x) : Asc (out.take t ++ x :: out.drop t) := by
  have hAp := List.pairwise_iff_getElem.1 hA
  refine List.pairwise_append.2 ⟨hA.sublist (List.take_sublist _ _), List.pairwise_cons.2 ⟨fun y hy => ?_, hA.sublist (List.drop_sublist _ _)⟩, fun a ha b hb => ?_⟩
  · obtain ⟨j, hj, rfl⟩ := List.mem_iff_getElem.1 hy
    rw [List.length_drop] at hj
    rw [List.getElem_drop]
    rcases hpost with e | ⟨h, h0⟩
    · omega
    · have h1 : num x.1 ≤ num out[t].1 := by
        rcases Nat.lt_or_ge (num out[t].1) (num x.1) with q | q
        · exact absurd ((cf_lt _ _).2 q) (by omega)
        · exact q
      have h2 : num x.1 ≠ num out[t].1 := fun q => hx (by rw [num_inj _ _ q]; exact List.getElem_mem h)
      rcases Nat.eq_zero_or_pos j with rfl | hj0
      · have e0 : out[t + 0] = out[t] := rfl
        rw [e0]; omega
      · have := hAp t (t + j) h (by omega) (by omega)
        omega
  · obtain ⟨j, hj, rfl⟩ := List.mem_iff_getElem.1 ha
    rw [List.length_take] at hj
    rw [List.getElem_take]
    have h1 := (cf_lt _ _).1 (hpre j (by omega) (by omega))
    rcases List.mem_cons.1 hb with rfl | hb
    · exact h1
    · obtain ⟨k, hk, rfl⟩ := List.mem_iff_getElem.1 hb
      rw [List.length_drop] at hk
      rw [List.getElem_drop]
      exact hAp j (t + k) (by omega) (by omega) (by omega)
theorem ins_mem (out : List I32) (x : I32) (t : Nat) (z : I32) : z ∈ out.take t ++ x :: out.drop t ↔ z ∈ out ∨ z = x := by
  have h : z ∈ out ↔ z ∈ out.take t ∨ z ∈ out.drop t := by rw [← List.mem_append, List.take_append_drop]
  rw [List.mem_append, List.mem_cons, h]
  constructor
  · rintro (h | rfl | h)
    · exact .inl (.inl h)
    · exact .inr rfl
    · exact .inl (.inr h)
  · rintro ((h | h) | rfl)
    · exact .inl h
    · exact .inr (.inr h)
    · exact .inr (.inl rfl)
end
end Go.Proofs.XK
