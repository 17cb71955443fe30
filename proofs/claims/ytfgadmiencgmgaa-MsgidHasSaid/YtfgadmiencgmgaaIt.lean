/- slices.Values over a list of identities hands back an iterator that gives them in their order -/
import Derived.RangeFuncNested
import Derived.RangeFuncBound
import Derived.RangeFuncCalls
import Derived.RangeFuncLeaves
import Derived.RangeFuncBox
import Derived.Shelf.Abstract
import Derived.Shelf.RegionOpen
import Derived.WalkKit
import Derived.OwnWalkIn
import Derived.TacticsInMore
import Derived.LoopNIn
import Derived.LoopIn
import Derived.Maps.AppendAt
import Derived.Test.YtfgadmiencgmgaaA
namespace Go.Proofs
open Go.RowKit Go.Shelf XK
attribute [local go_sem] Oper.semAt_some
/-- an identity -/
abbrev XK.I32 := { l : List UInt8 // l.length = 32 }
namespace XK
def iv (x : I32) : Value := .agg (bv x.1).toArray
/-- a slice value that holds identities, in a block below n₀ -/
def Ids (n₀ : Nat) (W : World) (sv : Value) (zs : List I32) : Prop :=
  ((∃ a cap, sv = .slice a 0 cap) ∧ zs = []) ∨ ∃ b off cap, sv = .slice (some ⟨b, off, none⟩) zs.length cap ∧ b < n₀ ∧ ∀ j (h : j < zs.length), W.rangeAt b (off + j * 32) (bv zs[j].1)
theorem range_below {n₀ : Nat} {A B : World} (h : Below n₀ A B) {b o : Nat} {cs : List Value} (hb : b < n₀) (hr : A.rangeAt b o cs) : B.rangeAt b o cs := fun j v hj => by
  rw [h.cell (p := ⟨b, o + j, none⟩) hb]; exact hr j v hj
theorem Ids.below {n₀ : Nat} {A B : World} (h : Below n₀ A B) {sv : Value} {zs : List I32} : Ids n₀ A sv zs → Ids n₀ B sv zs
  | .inl e => .inl e
  | .inr ⟨b, off, cap, e, hb, hc⟩ => .inr ⟨b, off, cap, e, hb, fun j hj => range_below h hb (hc j hj)⟩
theorem Ids.mono {n₀ n₁ : Nat} {A : World} (h : n₀ ≤ n₁) {sv : Value} {zs : List I32} : Ids n₀ A sv zs → Ids n₁ A sv zs
  | .inl e => .inl e
  | .inr ⟨b, off, cap, e, hb, hc⟩ => .inr ⟨b, off, cap, e, by omega, hc⟩
section
variable {F : Fence} {n : Nat} {P : Program} {T e : TypeId} {ops : Array Oper} {rest : List Oper} {o : Oper} {a : Act} {w : World} {Q : Exit → Act → World → Prop}
theorem y_want (hw : Region.wanted o (yielded ops a.tmps) = true) (h : o.wpIn F n P a w (wpListIn F n P ops Q rest) Q) : wpListIn F n P ops Q (o :: rest) a w := by
  unfold wpListIn
  rw [if_pos hw]
  exact h
theorem y_val {v : Value} {w' : World} (hw : Region.wanted o (yielded ops a.tmps) = true) (hn : ∀ c, o.op ≠ .call c) (hd : ∀ c, o.op ≠ .defer c) (hr : (execOp a.eval o).run P w = .ok (.value v) w') (h : wpListIn F n P ops Q rest (a.put o.dst v) w') : wpListIn F n P ops Q (o :: rest) a w := by
  refine y_want hw ⟨fun f hf => ?_, ?_⟩
  · unfold Oper.about at hf
    split at hf
    · rename_i c hc; exact absurd hc (hn c)
    · cases hf
  · rw [Oper.semAt_plain F _ _ hd, hr]; exact h
theorem y_skip {w' : World} (hw : Region.wanted o (yielded ops a.tmps) = true) (hn : ∀ c, o.op ≠ .call c) (hd : ∀ c, o.op ≠ .defer c) (hr : (execOp a.eval o).run P w = .ok .skip w') (h : wpListIn F n P ops Q rest (a.put o.dst undef) w') : wpListIn F n P ops Q (o :: rest) a w := by
  refine y_want hw ⟨fun f hf => ?_, ?_⟩
  · unfold Oper.about at hf
    split at hf
    · rename_i c hc; exact absurd hc (hn c)
    · cases hf
  · rw [Oper.semAt_plain F _ _ hd, hr]; exact h
theorem y_ld (A : Arr P T e) (x : Operand) (ho : o.op = .load T x) (hw : Region.wanted o (yielded ops a.tmps) = true) (b f : Nat) (hx : a.eval x = .pointer (some ⟨b, f, none⟩)) (l : List UInt8) (hl : l.length = 32) (hc : w.rangeAt b f (bv l))
    (h : wpListIn F n P ops Q rest (a.put o.dst (.agg (bv l).toArray)) w) : wpListIn F n P ops Q (o :: rest) a w := by
  refine y_val hw (by rw [ho]; intro c h; cases h) (by rw [ho]; intro c h; cases h) ?_ h
  unfold execOp
  simp only [ho, hx, Sem.run_bind, Sem.run_pure, run_loadAt_mid w b f T (bv l) _ hc A.ut rfl (by rw [A.st, bv_length, hl]), Result.andThen_ok]
theorem y_al (A : Arr P T e) (ho : o.op = .alloc T) (hw : Region.wanted o (yielded ops a.tmps) = true)
    (h : wpListIn F n P ops Q rest (a.put o.dst (.pointer (some ⟨w.heap.size, 0, none⟩))) (w.alloc (.cells (bv z32).toArray T))) : wpListIn F n P ops Q (o :: rest) a w := by
  refine y_val hw (by rw [ho]; intro c h; cases h) (by rw [ho]; intro c h; cases h) ?_ h
  unfold execOp
  simp [ho, Instr.alloc, zeroValue_of A.zt, newVar, Value.cells, newRow, newObj]
  rfl
theorem y_stn {W : World} (A : Arr P T e) (x y : Operand) (ho : o.op = .store T x y) (hw : Region.wanted o (yielded ops a.tmps) = true) (hx : a.eval x = .pointer (some ⟨W.heap.size, 0, none⟩)) (l : List UInt8) (hy : a.eval y = .agg (bv l).toArray) (hl : l.length = 32)
    (cs : Array Value) (t : TypeId) (hs : cs.size = 32) (h : wpListIn F n P ops Q rest (a.put o.dst undef) (W.alloc (.cells (bv l).toArray t))) : wpListIn F n P ops Q (o :: rest) a (W.alloc (.cells cs t)) := by
  refine y_skip hw (by rw [ho]; intro c h; cases h) (by rw [ho]; intro c h; cases h) ?_ (w' := (W.alloc (.cells cs t)).setRow W.heap.size (bv l).toArray) (by rw [World.setRow_alloc_new]; exact h)
  unfold execOp
  simp only [ho, hx, hy, Instr.storeAt, Instr.sureAddr, Sem.run_bind, Sem.run_pure, Result.andThen_ok, run_storeVar_row _ W.heap.size t T cs (bv l).toArray (Go.heap_alloc_new W _) (by rw [A.st]; simp [bv_length, hl]) (by simp [bv_length, hl, hs]) (all_oneCell_toArray (bv_one l))]
end
end XK
set_option maxRecDepth 100000 in
set_option maxHeartbeats 2000000 in
theorem Try.values1_in (F : Fence) (n : Nat) (h7 : F.fn 56) (hro : F.round = none) (hn : 1 ≤ n) (l Bs n₀ b off cap : Nat) (zs : List I32) (hlim : zs.length ≤ 1000) (hb : b < n₀) (J Jx : List I32 → World → Prop)
    (hY : ∀ pre x W, J pre W → pre.length < zs.length → YieldAt F (n - 1) Try.prog l #[iv x] W fun e W' =>
      (e = .returned (.bool true) ∧ J (pre ++ [x]) W' ∧ Below n₀ W W') ∨ (e = .returned (.bool false) ∧ Jx (pre ++ [x]) W'))
    (W : World) (hJ : AbidesFrom W.heap.size J) (hW0 : n₀ ≤ W.heap.size) (hBs : W.cell? ⟨Bs, 0, none⟩ = some (.slice (some ⟨b, off, none⟩) zs.length cap)) (hc : ∀ j (h : j < zs.length), W.rangeAt b (off + j * 32) (bv zs[j].1)) (h0 : J [] W) :
    CallsIn F n Try.prog 56 #[.func (.yield l) #[] #[], .pointer (some ⟨Bs, 0, none⟩)] W fun e W' => (∃ v, e = .returned v) ∧ ((∃ ys, ys = zs ∧ J ys W') ∨ (∃ pre, pre <+: zs ∧ Jx pre W')) := by
  refine callsIn_of_wp Try.func56 rfl h7 ?_ hro
  simp only [Try.ntmps56, List.size_toArray, List.length_cons, List.length_nil, Nat.reduceAdd, Nat.reduceSub, Array.replicate_succ, Array.replicate_zero, List.push_toArray, List.append_toArray, List.nil_append, List.cons_append]
  gi_wp2
  gi_loopw [7] (fun i wr => ∃ k : Nat, k ≤ zs.length ∧ i = .int .i64 k ∧ J (zs.take k) wr ∧ Below n₀ W wr)
    (fun i _ => zs.length - (intOf i).toNat)
  case atStart => exact ⟨0, Nat.zero_le _, rfl, by simpa using h0, Below.refl _ _⟩
  case round =>
    obtain ⟨k, hk, rfl, hJs, hnx⟩ := hrel
    by_cases hlt : k < zs.length
    · have hcx := range_below hnx hb (hc k hlt)
      have hJ2 := hJ _ wr (wr.alloc (.cells (bv zs[k].1).toArray 23)) none hJs (World.grownBy_alloc _ _ _) (fun r e => by cases e)
      obtain ⟨fn, tmps, assign, body, hy, hR⟩ := hY _ zs[k] _ hJ2 (by rw [List.length_take]; omega)
      have hlk := zs[k].2
      have hi0 : (0 : Int) ≤ k := by omega
      have hi1 : (k : Int) < zs.length := by omega
      have hin : (k : Int).toNat = k := by omega
      have hlt' : decide ((k : Int) < zs.length) = true := by simp; omega
      have htk : zs.take (k + 1) = zs.take k ++ [zs[k]] := (List.take_append_getElem hlt).symm
      generalize zs[k] = x at hcx hy hR hlk hJ2 htk
      unfold iv at hy
      gi_wp2_with (first
        | (refine y_ld Try.arrId _ rfl rfl _ _ rfl x.1 hlk hcx ?_)
        | (refine y_al Try.arrId rfl rfl ?_)
        | (refine y_stn Try.arrId _ _ rfl rfl rfl x.1 rfl hlk _ _ rfl ?_)
        | (refine y_ld Try.arrId _ rfl rfl _ _ rfl x.1 hlk (fun j v hj => by rw [Go.cell_of_row _ _ _ _ _ _ (Go.heap_alloc_new wr _)]; simpa using hj) ?_))
      have hwr : n₀ ≤ wr.heap.size := Nat.le_trans hW0 hnx.size
      refine hR.mono ?_
      rintro e W3 (⟨rfl, hJ3, hk3⟩ | ⟨rfl, hJx3⟩)
      · gi_wp2
        go_roundw
        case rel => exact ⟨k + 1, by omega, by simp, by rw [htk]; exact hJ3, hnx.trans (((Below.refl n₀ wr).alloc hwr _).trans hk3)⟩
        case measure => simp [intOf]; omega
      · gi_wp2
        refine bodyPost_ret (results_none rfl _ _ _) rfl ?_
        exact ⟨⟨_, rfl⟩, .inr ⟨_, by rw [← htk]; exact List.take_prefix _ _, hJx3⟩⟩
    · obtain rfl : k = zs.length := by omega
      rw [List.take_length] at hJs
      gi_wp2
      go_end0
      exact ⟨⟨_, rfl⟩, .inl ⟨_, rfl, hJs⟩⟩
set_option maxRecDepth 100000 in
set_option maxHeartbeats 1000000 in
theorem Try.values1_nil_in (F : Fence) (n : Nat) (h7 : F.fn 56) (hro : F.round = none) (l Bs : Nat) (a : Option Addr) (cap : Nat) (J : List I32 → World → Prop) (W : World) (hBs : W.cell? ⟨Bs, 0, none⟩ = some (.slice a 0 cap)) (h0 : J [] W) :
    CallsIn F n Try.prog 56 #[.func (.yield l) #[] #[], .pointer (some ⟨Bs, 0, none⟩)] W fun e W' => (∃ v, e = .returned v) ∧ J [] W' := by
  refine callsIn_of_wp Try.func56 rfl h7 ?_ hro
  simp only [Try.ntmps56, List.size_toArray, List.length_cons, List.length_nil, Nat.reduceAdd, Nat.reduceSub, Array.replicate_succ, Array.replicate_zero, List.push_toArray, List.append_toArray, List.nil_append, List.cons_append]
  gi_wp2
  gi_loopw [7] (fun i wr => i = .int .i64 0 ∧ J [] wr) (fun _ _ => 0)
  case atStart => exact ⟨rfl, h0⟩
  case round =>
    obtain ⟨rfl, hJs⟩ := hrel
    gi_wp2
    go_end0
    exact ⟨⟨_, rfl⟩, hJs⟩
theorem Try.values_in (F : Fence) (n : Nat) (h5 : F.fn 42) (hro : F.round = none) (a : Option Addr) (len cap : Nat) (w : World) :
    CallsIn F n Try.prog 42 #[.slice a len cap] w fun e w' => e = .returned (.func (.func 56) #[] #[.pointer (some ⟨w.heap.size, 0, none⟩)]) ∧ w' = w.alloc (.cells #[.slice a len cap] 45) := by
  refine callsIn_of_wp Try.func42 rfl h5 ?_ hro
  simp only [Try.ntmps42, List.size_toArray, List.length_cons, List.length_nil, Nat.reduceAdd, Nat.reduceSub, Array.replicate_succ, Array.replicate_zero, List.push_toArray, List.append_toArray, List.nil_append, List.cons_append]
  gi_wp2
  go_ret
  exact ⟨rfl, rfl⟩
theorem Try.values_stops (F : Fence) (n : Nat) (h7 : F.fn 56) (hro : F.round = none) (hn : 1 ≤ n) (Bs n₀ : Nat) (sv : Value) (zs : List I32) (hlim : zs.length ≤ 1000) (w : World) (hBs : Bs < w.heap.size) (hn₀ : n₀ ≤ w.heap.size)
    (hc : w.cell? ⟨Bs, 0, none⟩ = some sv) (hI : Ids n₀ w sv zs) :
    SeqStopsK F n Try.prog 56 #[.pointer (some ⟨Bs, 0, none⟩)] (fun x : I32 => #[iv x]) (Below n₀) (fun ys => ys = zs) (fun pre => pre <+: zs) zs.length w := fun l J Jx W hW hJ _ hY h0 => by
  have hc' := (hW.cell (p := ⟨Bs, 0, none⟩) hBs).trans hc
  rcases hI.below (hW.mono hn₀) with ⟨⟨a, cap, rfl⟩, rfl⟩ | ⟨b, off, cap, rfl, hb, hcs⟩
  · exact (Try.values1_nil_in F n h7 hro l Bs a cap J W hc' h0).mono fun e W' ⟨he, hj⟩ => ⟨he, .inl ⟨_, rfl, hj⟩⟩
  · exact Try.values1_in F n h7 hro hn l Bs n₀ b off cap zs hlim hb J Jx hY W hJ (Nat.le_trans hn₀ hW.size) hc' hcs h0
end Go.Proofs
