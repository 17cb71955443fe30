/- a statement whose order is drawn, stepped by hand: what yields in every world first, then the calls -/
import Derived.Test.YtfgadmiencgmgaaKit
import Derived.Deep.RegionHeld
namespace Go.Proofs.XK
open Go.RowKit
section
variable {P : Program} {md : Region.Mode} {ops : Array Oper} {Q : Exit → Act → World → Prop} {S : World → Prop}
theorem h_val {i : Nat} {oi : Oper} {v : Value} {fuel : Nat} {listed : Array Bool} {a : Act} {w : World} (hi : ops[i]? = some oi)
    (hs : Region.noSelect ops = true) (hf : Region.free md ops listed i = true) (hr : (Region.ready md ops listed).contains i = true)
    (hQ : ∀ c a w, Q (.panic c) (a.put oi.dst v) w → Q (.panic c) a w) (hw : Region.wanted oi (yielded ops a.tmps) = true) (hv : ∀ w, S w → (execOp a.eval oi).run P w = .ok (.value v) w) (hS : S w)
    (h : wpAnyH P md ops Q S fuel (listed.setIfInBounds i true) (a.put oi.dst v) w) : wpAnyH P md ops Q S (fuel + 1) listed a w :=
  wpAnyH_take hi hs hf hr hQ (.inl ⟨hw, hv⟩) hS h
theorem h_call {i : Nat} {oi : Oper} {fuel : Nat} {listed : Array Bool} {a : Act} {w : World} (hr : Region.ready md ops listed = [i]) (hi : ops[i]? = some oi) (hw : Region.wanted oi (yielded ops a.tmps) = true) (f : FuncId) (args : Array Value)
    (hrun : (execOp a.eval oi).run P w = .ok (.enter f args) w)
    (hc : Calls P f args w (fun e w' => ∃ v, e = .returned v ∧ S w' ∧ wpAnyH P md ops Q S fuel (listed.setIfInBounds i true) (a.put oi.dst v) w')) : wpAnyH P md ops Q S (fuel + 1) listed a w := by
  refine wpAnyH_all hr (by simp) fun j hj => ?_
  obtain rfl : j = i := by simpa using hj
  unfold wpOp
  rw [hi]
  show if Region.wanted oi (yielded ops a.tmps) = true then _ else _
  rw [if_pos hw]
  refine .inl ?_
  unfold Oper.wp
  rw [hrun]
  refine hc.mono ?_
  rintro e w' ⟨v, rfl, hS, hh⟩
  exact ⟨hS, hh⟩
/-- the value of the load of an array -/
theorem run_ld {T e : TypeId} (A : Arr P T e) {o : Oper} {a : Act} (x : Operand) (ho : o.op = .load T x) (b f : Nat) (hx : a.eval x = .pointer (some ⟨b, f, none⟩)) (l : List UInt8) (hl : l.length = 32) {w : World} (hc : w.rangeAt b f (bv l)) :
    (execOp a.eval o).run P w = .ok (.value (.agg (bv l).toArray)) w := by
  unfold execOp
  simp only [ho, hx, Sem.run_bind, Sem.run_pure, run_loadAt_mid w b f T (bv l) _ hc A.ut rfl (by rw [A.st, bv_length, hl]), Result.andThen_ok]
end
end Go.Proofs.XK
