/- a statement whose order is drawn, walked once in a class of worlds: its calls make memory, and all that it reads lies below -/
import Derived.Deep.QuietTactic
import Derived.Deep.RegionHeld
import Derived.BigQuiet
import Derived.WalkKit
import Derived.Below
namespace Go.Proofs.TK
open Go.RowKit
section
variable {P : Program} {T : TypeId} {ops : Array Oper} {rest : List Oper} {o : Oper} {a : Act} {C : World → Prop} {Q : Act → Prop}
theorem q_region {id : Nat} {Q : Exit → Act → World → Prop} {a : Act} {w : World} {l : List Oper} (C : World → Prop) (hm : P.follows .mixedOrders = true) (hB : Region.lexB .any l.toArray = true) (hC : C { w with drawn := w.drawn + 1 })
    (h : wpQuiet P l.toArray C (fun a' => ∀ w', C w' → Q .normal a' w') l a) : (Code.region id l.toArray true).wp P Q a w :=
  wp_region_quiet (C := C) hm hB hC (by simpa using h)
theorem q_val {v : Value} (hw : Region.wanted o (yielded ops a.tmps) = true) (hr : ∀ w, C w → (execOp a.eval o).run P w = .ok (.value v) w) (h : wpQuiet P ops C Q rest (a.put o.dst v)) : wpQuiet P ops C Q (o :: rest) a := by
  unfold wpQuiet
  rw [if_pos hw]
  exact ⟨v, fun w hC => by unfold Oper.quietAt; rw [hr w hC]; exact ⟨rfl, rfl⟩, h⟩
/-- an operation whose guard is off -/
theorem q_off (hw : Region.wanted o (yielded ops a.tmps) = false) (h : wpQuiet P ops C Q rest (a.put o.dst undef)) : wpQuiet P ops C Q (o :: rest) a := by
  unfold wpQuiet
  rw [if_neg (by rw [hw]; decide)]
  exact h
/-- one cell, read -/
theorem q_lds (hA : ∀ w, (isAgg T).run P w = .ok false w) (x : Operand) (ho : o.op = .load T x) (hw : Region.wanted o (yielded ops a.tmps) = true) (p : Addr) (hx : a.eval x = .pointer (some p)) (v : Value) (hc : ∀ w, C w → w.cell? p = some v)
    (h : wpQuiet P ops C Q rest (a.put o.dst v)) : wpQuiet P ops C Q (o :: rest) a :=
  q_val hw (fun w hC => by
    have h1 := hc w hC
    have h2 := hA w
    unfold execOp
    simp only [ho, hx]
    go_simp) h
end
section
variable {P : Program} {md : Region.Mode} {ops : Array Oper} {Q : Exit → Act → World → Prop} {S : World → Prop}
theorem h_val {i : Nat} {oi : Oper} {v : Value} {fuel : Nat} {listed : Array Bool} {a : Act} {w : World} (hi : ops[i]? = some oi)
    (hs : Region.noSelect ops = true) (hf : Region.free md ops listed i = true) (hr : (Region.ready md ops listed).contains i = true)
    (hQ : ∀ c a w, Q (.panic c) (a.put oi.dst v) w → Q (.panic c) a w) (hw : Region.wanted oi (yielded ops a.tmps) = true) (hv : ∀ w, S w → (execOp a.eval oi).run P w = .ok (.value v) w) (hS : S w)
    (h : wpAnyH P md ops Q S fuel (listed.setIfInBounds i true) (a.put oi.dst v) w) : wpAnyH P md ops Q S (fuel + 1) listed a w :=
  wpAnyH_take hi hs hf hr hQ (.inl ⟨hw, hv⟩) hS h
theorem h_ld {T : TypeId} (hA : ∀ w, (isAgg T).run P w = .ok false w) {o : Oper} {a : Act} (x : Operand) (ho : o.op = .load T x) (p : Addr) (hx : a.eval x = .pointer (some p)) (v : Value) {w : World} (hc : w.cell? p = some v) :
    (execOp a.eval o).run P w = .ok (.value v) w := by
  have h2 := hA w
  unfold execOp
  simp only [ho, hx]
  go_simp
end
end Go.Proofs.TK
