/- a statement whose order is drawn, walked once: its calls make memory, and all that it reads lies below -/
import Derived.Test.YtfgadmiencgmgaaKit
import Derived.Deep.QuietTactic
namespace Go.Proofs.XK
open Go.RowKit
section
variable {P : Program} {T e : TypeId} {ops : Array Oper} {rest : List Oper} {o : Oper} {a : Act} {C : World → Prop} {Q : Act → Prop}
theorem q_region {id : Nat} {Q : Exit → Act → World → Prop} {a : Act} {w : World} {l : List Oper} (C : World → Prop) (hm : P.follows .mixedOrders = true) (hB : Region.lexB .any l.toArray = true) (hC : C { w with drawn := w.drawn + 1 })
    (h : wpQuiet P l.toArray C (fun a' => ∀ w', C w' → Q .normal a' w') l a) : (Code.region id l.toArray true).wp P Q a w :=
  wp_region_quiet (C := C) hm hB hC (by simpa using h)
theorem q_val {v : Value} (hw : Region.wanted o (yielded ops a.tmps) = true) (hr : ∀ w, C w → (execOp a.eval o).run P w = .ok (.value v) w) (h : wpQuiet P ops C Q rest (a.put o.dst v)) : wpQuiet P ops C Q (o :: rest) a := by
  unfold wpQuiet
  rw [if_pos hw]
  exact ⟨v, fun w hC => by unfold Oper.quietAt; rw [hr w hC]; exact ⟨rfl, rfl⟩, h⟩
theorem q_ld (A : Arr P T e) (x : Operand) (ho : o.op = .load T x) (hw : Region.wanted o (yielded ops a.tmps) = true) (b f : Nat) (hx : a.eval x = .pointer (some ⟨b, f, none⟩)) (l : List UInt8) (hl : l.length = 32) (hc : ∀ w, C w → w.rangeAt b f (bv l))
    (h : wpQuiet P ops C Q rest (a.put o.dst (.agg (bv l).toArray))) : wpQuiet P ops C Q (o :: rest) a :=
  q_val hw (fun w hC => by
    unfold execOp
    simp only [ho, hx, Sem.run_bind, Sem.run_pure, run_loadAt_mid w b f T (bv l) _ (hc w hC) A.ut rfl (by rw [A.st, bv_length, hl]), Result.andThen_ok]) h
theorem q_eqt (A : Arr P T e) (x y : Operand) (r : TypeId) (ho : o.op = .binOp .eql T x y r) (hw : Region.wanted o (yielded ops a.tmps) = true) (l m : List UInt8) (hx : a.eval x = .agg (bv l).toArray) (hy : a.eval y = .agg (bv m).toArray) (hl : l.length = 32) (hm : m.length = 32) (b : Bool) (he : (l == m) = b)
    (h : wpQuiet P ops C Q rest (a.put o.dst (.bool b))) : wpQuiet P ops C Q (o :: rest) a :=
  q_val hw (fun w _ => by
    have := run_eql_bytes (P := P) w T e 32 x y A.ut A.ue A.se A.gt l m hl hm
    rw [he] at this
    unfold execOp
    simp only [ho, hx, hy]
    rw [Sem.run_bind, this]
    rfl) h
theorem q_bz (A : Arr P T e) (ho : o.op = .build T #[]) (hw : Region.wanted o (yielded ops a.tmps) = true)
    (h : wpQuiet P ops C Q rest (a.put o.dst (.agg (bv z32).toArray))) : wpQuiet P ops C Q (o :: rest) a :=
  q_val hw (fun w _ => by
    unfold execOp
    simp only [ho, Instr.build, Sem.run_bind, zeroValue_of A.zt, Result.andThen_ok, run_underlying A.ut, sizeOf, typeInfo, run_program]
    have h2 := A.se
    cases hq : P.info? e with
    | none => simp [hq] at h2
    | some i => simp [Instr.fill, Value.cells]) h
end
theorem two : ∀ l : List UInt8, l.length = 2 → ∃ x y, l = [x, y]
  | [x, y], _ => ⟨x, y, rfl⟩
end Go.Proofs.XK
