/- a list of one identity, built -/
import Derived.Test.YtfgadmiencgmgaaIt
namespace Go.Proofs.XK
open Go.RowKit
theorem fill_all (l : List Value) : ∀ (pre suf : List Value), suf.length = l.length → (l.zipIdx pre.length).foldl (fun (cs : Array Value) x => cs.setIfInBounds x.2 x.1) (pre ++ suf).toArray = (pre ++ l).toArray := by
  induction l with
  | nil => intro pre suf h; rw [List.eq_nil_of_length_eq_zero h]; rfl
  | cons x l ih =>
    intro pre suf h
    match suf, h with
    | y :: suf, h =>
      rw [List.zipIdx_cons, List.foldl_cons]
      have h1 : (pre ++ y :: suf).toArray.setIfInBounds pre.length x = ((pre ++ [x]) ++ suf).toArray := by
        simp
      rw [h1]
      have := ih (pre ++ [x]) suf (by simpa using h)
      rw [List.length_append, List.length_singleton] at this
      rw [this]
      simp
theorem zeros_all (n : Nat) (hn : 0 < n) (v : Value) : (Array.range n).map (fun i => (List.replicate n v).toArray[i % n]!) = (List.replicate n v).toArray := by
  apply Array.ext
  · simp
  · intro i h1 h2
    have h3 : i % n < n := Nat.mod_lt _ hn
    simp [getElem!_pos, h3]
theorem run_buildSlice_arr {P : Program} {T e S : TypeId} (w : World) (A : Arr P T e) (hS : P.underlying S = some (.slice T)) (l : List UInt8) (hl : l.length = 32) :
    (Instr.buildSlice S 1 #[(0, .agg (bv l).toArray)]).run P w = .ok (.slice (some ⟨w.heap.size, 0, none⟩) 1 1) (w.alloc (.cells (bv l).toArray T)) := by
  have h2 := A.st
  have h3 : (sizeOf T).run P w = .ok 32 w := by
    cases hq : P.info? T with
    | none => simp [hq] at h2
    | some j =>
      have : j.size = 32 := by simpa [hq] using h2
      simp [sizeOf, typeInfo, hq, this]
  have hf : Instr.fill (fun i => some (i * 32, 32)) ((Array.range 32).map (fun i => (bv z32).toArray[i % 32]!)) [(0, .agg (bv l).toArray)] = some (bv l).toArray := by
    have hz : (Array.range 32).map (fun i => (bv z32).toArray[i % 32]!) = ([] ++ bv z32).toArray := by
      exact zeros_all 32 (by decide) (.int .u8 0)
    rw [hz]
    have hlen : (bv l).length = 32 := by rw [bv_length, hl]
    have hzl : (bv z32).length = 32 := rfl
    have hfa := fill_all (bv l) [] (bv z32) (by rw [hlen, hzl])
    simp only [List.nil_append, List.length_nil] at hfa
    simp only [Instr.fill, Value.cells, List.nil_append, List.size_toArray, hlen, hzl]
    rw [if_neg (by simp)]
    simp only [Nat.zero_mul, Nat.zero_add]
    simpa using hfa
  unfold Instr.buildSlice
  simp only [Sem.run_bind, run_underlying hS, Result.andThen_ok, h3, Nat.one_mul]
  rw [if_neg (by decide), if_neg (by decide)]
  simp only [Sem.run_bind, zeroValue_of A.zt, Result.andThen_ok, Sem.run_pure]
  have hzl : (bv z32).length = 32 := rfl
  simp only [Value.cells, List.size_toArray, hzl, hf]
  simp [newRow, newObj]
  rfl
section
variable {F : Fence} {n : Nat} {P : Program} {T e : TypeId} {ops : Array Oper} {rest : List Oper} {o : Oper} {a : Act} {w : World} {Q : Exit → Act → World → Prop}
theorem y_bsl (A : Arr P T e) (S : TypeId) (x : Operand) (ho : o.op = .buildSlice S 1 #[(0, x)]) (hw : Region.wanted o (yielded ops a.tmps) = true) (hS : P.underlying S = some (.slice T)) (l : List UInt8) (hl : l.length = 32) (hx : a.eval x = .agg (bv l).toArray)
    (h : wpListIn F n P ops Q rest (a.put o.dst (.slice (some ⟨w.heap.size, 0, none⟩) 1 1)) (w.alloc (.cells (bv l).toArray T))) : wpListIn F n P ops Q (o :: rest) a w := by
  refine y_val hw (by rw [ho]; intro c h; cases h) (by rw [ho]; intro c h; cases h) ?_ h
  have := run_buildSlice_arr w A hS l hl
  unfold execOp
  simp only [ho, List.map_toArray, List.map_cons, List.map_nil, hx, Sem.run_bind, this, Result.andThen_ok, Sem.run_pure]
theorem x_bsl (A : Arr P T e) (S : TypeId) (x : Operand) (ho : o.op = .buildSlice S 1 #[(0, x)]) (hw : Region.wanted o (yielded ops a.tmps) = true) (hS : P.underlying S = some (.slice T)) (l : List UInt8) (hl : l.length = 32) (hx : a.eval x = .agg (bv l).toArray)
    (h : wpList P ops Q rest (a.put o.dst (.slice (some ⟨w.heap.size, 0, none⟩) 1 1)) (w.alloc (.cells (bv l).toArray T))) : wpList P ops Q (o :: rest) a w := by
  refine x_val hw ?_ h
  have := run_buildSlice_arr w A hS l hl
  unfold execOp
  simp only [ho, List.map_toArray, List.map_cons, List.map_nil, hx, Sem.run_bind, this, Result.andThen_ok, Sem.run_pure]
end
end Go.Proofs.XK
