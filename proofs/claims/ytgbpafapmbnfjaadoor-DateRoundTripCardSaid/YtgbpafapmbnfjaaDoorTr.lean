/- arguments opened: a string, an int, five ints -/
import Derived.Test.YtgbpafapmbnfjaaDoorTb
import Derived.WalkKit
import Derived.ProofKit
import Derived.OpenShut
import Derived.ShutString
import Derived.Carry
namespace Go.Proofs.TR
open Go.ChangeShapes Go.WideShapes Go.ChangeAt Go.RowKit
section
variable {H : Type} {enc : TypeId × Value → H} {P : Program} {w : World} {base : Nat} {spare : Nat → Bool} {held : Bool}
theorem okWide_str {fs : Array Field} {t : TypeId} {r : Reach} {b0 : Nat} {v : Value} (ht : P.underlying t = some (.struct fs)) (h : Value.okWide P w r b0 t v) : ∃ cs, v = .agg cs ∧ cs.size = P.cellsOf t := by
  simp only [Value.okWide, ht] at h
  obtain ⟨cs, h1, h2, _⟩ := h
  exact ⟨cs, h1, h2⟩
theorem i64_of {x : Int} (h : (Lit.int .i64 x).wf = true) : -9223372036854775808 ≤ x ∧ x ≤ 9223372036854775807 := by
  have hmin : IntKind.i64.min = -9223372036854775808 := rfl
  have hmax : IntKind.i64.max = 9223372036854775807 := rfl
  simp only [Lit.wf, Bool.and_eq_true, decide_eq_true_eq] at h; omega
/-- five ints in a struct -/
theorem open_five {r : Reach} {b0 : Nat} {fs : Array Field} {t : TypeId} {v : Value} {d : DataW H} {p : List MemPlace} (ht : P.underlying t = some (.struct fs))
    (hf : ∀ i : Nat, i < 5 → ∃ f : Field, fs[i]? = some f ∧ P.underlying f.type = some (.int .i64) ∧ f.offset = i ∧ P.cellsOf f.type = 1) (hct : P.cellsOf t = 5)
    (hv : Value.okWide P w r b0 t v) (h : DataW.Trod enc P w base spare held t v d p) :
    ∃ y m d' h' n : Int, v = .agg #[.int .i64 y, .int .i64 m, .int .i64 d', .int .i64 h', .int .i64 n] ∧ (-9223372036854775808 ≤ y ∧ y ≤ 9223372036854775807) ∧ (-9223372036854775808 ≤ m ∧ m ≤ 9223372036854775807) ∧ (-9223372036854775808 ≤ d' ∧ d' ≤ 9223372036854775807) ∧ (-9223372036854775808 ≤ h' ∧ h' ≤ 9223372036854775807) ∧ (-9223372036854775808 ≤ n ∧ n ≤ 9223372036854775807) := by
  obtain ⟨cs, rfl, hcs⟩ := okWide_str ht hv
  obtain ⟨fuel, hf'⟩ := h
  obtain ⟨xs, m, _, _, hlen, hxl, hi⟩ := DataW.trod_struct ht hf'
  have hsz : cs.size = 5 := by rw [hcs, hct]
  have hel : ∀ i : Nat, i < 5 → ∃ q : Int, cs.toList[i]? = some (.int .i64 q) ∧ (-9223372036854775808 ≤ q ∧ q ≤ 9223372036854775807) := by
    intro i hin
    obtain ⟨f, f1, f2, f3, f4⟩ := hf i hin
    have h1 := hi i f f1
    rw [f3, f4] at h1
    have h2 : ((Value.agg cs).cells.toList.drop i).take 1 = [cs.toList[i]'(by simpa [hsz] using hin)] := by
      show (cs.toList.drop i).take 1 = _
      rw [List.drop_eq_getElem_cons (by simpa [hsz] using hin)]
      rfl
    rw [h2] at h1
    have h3 : ∃ x, xs[i]? = some x := ⟨xs[i]'(by have := (Array.getElem?_eq_some_iff.1 f1).1; omega), List.getElem?_eq_getElem _⟩
    obtain ⟨x, hx⟩ := h3
    rw [hx] at h1
    obtain ⟨q, e1, _, e2⟩ := DataW.trod_int f2 h1
    have hq : cs.toList[i]'(by simpa [hsz] using hin) = .int .i64 q := by simpa using e1
    refine ⟨q, ?_, i64_of e2⟩
    rw [List.getElem?_eq_getElem (by simpa [hsz] using hin), hq]
  obtain ⟨l⟩ := cs
  match l, hsz, hel with
  | [a0, a1, a2, a3, a4], _, hel =>
    obtain ⟨y0, e0, b0⟩ := hel 0 (by omega)
    obtain ⟨y1, e1, b1⟩ := hel 1 (by omega)
    obtain ⟨y2, e2, b2⟩ := hel 2 (by omega)
    obtain ⟨y3, e3, b3⟩ := hel 3 (by omega)
    obtain ⟨y4, e4, b4⟩ := hel 4 (by omega)
    simp at e0 e1 e2 e3 e4
    subst e0 e1 e2 e3 e4
    exact ⟨y0, y1, y2, y3, y4, rfl, b0, b1, b2, b3, b4⟩
/-- an int among the arguments -/
theorem open_i64 {r : Reach} {b0 : Nat} {t : TypeId} {v : Value} {d : DataW H} {p : List MemPlace} (ht : P.underlying t = some (.int .i64))
    (hv : Value.okWide P w r b0 t v) (h : DataW.Trod enc P w base spare held t v d p) : ∃ x : Int, v = .int .i64 x ∧ -9223372036854775808 ≤ x ∧ x ≤ 9223372036854775807 := by
  obtain ⟨x, rfl, _, _, hw⟩ := open_int ht hv h
  exact ⟨x, rfl, i64_of hw⟩
/-- a string among the arguments -/
theorem open_str {r : Reach} {b0 : Nat} {t : TypeId} {v : Value} {d : DataW H} {p : List MemPlace} (ht : P.underlying t = some .string)
    (hv : Value.okWide P w r b0 t v) (h : DataW.Trod enc P w base spare held t v d p) : ∃ s : ByteArray, v = .string s ∧ s.size ≤ 9223372036854775807 := by
  obtain ⟨x, rfl⟩ := okWide_string ht hv
  obtain ⟨fuel, hf⟩ := h
  obtain ⟨q, e1, _, e2⟩ := DataW.trod_string ht hf
  have hq : x = q := by simpa [Value.cells] using e1
  exact ⟨x, rfl, by rw [hq]; exact e2⟩
theorem places_lt {t : TypeId} {v : Value} {d : DataW H} {p : List MemPlace} (h : DataW.Trod enc P w base spare held t v d p) : ∀ x ∈ p, x.block < w.heap.size := by
  obtain ⟨m, hm⟩ := h
  exact DataW.trod_lt m _ _ _ hm
end
end Go.Proofs.TR
