/- from a law's contract to the given row: arguments opened, what is left behind the call -/
import Derived.Test.YtfgadmiencgmgaaDoorRows
import Derived.Test.YtfgadmiencgmgaaDoorGA
import Derived.WalkKit
import Derived.ProofKit
import Derived.OpenShut
import Derived.ShutString
import Derived.Carry
namespace Go.Proofs.XK
open Go.ChangeShapes Go.WideShapes Go.ChangeAt Go.RowKit
section
variable {H : Type} {enc : TypeId × Value → H} {P : Program} {w : World} {base : Nat} {spare : Nat → Bool} {held : Bool}
theorem okWide_array {n : Nat} {e : TypeId} {t : TypeId} {r : Reach} {b0 : Nat} {v : Value} (ht : P.underlying t = some (.array n e)) (h : Value.okWide P w r b0 t v) : ∃ cs, v = .agg cs ∧ cs.size = P.cellsOf t := by
  simp only [Value.okWide, ht] at h
  obtain ⟨cs, h1, h2, _⟩ := h
  exact ⟨cs, h1, h2⟩
/-- an array of bytes among the arguments -/
theorem open_arr {r : Reach} {b0 : Nat} {n : Nat} {t e : TypeId} {v : Value} {d : DataW H} {p : List MemPlace} (ht : P.underlying t = some (.array n e)) (he : P.underlying e = some (.int .u8)) (hce : P.cellsOf e = 1) (hct : P.cellsOf t = n)
    (hv : Value.okWide P w r b0 t v) (h : DataW.Trod enc P w base spare held t v d p) : ∃ l : List UInt8, l.length = n ∧ v = .agg (bv l).toArray := by
  obtain ⟨cs, rfl, hcs⟩ := okWide_array ht hv
  obtain ⟨fuel, hf⟩ := h
  obtain ⟨xs, m, _, _, hlen, hxl, hi⟩ := DataW.trod_array ht hf
  have hsz : cs.size = n := by rw [hcs, hct]
  have hel : ∀ i, i < n → ∃ q : UInt8, cs.toList[i]? = some (.int .u8 q.toNat) := by
    intro i hin
    have h1 := hi i hin
    rw [hce, Nat.mul_one] at h1
    have h2 : ((Value.agg cs).cells.toList.drop i).take 1 = [cs.toList[i]'(by simpa [hsz] using hin)] := by
      show (cs.toList.drop i).take 1 = _
      rw [List.drop_eq_getElem_cons (by simpa [hsz] using hin)]
      rfl
    rw [h2, List.getElem?_eq_getElem (by omega)] at h1
    obtain ⟨q, e1, _, e2⟩ := DataW.trod_int he h1
    have hq : cs.toList[i]'(by simpa [hsz] using hin) = .int .u8 q := by simpa using e1
    have hw : 0 ≤ q ∧ q ≤ 255 := by
      have hmin : IntKind.u8.min = 0 := rfl
      have hmax : IntKind.u8.max = 255 := rfl
      simp only [Lit.wf, Bool.and_eq_true, decide_eq_true_eq] at e2; omega
    refine ⟨UInt8.ofNat q.toNat, ?_⟩
    rw [List.getElem?_eq_getElem (by simpa [hsz] using hin), hq, UInt8.toNat_ofNat', Nat.mod_eq_of_lt (by omega), Int.toNat_of_nonneg hw.1]
  have hex : ∃ l : List UInt8, l.length = n ∧ cs.toList = bv l := by
    have : ∀ (k : Nat) (l : List Value), l.length = k → (∀ i, i < k → ∃ q : UInt8, l[i]? = some (.int .u8 q.toNat)) → ∃ m : List UInt8, m.length = k ∧ l = bv m := by
      intro k
      induction k with
      | zero => intro l hl _; exact ⟨[], rfl, List.eq_nil_of_length_eq_zero hl⟩
      | succ k ih =>
        intro l hl hq
        match l, hl with
        | x :: l, hl =>
          obtain ⟨q, e0⟩ := hq 0 (by omega)
          obtain ⟨m, h1, h2⟩ := ih l (by simpa using hl) (fun i hik => by simpa using hq (i + 1) (by omega))
          refine ⟨q :: m, by simp [h1], ?_⟩
          have : x = .int .u8 q.toNat := by simpa using e0
          rw [this, h2]
          simp [bv, Lib.byteCells]
    exact this n cs.toList (by simpa using hsz) hel
  obtain ⟨l, h1, h2⟩ := hex
  refine ⟨l, h1, ?_⟩
  rw [← h2]
/-- a byte among the arguments -/
theorem open_byte {r : Reach} {b0 : Nat} {t : TypeId} {v : Value} {d : DataW H} {p : List MemPlace} (ht : P.underlying t = some (.int .u8))
    (hv : Value.okWide P w r b0 t v) (h : DataW.Trod enc P w base spare held t v d p) : ∃ q : UInt8, v = .int .u8 q.toNat := by
  obtain ⟨x, rfl⟩ := okWide_int ht hv
  obtain ⟨fuel, hf⟩ := h
  obtain ⟨q, e1, _, e2⟩ := DataW.trod_int ht hf
  have hq : x = q := by simpa [Value.cells] using e1
  have hw : 0 ≤ q ∧ q ≤ 255 := by
    have hmin : IntKind.u8.min = 0 := rfl
    have hmax : IntKind.u8.max = 255 := rfl
    simp only [Lit.wf, Bool.and_eq_true, decide_eq_true_eq] at e2; omega
  refine ⟨UInt8.ofNat q.toNat, ?_⟩
  rw [hq, UInt8.toNat_ofNat', Nat.mod_eq_of_lt (by omega), Int.toNat_of_nonneg hw.1]
/-- a string among the arguments -/
theorem open_str {r : Reach} {b0 : Nat} {t : TypeId} {v : Value} {d : DataW H} {p : List MemPlace} (ht : P.underlying t = some .string)
    (hv : Value.okWide P w r b0 t v) (h : DataW.Trod enc P w base spare held t v d p) : ∃ s : ByteArray, v = .string s ∧ s.size ≤ 9223372036854775807 := by
  obtain ⟨x, rfl⟩ := okWide_string ht hv
  obtain ⟨fuel, hf⟩ := h
  obtain ⟨q, e1, _, e2⟩ := DataW.trod_string ht hf
  have hq : x = q := by simpa [Value.cells] using e1
  exact ⟨x, rfl, by rw [hq]; exact e2⟩
/-- an argument's places lie in the heap -/
theorem places_lt {t : TypeId} {v : Value} {d : DataW H} {p : List MemPlace} (h : DataW.Trod enc P w base spare held t v d p) : ∀ x ∈ p, x.block < w.heap.size := by
  obtain ⟨m, hm⟩ := h
  exact DataW.trod_lt m _ _ _ hm
end
end Go.Proofs.XK
