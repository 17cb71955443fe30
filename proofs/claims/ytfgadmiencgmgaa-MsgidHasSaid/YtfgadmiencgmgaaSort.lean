/- slices.SortFunc over a list of identities of the call's own, by Compare -/
import Derived.Test.YtfgadmiencgmgaaAp
import Derived.Test.YtfgadmiencgmgaaCmp
import Derived.Test.YtfgadmiencgmgaaSortLay
namespace Go.Proofs
open Go.RowKit Go.Shelf XK Go.Sort
namespace XK
instance : Inhabited I32 := ⟨⟨z32, rfl⟩⟩
def enc (x : I32) : List Value := bv x.1
/-- a list of bytes as a number -/
def num : List UInt8 → Nat
  | [] => 0
  | x :: l => x.toNat * 256 ^ l.length + num l
theorem num_lt : ∀ l : List UInt8, num l < 256 ^ l.length
  | [] => by simp [num]
  | x :: l => by
    have h := num_lt l
    have hx := x.toNat_lt
    rw [num, List.length_cons, Nat.pow_succ]
    have : x.toNat * 256 ^ l.length ≤ 255 * 256 ^ l.length := Nat.mul_le_mul_right _ (by omega)
    omega
theorem cmp_num : ∀ a b : List UInt8, a.length = b.length → Lib.compareBytes a b = if num a < num b then -1 else if num b < num a then 1 else 0
  | [], [], _ => rfl
  | x :: a, y :: b, h => by
    have hl : a.length = b.length := by simpa using h
    have ih := cmp_num a b hl
    have ha := num_lt a
    have hb := num_lt b
    rw [cmp_cons, ih]
    have hlt : x < y ↔ x.toNat < y.toNat := UInt8.lt_iff_toNat_lt
    have hgt : y < x ↔ y.toNat < x.toNat := UInt8.lt_iff_toNat_lt
    have e1 : num (x :: a) = x.toNat * 256 ^ a.length + num a := rfl
    have e2 : num (y :: b) = y.toNat * 256 ^ a.length + num b := by rw [num, hl]
    rw [← hl] at hb
    generalize num (x :: a) = X at e1 ⊢
    generalize num (y :: b) = Y at e2 ⊢
    generalize 256 ^ a.length = p at ha hb e1 e2
    by_cases h1 : x < y
    · have h1' := hlt.1 h1
      have : (x.toNat + 1) * p ≤ y.toNat * p := Nat.mul_le_mul_right _ h1'
      rw [Nat.add_mul, Nat.one_mul] at this
      rw [if_pos h1, if_pos (by omega)]
    · by_cases h2 : y < x
      · have h2' := hgt.1 h2
        have : (y.toNat + 1) * p ≤ x.toNat * p := Nat.mul_le_mul_right _ h2'
        rw [Nat.add_mul, Nat.one_mul] at this
        rw [if_neg h1, if_pos h2, if_neg (by omega), if_pos (by omega)]
      · have h1' : ¬ x.toNat < y.toNat := fun q => h1 (hlt.2 q)
        have h2' : ¬ y.toNat < x.toNat := fun q => h2 (hgt.2 q)
        have he : x.toNat = y.toNat := by omega
        rw [he] at e1
        rw [if_neg h1, if_neg h2]
        by_cases h3 : num a < num b
        · rw [if_pos h3, if_pos (by omega)]
        · by_cases h4 : num b < num a
          · rw [if_neg h3, if_pos h4, if_neg (by omega), if_pos (by omega)]
          · rw [if_neg h3, if_neg h4, if_neg (by omega), if_neg (by omega)]
def cf (x y : I32) : Int := Lib.compareBytes x.1 y.1
theorem ltOf_cf (x y : I32) : ltOf cf x y = decide (num x.1 < num y.1) := by
  unfold ltOf cf
  rw [cmp_num _ _ (x.2.trans y.2.symm)]
  by_cases h : num x.1 < num y.1
  · simp [h]
  · by_cases h2 : num y.1 < num x.1 <;> simp [h, h2]
theorem num_inj (x y : I32) (h : num x.1 = num y.1) : x = y := by
  have := cmp_num x.1 y.1 (x.2.trans y.2.symm)
  rw [h, if_neg (Nat.lt_irrefl _), if_neg (Nat.lt_irrefl _)] at this
  exact Subtype.ext (cmp_zero _ _ this)
theorem swo : SWO (ltOf cf) where
  irrefl x := by rw [ltOf_cf]; simp
  trans x y z h1 h2 := by rw [ltOf_cf] at *; simp at *; omega
  ntrans x y z h1 h2 := by rw [ltOf_cf] at *; simp at *; omega
theorem total (x y : I32) (h1 : ltOf cf x y = false) (h2 : ltOf cf y x = false) : x = y := by
  rw [ltOf_cf] at h1 h2
  simp at h1 h2
  exact num_inj x y (by omega)
/-- sorted -/
def srt (zs : List I32) : List I32 := zs.mergeSort fun x y => !(ltOf cf) y x
end XK
theorem Try.compareG (x y : I32) (w : World) : Calls Try.prog 17 #[.agg (bv x.1).toArray, .agg (bv y.1).toArray] w fun e w' => e = .returned (.int .i64 (cf x y)) ∧ ∃ q os', w' = grow (w.drewN q) os' := by
  obtain ⟨l, hl⟩ := x
  obtain ⟨m, hm⟩ := y
  show Calls Try.prog 17 #[.agg (bv l).toArray, .agg (bv m).toArray] w fun e w' => e = .returned (.int .i64 (Lib.compareBytes l m)) ∧ ∃ q os', w' = grow (w.drewN q) os'
  have key : ∀ n, Calls Try.prog 36 #[.slice (some ⟨w.heap.size, 0, none⟩) 32 32, .slice (some ⟨w.heap.size + 1, 0, none⟩) 32 32] (((w.alloc (.cells (bv l).toArray 23)).alloc (.cells (bv m).toArray 23)).drewN n) fun e w' => e = .returned (.int .i64 (Lib.compareBytes l m)) ∧ w' = (((w.alloc (.cells (bv l).toArray 23)).alloc (.cells (bv m).toArray 23)).drewN n) := by
    intro n
    have h := Try.bytesCompare (((w.alloc (.cells (bv l).toArray 23)).alloc (.cells (bv m).toArray 23)).drewN n) l m w.heap.size 0 32 (w.heap.size + 1) 0 32 (fun j hj => by
      show World.cell? ((w.alloc (.cells (bv l).toArray 23)).alloc (.cells (bv m).toArray 23)) _ = _
      rw [Go.cell_of_row _ _ _ _ _ _ (Go.heap_alloc2_old w _ _)]; simpa using bv_get l j hj) (fun j hj => by
      show World.cell? ((w.alloc (.cells (bv l).toArray 23)).alloc (.cells (bv m).toArray 23)) _ = _
      rw [Go.cell_of_row _ _ _ _ _ _ (Go.heap_alloc2_new w _ _)]; simpa using bv_get m j hj)
    rw [hl, hm] at h
    exact h
  generalize Lib.compareBytes l m = r at key ⊢
  go_enter Try.func17, Try.ntmps17
  go_wp2_with fail
  go_quiet ((go_at_call 36; exact Calls.quiet_of_same (key _)))
  go_wp2
  go_ret
  exact ⟨rfl, nq, _, by rw [alloc_eq_grow, alloc_eq_grow, grow_grow]; rfl⟩
theorem Try.cmpLays (blk off size : Nat) (w : World) : CmpLays Try.prog 17 #[] enc 32 cf blk off size w :=
  fun _ _ _ _ x y => Try.compareG x y _
namespace XK
theorem flatK_eq (zs : List I32) : (flatK enc 32 zs.toArray).toList = flat zs := by
  apply List.ext_getElem?
  intro i
  rcases Nat.lt_or_ge i (zs.length * 32) with h | h
  · have hj : i / 32 < zs.length := by omega
    have h2 : i % 32 < 32 := Nat.mod_lt _ (by decide)
    have e1 := flat_get zs (i / 32) hj (i % 32) ((bv zs[i / 32].1)[i % 32]'(by rw [bv_length, (zs[i / 32]).2]; exact h2)) (List.getElem?_eq_getElem _)
    rw [show i / 32 * 32 + i % 32 = i by omega] at e1
    rw [e1]
    have h3 : i < (flatK enc 32 zs.toArray).size := by simpa using h
    rw [Array.getElem?_toList, Array.getElem?_eq_getElem h3, ← getElem!_pos (flatK enc 32 zs.toArray) i h3, get_flatK enc 32 zs.toArray i (by simpa using h)]
    have h4 : zs.toArray[i / 32]! = zs[i / 32] := by rw [getElem!_pos zs.toArray (i / 32) (by simpa using hj)]; simp
    rw [h4]
    unfold enc
    rw [getElem!_pos (bv zs[i / 32].1) (i % 32) (by rw [bv_length, (zs[i / 32]).2]; exact h2)]
  · rw [List.getElem?_eq_none (by rw [Array.length_toList, size_flatK]; simpa using h), List.getElem?_eq_none (by rw [flat_length]; exact h)]
/-- a list of the call's own is a row that the sort takes -/
theorem holds_own {W : World} {T : TypeId} {g : Nat} {zs : List I32} {cur : Array Value} (hg : W.heap[g]? = some (.cells cur T (0, 0))) (hc : cur.toList.take (zs.length * 32) = flat zs) : HoldsK enc 32 W g 0 zs.toArray := by
  intro j hj
  rw [size_flatK] at hj
  have hj' : j < zs.length * 32 := by simpa using hj
  have e1 : cur.toList[j]? = (flat zs)[j]? := by rw [← hc, List.getElem?_take, if_pos hj']
  rw [← flatK_eq] at e1
  constructor
  · rw [Go.cell_of_row _ _ _ _ _ _ hg, Nat.zero_add, ← Array.getElem?_toList, e1, Array.getElem?_toList, Array.getElem?_eq_getElem (by simpa using hj'), ← getElem!_pos (flatK enc 32 zs.toArray) j (by simpa using hj')]
    rfl
  · simp [World.frozen?, hg]
end XK
end Go.Proofs
