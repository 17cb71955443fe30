/- contracts of the reference's functions on message identifiers -/
import Derived.Test.YtfgadmiencgmgaaA
namespace Go.Proofs
open Go.RowKit XK
/-- the value of a digit, or -1 -/
def XK.dvI (c : UInt8) : Int := if MsgPure.isD c then (MsgPure.dv c : Int) else -1
/-- bulletinref11.digit -/
theorem Try.rdigit (c : UInt8) (w : World) : Calls Try.prog 35 #[.int .u8 c.toNat] w fun e w' => e = .returned (.int .i64 (XK.dvI c)) ∧ w = w' := by
  have hc := c.toNat_lt
  have hr : XK.dvI c = if 48 ≤ c.toNat ∧ c.toNat ≤ 57 then (c.toNat : Int) - 48 else if 97 ≤ c.toNat ∧ c.toNat ≤ 102 then (c.toNat : Int) - 97 + 10 else -1 := by
    unfold XK.dvI MsgPure.isD MsgPure.dv
    by_cases h1 : 48 ≤ c.toNat ∧ c.toNat ≤ 57
    · simp [h1]; omega
    · by_cases h2 : 97 ≤ c.toNat ∧ c.toNat ≤ 102
      · have : ¬ c.toNat ≤ 57 := by omega
        simp [h2, this]; omega
      · rw [if_neg h1, if_neg h2, if_neg]
        simp only [Bool.or_eq_true, Bool.and_eq_true, decide_eq_true_eq]
        omega
  have hR := Lib.hid hr
  clear hr
  generalize XK.dvI c = r at hR ⊢
  generalize c.toNat = n at hR hc ⊢
  by_cases h1 : n < 48
  · go_enter Try.func35, Try.ntmps35
    go_wp2
    go_ret
    exact ⟨by rw [hR.out, if_neg (by omega), if_neg (by omega)]; rfl, rfl⟩
  · by_cases h2 : n ≤ 57
    · go_enter Try.func35, Try.ntmps35
      go_wp2
      go_ret
      exact ⟨by rw [hR.out, if_pos (by omega)]; rfl, rfl⟩
    · by_cases h3 : n < 97
      · go_enter Try.func35, Try.ntmps35
        go_wp2
        go_ret
        exact ⟨by rw [hR.out, if_neg (by omega), if_neg (by omega)]; rfl, rfl⟩
      · by_cases h4 : n ≤ 102
        · go_enter Try.func35, Try.ntmps35
          go_wp2
          go_ret
          exact ⟨by rw [hR.out, if_neg (by omega), if_pos (by omega)]; rfl, rfl⟩
        · go_enter Try.func35, Try.ntmps35
          go_wp2
          go_ret
          exact ⟨by rw [hR.out, if_neg (by omega), if_neg (by omega)]; rfl, rfl⟩
theorem XK.hexExt (n : Nat) (h : n < 16) : (⟨#[48, 49, 50, 51, 52, 53, 54, 55, 56, 57, 97, 98, 99, 100, 101, 102]⟩ : ByteArray).extract n (n + 1) = ⟨#[MsgPure.hd n]⟩ := by
  have : ∀ n : Fin 16, (⟨#[48, 49, 50, 51, 52, 53, 54, 55, 56, 57, 97, 98, 99, 100, 101, 102]⟩ : ByteArray).extract n.1 (n.1 + 1) = ⟨#[MsgPure.hd n.1]⟩ := by decide
  exact this ⟨n, h⟩
theorem XK.hexStr (l : List UInt8) (k : Nat) (h : k < l.length) : (⟨(MsgPure.hex (l.take (k + 1))).toArray⟩ : ByteArray) = ⟨(MsgPure.hex (l.take k)).toArray⟩ ++ (⟨#[MsgPure.hd ((l.getD k 0).toNat / 16)]⟩ ++ ⟨#[MsgPure.hd ((l.getD k 0).toNat % 16)]⟩) := by
  rw [XK.str_app, XK.str_app, List.take_succ_eq_append_getElem h, MsgPure.hex_append, MsgPure.hex_cons, MsgPure.hex_nil, List.getD_eq_getElem?_getD, List.getElem?_eq_getElem h]
  simp
/-- bulletinref11.Digits -/
theorem Try.rDigits (l : List UInt8) (hl : l.length = 32) (w : World) :
    Calls Try.prog 34 #[.agg (bv l).toArray] w fun e w' => e = .returned (.string ⟨(MsgPure.hex l).toArray⟩) ∧ Below w.heap.size w w' := by
  go_enter Try.func34, Try.ntmps34
  go_wp2
  go_loopw [3, 4] (fun s i wr => ∃ k : Nat, k ≤ 32 ∧ i = .int .i64 k ∧ s = .string ⟨(MsgPure.hex (l.take k)).toArray⟩ ∧ Below w.heap.size w wr ∧ wr.heap[w.heap.size]? = some (.cells (bv l).toArray 30 (0, 0))) (fun _ i _ => 32 - (intOf i).toNat)
  case atStart =>
    exact ⟨0, by omega, rfl, by simp [MsgPure.hex], (Below.refl _ _).alloc (Nat.le_refl _) _, Go.heap_alloc_new w _⟩
  case round =>
    obtain ⟨k, hk, rfl, rfl, hb, hrow⟩ := hrel
    by_cases hlt : k < 32
    · have hcell : wr.cell? ⟨w.heap.size, k, none⟩ = some (.int .u8 (l.getD k 0).toNat) := by
        rw [Go.cell_of_row _ _ _ _ _ _ hrow]; simpa using bv_get l k (by omega)
      generalize hq : l.getD k 0 = x at hcell
      have hQ := Lib.hid hq
      clear hq
      have hx := x.toNat_lt
      have hlen : (MsgPure.hex (l.take k)).length ≤ 64 := by rw [MsgPure.hex_length, List.length_take]; omega
      go_wp2_with fail
      go_quiet (fail)
      go_wp2_with fail
      go_quiet (fail)
      go_wp2
      go_roundw
      case rel => exact ⟨k + 1, by omega, by go_num, by rw [XK.hexExt _ (by omega), XK.hexExt _ (by omega), XK.hexStr l k (by omega), hQ.out], XK.below_drewN hb _, hrow⟩
      case measure => simp [intOf]; omega
    · obtain rfl : k = 32 := by omega
      rw [← hl, List.take_length]
      go_wp2
      go_ret
      exact ⟨rfl, hb⟩
/-- bulletinref11.Print -/
theorem Try.rPrint (l : List UInt8) (hl : l.length = 32) (w : World) :
    Calls Try.prog 14 #[.agg (bv l).toArray] w fun e w' => e = .returned (.string ⟨(MsgPure.prn l).toArray⟩) ∧ Below w.heap.size w w' := by
  have hlen : (MsgPure.hex l).length ≤ 64 := by rw [MsgPure.hex_length]; omega
  go_enter Try.func14, Try.ntmps14
  go_wp2_with (refine x_ld Try.arrRId rfl _ rfl _ _ rfl l hl ?_ ?_; exact fun j v hj => by simpa using hj)
  refine (Try.rDigits l hl _).mono ?_
  rintro e w1 ⟨rfl, hb⟩
  go_wp2
  go_ret
  refine ⟨?_, ((Below.refl _ _).alloc (Nat.le_refl _) _).trans (hb.mono (by simp))⟩
  show Ending.returned (.string (⟨#[60]⟩ ++ ⟨_⟩ ++ ⟨#[64, 104, 97, 115, 104, 62]⟩)) = _
  rw [XK.str_app, XK.str_app]
  simp [MsgPure.prn, MsgPure.tail]
theorem XK.cmp_lt : ∀ (k : Nat) (l m : List UInt8), k < l.length → k < m.length → (∀ j, j < k → l.getD j 0 = m.getD j 0) → (l.getD k 0).toNat < (m.getD k 0).toNat → Lib.compareBytes l m = -1
  | 0, a :: l, b :: m, _, _, _, h => by
    have h' : a < b := UInt8.lt_iff_toNat_lt.2 h
    simp [Lib.compareBytes, h']
  | k + 1, a :: l, b :: m, h1, h2, h3, h => by
    have h0 : a = b := h3 0 (by omega)
    subst h0
    have hi : ¬ a < a := UInt8.lt_irrefl a
    rw [Lib.compareBytes, if_neg hi, if_neg hi]
    exact XK.cmp_lt k l m (by simpa using h1) (by simpa using h2) (fun j hj => h3 (j + 1) (by omega)) h
theorem XK.cmp_gt : ∀ (k : Nat) (l m : List UInt8), k < l.length → k < m.length → (∀ j, j < k → l.getD j 0 = m.getD j 0) → (m.getD k 0).toNat < (l.getD k 0).toNat → Lib.compareBytes l m = 1
  | 0, a :: l, b :: m, _, _, _, h => by
    have h' : b < a := UInt8.lt_iff_toNat_lt.2 h
    have h'' : ¬ a < b := fun e => by have := UInt8.lt_iff_toNat_lt.1 e; have := UInt8.lt_iff_toNat_lt.1 h'; omega
    simp [Lib.compareBytes, h', h'']
  | k + 1, a :: l, b :: m, h1, h2, h3, h => by
    have h0 : a = b := h3 0 (by omega)
    subst h0
    have hi : ¬ a < a := UInt8.lt_irrefl a
    rw [Lib.compareBytes, if_neg hi, if_neg hi]
    exact XK.cmp_gt k l m (by simpa using h1) (by simpa using h2) (fun j hj => h3 (j + 1) (by omega)) h
theorem XK.cmp_self : ∀ l : List UInt8, Lib.compareBytes l l = 0
  | [] => rfl
  | a :: l => by rw [Lib.compareBytes, if_neg (UInt8.lt_irrefl a), if_neg (UInt8.lt_irrefl a)]; exact XK.cmp_self l
theorem XK.eq_of_getD {l m : List UInt8} (n : Nat) (hl : l.length = n) (hm : m.length = n) (h : ∀ j, j < n → l.getD j 0 = m.getD j 0) : l = m := by
  apply List.ext_getElem?
  intro x
  rcases Nat.lt_or_ge x n with h' | h'
  · have := h x h'
    simp only [List.getD_eq_getElem?_getD] at this
    rw [List.getElem?_eq_getElem (by omega), List.getElem?_eq_getElem (by omega)] at this ⊢
    simpa using this
  · rw [List.getElem?_eq_none (by omega), List.getElem?_eq_none (by omega)]
/-- bulletinref11.Compare -/
theorem Try.rCompare (l m : List UInt8) (hl : l.length = 32) (hm : m.length = 32) (w : World) :
    Calls Try.prog 18 #[.agg (bv l).toArray, .agg (bv m).toArray] w fun e w' => e = .returned (.int .i64 (Lib.compareBytes l m)) ∧ Below w.heap.size w w' := by
  go_enter Try.func18, Try.ntmps18
  go_wp2
  go_loopw [5] (fun i wr => ∃ k : Nat, k ≤ 32 ∧ i = .int .i64 k ∧ (∀ j, j < k → l.getD j 0 = m.getD j 0) ∧ Below w.heap.size w wr ∧ wr.heap[w.heap.size]? = some (.cells (bv l).toArray 30 (0, 0)) ∧ wr.heap[w.heap.size + 1]? = some (.cells (bv m).toArray 30 (0, 0))) (fun i _ => 32 - (intOf i).toNat)
  case atStart =>
    exact ⟨0, by omega, rfl, fun j hj => by omega, ((Below.refl _ _).alloc (Nat.le_refl _) _).alloc (by simp) _, Go.heap_alloc2_old w _ _, Go.heap_alloc2_new w _ _⟩
  case round =>
    obtain ⟨k, hk, rfl, heq, hb, hrow, hrow2⟩ := hrel
    by_cases hlt : k < 32
    · have hcell : wr.cell? ⟨w.heap.size, k, none⟩ = some (.int .u8 (l.getD k 0).toNat) := by
        rw [Go.cell_of_row _ _ _ _ _ _ hrow]; simpa using bv_get l k (by omega)
      have hcell2 : wr.cell? ⟨w.heap.size + 1, k, none⟩ = some (.int .u8 (m.getD k 0).toNat) := by
        rw [Go.cell_of_row _ _ _ _ _ _ hrow2]; simpa using bv_get m k (by omega)
      have hlo := fun h => Lib.hid (XK.cmp_lt k l m (by omega) (by omega) heq h)
      have hgo := fun h => Lib.hid (XK.cmp_gt k l m (by omega) (by omega) heq h)
      have hnx : (l.getD k 0).toNat = (m.getD k 0).toNat → Hid (∀ j, j < k + 1 → l.getD j 0 = m.getD j 0) := fun h => Lib.hid fun j hj => by
        rcases Nat.lt_or_eq_of_le (Nat.lt_succ_iff.1 hj) with h' | h'
        · exact heq j h'
        · rw [h']; exact UInt8.toNat_inj.1 h
      clear heq
      have hx := (l.getD k 0).toNat_lt
      have hy := (m.getD k 0).toNat_lt
      generalize hx' : (l.getD k 0).toNat = x at hcell hlo hgo hnx hx
      generalize hy' : (m.getD k 0).toNat = y at hcell2 hlo hgo hnx hy
      clear hx' hy'
      rcases Nat.lt_trichotomy x y with h | h | h
      · have h0 := hlo h
        clear hlo hgo hnx
        go_wp2_with fail
        go_quiet (fail)
        go_wp2
        go_ret
        exact ⟨by rw [h0.out]; rfl, XK.below_drewN hb _⟩
      · subst h
        have h0 := hnx rfl
        clear hlo hgo hnx
        go_wp2_with fail
        go_quiet (fail)
        go_wp2_with fail
        go_quiet (fail)
        go_wp2
        go_roundw
        case rel => exact ⟨k + 1, by omega, by go_num, h0.out, XK.below_drewN hb _, hrow, hrow2⟩
        case measure => simp [intOf]; omega
      · have h0 := hgo h
        clear hlo hgo hnx
        go_wp2_with fail
        go_quiet (fail)
        go_wp2_with fail
        go_quiet (fail)
        go_wp2
        go_ret
        exact ⟨by rw [h0.out]; rfl, XK.below_drewN (XK.below_drewN hb _) _⟩
    · obtain rfl : k = 32 := by omega
      have : l = m := XK.eq_of_getD 32 hl hm heq
      subst this
      clear heq
      go_wp2
      go_ret
      exact ⟨by rw [XK.cmp_self]; rfl, hb⟩
end Go.Proofs
