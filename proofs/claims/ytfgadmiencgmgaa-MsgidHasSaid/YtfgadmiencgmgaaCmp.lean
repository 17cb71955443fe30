/- the order of two identities is the order of their texts -/
import Derived.Test.YtfgadmiencgmgaaKnown
namespace Go.Proofs
open Go.RowKit XK
theorem XK.hd_lt_iff : ∀ n, n < 16 → ∀ m, m < 16 → (decide (MsgPure.hd n < MsgPure.hd m)) = decide (n < m) := by decide +kernel
theorem XK.hd_eq_iff : ∀ n, n < 16 → ∀ m, m < 16 → (MsgPure.hd n == MsgPure.hd m) = decide (n = m) := by decide +kernel
theorem XK.cmp_cons (x y : UInt8) (a b : List UInt8) : Lib.compareBytes (x :: a) (y :: b) = if x < y then -1 else if y < x then 1 else Lib.compareBytes a b := by
  rw [Lib.compareBytes]
theorem XK.less_self : ∀ l : List UInt8, Op.bytesLess l l = false
  | [] => rfl
  | a :: l => by simp [Op.bytesLess, XK.less_self l]
theorem XK.less_hex (t : List UInt8) : ∀ a b : List UInt8, a.length = b.length → Op.bytesLess (MsgPure.hex a ++ t) (MsgPure.hex b ++ t) = decide (Lib.compareBytes a b = -1)
  | [], [], _ => by simp [MsgPure.hex, XK.less_self, Lib.compareBytes]
  | x :: a, y :: b, h => by
    have ih := XK.less_hex t a b (by simpa using h)
    have hx := x.toNat_lt
    have hy := y.toNat_lt
    have e1 := XK.hd_lt_iff (x.toNat / 16) (by omega) (y.toNat / 16) (by omega)
    have e2 := XK.hd_eq_iff (x.toNat / 16) (by omega) (y.toNat / 16) (by omega)
    have e3 := XK.hd_lt_iff (x.toNat % 16) (by omega) (y.toNat % 16) (by omega)
    have e4 := XK.hd_eq_iff (x.toNat % 16) (by omega) (y.toNat % 16) (by omega)
    rw [MsgPure.hex_cons, MsgPure.hex_cons]
    simp only [List.cons_append, Op.bytesLess, ih, e1, e2, e3, e4]
    rw [XK.cmp_cons]
    have hlt : x < y ↔ x.toNat < y.toNat := UInt8.lt_iff_toNat_lt
    have hgt : y < x ↔ y.toNat < x.toNat := UInt8.lt_iff_toNat_lt
    by_cases h1 : x < y
    · rw [if_pos h1]
      have := hlt.1 h1
      have hh : x.toNat / 16 < y.toNat / 16 ∨ x.toNat / 16 = y.toNat / 16 ∧ (x.toNat % 16 < y.toNat % 16 ∨ x.toNat % 16 = y.toNat % 16 ∧ Lib.compareBytes a b = -1) := by omega
      simpa using hh
    · rw [if_neg h1]
      have h1' : ¬ x.toNat < y.toNat := fun q => h1 (hlt.2 q)
      by_cases h2 : y < x
      · rw [if_pos h2]
        have := hgt.1 h2
        simp
        omega
      · rw [if_neg h2]
        have h2' : ¬ y.toNat < x.toNat := fun q => h2 (hgt.2 q)
        have : x.toNat = y.toNat := by omega
        simp [this]
theorem XK.less_prn {a b : List UInt8} (h : a.length = b.length) : Op.bytesLess (MsgPure.prn a) (MsgPure.prn b) = decide (Lib.compareBytes a b = -1) := by
  rw [MsgPure.prn, MsgPure.prn, Op.bytesLess, XK.less_hex MsgPure.tail a b h]
  simp
theorem XK.cmp_neg : ∀ a b : List UInt8, Lib.compareBytes b a = - Lib.compareBytes a b
  | [], [] => rfl
  | [], _ :: _ => rfl
  | _ :: _, [] => rfl
  | x :: a, y :: b => by
    have ih := XK.cmp_neg a b
    rw [XK.cmp_cons, XK.cmp_cons]
    have hlt : x < y ↔ x.toNat < y.toNat := UInt8.lt_iff_toNat_lt
    have hgt : y < x ↔ y.toNat < x.toNat := UInt8.lt_iff_toNat_lt
    by_cases h1 : x < y
    · rw [if_pos h1, if_neg (fun q => by have := hlt.1 h1; have := hgt.1 q; omega), if_pos h1]; rfl
    · by_cases h2 : y < x
      · rw [if_pos h2, if_neg h1, if_pos h2]
      · rw [if_neg h2, if_neg h1, if_neg h1, if_neg h2, ih]
theorem XK.cmp_three : ∀ a b : List UInt8, Lib.compareBytes a b = -1 ∨ Lib.compareBytes a b = 0 ∨ Lib.compareBytes a b = 1
  | [], [] => .inr (.inl rfl)
  | [], _ :: _ => .inl rfl
  | _ :: _, [] => .inr (.inr rfl)
  | x :: a, y :: b => by
    rw [XK.cmp_cons]
    by_cases h1 : x < y
    · rw [if_pos h1]; exact .inl rfl
    · by_cases h2 : y < x
      · rw [if_neg h1, if_pos h2]; exact .inr (.inr rfl)
      · rw [if_neg h1, if_neg h2]; exact XK.cmp_three a b
theorem XK.cmp_zero : ∀ a b : List UInt8, Lib.compareBytes a b = 0 → a = b
  | [], [], _ => rfl
  | [], _ :: _, h => by simp [Lib.compareBytes] at h
  | _ :: _, [], h => by simp [Lib.compareBytes] at h
  | x :: a, y :: b, h => by
    rw [XK.cmp_cons] at h
    have hlt : x < y ↔ x.toNat < y.toNat := UInt8.lt_iff_toNat_lt
    have hgt : y < x ↔ y.toNat < x.toNat := UInt8.lt_iff_toNat_lt
    by_cases h1 : x < y
    · rw [if_pos h1] at h; cases h
    · by_cases h2 : y < x
      · rw [if_neg h1, if_pos h2] at h; cases h
      · rw [if_neg h1, if_neg h2] at h
        have h1' : ¬ x.toNat < y.toNat := fun q => h1 (hlt.2 q)
        have h2' : ¬ y.toNat < x.toNat := fun q => h2 (hgt.2 q)
        rw [XK.cmp_zero a b h, UInt8.toNat_inj.1 (by omega : x.toNat = y.toNat)]
theorem XK.eq_prn {a b : List UInt8} (ha : a.length = 32) (hb : b.length = 32) : (MsgPure.prn a == MsgPure.prn b) = decide (Lib.compareBytes a b = 0) := by
  by_cases h : a = b
  · subst h
    simp [XK.cmp_self]
  · have h1 : MsgPure.prn a ≠ MsgPure.prn b := fun e => h (by
      have h2 := MsgPure.parse_prn ha
      rw [e, MsgPure.parse_prn hb] at h2
      injection h2 with h3
      exact h3.symm)
    have h2 : Lib.compareBytes a b ≠ 0 := fun e => h (XK.cmp_zero a b e)
    rw [decide_eq_false h2, beq_eq_false_iff_ne]
    exact h1
end Go.Proofs
