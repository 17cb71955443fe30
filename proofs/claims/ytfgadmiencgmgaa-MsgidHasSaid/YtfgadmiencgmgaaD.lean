/- ascii.Unhex at a text of digits, and msgid.Parse -/
import Derived.Test.YtfgadmiencgmgaaC
import Derived.Maps.AppendAt
import Derived.OwnWalk
import Derived.KernelRfl
namespace Go.Proofs
open Go.RowKit XK
theorem XK.indexHex (c : UInt8) : Lib.indexByte [48, 49, 50, 51, 52, 53, 54, 55, 56, 57, 97, 98, 99, 100, 101, 102] c = XK.dvI c := by
  have : ∀ c : Fin 256, Lib.indexByte [48, 49, 50, 51, 52, 53, 54, 55, 56, 57, 97, 98, 99, 100, 101, 102] (UInt8.ofNat c.1) = XK.dvI (UInt8.ofNat c.1) := by decide +kernel
  have := this ⟨c.toNat, c.toNat_lt⟩
  simpa using this
/-- the closure of ascii.Unhex -/
theorem Try.unhexV (c : UInt8) (w : World) : Calls Try.prog 49 #[.int .u8 c.toNat] w fun e w' => e = .returned (.int .i64 (XK.dvI c)) ∧ w' = w := by
  have h := Try.indexByte ⟨#[48, 49, 50, 51, 52, 53, 54, 55, 56, 57, 97, 98, 99, 100, 101, 102]⟩ c.toNat w
  rw [show (⟨#[48, 49, 50, 51, 52, 53, 54, 55, 56, 57, 97, 98, 99, 100, 101, 102]⟩ : ByteArray).data.toList = [48, 49, 50, 51, 52, 53, 54, 55, 56, 57, 97, 98, 99, 100, 101, 102] from rfl, Int.toNat_natCast, Nat.toUInt8_eq, UInt8.ofNat_toNat, XK.indexHex] at h
  generalize XK.dvI c = r at h ⊢
  go_enter Try.func49, Try.ntmps49
  go_wp2_with (go_at_call 32; refine h.mono ?_; rintro e w' ⟨rfl, rfl⟩)
  go_ret
  exact ⟨rfl, rfl⟩
theorem XK.or16 (x y : Nat) (hx : x < 16) (hy : y < 16) : bits BinOp.or IntKind.i64 ((x : Int) * 16) (y : Int) = ((x : Int) * 16 + y) := by
  have : ∀ x y : Fin 16, bits BinOp.or IntKind.i64 ((x.1 : Int) * 16) (y.1 : Int) = ((x.1 : Int) * 16 + y.1) := by decide +kernel
  exact this ⟨x, hx⟩ ⟨y, hy⟩
theorem XK.dvI_of {c : UInt8} (h : MsgPure.isD c = true) : XK.dvI c = (MsgPure.dv c : Nat) := by unfold XK.dvI; rw [if_pos h]
theorem XK.unhex_append : ∀ (n : Nat) (a b : List UInt8), a.length = 2 * n → MsgPure.unhex (a ++ b) = MsgPure.unhex a ++ MsgPure.unhex b
  | 0, [], b, _ => rfl
  | n + 1, x :: y :: r, b, h => by
    rw [List.cons_append, List.cons_append, MsgPure.unhex, MsgPure.unhex, XK.unhex_append n r b (by simp at h; omega)]
    rfl
theorem XK.unhex_take (s : ByteArray) (k : Nat) (h : 2 * k + 1 < s.size) : MsgPure.unhex (s.data.toList.take (2 * (k + 1))) = MsgPure.unhex (s.data.toList.take (2 * k)) ++ [UInt8.ofNat (16 * MsgPure.dv (s[2 * k]'(by omega)) + MsgPure.dv (s[2 * k + 1]'h))] := by
  have hl : s.data.toList.length = s.size := by rw [Array.length_toList]; rfl
  have e : s.data.toList.take (2 * (k + 1)) = s.data.toList.take (2 * k) ++ [s[2 * k]'(by omega), s[2 * k + 1]'h] := by
    rw [show 2 * (k + 1) = 2 * k + 1 + 1 by omega, List.take_succ_eq_append_getElem (by omega), List.take_succ_eq_append_getElem (by omega), List.append_assoc]
    rfl
  rw [e, XK.unhex_append k _ _ (by rw [List.length_take]; omega)]
  rfl
set_option maxRecDepth 100000 in
/-- ascii.Unhex at digits -/
theorem Try.unhex (s : ByteArray) (n : Nat) (hn : s.size = 2 * n) (hn2 : n ≤ 1000) (hd : ∀ j, j < s.size → MsgPure.isD (s.data.toList.getD j 0) = true) (w : World) :
    Calls Try.prog 33 #[.string s] w fun e w' => ∃ v, e = .returned (.tuple #[v, .int .i64 0]) ∧ w'.ownsRow w.heap.size 5 1 v n (bv (MsgPure.unhex s.data.toList)) ∧ Below w.heap.size w w' := by
  have hrem : ((s.size : Int) % 2 != 0) = false := by
    rw [bne_eq_false_iff_eq, hn]; omega
  have hsz : s.size ≤ 2000 := by omega
  have hN := Lib.hid hn
  clear hn
  go_enter Try.func33, Try.ntmps33
  go_wp2
  go_loopw [4, 6] (fun v i wr => ∃ k : Nat, k ≤ n ∧ i = .int .i64 (2 * (k : Int)) ∧ wr.ownsRow w.heap.size 5 1 v k (bv (MsgPure.unhex (s.data.toList.take (2 * k)))) ∧ Below w.heap.size w wr) (fun _ i _ => s.size - (intOf i).toNat)
  case atStart =>
    exact ⟨0, Nat.zero_le _, rfl, World.ownsRow_nil _ _ _ _, Below.refl _ _⟩
  case round =>
    obtain ⟨k, hk, rfl, hown, hb⟩ := hrel
    by_cases hlt : k < n
    · have hn := hN.out
      have i1 : 2 * k < s.size := by omega
      have i2 : 2 * k + 1 < s.size := by omega
      have j1 : (0 : Int) ≤ 2 * (k : Int) := by omega
      have j2 : 2 * (k : Int) < s.size := by omega
      have j3 : 2 * (k : Int) + 1 < s.size := by omega
      have j4 : (0 : Int) ≤ 2 * (k : Int) + 1 := by omega
      have j5 : IntKind.i64.wrap (2 * (k : Int) + 1) = 2 * (k : Int) + 1 := IntWalk.i64_in _ (by omega)
      have j6 : (2 * (k : Int)).toNat = 2 * k := by omega
      have j7 : (2 * (k : Int) + 1).toNat = 2 * k + 1 := by omega
      clear hn
      go_wp2_with fail
      go_quiet ((go_at_call 49; exact Calls.quiet_of_same (Try.unhexV _ _)))
      have hd1 := hd (2 * k) i1
      have hd2 := hd (2 * k + 1) i2
      rw [← XK.byte_at s _ i1] at hd1
      rw [← XK.byte_at s _ i2] at hd2
      rw [XK.dvI_of hd1, XK.dvI_of hd2]
      have l1 := (MsgPure.dv_lt _ hd1).1
      have l2 := (MsgPure.dv_lt _ hd2).1
      have hst := Lib.hid (XK.unhex_take s k i2)
      clear hd1 hd2 hd
      generalize MsgPure.dv (s[2 * k]'i1) = x at l1 hst ⊢
      generalize MsgPure.dv (s[2 * k + 1]'i2) = y at l2 hst ⊢
      have hor : bits BinOp.or IntKind.i64 ((x : Int) * 16) (y : Int) = ((x : Int) * 16 + y) := XK.or16 x y l1 l2
      have hown' : (wr.drewN nq).ownsRow w.heap.size 5 1 u4 k (bv (MsgPure.unhex (s.data.toList.take (2 * k)))) := hown
      have hOwn := Lib.hid hown'
      have hsz0 : (wr.drewN nq).heap.size = wr.heap.size := rfl
      clear hown hown'
      go_wp2_with (at_builtin; refine x_app rfl _ _ 35 rfl w.heap.size 5 (.int .u8 0) 1 1 Try.underlying35 (by kernel_rfl) rfl (by decide) _ k _ rfl hOwn.out 1 [_] _ rfl rfl rfl (XK.one_of rfl) (by omega) (by decide) hb.size ?_)
      intro v' w1 hown1 hg1 _ _
      obtain ⟨A, c, rfl⟩ := XK.own_slice hown1
      have hb1 : Below w.heap.size w w1 := hb.trans (((XK.below_drewN (Below.refl _ _) nq).grown hg1 hb.size (fun j e => (hOwn.out.lt j e).1)))
      have hown2 : w1.ownsRow w.heap.size 5 1 (.slice A (k + 1) c) (k + 1) (bv (MsgPure.unhex (s.data.toList.take (2 * (k + 1))))) := by
        rw [hst.out]
        have e : (UInt8.ofNat (16 * x + y)).toNat = x * 16 + y := by rw [UInt8.toNat_ofNat']; omega
        have e2 : ∀ u : List UInt8, bv (u ++ [UInt8.ofNat (16 * x + y)]) = bv u ++ [.int .u8 ((x : Int) * 16 + y)] := fun u => by
          simp only [bv, Lib.byteCells, List.map_append, List.map_cons, List.map_nil, e]
          rfl
        rw [e2]
        exact hown1
      clear hown1 hg1 hOwn hst hor hb
      go_wp2
      go_roundw
      case rel => exact ⟨k + 1, by omega, by go_num, hown2, hb1⟩
      case measure => simp [intOf]; omega
    · obtain rfl : k = n := by omega
      obtain ⟨A, c, rfl⟩ := XK.own_slice hown
      have hn := hN.out
      rw [← hn, List.take_of_length_le (by rw [Array.length_toList]; exact Nat.le_refl _)] at hown
      have hlt' : ¬ 2 * (k : Int) < s.size := by omega
      clear hd hn hlt
      go_wp2
      go_ret2
      exact ⟨_, rfl, hown, hb⟩
end Go.Proofs
