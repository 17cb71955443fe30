/- contracts of the functions of package ascii and msgid that print an identity or compare identities, and of the reference's -/
import Derived.Test.YtfgadmiencgmgaaShelf
import Derived.Test.YtfgadmiencgmgaaKit
import Derived.Test.YtfgadmiencgmgaaPure
import Derived.WalkKit
import Derived.WalkSpells
import Derived.Deep.QuietTactic
import Derived.BigQuiet
import Derived.Lib.Hide
import Derived.Lib.BytesEntry
import Derived.Laws.Externs
namespace Go.Proofs
open Go.RowKit XK
theorem XK.hexAt (n : Nat) (h : n < 16) (h' : n < (⟨#[48, 49, 50, 51, 52, 53, 54, 55, 56, 57, 97, 98, 99, 100, 101, 102]⟩ : ByteArray).size) :
    (⟨#[48, 49, 50, 51, 52, 53, 54, 55, 56, 57, 97, 98, 99, 100, 101, 102]⟩ : ByteArray)[n]'h' = MsgPure.hd n := by
  have : ∀ n : Fin 16, ∀ h' : n.1 < (⟨#[48, 49, 50, 51, 52, 53, 54, 55, 56, 57, 97, 98, 99, 100, 101, 102]⟩ : ByteArray).size, (⟨#[48, 49, 50, 51, 52, 53, 54, 55, 56, 57, 97, 98, 99, 100, 101, 102]⟩ : ByteArray)[n.1]'h' = MsgPure.hd n.1 := by decide
  exact this ⟨n, h⟩ h'
theorem XK.hex_take (l : List UInt8) (k : Nat) (h : k < l.length) : bv (MsgPure.hex (l.take (k + 1))) = bv (MsgPure.hex (l.take k)) ++ [.int .u8 (MsgPure.hd ((l.getD k 0).toNat / 16)).toNat] ++ [.int .u8 (MsgPure.hd ((l.getD k 0).toNat % 16)).toNat] := by
  rw [List.take_succ_eq_append_getElem h, MsgPure.hex_append, MsgPure.hex_cons, MsgPure.hex_nil, List.getD_eq_getElem?_getD, List.getElem?_eq_getElem h]
  simp [bv, Lib.byteCells]
theorem XK.bv_hex_len (l : List UInt8) (k n : Nat) (h : k ≤ l.length) (hn : l.length ≤ n) : (bv (MsgPure.hex (l.take k))).length ≤ 2 * n := by
  rw [bv_length, MsgPure.hex_length, List.length_take]; omega
theorem Try.arrId : Arr Try.prog 23 5 := ⟨Try.underlying23, Try.underlying5, by kernel_rfl, by kernel_rfl, by kernel_rfl, Try.eqGuardType23⟩
theorem Try.arrRId : Arr Try.prog 30 5 := ⟨Try.underlying30, Try.underlying5, by kernel_rfl, by kernel_rfl, by kernel_rfl, Try.eqGuardType30⟩
theorem XK.str_app (a b : Array UInt8) : (⟨a⟩ : ByteArray) ++ ⟨b⟩ = ⟨a ++ b⟩ := by
  apply ByteArray.ext
  simp
/-- ascii.Hex at bytes that lie in memory -/
theorem Try.hex (l : List UInt8) (g f c : Nat) (w : World) (hn : l.length ≤ 1000) (hg : g < w.heap.size) (hc : ∀ j, j < l.length → w.cell? ⟨g, f + j, none⟩ = some (.int .u8 (l.getD j 0).toNat)) :
    Calls Try.prog 47 #[.slice (some ⟨g, f, none⟩) l.length c] w fun e w' => e = .returned (.string ⟨(MsgPure.hex l).toArray⟩) ∧ Below w.heap.size w w' := by
  go_enter Try.func47, Try.ntmps47
  go_wp2
  go_loopw [8] (fun i wr => ∃ k : Nat, k ≤ l.length ∧ i = .int .i64 k ∧ Lib.IsBuilder 77 5 w.heap.size w.heap.size (bv (MsgPure.hex (l.take k))) wr ∧ Below w.heap.size w wr ∧ w.heap.size < wr.heap.size) (fun i _ => l.length - (intOf i).toNat)
  case atStart =>
    refine ⟨0, Nat.zero_le _, rfl, ?_, (Below.refl _ _).alloc (Nat.le_refl _) _, by simp⟩
    exact Lib.fresh_isBuilder 77 5 w
  case round =>
    obtain ⟨k, hk, rfl, hB, hb, hz⟩ := hrel
    have hlen := XK.bv_hex_len l k 1000 hk hn
    by_cases hlt : k < l.length
    · have hcell : wr.cell? ⟨g, f + k, none⟩ = some (.int .u8 (l.getD k 0).toNat) := (hb.cell (p := ⟨g, f + k, none⟩) hg).trans (hc k hlt)
      have htk := Lib.hid (XK.hex_take l k hlt)
      generalize l.getD k 0 = x at hcell htk
      have hx := x.toNat_lt
      clear hc
      go_wp2_with fail
      refine (Try.writeByte _ _ _ _ _ hB (by omega) (by omega)).mono ?_
      rintro e w1 ⟨rfl, hB1, hb1⟩
      rw [XK.hexAt _ (by omega)] at hB1
      have hz1 := hb1.size
      go_wp2_with fail
      refine (Try.writeByte _ _ _ _ _ (.inr hB1) (by simp; omega) (by omega)).mono ?_
      rintro e w2 ⟨rfl, hB2, hb2⟩
      rw [XK.hexAt _ (by omega)] at hB2
      have hz2 := hb2.size
      go_wp2
      go_roundw
      case rel => exact ⟨k + 1, by omega, by go_num, by rw [htk.out]; exact .inr hB2, (hb.trans hb1).trans hb2, by omega⟩
      case measure => simp [intOf]; omega
    · obtain rfl : k = l.length := by omega
      rw [List.take_length] at hB
      go_wp2_with fail
      refine (Try.builderString _ _ _ _ hB (by omega)).mono ?_
      rintro e w1 ⟨rfl, hb1⟩
      go_wp2
      go_ret
      exact ⟨rfl, hb.trans hb1⟩
/-- msgid.digits -/
theorem Try.digits (l : List UInt8) (hl : l.length = 32) (w : World) :
    Calls Try.prog 31 #[.agg (bv l).toArray] w fun e w' => e = .returned (.string ⟨(MsgPure.hex l).toArray⟩) ∧ Below w.heap.size w w' := by
  go_enter Try.func31, Try.ntmps31
  go_wp2_with fail
  have h := Try.hex l w.heap.size 0 32 (w.alloc (.cells (bv l).toArray 23)) (by omega) (by simp) (fun j hj => by
    rw [Go.cell_of_row _ _ _ _ _ _ (Go.heap_alloc_new w _)]; simpa using bv_get l j hj)
  rw [hl] at h
  refine h.mono ?_
  rintro e w1 ⟨rfl, hb⟩
  go_wp2
  go_ret
  exact ⟨rfl, ((Below.refl _ _).alloc (Nat.le_refl _) _).trans (hb.mono (by simp))⟩
/-- msgid.Print -/
theorem Try.print (l : List UInt8) (hl : l.length = 32) (w : World) :
    Calls Try.prog 11 #[.agg (bv l).toArray] w fun e w' => e = .returned (.string ⟨(MsgPure.prn l).toArray⟩) ∧ Below w.heap.size w w' := by
  have hlen : (MsgPure.hex l).length ≤ 64 := by rw [MsgPure.hex_length]; omega
  go_enter Try.func11, Try.ntmps11
  go_wp2_with (refine x_ld Try.arrId rfl _ rfl _ _ rfl l hl ?_ ?_; exact fun j v hj => by simpa using hj)
  refine (Try.digits l hl _).mono ?_
  rintro e w1 ⟨rfl, hb⟩
  go_wp2
  go_ret
  refine ⟨?_, ((Below.refl _ _).alloc (Nat.le_refl _) _).trans (hb.mono (by simp))⟩
  show Ending.returned (.string (⟨#[60]⟩ ++ ⟨_⟩ ++ ⟨#[64, 104, 97, 115, 104, 62]⟩)) = _
  rw [XK.str_app, XK.str_app]
  simp [MsgPure.prn, MsgPure.tail]
/-- msgid.IsZero -/
theorem Try.isZero (l : List UInt8) (hl : l.length = 32) (w : World) : Calls Try.prog 16 #[.agg (bv l).toArray] w fun e w' => e = .returned (.bool (l == z32)) ∧ Below w.heap.size w w' := by
  go_enter Try.func16, Try.ntmps16
  go_wp2_with (first
    | (refine x_ld Try.arrId rfl _ rfl _ _ rfl l hl ?_ ?_; exact fun j v hj => by simpa using hj)
    | (refine x_bz Try.arrId rfl rfl ?_)
    | (refine x_eq Try.arrId rfl _ _ _ rfl _ _ rfl rfl hl rfl ?_))
  go_ret
  exact ⟨rfl, (Below.refl _ _).alloc (Nat.le_refl _) _⟩
theorem XK.below_drewN {B : Nat} {a w : World} (h : Below B a w) (n : Nat) : Below B a (w.drewN n) := ⟨h.os, h.tape, h.output, h.size, h.block⟩
theorem XK.run_bytesOf_slice {P : Program} (w : World) (l : List UInt8) (g f c : Nat) (hc : ∀ j, j < l.length → w.cell? ⟨g, f + j, none⟩ = some (.int .u8 (l.getD j 0).toNat)) :
    (Extern.Bytes.bytesOf (.slice (some ⟨g, f, none⟩) l.length c)).run P w = .ok ⟨l.toArray⟩ w := by
  have h := Lib.run_loadBytesX (P := P) w (l.map fun b => (b.toNat : Int)) ⟨g, f, none⟩ .empty (fun j x hj => by
    have hjl : j < l.length := by have := (List.getElem?_eq_some_iff.1 hj).1; simpa using this
    have e : (⟨g, f, none⟩ : Addr).add j = ⟨g, f + j, none⟩ := by unfold Addr.add; split <;> simp_all
    rw [e, hc j hjl]
    rw [List.getElem?_map, List.getElem?_eq_getElem hjl] at hj
    simp only [Option.map_some, Option.some.injEq] at hj
    rw [← hj, List.getD_eq_getElem?_getD, List.getElem?_eq_getElem hjl]; rfl)
  rw [List.length_map] at h
  unfold Extern.Bytes.bytesOf
  simp only [h]
  congr 1
  apply ByteArray.ext
  have e : ((fun n : Int => UInt8.ofNat n.toNat) ∘ fun b : UInt8 => (b.toNat : Int)) = id := by funext b; simp
  simp [Lib.bytesOf, e]
theorem Try.run_compare (w : World) (l m : List UInt8) (g f c g' f' c' : Nat) (hc : ∀ j, j < l.length → w.cell? ⟨g, f + j, none⟩ = some (.int .u8 (l.getD j 0).toNat)) (hc' : ∀ j, j < m.length → w.cell? ⟨g', f' + j, none⟩ = some (.int .u8 (m.getD j 0).toNat)) :
    (callFunc 50 #[.slice (some ⟨g, f, none⟩) l.length c, .slice (some ⟨g', f', none⟩) m.length c']).run Try.prog w = .ok (.value (.int .i64 (Lib.compareBytes l m))) w := by
  rw [run_callFunc_extern Try.func50 (by kernel_rfl) rfl (by kernel_rfl) (show Extern.find _ = some Extern.BytealgCompare.compare by kernel_rfl)]
  have e : (Extern.BytealgCompare.compare #[.slice (some ⟨g, f, none⟩) l.length c, .slice (some ⟨g', f', none⟩) m.length c']).run Try.prog w = .ok (.int .i64 (Lib.compareBytes l m)) w := by
    change Sem.run _ (do pure (goInt (Extern.BytealgCompare.cmp (← Extern.Bytes.bytesOf (.slice (some ⟨g, f, none⟩) l.length c)) (← Extern.Bytes.bytesOf (.slice (some ⟨g', f', none⟩) m.length c'))))) w = _
    simp only [Sem.run_bind, XK.run_bytesOf_slice w l g f c hc, XK.run_bytesOf_slice w m g' f' c' hc', Sem.run_pure, Result.andThen]
    rw [Lib.cmp_eq]
    rfl
  rw [e]
  rfl
/-- bytes.Compare -/
theorem Try.bytesCompare (w : World) (l m : List UInt8) (g f c g' f' c' : Nat) (hc : ∀ j, j < l.length → w.cell? ⟨g, f + j, none⟩ = some (.int .u8 (l.getD j 0).toNat)) (hc' : ∀ j, j < m.length → w.cell? ⟨g', f' + j, none⟩ = some (.int .u8 (m.getD j 0).toNat)) :
    Calls Try.prog 36 #[.slice (some ⟨g, f, none⟩) l.length c, .slice (some ⟨g', f', none⟩) m.length c'] w fun e w' => e = .returned (.int .i64 (Lib.compareBytes l m)) ∧ w' = w := by
  have h := Try.run_compare w l m g f c g' f' c' hc hc'
  generalize Lib.compareBytes l m = r at h ⊢
  go_enter Try.func36, Try.ntmps36
  go_wp2
  go_ret
  exact ⟨rfl, rfl⟩
/-- msgid.Compare -/
theorem Try.compare (l m : List UInt8) (hl : l.length = 32) (hm : m.length = 32) (w : World) :
    Calls Try.prog 17 #[.agg (bv l).toArray, .agg (bv m).toArray] w fun e w' => e = .returned (.int .i64 (Lib.compareBytes l m)) ∧ Below w.heap.size w w' := by
  have key : ∀ n, Calls Try.prog 36 #[.slice (some ⟨w.heap.size, 0, none⟩) 32 32, .slice (some ⟨w.heap.size + 1, 0, none⟩) 32 32] (((w.alloc (.cells (bv l).toArray 23)).alloc (.cells (bv m).toArray 23)).drewN n) fun e w' => e = .returned (.int .i64 (Lib.compareBytes l m)) ∧ w' = (((w.alloc (.cells (bv l).toArray 23)).alloc (.cells (bv m).toArray 23)).drewN n) := by
    intro n
    have h := Try.bytesCompare (((w.alloc (.cells (bv l).toArray 23)).alloc (.cells (bv m).toArray 23)).drewN n) l m w.heap.size 0 32 (w.heap.size + 1) 0 32 (fun j hj => by
      show World.cell? ((w.alloc (.cells (bv l).toArray 23)).alloc (.cells (bv m).toArray 23)) _ = _
      rw [Go.cell_of_row _ _ _ _ _ _ (Go.heap_alloc2_old w _ _)]; simpa using bv_get l j hj) (fun j hj => by
      show World.cell? ((w.alloc (.cells (bv l).toArray 23)).alloc (.cells (bv m).toArray 23)) _ = _
      rw [Go.cell_of_row _ _ _ _ _ _ (Go.heap_alloc2_new w _ _)]; simpa using bv_get m j hj)
    rw [hl, hm] at h
    exact h
  generalize Lib.compareBytes l m = r at key ⊢
  go_enter Try.func17, Try.ntmps17
  go_wp2_with fail
  go_quiet ((go_at_call 36; exact Calls.quiet_of_same (key _)))
  go_wp2
  go_ret
  exact ⟨rfl, XK.below_drewN (((Below.refl _ _).alloc (Nat.le_refl _) _).alloc (by simp) _) _⟩
end Go.Proofs
