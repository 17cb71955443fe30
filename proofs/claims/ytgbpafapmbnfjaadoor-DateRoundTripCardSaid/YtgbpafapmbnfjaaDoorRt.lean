/- Parse of the text of a minute in a zone -/
import Derived.Test.YtgbpafapmbnfjaaDoorIs
namespace Go.Proofs
open Go.RowKit Go.Shelf
set_option linter.unusedVariables false
set_option linter.unusedSimpArgs false
open TK
namespace TK
theorem stk_ok {P : Nat → Bool} {s : ByteArray} {n : Nat} (h : n < s.size) (hp : P (bt s n) = true) : stk P s (n, 0) = (n + 1, 0) := by
  unfold stk
  dsimp only
  rw [if_pos rfl, if_neg (by omega), if_pos hp]
theorem spk_val {P : Nat → Bool} {s : ByteArray} {n : Nat} (h : n < s.size) : spk P s (n, 0) = P (bt s n) := by
  unfold spk
  simp [h]
theorem sskip_stop {s : ByteArray} {n f : Nat} (h : n < s.size) (hp : isBl (bt s n) = false) : sskip s f (n, 0) = (n, 0) := by
  cases f with
  | zero => rfl
  | succ f =>
    unfold sskip
    rw [spk_val h, hp, if_neg (by decide)]
theorem sskip_go {s : ByteArray} {n f : Nat} (h : n < s.size) (hp : isBl (bt s n) = true) : sskip s (f + 1) (n, 0) = sskip s f (n + 1, 0) := by
  show (if spk isBl s (n, 0) = true then _ else _) = _
  rw [spk_val h, hp, if_pos rfl]
theorem sbl_t {s : ByteArray} {n : Nat} (h : n + 1 < s.size) (hp : isBl (bt s n) = true) (hq : isBl (bt s (n + 1)) = false) : sbl true s (n, 0) = (n + 1, 0) := by
  show sskip s 65 (n, 0) = _
  rw [sskip_go (f := 64) (by omega) hp, sskip_stop h hq]
theorem sbl_f {s : ByteArray} {n : Nat} (h : n + 1 < s.size) (hp : isBl (bt s n) = true) (hq : isBl (bt s (n + 1)) = false) : sbl false s (n, 0) = (n + 1, 0) := by
  show sskip s 65 (stk isBl s (n, 0)) = _
  rw [stk_ok (by omega) hp, sskip_stop h hq]
theorem dg_is {d : Nat} (h : d < 10) : isDg (48 + d) = true := by
  unfold isDg
  simp; omega
theorem dg_not_bl {d : Nat} (h : d < 10) : isBl (48 + d) = false := by
  unfold isBl
  simp; omega
theorem snum_d {s : ByteArray} {n k v d : Nat} (h : n < s.size) (hb : bt s n = 48 + d) (hd : d < 10) : snum s (k + 1) ((n, 0), v) = snum s k ((n + 1, 0), 10 * v + d) := by
  show snum s k (stk isDg s (n, 0), 10 * v + dgv (sby isDg s (n, 0))) = _
  have h1 : isDg (bt s n) = true := by rw [hb]; exact dg_is hd
  have h2 : sby isDg s (n, 0) = 48 + d := by
    unfold sby
    dsimp only
    rw [if_pos rfl, if_neg (by omega), if_pos h1, hb]
  have h3 : dgv (48 + d) = d := by unfold dgv; omega
  rw [stk_ok h h1, h2, h3]
theorem sname_ok {zs : List ByteArray} {s : ByteArray} {n i : Nat} (h : n + 3 ≤ s.size) (hs : snm zs s n = (i : Int)) : sname zs s (n, 0) = ((n + 3, 0), i) := by
  unfold sname
  dsimp only
  rw [if_pos rfl, if_neg (by omega), hs, if_neg (by omega)]
  simp
theorem dow_fx : ∀ i : Fin 7, fx (fun a => leq (lo a) (lo ⟨(dnl.getD i.val []).toArray⟩)) (names dnl) 0 = (i.val : Int) := by decide +kernel
theorem moy_fx : ∀ i : Fin 12, fx (fun a => leq (lo a) (lo ⟨(mnl.getD i.val []).toArray⟩)) (names mnl) 0 = (i.val : Int) := by decide +kernel
theorem dow_lt : ∀ i : Fin 7, isLt ((dnl.getD i.val []).getD 0 0).toNat = true := by decide +kernel
theorem moy_bl : ∀ i : Fin 12, isBl ((mnl.getD i.val []).getD 0 0).toNat = false := by decide +kernel
def ztx (off : Int) : List UInt8 := sgn off ++ dgs 2 (mag off / 60) ++ dgs 2 (mag off % 60)
set_option maxRecDepth 100000 in
theorem ztx_all : ∀ k : Fin 1681, zone ⟨(ztx ((k.val : Int) - 840)).toArray⟩ = ((k.val : Int) - 840, 0) := by decide +kernel
set_option maxRecDepth 100000 in
theorem ztx_ne : ∀ k : Fin 1681, ztx ((k.val : Int) - 840) = ztx 0 → k.val = 840 := by decide +kernel
theorem ztx_bl (off : Int) : (ztx off).length = 5 ∧ isBl ((ztx off).getD 0 0).toNat = false := by
  unfold ztx sgn
  split <;> (simp [dgs_length]; decide)
end TK
end Go.Proofs
