/- what Parse of date computes: bounds of the reader's states, the answer -/
import Derived.Test.YtgbpafapmbnfjaaDoorRd
import Derived.Test.YtgbpafapmbnfjaaDoorFrom
namespace Go.Proofs
open Go.RowKit Go.Shelf
set_option linter.unusedVariables false
set_option linter.unusedSimpArgs false
namespace TK
theorem stk_le (P : Nat → Bool) (s : ByteArray) (x : Nat × Nat) (h : x.1 ≤ s.size) : (stk P s x).1 ≤ s.size := by
  unfold stk
  split
  · split
    · exact h
    · split
      · show x.1 + 1 ≤ s.size; omega
      · exact h
  · exact h
theorem sskip_le (s : ByteArray) : ∀ (f : Nat) (x : Nat × Nat), x.1 ≤ s.size → (sskip s f x).1 ≤ s.size
  | 0, x, h => h
  | f + 1, x, h => by
    unfold sskip
    split
    · rename_i hp
      have : x.1 < s.size := by unfold spk at hp; simp only [Bool.and_eq_true, decide_eq_true_eq] at hp; exact hp.1.2
      exact sskip_le s f _ (show x.1 + 1 ≤ s.size by omega)
    · exact h
theorem sbl_le (b : Bool) (s : ByteArray) (x : Nat × Nat) (h : x.1 ≤ s.size) : (sbl b s x).1 ≤ s.size := by
  unfold sbl
  refine sskip_le s _ _ ?_
  split
  · exact h
  · exact stk_le _ _ _ h
theorem snum_le (s : ByteArray) : ∀ (k : Nat) (y : (Nat × Nat) × Nat), y.1.1 ≤ s.size → (snum s k y).1.1 ≤ s.size
  | 0, y, h => h
  | k + 1, y, h => snum_le s k _ (stk_le _ _ _ h)
theorem sname_le (zs : List ByteArray) (s : ByteArray) (x : Nat × Nat) (h : x.1 ≤ s.size) : (sname zs s x).1.1 ≤ s.size := by
  unfold sname
  split
  · split
    · exact Nat.le_refl _
    · split
      · exact h
      · show x.1 + 3 ≤ s.size; omega
  · exact h
theorem sname_lt (zs : List ByteArray) (s : ByteArray) (x : Nat × Nat) (hz : 0 < zs.length) : (sname zs s x).2 < zs.length := by
  have h := fx_bd (fun a => leq (lo a) (lo (wrd s x.1))) zs 0
  unfold sname snm
  split
  · split
    · exact hz
    · split
      · exact hz
      · show (fx _ zs 0).toNat < _
        omega
  · exact hz
theorem dgv_le (n : Nat) : dgv n ≤ 255 := by unfold dgv; omega
theorem snum_bd (s : ByteArray) : ∀ (k : Nat) (y : (Nat × Nat) × Nat), (snum s k y).2 + 29 ≤ (y.2 + 29) * 10 ^ k
  | 0, y => by simp [snum]
  | k + 1, y => by
    have h := snum_bd s k (stk isDg s y.1, 10 * y.2 + dgv (sby isDg s y.1))
    have hd := dgv_le (sby isDg s y.1)
    have h2 : (10 * y.2 + dgv (sby isDg s y.1) + 29) * 10 ^ k ≤ ((y.2 + 29) * 10) * 10 ^ k := Nat.mul_le_mul_right _ (by omega)
    have e : (y.2 + 29) * 10 ^ (k + 1) = (y.2 + 29) * 10 * 10 ^ k := by rw [Nat.pow_succ]; ac_rfl
    rw [e]
    exact Nat.le_trans h h2
variable (s : ByteArray)
theorem r0_le : (r0 s).1.1 ≤ s.size := sname_le _ _ _ (Nat.zero_le _)
theorem r1_le : (r1 s).1.1 ≤ s.size := by
  unfold r1
  split
  · exact sbl_le _ _ _ (stk_le _ _ _ (r0_le s))
  · exact Nat.zero_le _
theorem r2_le : (r2 s).1.1 ≤ s.size := snum_le _ _ _ (r1_le s)
theorem r3_le : (r3 s).1.1 ≤ s.size := by
  unfold r3
  split
  · exact snum_le _ _ _ (r2_le s)
  · exact r2_le s
theorem r4_le : (r4 s).1 ≤ s.size := sbl_le _ _ _ (r3_le s)
theorem r5_le : (r5 s).1.1 ≤ s.size := sname_le _ _ _ (r4_le s)
theorem r6_le : (r6 s).1 ≤ s.size := sbl_le _ _ _ (r5_le s)
theorem r7_le : (r7 s).1.1 ≤ s.size := snum_le _ _ _ (r6_le s)
theorem r8_le : (r8 s).1 ≤ s.size := sbl_le _ _ _ (r7_le s)
theorem r9_le : (r9 s).1.1 ≤ s.size := snum_le _ _ _ (r8_le s)
theorem r10_le : (r10 s).1 ≤ s.size := stk_le _ _ _ (r9_le s)
theorem r11_le : (r11 s).1.1 ≤ s.size := snum_le _ _ _ (r10_le s)
theorem r12_le : (r12 s).2.2 ≤ s.size := by
  unfold r12
  split
  · rename_i hp
    unfold spk at hp
    simp only [Bool.and_eq_true, decide_eq_true_eq] at hp
    exact hp.1.2
  · exact Nat.zero_le _
theorem r3_bd : (r3 s).2 ≤ 3000 := by
  have h1 := snum_bd s 1 ((r1 s).1, 0)
  have h2 := snum_bd s 1 ((r2 s).1, 0)
  have e1 : snum s 1 ((r1 s).1, 0) = r2 s := rfl
  have e2 : snum s 1 ((r2 s).1, 0) = r2b s := rfl
  rw [e1] at h1
  rw [e2] at h2
  unfold r3
  split
  · show 10 * (r2 s).2 + (r2b s).2 ≤ 3000
    simp at h1 h2; omega
  · simp at h1; omega
theorem r5_bd : (r5 s).2 < 12 := sname_lt _ _ _ (by decide)
theorem r7_bd : (r7 s).2 ≤ 290000 := by
  have h1 : (r7 s).2 + 29 ≤ (0 + 29) * 10 ^ 4 := snum_bd s 4 (r6 s, 0)
  simp at h1; omega
theorem r9_bd : (r9 s).2 ≤ 2900 := by
  have h1 : (r9 s).2 + 29 ≤ (0 + 29) * 10 ^ 2 := snum_bd s 2 (r8 s, 0)
  simp at h1; omega
theorem r11_bd : (r11 s).2 ≤ 2900 := by
  have h1 : (r11 s).2 + 29 ≤ (0 + 29) * 10 ^ 2 := snum_bd s 2 (r10 s, 0)
  simp at h1; omega
theorem r12_bd : (r12 s).2.1 ≤ 2900 := by
  have h1 : (r11b s).2 + 29 ≤ (0 + 29) * 10 ^ 2 := snum_bd s 2 (((r11 s).1.1 + 1, (r11 s).1.2), 0)
  unfold r12
  split
  · show (r11b s).2 ≤ 2900
    simp at h1; omega
  · exact Nat.zero_le _
def q1 (x : Nat × Nat) (Y : Int) (oY : Nat) : Nat × Nat := sck x (decide (2000 ≤ Y) && decide (Y ≤ 2199)) oY 2
def q2 (x : Nat × Nat) (Y M D : Int) (oY oD : Nat) : Nat × Nat := sck (q1 x Y oY) (decide (1 ≤ D) && decide (D ≤ Cal.md Y M)) oD 13
def q3 (x : Nat × Nat) (Y M D H : Int) (oY oD oH : Nat) : Nat × Nat := sck (q2 x Y M D oY oD) (decide (H ≤ 23)) oH 13
def q4 (x : Nat × Nat) (Y M D H N : Int) (oY oD oH oN : Nat) : Nat × Nat := sck (q3 x Y M D H oY oD oH) (decide (N ≤ 59)) oN 13
def q5 (x : Nat × Nat) (Y M D H N S : Int) (oY oD oH oN oS : Nat) : Nat × Nat := sck (q4 x Y M D H N oY oD oH oN) (decide (S ≤ 60)) oS 13
def wdv (L : Int) : Int := if Cal.valid L = true then Cal.wd L else 0
def q6 (x : Nat × Nat) (b : Bool) : Nat × Nat := sck x b 0 13
def q7 (x : Nat × Nat) (b c : Bool) : Nat × Nat := sck (q6 x b) c 0 2
/-- the answer behind the reading -/
def pz (x : Nat × Nat) (nm : Bool) (wk oD oY oH oN oS : Nat) (Y M D H N S z : Int) : Int × Nat × Nat :=
  if (q1 x Y oY).2 ≠ 0 then (0, q1 x Y oY)
  else if (q5 x Y M D H N S oY oD oH oN oS).2 ≠ 0 then (0, q5 x Y M D H N S oY oD oH oN oS)
  else if (q7 (q5 x Y M D H N S oY oD oH oN oS) (!nm || decide (wdv (Cal.from_ Y M D H N).1 = (wk : Int))) (Cal.valid ((Cal.from_ Y M D H N).1 - z))).2 ≠ 0 then (0, q7 (q5 x Y M D H N S oY oD oH oN oS) (!nm || decide (wdv (Cal.from_ Y M D H N).1 = (wk : Int))) (Cal.valid ((Cal.from_ Y M D H N).1 - z)))
  else ((Cal.from_ Y M D H N).1 - z, 0, 0)
/-- the answer of Parse: the minute, the place, the error -/
def parse : Int × Nat × Nat :=
  if 64 < s.size then (0, 64, 5)
  else pz (r15 s).1 (spk isLt s (0, 0)) (r1 s).2 (r1 s).1.1 (r6 s).1 (r8 s).1 (r10 s).1 (r12 s).2.2 (r7 s).2 (1 + ((r5 s).2 : Int)) (r3 s).2 (r9 s).2 (r11 s).2 (r12 s).2.1 (r15 s).2
theorem pz_1 {x : Nat × Nat} {nm : Bool} {wk oD oY oH oN oS : Nat} {Y M D H N S z : Int} {n e : Nat} (h : q1 x Y oY = (n, e)) (he : e ≠ 0) : pz x nm wk oD oY oH oN oS Y M D H N S z = (0, n, e) := by
  unfold pz
  rw [h, if_pos he]
theorem pz_5 {x : Nat × Nat} {nm : Bool} {wk oD oY oH oN oS : Nat} {Y M D H N S z : Int} {n e m : Nat} (h : q1 x Y oY = (m, 0)) (h5 : q5 x Y M D H N S oY oD oH oN oS = (n, e)) (he : e ≠ 0) : pz x nm wk oD oY oH oN oS Y M D H N S z = (0, n, e) := by
  unfold pz
  rw [h, h5, if_neg (by simp), if_pos he]
theorem pz_7 {x : Nat × Nat} {nm : Bool} {wk oD oY oH oN oS : Nat} {Y M D H N S z : Int} {n e m k : Nat} {b c : Bool} (h : q1 x Y oY = (m, 0)) (h5 : q5 x Y M D H N S oY oD oH oN oS = (k, 0)) (hb : (!nm || decide (wdv (Cal.from_ Y M D H N).1 = (wk : Int))) = b) (hc : Cal.valid ((Cal.from_ Y M D H N).1 - z) = c) (h7 : sck (sck (k, 0) b 0 13) c 0 2 = (n, e)) (he : e ≠ 0) : pz x nm wk oD oY oH oN oS Y M D H N S z = (0, n, e) := by
  have h7' : q7 (k, 0) b c = (n, e) := h7
  unfold pz
  rw [h, h5, hb, hc, h7', if_neg (by simp), if_neg (by simp), if_pos he]
theorem pz_0 {x : Nat × Nat} {nm : Bool} {wk oD oY oH oN oS : Nat} {Y M D H N S z : Int} {n m k : Nat} {b c : Bool} (h : q1 x Y oY = (m, 0)) (h5 : q5 x Y M D H N S oY oD oH oN oS = (k, 0)) (hb : (!nm || decide (wdv (Cal.from_ Y M D H N).1 = (wk : Int))) = b) (hc : Cal.valid ((Cal.from_ Y M D H N).1 - z) = c) (h7 : sck (sck (k, 0) b 0 13) c 0 2 = (n, 0)) : pz x nm wk oD oY oH oN oS Y M D H N S z = ((Cal.from_ Y M D H N).1 - z, 0, 0) := by
  have h7' : q7 (k, 0) b c = (n, 0) := h7
  unfold pz
  rw [h, h5, hb, hc, h7', if_neg (by simp), if_neg (by simp), if_neg (by simp)]
theorem q5_eq {n : Nat} {Y M D H N S : Int} {oY oD oH oN oS : Nat} {c4 c5 c6 c7 : Bool} (g2 : decide (2000 ≤ Y) = true) (g3 : decide (Y ≤ 2199) = true) (g4 : (decide (1 ≤ D) && decide (D ≤ Cal.md Y M)) = c4) (g5 : decide (H ≤ 23) = c5) (g6 : decide (N ≤ 59) = c6) (g7 : decide (S ≤ 60) = c7) :
    q5 (n, 0) Y M D H N S oY oD oH oN oS = sck (sck (sck (sck (n, 0) c4 oD 13) c5 oH 13) c6 oN 13) c7 oS 13 := by
  unfold q5 q4 q3 q2 q1
  rw [g2, g3, g4, g5, g6, g7]
  rfl
theorem from_bd (y m d h mi : Int) : 0 ≤ (Cal.from_ y m d h mi).1 ∧ (Cal.from_ y m d h mi).1 ≤ 200000000 := by
  unfold Cal.from_
  split
  · exact ⟨by decide, by decide⟩
  · split
    · exact ⟨by decide, by decide⟩
    · rename_i h1 h2
      have hm := Cal.md_pos y m (by omega) (by omega)
      have a1 : Cal.dby (y - 2000).toNat ≤ 73049 := by rw [← Cal.dby_200]; exact Cal.dby_mono (by omega)
      have a2 : (0 : Int) ≤ Cal.dby (y - 2000).toNat := Cal.dby_mono (Nat.zero_le _)
      have a3 : Cal.cum y (m - 1).toNat ≤ Cal.cum y 12 := Cal.cum_mono y (by omega) (by omega)
      have a4 : Cal.cum y 0 ≤ Cal.cum y (m - 1).toNat := Cal.cum_mono y (by omega) (by omega)
      have a5 : Cal.cum y 0 = 0 := rfl
      rw [Cal.cum_12] at a3
      have a6 := Cal.yd_pos y
      show 0 ≤ Cal.day y m d * 1440 + h * 60 + mi ∧ Cal.day y m d * 1440 + h * 60 + mi ≤ 200000000
      unfold Cal.day
      omega
end TK
end Go.Proofs
