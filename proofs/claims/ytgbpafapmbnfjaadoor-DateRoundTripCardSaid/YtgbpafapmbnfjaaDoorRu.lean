/- the reader's states at the text of a minute in a zone -/
import Derived.Test.YtgbpafapmbnfjaaDoorRt
namespace Go.Proofs
open Go.RowKit Go.Shelf
set_option linter.unusedVariables false
set_option linter.unusedSimpArgs false
open TK
namespace TK
theorem dig_nat {d : Nat} (h : d < 10) : (UInt8.ofNat (48 + d)).toNat = 48 + d := by
  rw [UInt8.toNat_ofNat']; omega
set_option maxRecDepth 100000 in
theorem core (a0 a1 a2 m0 m1 m2 g0 g1 g2 g3 g4 : UInt8) (d1 d0 y3 y2 y1 y0 h1 h0 i1 i0 wd mo : Nat) (off : Int) (s : ByteArray)
    (k1 : d1 < 10) (k2 : d0 < 10) (k3 : y3 < 10) (k4 : y2 < 10) (k5 : y1 < 10) (k6 : y0 < 10) (k7 : h1 < 10) (k8 : h0 < 10) (k9 : i1 < 10) (k10 : i0 < 10)
    (hs : s = ⟨#[a0, a1, a2, 44, 32, UInt8.ofNat (48 + d1), UInt8.ofNat (48 + d0), 32, m0, m1, m2, 32, UInt8.ofNat (48 + y3), UInt8.ofNat (48 + y2), UInt8.ofNat (48 + y1), UInt8.ofNat (48 + y0), 32, UInt8.ofNat (48 + h1), UInt8.ofNat (48 + h0), 58, UInt8.ofNat (48 + i1), UInt8.ofNat (48 + i0), 32, g0, g1, g2, g3, g4]⟩)
    (hl : isLt a0.toNat = true) (hm : isBl m0.toNat = false) (hg : isBl g0.toNat = false)
    (hwd : fx (fun a => leq (lo a) (lo ⟨#[a0, a1, a2]⟩)) (names dnl) 0 = (wd : Int)) (hmo : fx (fun a => leq (lo a) (lo ⟨#[m0, m1, m2]⟩)) (names mnl) 0 = (mo : Int))
    (hz : zone ⟨#[g0, g1, g2, g3, g4]⟩ = (off, 0)) :
    s.size = 28 ∧ spk isLt s (0, 0) = true ∧ r1 s = ((5, 0), wd) ∧ r3 s = ((7, 0), 10 * d1 + d0) ∧ r5 s = ((11, 0), mo) ∧ r6 s = (12, 0) ∧ r7 s = ((16, 0), 10 * (10 * (10 * y3 + y2) + y1) + y0) ∧ r8 s = (17, 0) ∧ r9 s = ((19, 0), 10 * h1 + h0) ∧ r10 s = (20, 0) ∧ r11 s = ((22, 0), 10 * i1 + i0) ∧ r12 s = ((22, 0), 0, 0) ∧ r15 s = ((23, 0), off) := by
  have sz : s.size = 28 := by rw [hs]; rfl
  have b0 : bt s 0 = a0.toNat := by rw [hs]; rfl
  have b3 : bt s 3 = 44 := by rw [hs]; rfl
  have b4 : bt s 4 = 32 := by rw [hs]; rfl
  have b5 : bt s 5 = 48 + d1 := by
    rw [hs]
    exact dig_nat (by omega)
  have b6 : bt s 6 = 48 + d0 := by
    rw [hs]
    exact dig_nat (by omega)
  have b7 : bt s 7 = 32 := by rw [hs]; rfl
  have b8 : bt s 8 = m0.toNat := by rw [hs]; rfl
  have b11 : bt s 11 = 32 := by rw [hs]; rfl
  have b12 : bt s 12 = 48 + y3 := by
    rw [hs]
    exact dig_nat (by omega)
  have b13 : bt s 13 = 48 + y2 := by
    rw [hs]
    exact dig_nat (by omega)
  have b14 : bt s 14 = 48 + y1 := by
    rw [hs]
    exact dig_nat (by omega)
  have b15 : bt s 15 = 48 + y0 := by
    rw [hs]
    exact dig_nat (by omega)
  have b16 : bt s 16 = 32 := by rw [hs]; rfl
  have b17 : bt s 17 = 48 + h1 := by
    rw [hs]
    exact dig_nat (by omega)
  have b18 : bt s 18 = 48 + h0 := by
    rw [hs]
    exact dig_nat (by omega)
  have b19 : bt s 19 = 58 := by rw [hs]; rfl
  have b20 : bt s 20 = 48 + i1 := by
    rw [hs]
    exact dig_nat (by omega)
  have b21 : bt s 21 = 48 + i0 := by
    rw [hs]
    exact dig_nat (by omega)
  have b22 : bt s 22 = 32 := by rw [hs]; rfl
  have b23 : bt s 23 = g0.toNat := by rw [hs]; rfl
  have x0 : s.extract 0 3 = ⟨#[a0, a1, a2]⟩ := by rw [hs]; rfl
  have x8 : s.extract 8 11 = ⟨#[m0, m1, m2]⟩ := by rw [hs]; rfl
  have x23 : s.extract 23 28 = ⟨#[g0, g1, g2, g3, g4]⟩ := by rw [hs]; rfl
  clear hs
  have s0 : spk isLt s (0, 0) = true := by rw [spk_val (by omega), b0]; exact hl
  have e0 : r0 s = ((3, 0), wd) := sname_ok (by omega) (by unfold snm wrd; rw [x0]; exact hwd)
  have e0b : r0b s = (4, 0) := by
    unfold r0b
    rw [e0]
    exact stk_ok (by omega) (by rw [b3]; rfl)
  have e1 : r1 s = ((5, 0), wd) := by
    unfold r1
    rw [if_pos s0, e0b, e0, sbl_t (by omega) (by rw [b4]; rfl) (by rw [b5]; exact dg_not_bl k1)]
  have e2 : r2 s = ((6, 0), d1) := by
    unfold r2
    rw [e1]
    show snum s (0 + 1) ((5, 0), 0) = _
    rw [snum_d (by omega) b5 k1]
    simp [snum]
  have e2b : r2b s = ((7, 0), d0) := by
    unfold r2b
    rw [e2]
    show snum s (0 + 1) ((6, 0), 0) = _
    rw [snum_d (by omega) b6 k2]
    simp [snum]
  have e3 : r3 s = ((7, 0), 10 * d1 + d0) := by
    unfold r3
    rw [e2b, e2, if_pos (by rw [spk_val (by omega), b6]; exact dg_is k2)]
  have e4 : r4 s = (8, 0) := by
    unfold r4
    rw [e3]
    exact sbl_f (by omega) (by rw [b7]; rfl) (by rw [b8]; exact hm)
  have e5 : r5 s = ((11, 0), mo) := by
    unfold r5
    rw [e4]
    exact sname_ok (by omega) (by unfold snm wrd; rw [x8]; exact hmo)
  have e6 : r6 s = (12, 0) := by
    unfold r6
    rw [e5]
    exact sbl_f (by omega) (by rw [b11]; rfl) (by rw [b12]; exact dg_not_bl k3)
  have e7 : r7 s = ((16, 0), 10 * (10 * (10 * y3 + y2) + y1) + y0) := by
    unfold r7
    rw [e6]
    show snum s (3 + 1) ((12, 0), 0) = _
    rw [snum_d (by omega) b12 k3, snum_d (by omega) b13 k4, snum_d (by omega) b14 k5, snum_d (by omega) b15 k6]
    simp [snum]
  have e8 : r8 s = (17, 0) := by
    unfold r8
    rw [e7]
    exact sbl_f (by omega) (by rw [b16]; rfl) (by rw [b17]; exact dg_not_bl k7)
  have e9 : r9 s = ((19, 0), 10 * h1 + h0) := by
    unfold r9
    rw [e8]
    show snum s (1 + 1) ((17, 0), 0) = _
    rw [snum_d (by omega) b17 k7, snum_d (by omega) b18 k8]
    simp [snum]
  have e10 : r10 s = (20, 0) := by
    unfold r10
    rw [e9]
    exact stk_ok (by omega) (by rw [b19]; rfl)
  have e11 : r11 s = ((22, 0), 10 * i1 + i0) := by
    unfold r11
    rw [e10]
    show snum s (1 + 1) ((20, 0), 0) = _
    rw [snum_d (by omega) b20 k9, snum_d (by omega) b21 k10]
    simp [snum]
  have e12 : r12 s = ((22, 0), 0, 0) := by
    unfold r12
    rw [e11, if_neg (by rw [spk_val (by omega), b22]; decide)]
  have e13 : r13 s = (23, 0) := by
    unfold r13
    rw [e12]
    exact sbl_f (by omega) (by rw [b22]; rfl) (by rw [b23]; exact hg)
  have e14 : r14 s = (23, 0) := by
    unfold r14
    rw [e13, if_neg (by rw [sz]; decide)]
  have e15 : r15 s = ((23, 0), off) := by
    unfold r15
    rw [e14, if_pos rfl, sz]
    show (sck (23, 0) (decide ((zone (s.extract 23 28)).2 = 0)) 23 (zone (s.extract 23 28)).2, (zone (s.extract 23 28)).1) = _
    rw [x23, hz]
    rfl
  exact ⟨sz, s0, e1, e3, e5, e6, e7, e8, e9, e10, e11, e12, e15⟩
end TK
end Go.Proofs
