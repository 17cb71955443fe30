/- Parse is the inverse of FormatZone -/
import Derived.Test.YtgbpafapmbnfjaaDoorRu
namespace Go.Proofs
open Go.RowKit Go.Shelf
set_option linter.unusedVariables false
set_option linter.unusedSimpArgs false
open TK
namespace TK
theorem dgs2 (n : Nat) : dgs 2 n = [UInt8.ofNat (48 + n / 10 % 10), UInt8.ofNat (48 + n % 10)] := by
  simp [dgs]
theorem dgs4 (n : Nat) : dgs 4 n = [UInt8.ofNat (48 + n / 1000 % 10), UInt8.ofNat (48 + n / 100 % 10), UInt8.ofNat (48 + n / 10 % 10), UInt8.ofNat (48 + n % 10)] := by
  simp only [dgs, List.nil_append, List.cons_append, Nat.div_div_eq_div_mul]
theorem len3 {l : List UInt8} (h : l.length = 3) : ∃ a b c, l = [a, b, c] := by
  match l, h with
  | [a, b, c], _ => exact ⟨a, b, c, rfl⟩
theorem len5 {l : List UInt8} (h : l.length = 5) : ∃ a b c d e, l = [a, b, c, d, e] := by
  match l, h with
  | [a, b, c, d, e], _ => exact ⟨a, b, c, d, e, rfl⟩
theorem okz_iff {t off : Int} : okz t off = true ↔ Cal.valid t = true ∧ -840 ≤ off ∧ off ≤ 840 ∧ Cal.valid (t + off) = true := by
  unfold okz
  simp only [Bool.and_eq_true, decide_eq_true_eq, and_assoc]
theorem ztx_val {off : Int} (h0 : -840 ≤ off) (h1 : off ≤ 840) : zone ⟨(ztx off).toArray⟩ = (off, 0) := by
  have h := ztx_all ⟨(off + 840).toNat, by omega⟩
  have e : (((off + 840).toNat : Nat) : Int) - 840 = off := by omega
  dsimp only at h
  rw [e] at h
  exact h
theorem ztx_inj {off : Int} (h0 : -840 ≤ off) (h1 : off ≤ 840) (h : ztx off = ztx 0) : off = 0 := by
  have h2 := ztx_ne ⟨(off + 840).toNat, by omega⟩
  have e : (((off + 840).toNat : Nat) : Int) - 840 = off := by omega
  dsimp only at h2
  rw [e] at h2
  have := h2 h
  omega
theorem from_civ_md {t : Int} (h : Cal.valid t = true) : (Cal.civ t).2.2.1 ≤ Cal.md (Cal.civ t).1 (Cal.civ t).2.1 := by
  obtain ⟨h0, h1⟩ := Cal.valid_iff.1 h
  exact (Cal.ymd_spec (D := t / 1440) (by omega) (by omega)).2.2.2.2.2.1
set_option maxRecDepth 100000 in
theorem parse_txt {t off : Int} (h : okz t off = true) : parse ⟨(txt t off).toArray⟩ = (t, 0, 0) := by
  obtain ⟨v1, o1, o2, v2⟩ := okz_iff.1 h
  have hbd := civ_bd v2
  have hmd := from_civ_md v2
  have hfc := Cal.from_civ v2
  have hw : 0 ≤ Cal.wd (t + off) ∧ Cal.wd (t + off) < 7 := by unfold Cal.wd; omega
  have hz := ztx_val o1 o2
  obtain ⟨zl, zb⟩ := ztx_bl off
  have e : txt t off = dnl.getD (Cal.wd (t + off)).toNat [] ++ [44, 32] ++ dgs 2 (Cal.civ (t + off)).2.2.1.toNat ++ [32] ++ mnl.getD ((Cal.civ (t + off)).2.1 - 1).toNat [] ++ [32] ++ dgs 4 (Cal.civ (t + off)).1.toNat ++ [32] ++ dgs 2 (Cal.civ (t + off)).2.2.2.1.toNat ++ [58] ++ dgs 2 (Cal.civ (t + off)).2.2.2.2.toNat ++ [32] ++ ztx off := by
    unfold txt ztx dow moy
    simp only [List.append_assoc]
  rw [e]
  clear e h
  have hwv : wdv (t + off) = Cal.wd (t + off) := by unfold wdv; rw [if_pos v2]
  have hto : t + off - off = t := by omega
  generalize t + off = u at *
  obtain ⟨wd, hwd⟩ : ∃ n : Nat, Cal.wd u = n := ⟨(Cal.wd u).toNat, by omega⟩
  rw [hwd] at hw hwv ⊢
  clear hwd
  generalize (Cal.civ u).1 = Y at hbd hfc hmd ⊢
  generalize (Cal.civ u).2.1 = M at hbd hfc hmd ⊢
  generalize (Cal.civ u).2.2.1 = D at hbd hfc hmd ⊢
  generalize (Cal.civ u).2.2.2.1 = H at hbd hfc ⊢
  generalize (Cal.civ u).2.2.2.2 = N at hbd hfc ⊢
  obtain ⟨b1, b2, b3, b4, b5, b6, b7, b8, b9, b10⟩ := hbd
  obtain ⟨Yn, rfl⟩ := Int.eq_ofNat_of_zero_le (show 0 ≤ Y by omega)
  obtain ⟨mo, rfl⟩ : ∃ n : Nat, M = 1 + (n : Int) := ⟨(M - 1).toNat, by omega⟩
  obtain ⟨Dn, rfl⟩ := Int.eq_ofNat_of_zero_le (show 0 ≤ D by omega)
  obtain ⟨Hn, rfl⟩ := Int.eq_ofNat_of_zero_le b7
  obtain ⟨Nn, rfl⟩ := Int.eq_ofNat_of_zero_le b9
  have hwn : wd < 7 := by omega
  have hmn : mo < 12 := by omega
  have emo : (1 + (mo : Int) - 1).toNat = mo := by omega
  rw [emo]
  simp only [Int.toNat_natCast]
  obtain ⟨a0, a1, a2, ea⟩ := len3 (dnl_size wd hwn)
  obtain ⟨m0, m1, m2, em⟩ := len3 (mnl_size mo hmn)
  obtain ⟨g0, g1, g2, g3, g4, eg⟩ := len5 zl
  have c1 := dow_fx ⟨wd, hwn⟩
  have c2 := moy_fx ⟨mo, hmn⟩
  have c3 := dow_lt ⟨wd, hwn⟩
  have c4 := moy_bl ⟨mo, hmn⟩
  dsimp only at c1 c2 c3 c4
  rw [ea] at c1 c3
  rw [em] at c2 c4
  rw [eg] at hz zb
  rw [ea, em, eg, dgs2, dgs2, dgs2, dgs4]
  generalize hS : (⟨List.toArray _⟩ : ByteArray) = S
  obtain ⟨sz, s0, e1, e3, e5, e6, e7, e8, e9, e10, e11, e12, e15⟩ := core a0 a1 a2 m0 m1 m2 g0 g1 g2 g3 g4 (Dn / 10 % 10) (Dn % 10) (Yn / 1000 % 10) (Yn / 100 % 10) (Yn / 10 % 10) (Yn % 10) (Hn / 10 % 10) (Hn % 10) (Nn / 10 % 10) (Nn % 10) wd mo off S
    (by omega) (by omega) (by omega) (by omega) (by omega) (by omega) (by omega) (by omega) (by omega) (by omega) (by rw [← hS]; rfl) c3 c4 zb c1 c2 hz
  have x1 : 10 * (Dn / 10 % 10) + Dn % 10 = Dn := by omega
  have x2 : 10 * (10 * (10 * (Yn / 1000 % 10) + Yn / 100 % 10) + Yn / 10 % 10) + Yn % 10 = Yn := by omega
  have x3 : 10 * (Hn / 10 % 10) + Hn % 10 = Hn := by omega
  have x4 : 10 * (Nn / 10 % 10) + Nn % 10 = Nn := by omega
  rw [x1] at e3
  rw [x2] at e7
  rw [x3] at e9
  rw [x4] at e11
  unfold parse
  rw [sz, if_neg (by decide), s0, e1, e3, e5, e6, e7, e8, e9, e10, e11, e12, e15]
  dsimp only
  have hL : (Cal.from_ (Yn : Int) (1 + (mo : Int)) Dn Hn Nn).1 = u := by rw [hfc]
  have h5 : q5 (23, 0) (Yn : Int) (1 + (mo : Int)) Dn Hn Nn 0 12 5 17 20 0 = sck (sck (sck (sck (23, 0) true 5 13) true 17 13) true 20 13) true 0 13 :=
    q5_eq (decide_eq_true b1) (decide_eq_true b2) (by rw [decide_eq_true b5, decide_eq_true hmd]; rfl) (decide_eq_true b8) (decide_eq_true b10) (by decide)
  have h1 : q1 (23, 0) (Yn : Int) 12 = (23, 0) := by unfold q1; rw [decide_eq_true b1, decide_eq_true b2]; rfl
  rw [show ((0 : Nat) : Int) = 0 from rfl]
  rw [pz_0 (n := 23) (k := 23) (b := true) (c := true) h1 h5 (by rw [hL, hwv]; simp) (by rw [hL, hto]; exact v1) rfl, hL, hto]
theorem sgn_len (off : Int) : (sgn off).length = 1 := by unfold sgn; split <;> rfl
theorem dow_len (t : Int) : (dow t).length ≤ 3 := by
  unfold dow
  by_cases h : (Cal.wd t).toNat < 7
  · exact Nat.le_of_eq (dnl_size _ h)
  · have : dnl.getD (Cal.wd t).toNat [] = [] := by
      rw [List.getD, List.getElem?_eq_none (by show 7 ≤ _; omega)]; rfl
    rw [this]; decide
theorem moy_len (t : Int) : (moy t).length ≤ 3 := by
  unfold moy
  by_cases h : ((Cal.civ t).2.1 - 1).toNat < 12
  · exact Nat.le_of_eq (mnl_size _ h)
  · have : mnl.getD ((Cal.civ t).2.1 - 1).toNat [] = [] := by
      rw [List.getD, List.getElem?_eq_none (by show 12 ≤ _; omega)]; rfl
    rw [this]; decide
theorem txt_len (t off : Int) : (txt t off).length ≤ 1000 := by
  have h1 := dow_len (t + off)
  have h2 := moy_len (t + off)
  have h3 := sgn_len off
  unfold txt
  simp only [List.length_append, dgs_length, List.length_cons, List.length_nil]
  omega
theorem fzs_size (t off : Int) : (fzs t off).size ≤ 1000 := by
  unfold fzs
  split
  · exact txt_len t off
  · show 0 ≤ 1000; omega
theorem parse_fzs {t off : Int} (h : okz t off = true) : parse (fzs t off) = (t, 0, 0) := by
  unfold fzs
  rw [if_pos h]
  exact parse_txt h
theorem okz_0 {t off : Int} (h : okz t off = true) : okz t 0 = true := by
  obtain ⟨v1, o1, o2, v2⟩ := okz_iff.1 h
  exact okz_iff.2 ⟨v1, by omega, by omega, by rw [Int.add_zero]; exact v1⟩
theorem txt_inj {t off : Int} (h : okz t off = true) (e : txt t 0 = txt t off) : off = 0 := by
  obtain ⟨v1, o1, o2, v2⟩ := okz_iff.1 h
  have a : ∀ o : Int, ∃ p, txt t o = p ++ ztx o := fun o => ⟨dow (t + o) ++ [44, 32] ++ dgs 2 (Cal.civ (t + o)).2.2.1.toNat ++ [32] ++ moy (t + o) ++ [32] ++ dgs 4 (Cal.civ (t + o)).1.toNat ++ [32] ++ dgs 2 (Cal.civ (t + o)).2.2.2.1.toNat ++ [58] ++ dgs 2 (Cal.civ (t + o)).2.2.2.2.toNat ++ [32], by unfold txt ztx; simp only [List.append_assoc]⟩
  refine ztx_inj o1 o2 ?_
  obtain ⟨p, hp⟩ := a 0
  obtain ⟨q, hq⟩ := a off
  rw [hp, hq] at e
  exact (List.append_inj' e (by rw [(ztx_bl 0).1, (ztx_bl off).1])).2.symm
theorem canon_fzs {t off : Int} (h : okz t off = true) : canon (fzs t off) = decide (off = 0) := by
  unfold canon
  rw [parse_fzs h]
  have h0 := okz_0 h
  unfold fzs
  dsimp only
  rw [if_pos h0, if_pos h]
  show (true && decide (txt t 0 = txt t off)) = decide (off = 0)
  by_cases hz : off = 0
  · subst hz; simp
  · rw [decide_eq_false hz, decide_eq_false (fun e => hz (txt_inj h e))]
    rfl
end TK
end Go.Proofs
