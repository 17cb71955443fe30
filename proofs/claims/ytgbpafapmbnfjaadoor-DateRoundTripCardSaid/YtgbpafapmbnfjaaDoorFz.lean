/- FormatZone, walked -/
import Derived.Test.YtgbpafapmbnfjaaDoorNm
import Derived.Test.YtgbpafapmbnfjaaDoorTQ
namespace Go.Proofs
open Go.RowKit Go.Shelf
set_option linter.unusedVariables false
set_option linter.unusedSimpArgs false
open TK
namespace TK
def sgn (off : Int) : List UInt8 := if off < 0 then [45] else [43]
def mag (off : Int) : Nat := off.natAbs
def dow (t : Int) : List UInt8 := dnl.getD (Cal.wd t).toNat []
def moy (t : Int) : List UInt8 := mnl.getD ((Cal.civ t).2.1 - 1).toNat []
/-- the text of a minute in a zone -/
def txt (t off : Int) : List UInt8 :=
  dow (t + off) ++ [44, 32] ++ dgs 2 (Cal.civ (t + off)).2.2.1.toNat ++ [32] ++ moy (t + off) ++ [32] ++ dgs 4 (Cal.civ (t + off)).1.toNat ++ [32] ++ dgs 2 (Cal.civ (t + off)).2.2.2.1.toNat ++ [58] ++ dgs 2 (Cal.civ (t + off)).2.2.2.2.toNat ++ [32] ++ sgn off ++ dgs 2 (mag off / 60) ++ dgs 2 (mag off % 60)
def okz (t off : Int) : Bool := Cal.valid t && decide (-840 ≤ off) && decide (off ≤ 840) && Cal.valid (t + off)
def fzv (t off : Int) : Value := if okz t off = true then .tuple #[.string ⟨(txt t off).toArray⟩, .int .i64 0] else .tuple #[.string ⟨#[]⟩, .int .i64 2]
theorem dgs_4 (a b : Nat) (hb : b < 100) : dgs 4 (a * 100 + b) = dgs 2 a ++ dgs 2 b := by
  simp only [dgs, List.nil_append, List.append_assoc, List.cons_append]
  rw [show (a * 100 + b) / 10 / 10 / 10 = a / 10 by omega, show (a * 100 + b) / 10 / 10 = a by omega, show (a * 100 + b) / 10 % 10 = b / 10 % 10 by omega, show (a * 100 + b) % 10 = b % 10 by omega]
theorem civ_bd {t : Int} (h : Cal.valid t = true) : 2000 ≤ (Cal.civ t).1 ∧ (Cal.civ t).1 ≤ 2199 ∧ 1 ≤ (Cal.civ t).2.1 ∧ (Cal.civ t).2.1 ≤ 12 ∧ 1 ≤ (Cal.civ t).2.2.1 ∧ (Cal.civ t).2.2.1 ≤ 31 ∧ 0 ≤ (Cal.civ t).2.2.2.1 ∧ (Cal.civ t).2.2.2.1 ≤ 23 ∧ 0 ≤ (Cal.civ t).2.2.2.2 ∧ (Cal.civ t).2.2.2.2 ≤ 59 := by
  obtain ⟨h0, h1⟩ := Cal.valid_iff.1 h
  obtain ⟨a1, a2, a3, a4, a5, a6, a7⟩ := Cal.ymd_spec (D := t / 1440) (by omega) (by omega)
  have := Cal.md_pos (Cal.ymd (t / 1440)).1 (Cal.ymd (t / 1440)).2.1 a3 a4
  unfold Cal.civ
  dsimp only
  refine ⟨a1, a2, a3, a4, a5, by omega, by omega, by omega, by omega, by omega⟩
/-- one of the names, by its place -/
theorem run_index_names {P : Program} {T E : TypeId} {n : Nat} (A : Array Value) (i : Int) (hu : P.underlying T = some (.array n E)) (hg : ∀ w, (isAgg E).run P w = .ok false w) (hz : ∀ w, (sizeOf E).run P w = .ok 1 w) (h0 : 0 ≤ i) (h1 : i < n) (s : ByteArray) (hs2 : A[i.toNat]? = some (.string s)) (w : World) :
    (Instr.index T (.agg A) (.int .i64 i)).run P w = .ok (.string s) w := by
  simp [Instr.index, asIntOf, run_underlying hu, h0, h1, hz, part, hg, hs2]
end TK
set_option maxRecDepth 100000 in
set_option maxHeartbeats 1000000 in
theorem Tryd.dFormatZone_bad (t off : Int) (h : okz t off = false) (hoff : -9223372036854775808 ≤ off ∧ off ≤ 9223372036854775807) (w : World) : Calls Tryd.prog 18 #[.int .i64 t, .int .i64 off] w fun e w' => e = .returned (fzv t off) ∧ Below w.heap.size w w' := by
  have hf : Hid (fzv t off = .tuple #[.string ⟨#[]⟩, .int .i64 2]) := Lib.hid (by unfold fzv; rw [if_neg (by rw [h]; decide)])
  obtain ⟨o0, o1⟩ := hoff
  have hc := Tryd.dValid t
  cases hv : Cal.valid t
  · rw [hv] at hc
    have hHc := Lib.hid hc
    clear h hc hv
    go_enter Tryd.func18, Tryd.ntmps18
    go_wp2_with (go_at_call 13; refine (hHc.out _).mono ?_; rintro e w' ⟨rfl, rfl⟩)
    go_ret2
    exact ⟨by rw [hf.out]; rfl, Below.refl _ _⟩
  · rw [hv] at hc
    have hHc := Lib.hid hc
    obtain ⟨t0, t1⟩ := Cal.valid_iff.1 hv
    by_cases a1 : off < -840
    · have b1 : decide (off < -840) = true := decide_eq_true a1
      clear h hc hv
      go_enter Tryd.func18, Tryd.ntmps18
      go_wp2_with (go_at_call 13; refine (hHc.out _).mono ?_; rintro e w' ⟨rfl, rfl⟩)
      go_ret2
      exact ⟨by rw [hf.out]; rfl, Below.refl _ _⟩
    · have b1 : decide (off < -840) = false := decide_eq_false a1
      by_cases a2 : 840 < off
      · have b2 : decide (840 < off) = true := decide_eq_true a2
        clear h hc hv
        go_enter Tryd.func18, Tryd.ntmps18
        go_wp2_with (go_at_call 13; refine (hHc.out _).mono ?_; rintro e w' ⟨rfl, rfl⟩)
        go_ret2
        exact ⟨by rw [hf.out]; rfl, Below.refl _ _⟩
      · have b2 : decide (840 < off) = false := decide_eq_false a2
        have hv2 : Cal.valid (t + off) = false := by
          unfold okz at h
          rw [hv, decide_eq_true (show -840 ≤ off by omega), decide_eq_true (show off ≤ 840 by omega)] at h
          simpa using h
        have hc2 := Tryd.dValid (t + off)
        rw [hv2] at hc2
        have hHc2 := Lib.hid hc2
        clear h hc hv hc2 hv2
        go_enter Tryd.func18, Tryd.ntmps18
        go_wp2_with fail
        refine (hHc.out _).mono ?_
        rintro e w' ⟨rfl, rfl⟩
        go_wp2_with fail
        refine (hHc2.out _).mono ?_
        rintro e w' ⟨rfl, rfl⟩
        go_wp2
        go_ret2
        exact ⟨by rw [hf.out]; rfl, Below.refl _ _⟩
set_option maxRecDepth 100000 in
set_option maxHeartbeats 1000000 in
theorem Tryd.qFormatZone_bad (t off : Int) (h : okz t off = false) (hoff : -9223372036854775808 ≤ off ∧ off ≤ 9223372036854775807) (w : World) : Calls Tryd.prog 17 #[.int .i64 t, .int .i64 off] w fun e w' => e = .returned (fzv t off) ∧ Below w.heap.size w w' := by
  have hf : Hid (fzv t off = .tuple #[.string ⟨#[]⟩, .int .i64 2]) := Lib.hid (by unfold fzv; rw [if_neg (by rw [h]; decide)])
  obtain ⟨o0, o1⟩ := hoff
  have hc := Tryd.qValid t
  cases hv : Cal.valid t
  · rw [hv] at hc
    have hHc := Lib.hid hc
    clear h hc hv
    go_enter Tryd.func17, Tryd.ntmps17
    go_wp2_with (go_at_call 19; refine (hHc.out _).mono ?_; rintro e w' ⟨rfl, rfl⟩)
    go_ret2
    exact ⟨by rw [hf.out]; rfl, Below.refl _ _⟩
  · rw [hv] at hc
    have hHc := Lib.hid hc
    obtain ⟨t0, t1⟩ := Cal.valid_iff.1 hv
    by_cases a1 : off < -840
    · have b1 : decide (off < -840) = true := decide_eq_true a1
      clear h hc hv
      go_enter Tryd.func17, Tryd.ntmps17
      go_wp2_with (go_at_call 19; refine (hHc.out _).mono ?_; rintro e w' ⟨rfl, rfl⟩)
      go_ret2
      exact ⟨by rw [hf.out]; rfl, Below.refl _ _⟩
    · have b1 : decide (off < -840) = false := decide_eq_false a1
      by_cases a2 : 840 < off
      · have b2 : decide (840 < off) = true := decide_eq_true a2
        clear h hc hv
        go_enter Tryd.func17, Tryd.ntmps17
        go_wp2_with (go_at_call 19; refine (hHc.out _).mono ?_; rintro e w' ⟨rfl, rfl⟩)
        go_ret2
        exact ⟨by rw [hf.out]; rfl, Below.refl _ _⟩
      · have b2 : decide (840 < off) = false := decide_eq_false a2
        have hv2 : Cal.valid (t + off) = false := by
          unfold okz at h
          rw [hv, decide_eq_true (show -840 ≤ off by omega), decide_eq_true (show off ≤ 840 by omega)] at h
          simpa using h
        have hc2 := Tryd.qValid (t + off)
        rw [hv2] at hc2
        have hHc2 := Lib.hid hc2
        clear h hc hv hc2 hv2
        go_enter Tryd.func17, Tryd.ntmps17
        go_wp2_with fail
        refine (hHc.out _).mono ?_
        rintro e w' ⟨rfl, rfl⟩
        go_wp2_with fail
        refine (hHc2.out _).mono ?_
        rintro e w' ⟨rfl, rfl⟩
        go_wp2
        go_ret2
        exact ⟨by rw [hf.out]; rfl, Below.refl _ _⟩
theorem TK.data_app (a b : ByteArray) : (a ++ b).data.toList = a.data.toList ++ b.data.toList := by simp
theorem TK.join6 (a b c d e f : ByteArray) : Lib.join ([a, b, c, d, e, f].map (·.data.toList)) [32] = a.data.toList ++ [32] ++ b.data.toList ++ [32] ++ c.data.toList ++ [32] ++ d.data.toList ++ [32] ++ e.data.toList ++ [32] ++ f.data.toList ∧ (Lib.join ([a, b, c, d, e, f].map (·.data.toList)) [32]).length ≤ a.size + b.size + c.size + d.size + e.size + f.size + 5 := by
  have h : Lib.join ([a, b, c, d, e, f].map (·.data.toList)) [32] = a.data.toList ++ [32] ++ b.data.toList ++ [32] ++ c.data.toList ++ [32] ++ d.data.toList ++ [32] ++ e.data.toList ++ [32] ++ f.data.toList := by simp [Lib.join, List.intercalate]
  refine ⟨h, ?_⟩
  rw [h]
  simp only [List.length_append, List.length_singleton, ← Lib.size_eq]
  omega
theorem TK.six_cells {W : World} {g : Nat} {a b c d e f : ByteArray} {T : TypeId} (h : W.heap[g]? = some (.cells #[.string a, .string b, .string c, .string d, .string e, .string f] T (0, 0))) : ∀ (j : Nat) x, [a, b, c, d, e, f][j]? = some x → W.cell? ⟨g, 0 + j, none⟩ = some (.string x) := fun j x hj => by
  rw [Nat.zero_add, Go.cell_of_row _ _ _ _ _ _ h]
  match j, hj with
  | 0, hj | 1, hj | 2, hj | 3, hj | 4, hj | 5, hj => simp at hj ⊢; exact hj
  | j + 6, hj => simp at hj
theorem Tryd.pad_ex (n : Int) (k : Nat) (h0 : 0 ≤ n) (hk : (k = 2 ∧ n ≤ 99) ∨ (k = 4 ∧ n ≤ 9999)) : ∃ S : ByteArray, Hid (S.data.toList = dgs k n.toNat) ∧ S.size ≤ 10 ∧ ∀ W, Tabs W → Calls Tryd.prog 35 #[.int .i64 n, .int .i64 k] W fun e w' => e = .returned (.string S) ∧ Below W.heap.size W w' :=
  ⟨⟨(dgs k n.toNat).toArray⟩, Lib.hid rfl, by show (dgs k n.toNat).length ≤ 10; rw [dgs_length]; omega, fun W hT => Tryd.padded n k h0 hk W hT⟩
theorem Tryd.name_ex7 (i : Int) (h0 : 0 ≤ i) (h1 : i < 7) : ∃ S : ByteArray, Hid (S.data.toList = dnl.getD i.toNat []) ∧ S.size ≤ 10 ∧ ∀ w, (Instr.index 54 (.agg dnA) (.int .i64 i)).run Tryd.prog w = .ok (.string S) w :=
  ⟨⟨(dnl.getD i.toNat []).toArray⟩, Lib.hid rfl, by show (dnl.getD i.toNat []).length ≤ 10; rw [dnl_size _ (by omega)]; omega, fun w => run_index_names dnA i Tryd.underlying54 Tryd.isAgg9 Tryd.sizeOf9 h0 (by omega) _ (dnA_at _ (by omega)) w⟩
theorem Tryd.name_ex12 (i : Int) (h0 : 0 ≤ i) (h1 : i < 12) : ∃ S : ByteArray, Hid (S.data.toList = mnl.getD i.toNat []) ∧ S.size ≤ 10 ∧ ∀ w, (Instr.index 56 (.agg mnA) (.int .i64 i)).run Tryd.prog w = .ok (.string S) w :=
  ⟨⟨(mnl.getD i.toNat []).toArray⟩, Lib.hid rfl, by show (mnl.getD i.toNat []).length ≤ 10; rw [mnl_size _ (by omega)]; omega, fun w => run_index_names mnA i Tryd.underlying56 Tryd.isAgg9 Tryd.sizeOf9 h0 (by omega) _ (mnA_at _ (by omega)) w⟩
theorem TK.h_idx {P : Program} {T : TypeId} {A : Array Value} {i : Int} {v : Value} {o : Oper} {a : Act} {x y : Operand} (ho : o.op = .index T x y) (hx : a.eval x = .agg A) (hy : a.eval y = .int .i64 i) (hrun : ∀ w, (Instr.index T (.agg A) (.int .i64 i)).run P w = .ok v w) {w : World} : (execOp a.eval o).run P w = .ok (.value v) w := by
  unfold execOp
  simp only [ho, hx, hy, Sem.run_bind, hrun, Result.andThen_ok, Sem.run_pure]
set_option maxRecDepth 100000 in
set_option maxHeartbeats 4000000 in
theorem Tryd.dFormatZone_good (t off : Int) (h : okz t off = true) (w : World) (hT : Tabs w) : Calls Tryd.prog 18 #[.int .i64 t, .int .i64 off] w fun e w' => e = .returned (fzv t off) ∧ Below w.heap.size w w' := by
  have hf : Hid (fzv t off = .tuple #[.string ⟨(txt t off).toArray⟩, .int .i64 0]) := Lib.hid (by unfold fzv; rw [if_pos h])
  have h' := h
  unfold okz at h'
  simp only [Bool.and_eq_true, decide_eq_true_eq] at h'
  obtain ⟨⟨⟨v1, v2⟩, v3⟩, v4⟩ := h'
  obtain ⟨t0, t1⟩ := Cal.valid_iff.1 v1
  obtain ⟨t2, t3⟩ := Cal.valid_iff.1 v4
  have hc1 := Tryd.dValid t
  have hc2 := Tryd.dValid (t + off)
  rw [v1] at hc1
  rw [v4] at hc2
  have hc3 := Tryd.dToCivil (t + off)
  have htc : tcv (t + off) = .tuple #[civv (Cal.civ (t + off)), ic 0] := by unfold tcv; rw [if_pos v4]
  rw [htc] at hc3
  have hc4 := Tryd.dWeekday (t + off)
  rw [if_pos v4] at hc4
  have hbd := civ_bd v4
  have hdw : Hid (dow (t + off) = dnl.getD (Cal.wd (t + off)).toNat []) := Lib.hid rfl
  have hmy : Hid (moy (t + off) = mnl.getD ((Cal.civ (t + off)).2.1 - 1).toNat []) := Lib.hid rfl
  have hwd : 0 ≤ Cal.wd (t + off) ∧ Cal.wd (t + off) ≤ 6 := by unfold Cal.wd; omega
  have htx : Hid (txt t off = dow (t + off) ++ [44, 32] ++ dgs 2 (Cal.civ (t + off)).2.2.1.toNat ++ [32] ++ moy (t + off) ++ [32] ++ dgs 4 (Cal.civ (t + off)).1.toNat ++ [32] ++ dgs 2 (Cal.civ (t + off)).2.2.2.1.toNat ++ [58] ++ dgs 2 (Cal.civ (t + off)).2.2.2.2.toNat ++ [32] ++ sgn off ++ dgs 2 (mag off / 60) ++ dgs 2 (mag off % 60)) := Lib.hid rfl
  generalize Cal.civ (t + off) = C5 at hc3 hbd hmy htx
  obtain ⟨y, m, d, hh, mi⟩ := C5
  simp only [civv, ic] at hc3
  dsimp only at hbd hmy htx
  obtain ⟨e1, e2, e3, e4, e5, e6, e7, e8, e9, e10⟩ := hbd
  generalize Cal.wd (t + off) = wd at hc4 hwd hdw
  obtain ⟨wd0, wd1⟩ := hwd
  have hHc1 := Lib.hid hc1
  have hHc2 := Lib.hid hc2
  have hHc3 := Lib.hid hc3
  have hHc4 := Lib.hid hc4
  have hTw := Lib.hid hT
  have b1 : decide (off < -840) = false := decide_eq_false (by omega)
  have b2 : decide (840 < off) = false := decide_eq_false (by omega)
  clear h v1 v4 hc1 hc2 hc3 hc4 htc hT
  by_cases hneg : off < 0
  · have bn : decide (off < 0) = true := decide_eq_true hneg
    obtain ⟨mg, hmg⟩ : ∃ mg, -off = mg := ⟨_, rfl⟩
    obtain ⟨SD, hSD, zD, hpD0⟩ := Tryd.pad_ex d 2 (by omega) (.inl ⟨rfl, by omega⟩)
    obtain ⟨SY, hSY, zY, hpY0⟩ := Tryd.pad_ex y 4 (by omega) (.inr ⟨rfl, by omega⟩)
    obtain ⟨SH, hSH, zH, hpH0⟩ := Tryd.pad_ex hh 2 (by omega) (.inl ⟨rfl, by omega⟩)
    obtain ⟨SI, hSI, zI, hpI0⟩ := Tryd.pad_ex mi 2 (by omega) (.inl ⟨rfl, by omega⟩)
    obtain ⟨SA, hSA, zA, hpA0⟩ := Tryd.pad_ex ((mg) / 60) 2 (by omega) (.inl ⟨rfl, by omega⟩)
    obtain ⟨SB, hSB, zB, hpB0⟩ := Tryd.pad_ex ((mg) % 60) 2 (by omega) (.inl ⟨rfl, by omega⟩)
    have hpD := Lib.hid hpD0
    have hpY := Lib.hid hpY0
    have hpH := Lib.hid hpH0
    have hpI := Lib.hid hpI0
    have hpA := Lib.hid hpA0
    have hpB := Lib.hid hpB0
    obtain ⟨DN, hDN1, zDN, hDN0⟩ := Tryd.name_ex7 wd wd0 (by omega)
    obtain ⟨MN, hMN1, zMN, hMN0⟩ := Tryd.name_ex12 (m - 1) (by omega) (by omega)
    have hDN := Lib.hid hDN0
    have hMN := Lib.hid hMN0
    have z1 : ¬ 9223372036854775807 < DN.size + 1 := by omega
    have z2 : ¬ 9223372036854775807 < SH.size + 1 := by omega
    have z3 : ¬ 9223372036854775807 < SH.size + 1 + SI.size := by omega
    have z4 : ¬ 9223372036854775807 < 1 + SA.size := by omega
    have z5 : ¬ 9223372036854775807 < 1 + SA.size + SB.size := by omega
    have w1 : IntKind.i64.wrap (m - 1) = m - 1 := IntWalk.i64_in _ (by omega)
    have q0 : (mg).tdiv 60 = (mg) / 60 := Int.tdiv_eq_ediv_of_nonneg (by omega)
    have q1 : mg.tmod 60 = mg % 60 := Int.tmod_eq_emod_of_nonneg (by omega)
    have q2 : IntKind.i64.wrap (mg / 60) = mg / 60 := IntWalk.i64_in _ (by omega)
    have q3 : IntKind.i64.wrap (mg % 60) = mg % 60 := IntWalk.i64_in _ (by omega)
    clear hpD0 hpY0 hpH0 hpI0 hpA0 hpB0 hDN0 hMN0
    go_enter Tryd.func18, Tryd.ntmps18
    go_wp2_with fail
    refine (hHc1.out _).mono ?_
    rintro e w' ⟨rfl, rfl⟩
    go_wp2_with fail
    refine (hHc2.out _).mono ?_
    rintro e w' ⟨rfl, rfl⟩
    go_wp2_with fail
    refine (hHc3.out _).mono ?_
    rintro e W0 ⟨rfl, hb0⟩
    have hB0 := Lib.hid hb0
    clear hb0
    go_wp2_with fail
    refine (hHc4.out _).mono ?_
    rintro e w' ⟨rfl, rfl⟩
    have hTV := Tabs.below (hB0.out.trans ((Below.refl _ W0).alloc (hB0.out.size) (.cells #[.int .i64 y, .int .i64 m, .int .i64 d, .int .i64 hh, .int .i64 mi] 24))) hTw.out
    have hBV := hB0.out.alloc hB0.out.size (.cells #[.int .i64 y, .int .i64 m, .int .i64 d, .int .i64 hh, .int .i64 mi] 24)
    have hrV : (W0.alloc (.cells #[.int .i64 y, .int .i64 m, .int .i64 d, .int .i64 hh, .int .i64 mi] 24)).heap[W0.heap.size]? = some (.cells #[.int .i64 y, .int .i64 m, .int .i64 d, .int .i64 hh, .int .i64 mi] 24 (0, 0)) := Go.heap_alloc_new W0 _
    have hsV : W0.heap.size < (W0.alloc (.cells #[.int .i64 y, .int .i64 m, .int .i64 d, .int .i64 hh, .int .i64 mi] 24)).heap.size := by simp
    generalize W0.alloc (.cells #[.int .i64 y, .int .i64 m, .int .i64 d, .int .i64 hh, .int .i64 mi] 24) = V at hTV hBV hrV hsV ⊢
    generalize W0.heap.size = B at hrV hsV ⊢
    have hBW := Lib.hid hBV
    have hTW := Lib.hid hTV
    have c0 := Lib.hid (fun W (h : Below V.heap.size V W) => (cells5 ((h.block _ hsV).trans hrV)).1)
    have c1 := Lib.hid (fun W (h : Below V.heap.size V W) => (cells5 ((h.block _ hsV).trans hrV)).2.1)
    have c2 := Lib.hid (fun W (h : Below V.heap.size V W) => (cells5 ((h.block _ hsV).trans hrV)).2.2.1)
    have c3 := Lib.hid (fun W (h : Below V.heap.size V W) => (cells5 ((h.block _ hsV).trans hrV)).2.2.2.1)
    have c4 := Lib.hid (fun W (h : Below V.heap.size V W) => (cells5 ((h.block _ hsV).trans hrV)).2.2.2.2.1)
    have hKb : Hid (∀ W W', Below V.heap.size V W → Below W.heap.size W W' → Below V.heap.size V W') := Lib.hid fun W W' h hb => h.trans (hb.mono h.size)
    have hTb : Hid (∀ W, Below V.heap.size V W → Tabs W) := Lib.hid fun W h => hTV.below h
    clear hTV hBV hrV hsV
    go_wp2_with fail
    refine wp_region_held (S := fun w' => Below V.heap.size V w') (by kernel_rfl) ?_
    have hS : Below V.heap.size V { V with drawn := V.drawn + 1 } := (Below.refl _ _).drew
    refine h_val (i := 1) (v := .int .i64 wd) rfl (by kernel_rfl) (by kernel_rfl) (by kernel_rfl) (fun _ _ _ h => h) rfl (fun _ _ => rfl) hS ?_
    try simp only [Act.put, List.getElem_toArray, List.getElem_cons_zero, List.getElem_cons_succ, List.setIfInBounds_toArray, List.set_cons_zero, List.set_cons_succ]
    refine h_val (i := 4) (v := ?_) rfl (by kernel_rfl) (by kernel_rfl) (by kernel_rfl) (fun _ _ _ h => h) rfl ?_ hS ?_
    rotate_left
    · intro W hW
      go_simp
      try exact rfl
    try simp only [Act.put, List.getElem_toArray, List.getElem_cons_zero, List.getElem_cons_succ, List.setIfInBounds_toArray, List.set_cons_zero, List.set_cons_succ]
    refine h_val (i := 5) (v := .int .i64 d) rfl (by kernel_rfl) (by kernel_rfl) (by kernel_rfl) (fun _ _ _ h => h) rfl (fun W hW => h_ld Tryd.isAgg3 (.tmp 54) rfl ⟨B, 2, none⟩ rfl _ (c2.out W hW)) hS ?_
    try simp only [Act.put, List.getElem_toArray, List.getElem_cons_zero, List.getElem_cons_succ, List.setIfInBounds_toArray, List.set_cons_zero, List.set_cons_succ]
    refine h_val (i := 8) (v := ?_) rfl (by kernel_rfl) (by kernel_rfl) (by kernel_rfl) (fun _ _ _ h => h) rfl ?_ hS ?_
    rotate_left
    · intro W hW
      go_simp
      try exact rfl
    try simp only [Act.put, List.getElem_toArray, List.getElem_cons_zero, List.getElem_cons_succ, List.setIfInBounds_toArray, List.set_cons_zero, List.set_cons_succ]
    refine h_val (i := 9) (v := .int .i64 m) rfl (by kernel_rfl) (by kernel_rfl) (by kernel_rfl) (fun _ _ _ h => h) rfl (fun W hW => h_ld Tryd.isAgg3 (.tmp 58) rfl ⟨B, 1, none⟩ rfl _ (c1.out W hW)) hS ?_
    try simp only [Act.put, List.getElem_toArray, List.getElem_cons_zero, List.getElem_cons_succ, List.setIfInBounds_toArray, List.set_cons_zero, List.set_cons_succ]
    refine h_val (i := 10) (v := ?_) rfl (by kernel_rfl) (by kernel_rfl) (by kernel_rfl) (fun _ _ _ h => h) rfl ?_ hS ?_
    rotate_left
    · intro W hW
      go_simp
      try exact rfl
    try simp only [Act.put, List.getElem_toArray, List.getElem_cons_zero, List.getElem_cons_succ, List.setIfInBounds_toArray, List.set_cons_zero, List.set_cons_succ]
    refine h_val (i := 12) (v := ?_) rfl (by kernel_rfl) (by kernel_rfl) (by kernel_rfl) (fun _ _ _ h => h) rfl ?_ hS ?_
    rotate_left
    · intro W hW
      go_simp
      try exact rfl
    try simp only [Act.put, List.getElem_toArray, List.getElem_cons_zero, List.getElem_cons_succ, List.setIfInBounds_toArray, List.set_cons_zero, List.set_cons_succ]
    refine h_val (i := 13) (v := .int .i64 y) rfl (by kernel_rfl) (by kernel_rfl) (by kernel_rfl) (fun _ _ _ h => h) rfl (fun W hW => h_ld Tryd.isAgg3 (.tmp 62) rfl ⟨B, 0, none⟩ rfl _ (c0.out W hW)) hS ?_
    try simp only [Act.put, List.getElem_toArray, List.getElem_cons_zero, List.getElem_cons_succ, List.setIfInBounds_toArray, List.set_cons_zero, List.set_cons_succ]
    refine h_val (i := 15) (v := ?_) rfl (by kernel_rfl) (by kernel_rfl) (by kernel_rfl) (fun _ _ _ h => h) rfl ?_ hS ?_
    rotate_left
    · intro W hW
      go_simp
      try exact rfl
    try simp only [Act.put, List.getElem_toArray, List.getElem_cons_zero, List.getElem_cons_succ, List.setIfInBounds_toArray, List.set_cons_zero, List.set_cons_succ]
    refine h_val (i := 16) (v := .int .i64 hh) rfl (by kernel_rfl) (by kernel_rfl) (by kernel_rfl) (fun _ _ _ h => h) rfl (fun W hW => h_ld Tryd.isAgg3 (.tmp 65) rfl ⟨B, 3, none⟩ rfl _ (c3.out W hW)) hS ?_
    try simp only [Act.put, List.getElem_toArray, List.getElem_cons_zero, List.getElem_cons_succ, List.setIfInBounds_toArray, List.set_cons_zero, List.set_cons_succ]
    refine h_val (i := 19) (v := ?_) rfl (by kernel_rfl) (by kernel_rfl) (by kernel_rfl) (fun _ _ _ h => h) rfl ?_ hS ?_
    rotate_left
    · intro W hW
      go_simp
      try exact rfl
    try simp only [Act.put, List.getElem_toArray, List.getElem_cons_zero, List.getElem_cons_succ, List.setIfInBounds_toArray, List.set_cons_zero, List.set_cons_succ]
    refine h_val (i := 20) (v := .int .i64 mi) rfl (by kernel_rfl) (by kernel_rfl) (by kernel_rfl) (fun _ _ _ h => h) rfl (fun W hW => h_ld Tryd.isAgg3 (.tmp 69) rfl ⟨B, 4, none⟩ rfl _ (c4.out W hW)) hS ?_
    try simp only [Act.put, List.getElem_toArray, List.getElem_cons_zero, List.getElem_cons_succ, List.setIfInBounds_toArray, List.set_cons_zero, List.set_cons_succ]
    refine h_val (i := 23) (v := .string ⟨#[45]⟩) rfl (by kernel_rfl) (by kernel_rfl) (by kernel_rfl) (fun _ _ _ h => h) rfl (fun _ _ => rfl) hS ?_
    try simp only [Act.put, List.getElem_toArray, List.getElem_cons_zero, List.getElem_cons_succ, List.setIfInBounds_toArray, List.set_cons_zero, List.set_cons_succ]
    refine h_val (i := 24) (v := .int .i64 (mg)) rfl (by kernel_rfl) (by kernel_rfl) (by kernel_rfl) (fun _ _ _ h => h) rfl (fun _ _ => rfl) hS ?_
    try simp only [Act.put, List.getElem_toArray, List.getElem_cons_zero, List.getElem_cons_succ, List.setIfInBounds_toArray, List.set_cons_zero, List.set_cons_succ]
    refine h_val (i := 25) (v := ?_) rfl (by kernel_rfl) (by kernel_rfl) (by kernel_rfl) (fun _ _ _ h => h) rfl ?_ hS ?_
    rotate_left
    · intro W hW
      go_simp
      try exact rfl
    try simp only [Act.put, List.getElem_toArray, List.getElem_cons_zero, List.getElem_cons_succ, List.setIfInBounds_toArray, List.set_cons_zero, List.set_cons_succ]
    refine h_val (i := 28) (v := .int .i64 (mg)) rfl (by kernel_rfl) (by kernel_rfl) (by kernel_rfl) (fun _ _ _ h => h) rfl (fun _ _ => rfl) hS ?_
    try simp only [Act.put, List.getElem_toArray, List.getElem_cons_zero, List.getElem_cons_succ, List.setIfInBounds_toArray, List.set_cons_zero, List.set_cons_succ]
    refine h_val (i := 29) (v := ?_) rfl (by kernel_rfl) (by kernel_rfl) (by kernel_rfl) (fun _ _ _ h => h) rfl ?_ hS ?_
    rotate_left
    · intro W hW
      go_simp
      try exact rfl
    try simp only [Act.put, List.getElem_toArray, List.getElem_cons_zero, List.getElem_cons_succ, List.setIfInBounds_toArray, List.set_cons_zero, List.set_cons_succ]
    refine wpAnyH_ready (rs := [0]) (by kernel_rfl) (by simp) ?_
    refine AllReadyH.cons rfl (fun K hK => ?_) AllReadyH.nil
    go_simp
    refine (Tryd.dDayNames _).mono ?_
    rintro e W1 ⟨rfl, hb⟩
    replace hS := hKb.out _ _ hS hb
    refine hK.out _ _ hS (fun _ => ?_)
    clear hK K hb
    try simp only [Act.put, List.getElem_toArray, List.getElem_cons_zero, List.getElem_cons_succ, List.setIfInBounds_toArray, List.set_cons_zero, List.set_cons_succ]
    refine h_val (i := 2) (v := .string DN) rfl (by kernel_rfl) (by kernel_rfl) (by kernel_rfl) (fun _ _ _ h => h) rfl (fun W _ => h_idx rfl rfl rfl hDN.out) hS ?_
    try simp only [Act.put, List.getElem_toArray, List.getElem_cons_zero, List.getElem_cons_succ, List.setIfInBounds_toArray, List.set_cons_zero, List.set_cons_succ]
    refine h_val (i := 3) (v := ?_) rfl (by kernel_rfl) (by kernel_rfl) (by kernel_rfl) (fun _ _ _ h => h) rfl ?_ hS ?_
    rotate_left
    · intro W hW
      go_simp
      try exact rfl
    try simp only [Act.put, List.getElem_toArray, List.getElem_cons_zero, List.getElem_cons_succ, List.setIfInBounds_toArray, List.set_cons_zero, List.set_cons_succ]
    refine wpAnyH_ready (rs := [6]) (by kernel_rfl) (by simp) ?_
    refine AllReadyH.cons rfl (fun K hK => ?_) AllReadyH.nil
    go_simp
    refine (hpD.out _ (hTb.out _ hS)).mono ?_
    rintro e W1 ⟨rfl, hb⟩
    replace hS := hKb.out _ _ hS hb
    refine hK.out _ _ hS (fun _ => ?_)
    clear hK K hb
    try simp only [Act.put, List.getElem_toArray, List.getElem_cons_zero, List.getElem_cons_succ, List.setIfInBounds_toArray, List.set_cons_zero, List.set_cons_succ]
    refine wpAnyH_ready (rs := [7]) (by kernel_rfl) (by simp) ?_
    refine AllReadyH.cons rfl (fun K hK => ?_) AllReadyH.nil
    go_simp
    refine (Tryd.dMonthNames _).mono ?_
    rintro e W1 ⟨rfl, hb⟩
    replace hS := hKb.out _ _ hS hb
    refine hK.out _ _ hS (fun _ => ?_)
    clear hK K hb
    try simp only [Act.put, List.getElem_toArray, List.getElem_cons_zero, List.getElem_cons_succ, List.setIfInBounds_toArray, List.set_cons_zero, List.set_cons_succ]
    refine h_val (i := 11) (v := .string MN) rfl (by kernel_rfl) (by kernel_rfl) (by kernel_rfl) (fun _ _ _ h => h) rfl (fun W _ => h_idx rfl rfl rfl hMN.out) hS ?_
    try simp only [Act.put, List.getElem_toArray, List.getElem_cons_zero, List.getElem_cons_succ, List.setIfInBounds_toArray, List.set_cons_zero, List.set_cons_succ]
    refine wpAnyH_ready (rs := [14]) (by kernel_rfl) (by simp) ?_
    refine AllReadyH.cons rfl (fun K hK => ?_) AllReadyH.nil
    go_simp
    refine (hpY.out _ (hTb.out _ hS)).mono ?_
    rintro e W1 ⟨rfl, hb⟩
    replace hS := hKb.out _ _ hS hb
    refine hK.out _ _ hS (fun _ => ?_)
    clear hK K hb
    try simp only [Act.put, List.getElem_toArray, List.getElem_cons_zero, List.getElem_cons_succ, List.setIfInBounds_toArray, List.set_cons_zero, List.set_cons_succ]
    refine wpAnyH_ready (rs := [17]) (by kernel_rfl) (by simp) ?_
    refine AllReadyH.cons rfl (fun K hK => ?_) AllReadyH.nil
    go_simp
    refine (hpH.out _ (hTb.out _ hS)).mono ?_
    rintro e W1 ⟨rfl, hb⟩
    replace hS := hKb.out _ _ hS hb
    refine hK.out _ _ hS (fun _ => ?_)
    clear hK K hb
    try simp only [Act.put, List.getElem_toArray, List.getElem_cons_zero, List.getElem_cons_succ, List.setIfInBounds_toArray, List.set_cons_zero, List.set_cons_succ]
    refine h_val (i := 18) (v := ?_) rfl (by kernel_rfl) (by kernel_rfl) (by kernel_rfl) (fun _ _ _ h => h) rfl ?_ hS ?_
    rotate_left
    · intro W hW
      go_simp
      try exact rfl
    try simp only [Act.put, List.getElem_toArray, List.getElem_cons_zero, List.getElem_cons_succ, List.setIfInBounds_toArray, List.set_cons_zero, List.set_cons_succ]
    refine wpAnyH_ready (rs := [21]) (by kernel_rfl) (by simp) ?_
    refine AllReadyH.cons rfl (fun K hK => ?_) AllReadyH.nil
    go_simp
    refine (hpI.out _ (hTb.out _ hS)).mono ?_
    rintro e W1 ⟨rfl, hb⟩
    replace hS := hKb.out _ _ hS hb
    refine hK.out _ _ hS (fun _ => ?_)
    clear hK K hb
    try simp only [Act.put, List.getElem_toArray, List.getElem_cons_zero, List.getElem_cons_succ, List.setIfInBounds_toArray, List.set_cons_zero, List.set_cons_succ]
    refine h_val (i := 22) (v := ?_) rfl (by kernel_rfl) (by kernel_rfl) (by kernel_rfl) (fun _ _ _ h => h) rfl ?_ hS ?_
    rotate_left
    · intro W hW
      go_simp
      try exact rfl
    try simp only [Act.put, List.getElem_toArray, List.getElem_cons_zero, List.getElem_cons_succ, List.setIfInBounds_toArray, List.set_cons_zero, List.set_cons_succ]
    refine wpAnyH_ready (rs := [26]) (by kernel_rfl) (by simp) ?_
    refine AllReadyH.cons rfl (fun K hK => ?_) AllReadyH.nil
    go_simp
    refine (hpA.out _ (hTb.out _ hS)).mono ?_
    rintro e W1 ⟨rfl, hb⟩
    replace hS := hKb.out _ _ hS hb
    refine hK.out _ _ hS (fun _ => ?_)
    clear hK K hb
    try simp only [Act.put, List.getElem_toArray, List.getElem_cons_zero, List.getElem_cons_succ, List.setIfInBounds_toArray, List.set_cons_zero, List.set_cons_succ]
    refine h_val (i := 27) (v := ?_) rfl (by kernel_rfl) (by kernel_rfl) (by kernel_rfl) (fun _ _ _ h => h) rfl ?_ hS ?_
    rotate_left
    · intro W hW
      go_simp
      try exact rfl
    try simp only [Act.put, List.getElem_toArray, List.getElem_cons_zero, List.getElem_cons_succ, List.setIfInBounds_toArray, List.set_cons_zero, List.set_cons_succ]
    refine wpAnyH_ready (rs := [30]) (by kernel_rfl) (by simp) ?_
    refine AllReadyH.cons rfl (fun K hK => ?_) AllReadyH.nil
    go_simp
    refine (hpB.out _ (hTb.out _ hS)).mono ?_
    rintro e W1 ⟨rfl, hb⟩
    replace hS := hKb.out _ _ hS hb
    refine hK.out _ _ hS (fun _ => ?_)
    clear hK K hb
    try simp only [Act.put, List.getElem_toArray, List.getElem_cons_zero, List.getElem_cons_succ, List.setIfInBounds_toArray, List.set_cons_zero, List.set_cons_succ]
    refine h_val (i := 31) (v := ?_) rfl (by kernel_rfl) (by kernel_rfl) (by kernel_rfl) (fun _ _ _ h => h) rfl ?_ hS ?_
    rotate_left
    · intro W hW
      go_simp
      try exact rfl
    try simp only [Act.put, List.getElem_toArray, List.getElem_cons_zero, List.getElem_cons_succ, List.setIfInBounds_toArray, List.set_cons_zero, List.set_cons_succ]
    refine wpAnyH_ready (rs := [32]) (by kernel_rfl) (by simp) ?_
    refine AllReadyH.cons rfl (fun K hK => ?_) AllReadyH.nil
    go_simp
    refine hK.out _ _ (hS.alloc hS.size _) (fun _ => ?_)
    clear hK K
    try simp only [Act.put, List.getElem_toArray, List.getElem_cons_zero, List.getElem_cons_succ, List.setIfInBounds_toArray, List.set_cons_zero, List.set_cons_succ]
    have hS9 := hS.alloc hS.size (.cells #[.string (DN ++ ⟨#[44]⟩), .string SD, .string MN, .string SY, .string (SH ++ ⟨#[58]⟩ ++ SI), .string (⟨#[45]⟩ ++ SA ++ SB)] 9)
    have hr9 := Go.heap_alloc_new W1 (.cells #[.string (DN ++ ⟨#[44]⟩), .string SD, .string MN, .string SY, .string (SH ++ ⟨#[58]⟩ ++ SI), .string (⟨#[45]⟩ ++ SA ++ SB)] 9)
    have hl9 : W1.heap.size < (W1.alloc (.cells #[.string (DN ++ ⟨#[44]⟩), .string SD, .string MN, .string SY, .string (SH ++ ⟨#[58]⟩ ++ SI), .string (⟨#[45]⟩ ++ SA ++ SB)] 9)).heap.size := by simp
    clear hS
    generalize W1.alloc (.cells #[.string (DN ++ ⟨#[44]⟩), .string SD, .string MN, .string SY, .string (SH ++ ⟨#[58]⟩ ++ SI), .string (⟨#[45]⟩ ++ SA ++ SB)] 9) = W9 at hS9 hr9 hl9 ⊢
    generalize W1.heap.size = g9 at hr9 hl9 ⊢
    have hS := hS9
    refine h_val (i := 33) (v := .slice (some ⟨g9, 0, none⟩) 6 6) rfl (by kernel_rfl) (by kernel_rfl) (by kernel_rfl) (fun _ _ _ h => h) rfl (fun _ _ => rfl) hS ?_
    try simp only [Act.put, List.getElem_toArray, List.getElem_cons_zero, List.getElem_cons_succ, List.setIfInBounds_toArray, List.set_cons_zero, List.set_cons_succ]
    refine wpAnyH_done (by kernel_rfl) ?_ _
    obtain ⟨hj1, hj2⟩ := join6 (DN ++ ⟨#[44]⟩) SD MN SY (SH ++ ⟨#[58]⟩ ++ SI) (⟨#[45]⟩ ++ SA ++ SB)
    have hjoin := Any.strings_Join Tryd.lays156 Tryd.Builder_Extra_156 g9 0 6 [DN ++ ⟨#[44]⟩, SD, MN, SY, SH ++ ⟨#[58]⟩ ++ SI, ⟨#[45]⟩ ++ SA ++ SB] ⟨#[32]⟩ W9 (six_cells hr9) hl9 (by show 6 ≤ _; omega) (by show 6 ≤ 6; omega) (by
      refine Nat.le_trans hj2 ?_
      simp only [ByteArray.size_append]
      show _ + 1 + _ + _ + _ + (_ + 1 + _) + (1 + _ + _) + 5 ≤ _
      omega)
    have hfin : Hid ((⟨(Lib.join ([DN ++ ⟨#[44]⟩, SD, MN, SY, SH ++ ⟨#[58]⟩ ++ SI, ⟨#[45]⟩ ++ SA ++ SB].map (·.data.toList)) [32]).toArray⟩ : ByteArray) = ⟨(txt t off).toArray⟩) := Lib.hid (by
      rw [hj1, htx.out]
      simp only [data_app, hDN1.out, hSD.out, hMN1.out, hSY.out, hSH.out, hSI.out, hSA.out, hSB.out, hdw.out, hmy.out, show sgn off = [45] from if_pos hneg]
      simp [mag, show off.natAbs / 60 = (mg / 60).toNat by omega, show off.natAbs % 60 = (mg % 60).toNat by omega])
    replace hjoin : Calls Tryd.prog 37 #[.slice (some ⟨g9, 0, none⟩) 6 6, .string ⟨#[32]⟩] W9 fun e w' => e = .returned (.string ⟨(txt t off).toArray⟩) ∧ Below W9.heap.size W9 w' := by
      rw [← hfin.out]
      exact hjoin
    clear hS hfin hj1 hj2 hr9 hl9
    generalize (⟨(txt t off).toArray⟩ : ByteArray) = TX at hjoin hf
    have hHj := Lib.hid hjoin
    have hS10 := Lib.hid hS9
    clear hjoin hS9
    go_wp2_with fail
    refine hHj.out.mono ?_
    rintro e W10 ⟨rfl, hb10⟩
    have hB10 := Lib.hid (hBW.out.trans ((hS10.out.trans (hb10.mono hS10.out.size)).mono hBW.out.size))
    clear hb10
    go_wp2
    go_ret2
    exact ⟨by rw [hf.out]; rfl, hB10.out⟩
  · have bn : decide (off < 0) = false := decide_eq_false hneg
    have m0 : 0 ≤ off := by omega
    obtain ⟨SD, hSD, zD, hpD0⟩ := Tryd.pad_ex d 2 (by omega) (.inl ⟨rfl, by omega⟩)
    obtain ⟨SY, hSY, zY, hpY0⟩ := Tryd.pad_ex y 4 (by omega) (.inr ⟨rfl, by omega⟩)
    obtain ⟨SH, hSH, zH, hpH0⟩ := Tryd.pad_ex hh 2 (by omega) (.inl ⟨rfl, by omega⟩)
    obtain ⟨SI, hSI, zI, hpI0⟩ := Tryd.pad_ex mi 2 (by omega) (.inl ⟨rfl, by omega⟩)
    obtain ⟨SA, hSA, zA, hpA0⟩ := Tryd.pad_ex ((off) / 60) 2 (by omega) (.inl ⟨rfl, by omega⟩)
    obtain ⟨SB, hSB, zB, hpB0⟩ := Tryd.pad_ex ((off) % 60) 2 (by omega) (.inl ⟨rfl, by omega⟩)
    have hpD := Lib.hid hpD0
    have hpY := Lib.hid hpY0
    have hpH := Lib.hid hpH0
    have hpI := Lib.hid hpI0
    have hpA := Lib.hid hpA0
    have hpB := Lib.hid hpB0
    obtain ⟨DN, hDN1, zDN, hDN0⟩ := Tryd.name_ex7 wd wd0 (by omega)
    obtain ⟨MN, hMN1, zMN, hMN0⟩ := Tryd.name_ex12 (m - 1) (by omega) (by omega)
    have hDN := Lib.hid hDN0
    have hMN := Lib.hid hMN0
    have z1 : ¬ 9223372036854775807 < DN.size + 1 := by omega
    have z2 : ¬ 9223372036854775807 < SH.size + 1 := by omega
    have z3 : ¬ 9223372036854775807 < SH.size + 1 + SI.size := by omega
    have z4 : ¬ 9223372036854775807 < 1 + SA.size := by omega
    have z5 : ¬ 9223372036854775807 < 1 + SA.size + SB.size := by omega
    have w1 : IntKind.i64.wrap (m - 1) = m - 1 := IntWalk.i64_in _ (by omega)
    have q0 : (off).tdiv 60 = (off) / 60 := Int.tdiv_eq_ediv_of_nonneg (by omega)
    have q1 : off.tmod 60 = off % 60 := Int.tmod_eq_emod_of_nonneg (by omega)
    have q2 : IntKind.i64.wrap (off / 60) = off / 60 := IntWalk.i64_in _ (by omega)
    have q3 : IntKind.i64.wrap (off % 60) = off % 60 := IntWalk.i64_in _ (by omega)
    clear hpD0 hpY0 hpH0 hpI0 hpA0 hpB0 hDN0 hMN0
    go_enter Tryd.func18, Tryd.ntmps18
    go_wp2_with fail
    refine (hHc1.out _).mono ?_
    rintro e w' ⟨rfl, rfl⟩
    go_wp2_with fail
    refine (hHc2.out _).mono ?_
    rintro e w' ⟨rfl, rfl⟩
    go_wp2_with fail
    refine (hHc3.out _).mono ?_
    rintro e W0 ⟨rfl, hb0⟩
    have hB0 := Lib.hid hb0
    clear hb0
    go_wp2_with fail
    refine (hHc4.out _).mono ?_
    rintro e w' ⟨rfl, rfl⟩
    have hTV := Tabs.below (hB0.out.trans ((Below.refl _ W0).alloc (hB0.out.size) (.cells #[.int .i64 y, .int .i64 m, .int .i64 d, .int .i64 hh, .int .i64 mi] 24))) hTw.out
    have hBV := hB0.out.alloc hB0.out.size (.cells #[.int .i64 y, .int .i64 m, .int .i64 d, .int .i64 hh, .int .i64 mi] 24)
    have hrV : (W0.alloc (.cells #[.int .i64 y, .int .i64 m, .int .i64 d, .int .i64 hh, .int .i64 mi] 24)).heap[W0.heap.size]? = some (.cells #[.int .i64 y, .int .i64 m, .int .i64 d, .int .i64 hh, .int .i64 mi] 24 (0, 0)) := Go.heap_alloc_new W0 _
    have hsV : W0.heap.size < (W0.alloc (.cells #[.int .i64 y, .int .i64 m, .int .i64 d, .int .i64 hh, .int .i64 mi] 24)).heap.size := by simp
    generalize W0.alloc (.cells #[.int .i64 y, .int .i64 m, .int .i64 d, .int .i64 hh, .int .i64 mi] 24) = V at hTV hBV hrV hsV ⊢
    generalize W0.heap.size = B at hrV hsV ⊢
    have hBW := Lib.hid hBV
    have hTW := Lib.hid hTV
    have c0 := Lib.hid (fun W (h : Below V.heap.size V W) => (cells5 ((h.block _ hsV).trans hrV)).1)
    have c1 := Lib.hid (fun W (h : Below V.heap.size V W) => (cells5 ((h.block _ hsV).trans hrV)).2.1)
    have c2 := Lib.hid (fun W (h : Below V.heap.size V W) => (cells5 ((h.block _ hsV).trans hrV)).2.2.1)
    have c3 := Lib.hid (fun W (h : Below V.heap.size V W) => (cells5 ((h.block _ hsV).trans hrV)).2.2.2.1)
    have c4 := Lib.hid (fun W (h : Below V.heap.size V W) => (cells5 ((h.block _ hsV).trans hrV)).2.2.2.2.1)
    have hKb : Hid (∀ W W', Below V.heap.size V W → Below W.heap.size W W' → Below V.heap.size V W') := Lib.hid fun W W' h hb => h.trans (hb.mono h.size)
    have hTb : Hid (∀ W, Below V.heap.size V W → Tabs W) := Lib.hid fun W h => hTV.below h
    clear hTV hBV hrV hsV
    go_wp2_with fail
    refine wp_region_held (S := fun w' => Below V.heap.size V w') (by kernel_rfl) ?_
    have hS : Below V.heap.size V { V with drawn := V.drawn + 1 } := (Below.refl _ _).drew
    refine h_val (i := 1) (v := .int .i64 wd) rfl (by kernel_rfl) (by kernel_rfl) (by kernel_rfl) (fun _ _ _ h => h) rfl (fun _ _ => rfl) hS ?_
    try simp only [Act.put, List.getElem_toArray, List.getElem_cons_zero, List.getElem_cons_succ, List.setIfInBounds_toArray, List.set_cons_zero, List.set_cons_succ]
    refine h_val (i := 4) (v := ?_) rfl (by kernel_rfl) (by kernel_rfl) (by kernel_rfl) (fun _ _ _ h => h) rfl ?_ hS ?_
    rotate_left
    · intro W hW
      go_simp
      try exact rfl
    try simp only [Act.put, List.getElem_toArray, List.getElem_cons_zero, List.getElem_cons_succ, List.setIfInBounds_toArray, List.set_cons_zero, List.set_cons_succ]
    refine h_val (i := 5) (v := .int .i64 d) rfl (by kernel_rfl) (by kernel_rfl) (by kernel_rfl) (fun _ _ _ h => h) rfl (fun W hW => h_ld Tryd.isAgg3 (.tmp 54) rfl ⟨B, 2, none⟩ rfl _ (c2.out W hW)) hS ?_
    try simp only [Act.put, List.getElem_toArray, List.getElem_cons_zero, List.getElem_cons_succ, List.setIfInBounds_toArray, List.set_cons_zero, List.set_cons_succ]
    refine h_val (i := 8) (v := ?_) rfl (by kernel_rfl) (by kernel_rfl) (by kernel_rfl) (fun _ _ _ h => h) rfl ?_ hS ?_
    rotate_left
    · intro W hW
      go_simp
      try exact rfl
    try simp only [Act.put, List.getElem_toArray, List.getElem_cons_zero, List.getElem_cons_succ, List.setIfInBounds_toArray, List.set_cons_zero, List.set_cons_succ]
    refine h_val (i := 9) (v := .int .i64 m) rfl (by kernel_rfl) (by kernel_rfl) (by kernel_rfl) (fun _ _ _ h => h) rfl (fun W hW => h_ld Tryd.isAgg3 (.tmp 58) rfl ⟨B, 1, none⟩ rfl _ (c1.out W hW)) hS ?_
    try simp only [Act.put, List.getElem_toArray, List.getElem_cons_zero, List.getElem_cons_succ, List.setIfInBounds_toArray, List.set_cons_zero, List.set_cons_succ]
    refine h_val (i := 10) (v := ?_) rfl (by kernel_rfl) (by kernel_rfl) (by kernel_rfl) (fun _ _ _ h => h) rfl ?_ hS ?_
    rotate_left
    · intro W hW
      go_simp
      try exact rfl
    try simp only [Act.put, List.getElem_toArray, List.getElem_cons_zero, List.getElem_cons_succ, List.setIfInBounds_toArray, List.set_cons_zero, List.set_cons_succ]
    refine h_val (i := 12) (v := ?_) rfl (by kernel_rfl) (by kernel_rfl) (by kernel_rfl) (fun _ _ _ h => h) rfl ?_ hS ?_
    rotate_left
    · intro W hW
      go_simp
      try exact rfl
    try simp only [Act.put, List.getElem_toArray, List.getElem_cons_zero, List.getElem_cons_succ, List.setIfInBounds_toArray, List.set_cons_zero, List.set_cons_succ]
    refine h_val (i := 13) (v := .int .i64 y) rfl (by kernel_rfl) (by kernel_rfl) (by kernel_rfl) (fun _ _ _ h => h) rfl (fun W hW => h_ld Tryd.isAgg3 (.tmp 62) rfl ⟨B, 0, none⟩ rfl _ (c0.out W hW)) hS ?_
    try simp only [Act.put, List.getElem_toArray, List.getElem_cons_zero, List.getElem_cons_succ, List.setIfInBounds_toArray, List.set_cons_zero, List.set_cons_succ]
    refine h_val (i := 15) (v := ?_) rfl (by kernel_rfl) (by kernel_rfl) (by kernel_rfl) (fun _ _ _ h => h) rfl ?_ hS ?_
    rotate_left
    · intro W hW
      go_simp
      try exact rfl
    try simp only [Act.put, List.getElem_toArray, List.getElem_cons_zero, List.getElem_cons_succ, List.setIfInBounds_toArray, List.set_cons_zero, List.set_cons_succ]
    refine h_val (i := 16) (v := .int .i64 hh) rfl (by kernel_rfl) (by kernel_rfl) (by kernel_rfl) (fun _ _ _ h => h) rfl (fun W hW => h_ld Tryd.isAgg3 (.tmp 65) rfl ⟨B, 3, none⟩ rfl _ (c3.out W hW)) hS ?_
    try simp only [Act.put, List.getElem_toArray, List.getElem_cons_zero, List.getElem_cons_succ, List.setIfInBounds_toArray, List.set_cons_zero, List.set_cons_succ]
    refine h_val (i := 19) (v := ?_) rfl (by kernel_rfl) (by kernel_rfl) (by kernel_rfl) (fun _ _ _ h => h) rfl ?_ hS ?_
    rotate_left
    · intro W hW
      go_simp
      try exact rfl
    try simp only [Act.put, List.getElem_toArray, List.getElem_cons_zero, List.getElem_cons_succ, List.setIfInBounds_toArray, List.set_cons_zero, List.set_cons_succ]
    refine h_val (i := 20) (v := .int .i64 mi) rfl (by kernel_rfl) (by kernel_rfl) (by kernel_rfl) (fun _ _ _ h => h) rfl (fun W hW => h_ld Tryd.isAgg3 (.tmp 69) rfl ⟨B, 4, none⟩ rfl _ (c4.out W hW)) hS ?_
    try simp only [Act.put, List.getElem_toArray, List.getElem_cons_zero, List.getElem_cons_succ, List.setIfInBounds_toArray, List.set_cons_zero, List.set_cons_succ]
    refine h_val (i := 23) (v := .string ⟨#[43]⟩) rfl (by kernel_rfl) (by kernel_rfl) (by kernel_rfl) (fun _ _ _ h => h) rfl (fun _ _ => rfl) hS ?_
    try simp only [Act.put, List.getElem_toArray, List.getElem_cons_zero, List.getElem_cons_succ, List.setIfInBounds_toArray, List.set_cons_zero, List.set_cons_succ]
    refine h_val (i := 24) (v := .int .i64 (off)) rfl (by kernel_rfl) (by kernel_rfl) (by kernel_rfl) (fun _ _ _ h => h) rfl (fun _ _ => rfl) hS ?_
    try simp only [Act.put, List.getElem_toArray, List.getElem_cons_zero, List.getElem_cons_succ, List.setIfInBounds_toArray, List.set_cons_zero, List.set_cons_succ]
    refine h_val (i := 25) (v := ?_) rfl (by kernel_rfl) (by kernel_rfl) (by kernel_rfl) (fun _ _ _ h => h) rfl ?_ hS ?_
    rotate_left
    · intro W hW
      go_simp
      try exact rfl
    try simp only [Act.put, List.getElem_toArray, List.getElem_cons_zero, List.getElem_cons_succ, List.setIfInBounds_toArray, List.set_cons_zero, List.set_cons_succ]
    refine h_val (i := 28) (v := .int .i64 (off)) rfl (by kernel_rfl) (by kernel_rfl) (by kernel_rfl) (fun _ _ _ h => h) rfl (fun _ _ => rfl) hS ?_
    try simp only [Act.put, List.getElem_toArray, List.getElem_cons_zero, List.getElem_cons_succ, List.setIfInBounds_toArray, List.set_cons_zero, List.set_cons_succ]
    refine h_val (i := 29) (v := ?_) rfl (by kernel_rfl) (by kernel_rfl) (by kernel_rfl) (fun _ _ _ h => h) rfl ?_ hS ?_
    rotate_left
    · intro W hW
      go_simp
      try exact rfl
    try simp only [Act.put, List.getElem_toArray, List.getElem_cons_zero, List.getElem_cons_succ, List.setIfInBounds_toArray, List.set_cons_zero, List.set_cons_succ]
    refine wpAnyH_ready (rs := [0]) (by kernel_rfl) (by simp) ?_
    refine AllReadyH.cons rfl (fun K hK => ?_) AllReadyH.nil
    go_simp
    refine (Tryd.dDayNames _).mono ?_
    rintro e W1 ⟨rfl, hb⟩
    replace hS := hKb.out _ _ hS hb
    refine hK.out _ _ hS (fun _ => ?_)
    clear hK K hb
    try simp only [Act.put, List.getElem_toArray, List.getElem_cons_zero, List.getElem_cons_succ, List.setIfInBounds_toArray, List.set_cons_zero, List.set_cons_succ]
    refine h_val (i := 2) (v := .string DN) rfl (by kernel_rfl) (by kernel_rfl) (by kernel_rfl) (fun _ _ _ h => h) rfl (fun W _ => h_idx rfl rfl rfl hDN.out) hS ?_
    try simp only [Act.put, List.getElem_toArray, List.getElem_cons_zero, List.getElem_cons_succ, List.setIfInBounds_toArray, List.set_cons_zero, List.set_cons_succ]
    refine h_val (i := 3) (v := ?_) rfl (by kernel_rfl) (by kernel_rfl) (by kernel_rfl) (fun _ _ _ h => h) rfl ?_ hS ?_
    rotate_left
    · intro W hW
      go_simp
      try exact rfl
    try simp only [Act.put, List.getElem_toArray, List.getElem_cons_zero, List.getElem_cons_succ, List.setIfInBounds_toArray, List.set_cons_zero, List.set_cons_succ]
    refine wpAnyH_ready (rs := [6]) (by kernel_rfl) (by simp) ?_
    refine AllReadyH.cons rfl (fun K hK => ?_) AllReadyH.nil
    go_simp
    refine (hpD.out _ (hTb.out _ hS)).mono ?_
    rintro e W1 ⟨rfl, hb⟩
    replace hS := hKb.out _ _ hS hb
    refine hK.out _ _ hS (fun _ => ?_)
    clear hK K hb
    try simp only [Act.put, List.getElem_toArray, List.getElem_cons_zero, List.getElem_cons_succ, List.setIfInBounds_toArray, List.set_cons_zero, List.set_cons_succ]
    refine wpAnyH_ready (rs := [7]) (by kernel_rfl) (by simp) ?_
    refine AllReadyH.cons rfl (fun K hK => ?_) AllReadyH.nil
    go_simp
    refine (Tryd.dMonthNames _).mono ?_
    rintro e W1 ⟨rfl, hb⟩
    replace hS := hKb.out _ _ hS hb
    refine hK.out _ _ hS (fun _ => ?_)
    clear hK K hb
    try simp only [Act.put, List.getElem_toArray, List.getElem_cons_zero, List.getElem_cons_succ, List.setIfInBounds_toArray, List.set_cons_zero, List.set_cons_succ]
    refine h_val (i := 11) (v := .string MN) rfl (by kernel_rfl) (by kernel_rfl) (by kernel_rfl) (fun _ _ _ h => h) rfl (fun W _ => h_idx rfl rfl rfl hMN.out) hS ?_
    try simp only [Act.put, List.getElem_toArray, List.getElem_cons_zero, List.getElem_cons_succ, List.setIfInBounds_toArray, List.set_cons_zero, List.set_cons_succ]
    refine wpAnyH_ready (rs := [14]) (by kernel_rfl) (by simp) ?_
    refine AllReadyH.cons rfl (fun K hK => ?_) AllReadyH.nil
    go_simp
    refine (hpY.out _ (hTb.out _ hS)).mono ?_
    rintro e W1 ⟨rfl, hb⟩
    replace hS := hKb.out _ _ hS hb
    refine hK.out _ _ hS (fun _ => ?_)
    clear hK K hb
    try simp only [Act.put, List.getElem_toArray, List.getElem_cons_zero, List.getElem_cons_succ, List.setIfInBounds_toArray, List.set_cons_zero, List.set_cons_succ]
    refine wpAnyH_ready (rs := [17]) (by kernel_rfl) (by simp) ?_
    refine AllReadyH.cons rfl (fun K hK => ?_) AllReadyH.nil
    go_simp
    refine (hpH.out _ (hTb.out _ hS)).mono ?_
    rintro e W1 ⟨rfl, hb⟩
    replace hS := hKb.out _ _ hS hb
    refine hK.out _ _ hS (fun _ => ?_)
    clear hK K hb
    try simp only [Act.put, List.getElem_toArray, List.getElem_cons_zero, List.getElem_cons_succ, List.setIfInBounds_toArray, List.set_cons_zero, List.set_cons_succ]
    refine h_val (i := 18) (v := ?_) rfl (by kernel_rfl) (by kernel_rfl) (by kernel_rfl) (fun _ _ _ h => h) rfl ?_ hS ?_
    rotate_left
    · intro W hW
      go_simp
      try exact rfl
    try simp only [Act.put, List.getElem_toArray, List.getElem_cons_zero, List.getElem_cons_succ, List.setIfInBounds_toArray, List.set_cons_zero, List.set_cons_succ]
    refine wpAnyH_ready (rs := [21]) (by kernel_rfl) (by simp) ?_
    refine AllReadyH.cons rfl (fun K hK => ?_) AllReadyH.nil
    go_simp
    refine (hpI.out _ (hTb.out _ hS)).mono ?_
    rintro e W1 ⟨rfl, hb⟩
    replace hS := hKb.out _ _ hS hb
    refine hK.out _ _ hS (fun _ => ?_)
    clear hK K hb
    try simp only [Act.put, List.getElem_toArray, List.getElem_cons_zero, List.getElem_cons_succ, List.setIfInBounds_toArray, List.set_cons_zero, List.set_cons_succ]
    refine h_val (i := 22) (v := ?_) rfl (by kernel_rfl) (by kernel_rfl) (by kernel_rfl) (fun _ _ _ h => h) rfl ?_ hS ?_
    rotate_left
    · intro W hW
      go_simp
      try exact rfl
    try simp only [Act.put, List.getElem_toArray, List.getElem_cons_zero, List.getElem_cons_succ, List.setIfInBounds_toArray, List.set_cons_zero, List.set_cons_succ]
    refine wpAnyH_ready (rs := [26]) (by kernel_rfl) (by simp) ?_
    refine AllReadyH.cons rfl (fun K hK => ?_) AllReadyH.nil
    go_simp
    refine (hpA.out _ (hTb.out _ hS)).mono ?_
    rintro e W1 ⟨rfl, hb⟩
    replace hS := hKb.out _ _ hS hb
    refine hK.out _ _ hS (fun _ => ?_)
    clear hK K hb
    try simp only [Act.put, List.getElem_toArray, List.getElem_cons_zero, List.getElem_cons_succ, List.setIfInBounds_toArray, List.set_cons_zero, List.set_cons_succ]
    refine h_val (i := 27) (v := ?_) rfl (by kernel_rfl) (by kernel_rfl) (by kernel_rfl) (fun _ _ _ h => h) rfl ?_ hS ?_
    rotate_left
    · intro W hW
      go_simp
      try exact rfl
    try simp only [Act.put, List.getElem_toArray, List.getElem_cons_zero, List.getElem_cons_succ, List.setIfInBounds_toArray, List.set_cons_zero, List.set_cons_succ]
    refine wpAnyH_ready (rs := [30]) (by kernel_rfl) (by simp) ?_
    refine AllReadyH.cons rfl (fun K hK => ?_) AllReadyH.nil
    go_simp
    refine (hpB.out _ (hTb.out _ hS)).mono ?_
    rintro e W1 ⟨rfl, hb⟩
    replace hS := hKb.out _ _ hS hb
    refine hK.out _ _ hS (fun _ => ?_)
    clear hK K hb
    try simp only [Act.put, List.getElem_toArray, List.getElem_cons_zero, List.getElem_cons_succ, List.setIfInBounds_toArray, List.set_cons_zero, List.set_cons_succ]
    refine h_val (i := 31) (v := ?_) rfl (by kernel_rfl) (by kernel_rfl) (by kernel_rfl) (fun _ _ _ h => h) rfl ?_ hS ?_
    rotate_left
    · intro W hW
      go_simp
      try exact rfl
    try simp only [Act.put, List.getElem_toArray, List.getElem_cons_zero, List.getElem_cons_succ, List.setIfInBounds_toArray, List.set_cons_zero, List.set_cons_succ]
    refine wpAnyH_ready (rs := [32]) (by kernel_rfl) (by simp) ?_
    refine AllReadyH.cons rfl (fun K hK => ?_) AllReadyH.nil
    go_simp
    refine hK.out _ _ (hS.alloc hS.size _) (fun _ => ?_)
    clear hK K
    try simp only [Act.put, List.getElem_toArray, List.getElem_cons_zero, List.getElem_cons_succ, List.setIfInBounds_toArray, List.set_cons_zero, List.set_cons_succ]
    have hS9 := hS.alloc hS.size (.cells #[.string (DN ++ ⟨#[44]⟩), .string SD, .string MN, .string SY, .string (SH ++ ⟨#[58]⟩ ++ SI), .string (⟨#[43]⟩ ++ SA ++ SB)] 9)
    have hr9 := Go.heap_alloc_new W1 (.cells #[.string (DN ++ ⟨#[44]⟩), .string SD, .string MN, .string SY, .string (SH ++ ⟨#[58]⟩ ++ SI), .string (⟨#[43]⟩ ++ SA ++ SB)] 9)
    have hl9 : W1.heap.size < (W1.alloc (.cells #[.string (DN ++ ⟨#[44]⟩), .string SD, .string MN, .string SY, .string (SH ++ ⟨#[58]⟩ ++ SI), .string (⟨#[43]⟩ ++ SA ++ SB)] 9)).heap.size := by simp
    clear hS
    generalize W1.alloc (.cells #[.string (DN ++ ⟨#[44]⟩), .string SD, .string MN, .string SY, .string (SH ++ ⟨#[58]⟩ ++ SI), .string (⟨#[43]⟩ ++ SA ++ SB)] 9) = W9 at hS9 hr9 hl9 ⊢
    generalize W1.heap.size = g9 at hr9 hl9 ⊢
    have hS := hS9
    refine h_val (i := 33) (v := .slice (some ⟨g9, 0, none⟩) 6 6) rfl (by kernel_rfl) (by kernel_rfl) (by kernel_rfl) (fun _ _ _ h => h) rfl (fun _ _ => rfl) hS ?_
    try simp only [Act.put, List.getElem_toArray, List.getElem_cons_zero, List.getElem_cons_succ, List.setIfInBounds_toArray, List.set_cons_zero, List.set_cons_succ]
    refine wpAnyH_done (by kernel_rfl) ?_ _
    obtain ⟨hj1, hj2⟩ := join6 (DN ++ ⟨#[44]⟩) SD MN SY (SH ++ ⟨#[58]⟩ ++ SI) (⟨#[43]⟩ ++ SA ++ SB)
    have hjoin := Any.strings_Join Tryd.lays156 Tryd.Builder_Extra_156 g9 0 6 [DN ++ ⟨#[44]⟩, SD, MN, SY, SH ++ ⟨#[58]⟩ ++ SI, ⟨#[43]⟩ ++ SA ++ SB] ⟨#[32]⟩ W9 (six_cells hr9) hl9 (by show 6 ≤ _; omega) (by show 6 ≤ 6; omega) (by
      refine Nat.le_trans hj2 ?_
      simp only [ByteArray.size_append]
      show _ + 1 + _ + _ + _ + (_ + 1 + _) + (1 + _ + _) + 5 ≤ _
      omega)
    have hfin : Hid ((⟨(Lib.join ([DN ++ ⟨#[44]⟩, SD, MN, SY, SH ++ ⟨#[58]⟩ ++ SI, ⟨#[43]⟩ ++ SA ++ SB].map (·.data.toList)) [32]).toArray⟩ : ByteArray) = ⟨(txt t off).toArray⟩) := Lib.hid (by
      rw [hj1, htx.out]
      simp only [data_app, hDN1.out, hSD.out, hMN1.out, hSY.out, hSH.out, hSI.out, hSA.out, hSB.out, hdw.out, hmy.out, show sgn off = [43] from if_neg (by omega)]
      simp [mag, show off.natAbs / 60 = (off / 60).toNat by omega, show off.natAbs % 60 = (off % 60).toNat by omega])
    replace hjoin : Calls Tryd.prog 37 #[.slice (some ⟨g9, 0, none⟩) 6 6, .string ⟨#[32]⟩] W9 fun e w' => e = .returned (.string ⟨(txt t off).toArray⟩) ∧ Below W9.heap.size W9 w' := by
      rw [← hfin.out]
      exact hjoin
    clear hS hfin hj1 hj2 hr9 hl9
    generalize (⟨(txt t off).toArray⟩ : ByteArray) = TX at hjoin hf
    have hHj := Lib.hid hjoin
    have hS10 := Lib.hid hS9
    clear hjoin hS9
    go_wp2_with fail
    refine hHj.out.mono ?_
    rintro e W10 ⟨rfl, hb10⟩
    have hB10 := Lib.hid (hBW.out.trans ((hS10.out.trans (hb10.mono hS10.out.size)).mono hBW.out.size))
    clear hb10
    go_wp2
    go_ret2
    exact ⟨by rw [hf.out]; rfl, hB10.out⟩
end Go.Proofs
