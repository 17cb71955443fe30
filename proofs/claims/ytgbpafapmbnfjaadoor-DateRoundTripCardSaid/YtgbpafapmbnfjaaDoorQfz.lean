/- the reference's FormatZone, walked -/
import Derived.Test.YtgbpafapmbnfjaaDoorFz
namespace Go.Proofs
open Go.RowKit Go.Shelf
set_option linter.unusedVariables false
set_option linter.unusedSimpArgs false
open TK
namespace TK
section
variable {P : Program} {md : Region.Mode} {ops : Array Oper} {Q : Exit → Act → World → Prop}
theorem held_mono {S S' : World → Prop} (hS : ∀ w, S' w → S w) : ∀ (fuel : Nat) (listed : Array Bool) (a : Act) (w : World), wpAnyH P md ops Q S' fuel listed a w → wpAnyH P md ops Q S fuel listed a w
  | 0, _, _, _, h => h
  | fuel + 1, _, _, _, h => ⟨h.1, fun i hi => wpOp_mono (fun a' w' h' => ⟨hS w' h'.1, held_mono hS fuel _ a' w' h'.2⟩) (h.2 i hi)⟩
end
theorem cat_ex (A B : ByteArray) (n : Nat) (h : A.size + B.size ≤ n) : ∃ C, Hid (A ++ B = C) ∧ C.size ≤ n ∧ Hid (C.data.toList = A.data.toList ++ B.data.toList) :=
  ⟨A ++ B, Lib.hid rfl, by rw [ByteArray.size_append]; exact h, Lib.hid (data_app A B)⟩
theorem h_cat {P : Program} {T r : TypeId} (hu : P.underlying T = some .string) {A B C : ByteArray} {o : Oper} {a : Act} {x y : Operand} (ho : o.op = .binOp .add T x y r) (hx : a.eval x = .string A) (hy : a.eval y = .string B) (hs : C.size ≤ 1000) (hc : Hid (A ++ B = C)) {w : World} : (execOp a.eval o).run P w = .ok (.value (.string C)) w := by
  have h0 : A.size + B.size = C.size := by rw [← hc.out, ByteArray.size_append]
  have h1 : ¬ 9223372036854775807 < A.size + B.size := by omega
  clear h0 hs
  unfold execOp
  simp only [ho, hx, hy]
  have h2 := run_underlying hu (w := w)
  rw [← hc.out]
  go_simp
end TK
theorem Tryd.dig_ex (n : Int) (c : Nat) (h0 : 0 ≤ n) (h1 : n ≤ 99999) (hc : c ≤ 10) : ∃ S : ByteArray, Hid (S.data.toList = dgs c n.toNat) ∧ S.size ≤ 10 ∧ ∀ W, Calls Tryd.prog 32 #[.int .i64 n, .int .i64 c] W fun e w' => e = .returned (.string S) ∧ Below W.heap.size W w' :=
  ⟨⟨(dgs c n.toNat).toArray⟩, Lib.hid rfl, by show (dgs c n.toNat).length ≤ 10; rw [dgs_length]; omega, fun W => Tryd.qDigits n c h0 h1 hc W⟩
theorem TK.str_ex (l : List UInt8) (h : l.length = 3) : ∃ S : ByteArray, Hid (S = ⟨l.toArray⟩) ∧ S.size ≤ 10 := ⟨⟨l.toArray⟩, Lib.hid rfl, by show l.length ≤ 10; omega⟩
set_option maxRecDepth 100000 in
set_option maxHeartbeats 2000000 in
theorem Tryd.qFormatZone_good (t off : Int) (h : okz t off = true) (w : World) : Calls Tryd.prog 17 #[.int .i64 t, .int .i64 off] w fun e w' => e = .returned (fzv t off) ∧ Below w.heap.size w w' := by
  have hf : Hid (fzv t off = .tuple #[.string ⟨(txt t off).toArray⟩, .int .i64 0]) := Lib.hid (by unfold fzv; rw [if_pos h])
  have h' := h
  unfold okz at h'
  simp only [Bool.and_eq_true, decide_eq_true_eq] at h'
  obtain ⟨⟨⟨v1, v2⟩, v3⟩, v4⟩ := h'
  obtain ⟨t0, t1⟩ := Cal.valid_iff.1 v1
  obtain ⟨t2, t3⟩ := Cal.valid_iff.1 v4
  have hc1 := Tryd.qValid t
  have hc2 := Tryd.qValid (t + off)
  rw [v1] at hc1
  rw [v4] at hc2
  have hc3 := Tryd.qToCivil (t + off)
  have htc : tcv (t + off) = .tuple #[civv (Cal.civ (t + off)), ic 0] := by unfold tcv; rw [if_pos v4]
  rw [htc] at hc3
  have hc4 := Tryd.qWeekday (t + off) t2 (by omega)
  have hbd := civ_bd v4
  have hdw : Hid (dow (t + off) = dnl.getD (Cal.wd (t + off)).toNat []) := Lib.hid rfl
  have hmy : Hid (moy (t + off) = mnl.getD ((Cal.civ (t + off)).2.1 - 1).toNat []) := Lib.hid rfl
  have hwd : 0 ≤ Cal.wd (t + off) ∧ Cal.wd (t + off) ≤ 6 := by unfold Cal.wd; omega
  have htx : Hid (txt t off = dow (t + off) ++ [44, 32] ++ dgs 2 (Cal.civ (t + off)).2.2.1.toNat ++ [32] ++ moy (t + off) ++ [32] ++ dgs 4 (Cal.civ (t + off)).1.toNat ++ [32] ++ dgs 2 (Cal.civ (t + off)).2.2.2.1.toNat ++ [58] ++ dgs 2 (Cal.civ (t + off)).2.2.2.2.toNat ++ [32] ++ sgn off ++ dgs 2 (mag off / 60) ++ dgs 2 (mag off % 60)) := Lib.hid rfl
  generalize Cal.civ (t + off) = C5 at hc3 hbd hmy htx
  obtain ⟨y, m, d, hh, mi⟩ := C5
  simp only [civv, ic] at hc3
  dsimp only at hbd hmy htx
  obtain ⟨e1, e2, e3, e4, e5, e6, e7, e8, e9, e10⟩ := hbd
  generalize Cal.wd (t + off) = wd at hc4 hwd hdw
  obtain ⟨wd0, wd1⟩ := hwd
  have hHc1 := Lib.hid hc1
  have hHc2 := Lib.hid hc2
  have hHc3 := Lib.hid hc3
  have hHc4 := Lib.hid hc4
  have b1 : decide (off < -840) = false := decide_eq_false (by omega)
  have b2 : decide (840 < off) = false := decide_eq_false (by omega)
  clear h v1 v4 hc1 hc2 hc3 hc4 htc
  by_cases hneg : off < 0
  · have bn : decide (off < 0) = true := decide_eq_true hneg
    obtain ⟨mg, hmg⟩ : ∃ mg, -off = mg := ⟨_, rfl⟩
    obtain ⟨m1, hm1⟩ : ∃ m1, m - 1 = m1 := ⟨_, rfl⟩
    obtain ⟨SD, hSD, zD, hpD0⟩ := Tryd.dig_ex d 2 (by omega) (by omega) (by omega)
    obtain ⟨SY, hSY, zY, hpY0⟩ := Tryd.dig_ex y 4 (by omega) (by omega) (by omega)
    obtain ⟨SH, hSH, zH, hpH0⟩ := Tryd.dig_ex hh 2 (by omega) (by omega) (by omega)
    obtain ⟨SI, hSI, zI, hpI0⟩ := Tryd.dig_ex mi 2 (by omega) (by omega) (by omega)
    obtain ⟨SN, hSN, zN, hpN0⟩ := Tryd.dig_ex (mg / 60 * 100 + mg % 60) 4 (by omega) (by omega) (by omega)
    have hpD := Lib.hid hpD0
    have hpY := Lib.hid hpY0
    have hpH := Lib.hid hpH0
    have hpI := Lib.hid hpI0
    have hpN := Lib.hid hpN0
    obtain ⟨DN, hDN1, zDN⟩ := str_ex (dnl.getD wd.toNat []) (by rw [dnl_size _ (by omega)])
    obtain ⟨MN, hMN1, zMN⟩ := str_ex (mnl.getD m1.toNat []) (by rw [mnl_size _ (by omega)])
    obtain ⟨X1, hX1, x1, l1⟩ := cat_ex DN ⟨#[44, 32]⟩ 20 (by show _ + 2 ≤ _; omega)
    obtain ⟨X2, hX2, x2, l2⟩ := cat_ex X1 SD 30 (by omega)
    obtain ⟨X3, hX3, x3, l3⟩ := cat_ex X2 ⟨#[32]⟩ 40 (by show _ + 1 ≤ _; omega)
    obtain ⟨X4, hX4, x4, l4⟩ := cat_ex X3 MN 50 (by omega)
    obtain ⟨X5, hX5, x5, l5⟩ := cat_ex X4 ⟨#[32]⟩ 60 (by show _ + 1 ≤ _; omega)
    obtain ⟨X6, hX6, x6, l6⟩ := cat_ex X5 SY 70 (by omega)
    obtain ⟨X7, hX7, x7, l7⟩ := cat_ex X6 ⟨#[32]⟩ 80 (by show _ + 1 ≤ _; omega)
    obtain ⟨X8, hX8, x8, l8⟩ := cat_ex X7 SH 90 (by omega)
    obtain ⟨X9, hX9, x9, l9⟩ := cat_ex X8 ⟨#[58]⟩ 100 (by show _ + 1 ≤ _; omega)
    obtain ⟨X10, hX10, x10, l10⟩ := cat_ex X9 SI 110 (by omega)
    obtain ⟨X11, hX11, x11, l11⟩ := cat_ex X10 ⟨#[32]⟩ 120 (by show _ + 1 ≤ _; omega)
    obtain ⟨X12, hX12, x12, l12⟩ := cat_ex X11 ⟨#[45]⟩ 130 (by show _ + 1 ≤ _; omega)
    obtain ⟨X13, hX13, x13, l13⟩ := cat_ex X12 SN 140 (by omega)
    have w1 : IntKind.i64.wrap (m - 1) = m1 := (IntWalk.i64_in _ (by omega)).trans hm1
    have w1b : IntKind.i64.wrap m1 = m1 := IntWalk.i64_in _ (by omega)
    have w2 : IntKind.i64.wrap (t + off) = t + off := IntWalk.i64_in _ (by omega)
    have q0 : mg.tdiv 60 = mg / 60 := Int.tdiv_eq_ediv_of_nonneg (by omega)
    have q1 : mg.tmod 60 = mg % 60 := Int.tmod_eq_emod_of_nonneg (by omega)
    have q2 : IntKind.i64.wrap (mg / 60) = mg / 60 := IntWalk.i64_in _ (by omega)
    have q3 : IntKind.i64.wrap (mg % 60) = mg % 60 := IntWalk.i64_in _ (by omega)
    have q4 : IntKind.i64.wrap (mg / 60 * 100) = mg / 60 * 100 := IntWalk.i64_in _ (by omega)
    have q5 : IntKind.i64.wrap (mg / 60 * 100 + mg % 60) = mg / 60 * 100 + mg % 60 := IntWalk.i64_in _ (by omega)
    have wd2 : wd < 7 := by omega
    have m2 : m1 < 12 := by omega
    have m3 : 0 ≤ m1 := by omega
    clear hpD0 hpY0 hpH0 hpI0 hpN0
    go_enter Tryd.func17, Tryd.ntmps17
    go_wp2_with fail
    refine (hHc1.out _).mono ?_
    rintro e w' ⟨rfl, rfl⟩
    go_wp2_with fail
    refine (hHc2.out _).mono ?_
    rintro e w' ⟨rfl, rfl⟩
    go_wp2_with fail
    refine (hHc3.out _).mono ?_
    rintro e W0 ⟨rfl, hb0⟩
    have hB0 := Lib.hid hb0
    clear hb0
    have hBV := hB0.out.alloc hB0.out.size (.cells #[.int .i64 y, .int .i64 m, .int .i64 d, .int .i64 hh, .int .i64 mi] 28)
    have hrV : (W0.alloc (.cells #[.int .i64 y, .int .i64 m, .int .i64 d, .int .i64 hh, .int .i64 mi] 28)).heap[W0.heap.size]? = some (.cells #[.int .i64 y, .int .i64 m, .int .i64 d, .int .i64 hh, .int .i64 mi] 28 (0, 0)) := Go.heap_alloc_new W0 _
    have hsV : W0.heap.size < (W0.alloc (.cells #[.int .i64 y, .int .i64 m, .int .i64 d, .int .i64 hh, .int .i64 mi] 28)).heap.size := by simp
    go_wp2_with fail
    generalize W0.alloc (.cells #[.int .i64 y, .int .i64 m, .int .i64 d, .int .i64 hh, .int .i64 mi] 28) = V at hBV hrV hsV ⊢
    generalize W0.heap.size = B at hrV hsV ⊢
    have hBW := Lib.hid hBV
    have c0 := Lib.hid (fun W (h : Below V.heap.size V W) => (cells5 ((h.block _ hsV).trans hrV)).1)
    have c1 := Lib.hid (fun W (h : Below V.heap.size V W) => (cells5 ((h.block _ hsV).trans hrV)).2.1)
    have c2 := Lib.hid (fun W (h : Below V.heap.size V W) => (cells5 ((h.block _ hsV).trans hrV)).2.2.1)
    have c3 := Lib.hid (fun W (h : Below V.heap.size V W) => (cells5 ((h.block _ hsV).trans hrV)).2.2.2.1)
    have c4 := Lib.hid (fun W (h : Below V.heap.size V W) => (cells5 ((h.block _ hsV).trans hrV)).2.2.2.2.1)
    clear hBV hrV hsV
    refine wp_region_held (S := fun w' => Below V.heap.size V w') (by kernel_rfl) ?_
    have hS : Below V.heap.size V { V with drawn := V.drawn + 1 } := (Below.refl _ _).drew
    refine h_val (i := 1) (v := .int .i64 t) rfl (by kernel_rfl) (by kernel_rfl) (by kernel_rfl) (fun _ _ _ h => h) rfl (fun _ _ => rfl) hS ?_
    try simp only [Act.put, List.getElem_toArray, List.getElem_cons_zero, List.getElem_cons_succ, List.setIfInBounds_toArray, List.set_cons_zero, List.set_cons_succ]
    refine h_val (i := 2) (v := .int .i64 off) rfl (by kernel_rfl) (by kernel_rfl) (by kernel_rfl) (fun _ _ _ h => h) rfl (fun _ _ => rfl) hS ?_
    try simp only [Act.put, List.getElem_toArray, List.getElem_cons_zero, List.getElem_cons_succ, List.setIfInBounds_toArray, List.set_cons_zero, List.set_cons_succ]
    refine h_val (i := 3) (v := ?_) rfl (by kernel_rfl) (by kernel_rfl) (by kernel_rfl) (fun _ _ _ h => h) rfl ?_ hS ?_
    rotate_left
    · intro W hW
      go_simp
      try exact rfl
    try simp only [Act.put, List.getElem_toArray, List.getElem_cons_zero, List.getElem_cons_succ, List.setIfInBounds_toArray, List.set_cons_zero, List.set_cons_succ]
    refine h_val (i := 8) (v := ?_) rfl (by kernel_rfl) (by kernel_rfl) (by kernel_rfl) (fun _ _ _ h => h) rfl ?_ hS ?_
    rotate_left
    · intro W hW
      go_simp
      try exact rfl
    try simp only [Act.put, List.getElem_toArray, List.getElem_cons_zero, List.getElem_cons_succ, List.setIfInBounds_toArray, List.set_cons_zero, List.set_cons_succ]
    refine h_val (i := 9) (v := .int .i64 d) rfl (by kernel_rfl) (by kernel_rfl) (by kernel_rfl) (fun _ _ _ h => h) rfl (fun W hW => h_ld Tryd.isAgg3 (.tmp 48) rfl ⟨B, 2, none⟩ rfl _ (c2.out W hW)) hS ?_
    try simp only [Act.put, List.getElem_toArray, List.getElem_cons_zero, List.getElem_cons_succ, List.setIfInBounds_toArray, List.set_cons_zero, List.set_cons_succ]
    refine h_val (i := 14) (v := ?_) rfl (by kernel_rfl) (by kernel_rfl) (by kernel_rfl) (fun _ _ _ h => h) rfl ?_ hS ?_
    rotate_left
    · intro W hW
      go_simp
      try exact rfl
    try simp only [Act.put, List.getElem_toArray, List.getElem_cons_zero, List.getElem_cons_succ, List.setIfInBounds_toArray, List.set_cons_zero, List.set_cons_succ]
    refine h_val (i := 15) (v := .int .i64 m) rfl (by kernel_rfl) (by kernel_rfl) (by kernel_rfl) (fun _ _ _ h => h) rfl (fun W hW => h_ld Tryd.isAgg3 (.tmp 54) rfl ⟨B, 1, none⟩ rfl _ (c1.out W hW)) hS ?_
    try simp only [Act.put, List.getElem_toArray, List.getElem_cons_zero, List.getElem_cons_succ, List.setIfInBounds_toArray, List.set_cons_zero, List.set_cons_succ]
    refine h_val (i := 16) (v := ?_) rfl (by kernel_rfl) (by kernel_rfl) (by kernel_rfl) (fun _ _ _ h => h) rfl ?_ hS ?_
    rotate_left
    · intro W hW
      go_simp
      try exact rfl
    try simp only [Act.put, List.getElem_toArray, List.getElem_cons_zero, List.getElem_cons_succ, List.setIfInBounds_toArray, List.set_cons_zero, List.set_cons_succ]
    refine h_val (i := 21) (v := ?_) rfl (by kernel_rfl) (by kernel_rfl) (by kernel_rfl) (fun _ _ _ h => h) rfl ?_ hS ?_
    rotate_left
    · intro W hW
      go_simp
      try exact rfl
    try simp only [Act.put, List.getElem_toArray, List.getElem_cons_zero, List.getElem_cons_succ, List.setIfInBounds_toArray, List.set_cons_zero, List.set_cons_succ]
    refine h_val (i := 22) (v := .int .i64 y) rfl (by kernel_rfl) (by kernel_rfl) (by kernel_rfl) (fun _ _ _ h => h) rfl (fun W hW => h_ld Tryd.isAgg3 (.tmp 61) rfl ⟨B, 0, none⟩ rfl _ (c0.out W hW)) hS ?_
    try simp only [Act.put, List.getElem_toArray, List.getElem_cons_zero, List.getElem_cons_succ, List.setIfInBounds_toArray, List.set_cons_zero, List.set_cons_succ]
    refine h_val (i := 26) (v := ?_) rfl (by kernel_rfl) (by kernel_rfl) (by kernel_rfl) (fun _ _ _ h => h) rfl ?_ hS ?_
    rotate_left
    · intro W hW
      go_simp
      try exact rfl
    try simp only [Act.put, List.getElem_toArray, List.getElem_cons_zero, List.getElem_cons_succ, List.setIfInBounds_toArray, List.set_cons_zero, List.set_cons_succ]
    refine h_val (i := 27) (v := .int .i64 hh) rfl (by kernel_rfl) (by kernel_rfl) (by kernel_rfl) (fun _ _ _ h => h) rfl (fun W hW => h_ld Tryd.isAgg3 (.tmp 66) rfl ⟨B, 3, none⟩ rfl _ (c3.out W hW)) hS ?_
    try simp only [Act.put, List.getElem_toArray, List.getElem_cons_zero, List.getElem_cons_succ, List.setIfInBounds_toArray, List.set_cons_zero, List.set_cons_succ]
    refine h_val (i := 31) (v := ?_) rfl (by kernel_rfl) (by kernel_rfl) (by kernel_rfl) (fun _ _ _ h => h) rfl ?_ hS ?_
    rotate_left
    · intro W hW
      go_simp
      try exact rfl
    try simp only [Act.put, List.getElem_toArray, List.getElem_cons_zero, List.getElem_cons_succ, List.setIfInBounds_toArray, List.set_cons_zero, List.set_cons_succ]
    refine h_val (i := 32) (v := .int .i64 mi) rfl (by kernel_rfl) (by kernel_rfl) (by kernel_rfl) (fun _ _ _ h => h) rfl (fun W hW => h_ld Tryd.isAgg3 (.tmp 71) rfl ⟨B, 4, none⟩ rfl _ (c4.out W hW)) hS ?_
    try simp only [Act.put, List.getElem_toArray, List.getElem_cons_zero, List.getElem_cons_succ, List.setIfInBounds_toArray, List.set_cons_zero, List.set_cons_succ]
    refine h_val (i := 36) (v := .string ⟨#[45]⟩) rfl (by kernel_rfl) (by kernel_rfl) (by kernel_rfl) (fun _ _ _ h => h) rfl (fun _ _ => rfl) hS ?_
    try simp only [Act.put, List.getElem_toArray, List.getElem_cons_zero, List.getElem_cons_succ, List.setIfInBounds_toArray, List.set_cons_zero, List.set_cons_succ]
    refine h_val (i := 38) (v := .int .i64 mg) rfl (by kernel_rfl) (by kernel_rfl) (by kernel_rfl) (fun _ _ _ h => h) rfl (fun _ _ => rfl) hS ?_
    try simp only [Act.put, List.getElem_toArray, List.getElem_cons_zero, List.getElem_cons_succ, List.setIfInBounds_toArray, List.set_cons_zero, List.set_cons_succ]
    refine h_val (i := 39) (v := ?_) rfl (by kernel_rfl) (by kernel_rfl) (by kernel_rfl) (fun _ _ _ h => h) rfl ?_ hS ?_
    rotate_left
    · intro W hW
      go_simp
      try exact rfl
    try simp only [Act.put, List.getElem_toArray, List.getElem_cons_zero, List.getElem_cons_succ, List.setIfInBounds_toArray, List.set_cons_zero, List.set_cons_succ]
    refine h_val (i := 40) (v := ?_) rfl (by kernel_rfl) (by kernel_rfl) (by kernel_rfl) (fun _ _ _ h => h) rfl ?_ hS ?_
    rotate_left
    · intro W hW
      go_simp
      try exact rfl
    try simp only [Act.put, List.getElem_toArray, List.getElem_cons_zero, List.getElem_cons_succ, List.setIfInBounds_toArray, List.set_cons_zero, List.set_cons_succ]
    refine h_val (i := 41) (v := .int .i64 mg) rfl (by kernel_rfl) (by kernel_rfl) (by kernel_rfl) (fun _ _ _ h => h) rfl (fun _ _ => rfl) hS ?_
    try simp only [Act.put, List.getElem_toArray, List.getElem_cons_zero, List.getElem_cons_succ, List.setIfInBounds_toArray, List.set_cons_zero, List.set_cons_succ]
    refine h_val (i := 42) (v := ?_) rfl (by kernel_rfl) (by kernel_rfl) (by kernel_rfl) (fun _ _ _ h => h) rfl ?_ hS ?_
    rotate_left
    · intro W hW
      go_simp
      try exact rfl
    try simp only [Act.put, List.getElem_toArray, List.getElem_cons_zero, List.getElem_cons_succ, List.setIfInBounds_toArray, List.set_cons_zero, List.set_cons_succ]
    refine h_val (i := 43) (v := ?_) rfl (by kernel_rfl) (by kernel_rfl) (by kernel_rfl) (fun _ _ _ h => h) rfl ?_ hS ?_
    rotate_left
    · intro W hW
      go_simp
      try exact rfl
    try simp only [Act.put, List.getElem_toArray, List.getElem_cons_zero, List.getElem_cons_succ, List.setIfInBounds_toArray, List.set_cons_zero, List.set_cons_succ]
    generalize ({ V with drawn := V.drawn + 1 } : World) = W1 at hS ⊢
    refine wpAnyH_ready (rs := [0]) (by kernel_rfl) (by simp) ?_
    refine AllReadyH.cons rfl (fun K hK => ?_) AllReadyH.nil
    go_simp
    refine (Tryd.qDayNames _).mono ?_
    rintro e W2 ⟨rfl, hx⟩
    obtain rfl := hx
    have hS2 := hS.alloc hS.size (.cells dnA 9)
    refine hK.out _ _ hS2 (fun _ => ?_)
    clear hK K
    try simp only [Act.put, List.getElem_toArray, List.getElem_cons_zero, List.getElem_cons_succ, List.setIfInBounds_toArray, List.set_cons_zero, List.set_cons_succ]
    have kDN : Hid (∀ W, Below (W1.alloc (.cells dnA 9)).heap.size (W1.alloc (.cells dnA 9)) W → W.cell? ⟨W1.heap.size, wd.toNat, none⟩ = some (.string DN)) := Lib.hid fun W h => by
      rw [h.cell (p := ⟨W1.heap.size, wd.toNat, none⟩) (by simp), Go.cell_of_row _ _ _ _ _ _ (Go.heap_alloc_new W1 _), hDN1.out]
      exact dnA_at _ (by omega)
    have hBW2 := Lib.hid (hBW.out.trans (hS2.mono hBW.out.size))
    clear hS hBW
    have hBW := hBW2
    clear hBW2
    generalize W1.alloc (.cells dnA 9) = W2 at kDN hBW hS2 ⊢
    generalize W1.heap.size = gA at kDN ⊢
    refine held_mono (S' := fun W => Below W2.heap.size W2 W) (fun W h => hS2.trans (h.mono hS2.size)) _ _ _ _ ?_
    clear hS2
    have hS : Below W2.heap.size W2 W2 := Below.refl _ _
    refine wpAnyH_ready (rs := [4]) (by kernel_rfl) (by simp) ?_
    refine AllReadyH.cons rfl (fun K hK => ?_) AllReadyH.nil
    go_simp
    refine (hHc4.out _).mono ?_
    rintro e W3 ⟨rfl, hx⟩
    rw [hx]
    refine hK.out _ _ hS (fun _ => ?_)
    clear hK K hx
    try simp only [Act.put, List.getElem_toArray, List.getElem_cons_zero, List.getElem_cons_succ, List.setIfInBounds_toArray, List.set_cons_zero, List.set_cons_succ]
    refine h_val (i := 5) (v := ?_) rfl (by kernel_rfl) (by kernel_rfl) (by kernel_rfl) (fun _ _ _ h => h) rfl ?_ hS ?_
    rotate_left
    · intro W hW
      go_simp
      try exact rfl
    try simp only [Act.put, List.getElem_toArray, List.getElem_cons_zero, List.getElem_cons_succ, List.setIfInBounds_toArray, List.set_cons_zero, List.set_cons_succ]
    refine h_val (i := 6) (v := .string DN) rfl (by kernel_rfl) (by kernel_rfl) (by kernel_rfl) (fun _ _ _ h => h) rfl (fun W hW => h_ld Tryd.isAgg9 (.tmp 45) rfl ⟨gA, wd.toNat, none⟩ rfl _ (kDN.out W hW)) hS ?_
    try simp only [Act.put, List.getElem_toArray, List.getElem_cons_zero, List.getElem_cons_succ, List.setIfInBounds_toArray, List.set_cons_zero, List.set_cons_succ]
    refine h_val (i := 7) (v := .string X1) rfl (by kernel_rfl) (by kernel_rfl) (by kernel_rfl) (fun _ _ _ h => h) rfl (fun W _ => h_cat Tryd.underlying9 rfl rfl rfl (by omega) hX1) hS ?_
    try simp only [Act.put, List.getElem_toArray, List.getElem_cons_zero, List.getElem_cons_succ, List.setIfInBounds_toArray, List.set_cons_zero, List.set_cons_succ]
    refine wpAnyH_ready (rs := [10]) (by kernel_rfl) (by simp) ?_
    refine AllReadyH.cons rfl (fun K hK => ?_) AllReadyH.nil
    go_simp
    refine (hpD.out _).mono ?_
    rintro e W4 ⟨rfl, hb⟩
    replace hS := hS.trans (hb.mono hS.size)
    refine hK.out _ _ hS (fun _ => ?_)
    clear hK K hb
    try simp only [Act.put, List.getElem_toArray, List.getElem_cons_zero, List.getElem_cons_succ, List.setIfInBounds_toArray, List.set_cons_zero, List.set_cons_succ]
    refine h_val (i := 11) (v := .string X2) rfl (by kernel_rfl) (by kernel_rfl) (by kernel_rfl) (fun _ _ _ h => h) rfl (fun W _ => h_cat Tryd.underlying9 rfl rfl rfl (by omega) hX2) hS ?_
    try simp only [Act.put, List.getElem_toArray, List.getElem_cons_zero, List.getElem_cons_succ, List.setIfInBounds_toArray, List.set_cons_zero, List.set_cons_succ]
    refine h_val (i := 12) (v := .string X3) rfl (by kernel_rfl) (by kernel_rfl) (by kernel_rfl) (fun _ _ _ h => h) rfl (fun W _ => h_cat Tryd.underlying9 rfl rfl rfl (by omega) hX3) hS ?_
    try simp only [Act.put, List.getElem_toArray, List.getElem_cons_zero, List.getElem_cons_succ, List.setIfInBounds_toArray, List.set_cons_zero, List.set_cons_succ]
    refine wpAnyH_ready (rs := [13]) (by kernel_rfl) (by simp) ?_
    refine AllReadyH.cons rfl (fun K hK => ?_) AllReadyH.nil
    go_simp
    refine (Tryd.qMonthNames _).mono ?_
    rintro e W5 ⟨rfl, hx⟩
    obtain rfl := hx
    have hS2 := hS.alloc hS.size (.cells mnA 9)
    refine hK.out _ _ hS2 (fun _ => ?_)
    clear hK K
    try simp only [Act.put, List.getElem_toArray, List.getElem_cons_zero, List.getElem_cons_succ, List.setIfInBounds_toArray, List.set_cons_zero, List.set_cons_succ]
    have kMN : Hid (∀ W, Below (W4.alloc (.cells mnA 9)).heap.size (W4.alloc (.cells mnA 9)) W → W.cell? ⟨W4.heap.size, m1.toNat, none⟩ = some (.string MN)) := Lib.hid fun W h => by
      rw [h.cell (p := ⟨W4.heap.size, m1.toNat, none⟩) (by simp), Go.cell_of_row _ _ _ _ _ _ (Go.heap_alloc_new W4 _), hMN1.out]
      exact mnA_at _ (by omega)
    have hBW2 := Lib.hid (hBW.out.trans (hS2.mono hBW.out.size))
    clear hS hBW
    have hBW := hBW2
    clear hBW2
    generalize W4.alloc (.cells mnA 9) = W5 at kMN hBW hS2 ⊢
    generalize W4.heap.size = gB at kMN ⊢
    refine held_mono (S' := fun W => Below W5.heap.size W5 W) (fun W h => hS2.trans (h.mono hS2.size)) _ _ _ _ ?_
    clear hS2
    have hS : Below W5.heap.size W5 W5 := Below.refl _ _
    refine h_val (i := 17) (v := ?_) rfl (by kernel_rfl) (by kernel_rfl) (by kernel_rfl) (fun _ _ _ h => h) rfl ?_ hS ?_
    rotate_left
    · intro W hW
      go_simp
      try exact rfl
    try simp only [Act.put, List.getElem_toArray, List.getElem_cons_zero, List.getElem_cons_succ, List.setIfInBounds_toArray, List.set_cons_zero, List.set_cons_succ]
    refine h_val (i := 18) (v := .string MN) rfl (by kernel_rfl) (by kernel_rfl) (by kernel_rfl) (fun _ _ _ h => h) rfl (fun W hW => h_ld Tryd.isAgg9 (.tmp 57) rfl ⟨gB, m1.toNat, none⟩ rfl _ (kMN.out W hW)) hS ?_
    try simp only [Act.put, List.getElem_toArray, List.getElem_cons_zero, List.getElem_cons_succ, List.setIfInBounds_toArray, List.set_cons_zero, List.set_cons_succ]
    refine h_val (i := 19) (v := .string X4) rfl (by kernel_rfl) (by kernel_rfl) (by kernel_rfl) (fun _ _ _ h => h) rfl (fun W _ => h_cat Tryd.underlying9 rfl rfl rfl (by omega) hX4) hS ?_
    try simp only [Act.put, List.getElem_toArray, List.getElem_cons_zero, List.getElem_cons_succ, List.setIfInBounds_toArray, List.set_cons_zero, List.set_cons_succ]
    refine h_val (i := 20) (v := .string X5) rfl (by kernel_rfl) (by kernel_rfl) (by kernel_rfl) (fun _ _ _ h => h) rfl (fun W _ => h_cat Tryd.underlying9 rfl rfl rfl (by omega) hX5) hS ?_
    try simp only [Act.put, List.getElem_toArray, List.getElem_cons_zero, List.getElem_cons_succ, List.setIfInBounds_toArray, List.set_cons_zero, List.set_cons_succ]
    refine wpAnyH_ready (rs := [23]) (by kernel_rfl) (by simp) ?_
    refine AllReadyH.cons rfl (fun K hK => ?_) AllReadyH.nil
    go_simp
    refine (hpY.out _).mono ?_
    rintro e W6 ⟨rfl, hb⟩
    replace hS := hS.trans (hb.mono hS.size)
    refine hK.out _ _ hS (fun _ => ?_)
    clear hK K hb
    try simp only [Act.put, List.getElem_toArray, List.getElem_cons_zero, List.getElem_cons_succ, List.setIfInBounds_toArray, List.set_cons_zero, List.set_cons_succ]
    refine h_val (i := 24) (v := .string X6) rfl (by kernel_rfl) (by kernel_rfl) (by kernel_rfl) (fun _ _ _ h => h) rfl (fun W _ => h_cat Tryd.underlying9 rfl rfl rfl (by omega) hX6) hS ?_
    try simp only [Act.put, List.getElem_toArray, List.getElem_cons_zero, List.getElem_cons_succ, List.setIfInBounds_toArray, List.set_cons_zero, List.set_cons_succ]
    refine h_val (i := 25) (v := .string X7) rfl (by kernel_rfl) (by kernel_rfl) (by kernel_rfl) (fun _ _ _ h => h) rfl (fun W _ => h_cat Tryd.underlying9 rfl rfl rfl (by omega) hX7) hS ?_
    try simp only [Act.put, List.getElem_toArray, List.getElem_cons_zero, List.getElem_cons_succ, List.setIfInBounds_toArray, List.set_cons_zero, List.set_cons_succ]
    refine wpAnyH_ready (rs := [28]) (by kernel_rfl) (by simp) ?_
    refine AllReadyH.cons rfl (fun K hK => ?_) AllReadyH.nil
    go_simp
    refine (hpH.out _).mono ?_
    rintro e W7 ⟨rfl, hb⟩
    replace hS := hS.trans (hb.mono hS.size)
    refine hK.out _ _ hS (fun _ => ?_)
    clear hK K hb
    try simp only [Act.put, List.getElem_toArray, List.getElem_cons_zero, List.getElem_cons_succ, List.setIfInBounds_toArray, List.set_cons_zero, List.set_cons_succ]
    refine h_val (i := 29) (v := .string X8) rfl (by kernel_rfl) (by kernel_rfl) (by kernel_rfl) (fun _ _ _ h => h) rfl (fun W _ => h_cat Tryd.underlying9 rfl rfl rfl (by omega) hX8) hS ?_
    try simp only [Act.put, List.getElem_toArray, List.getElem_cons_zero, List.getElem_cons_succ, List.setIfInBounds_toArray, List.set_cons_zero, List.set_cons_succ]
    refine h_val (i := 30) (v := .string X9) rfl (by kernel_rfl) (by kernel_rfl) (by kernel_rfl) (fun _ _ _ h => h) rfl (fun W _ => h_cat Tryd.underlying9 rfl rfl rfl (by omega) hX9) hS ?_
    try simp only [Act.put, List.getElem_toArray, List.getElem_cons_zero, List.getElem_cons_succ, List.setIfInBounds_toArray, List.set_cons_zero, List.set_cons_succ]
    refine wpAnyH_ready (rs := [33]) (by kernel_rfl) (by simp) ?_
    refine AllReadyH.cons rfl (fun K hK => ?_) AllReadyH.nil
    go_simp
    refine (hpI.out _).mono ?_
    rintro e W8 ⟨rfl, hb⟩
    replace hS := hS.trans (hb.mono hS.size)
    refine hK.out _ _ hS (fun _ => ?_)
    clear hK K hb
    try simp only [Act.put, List.getElem_toArray, List.getElem_cons_zero, List.getElem_cons_succ, List.setIfInBounds_toArray, List.set_cons_zero, List.set_cons_succ]
    refine h_val (i := 34) (v := .string X10) rfl (by kernel_rfl) (by kernel_rfl) (by kernel_rfl) (fun _ _ _ h => h) rfl (fun W _ => h_cat Tryd.underlying9 rfl rfl rfl (by omega) hX10) hS ?_
    try simp only [Act.put, List.getElem_toArray, List.getElem_cons_zero, List.getElem_cons_succ, List.setIfInBounds_toArray, List.set_cons_zero, List.set_cons_succ]
    refine h_val (i := 35) (v := .string X11) rfl (by kernel_rfl) (by kernel_rfl) (by kernel_rfl) (fun _ _ _ h => h) rfl (fun W _ => h_cat Tryd.underlying9 rfl rfl rfl (by omega) hX11) hS ?_
    try simp only [Act.put, List.getElem_toArray, List.getElem_cons_zero, List.getElem_cons_succ, List.setIfInBounds_toArray, List.set_cons_zero, List.set_cons_succ]
    refine h_val (i := 37) (v := .string X12) rfl (by kernel_rfl) (by kernel_rfl) (by kernel_rfl) (fun _ _ _ h => h) rfl (fun W _ => h_cat Tryd.underlying9 rfl rfl rfl (by omega) hX12) hS ?_
    try simp only [Act.put, List.getElem_toArray, List.getElem_cons_zero, List.getElem_cons_succ, List.setIfInBounds_toArray, List.set_cons_zero, List.set_cons_succ]
    refine wpAnyH_ready (rs := [44]) (by kernel_rfl) (by simp) ?_
    refine AllReadyH.cons rfl (fun K hK => ?_) AllReadyH.nil
    go_simp
    refine (hpN.out _).mono ?_
    rintro e W9 ⟨rfl, hb⟩
    replace hS := hS.trans (hb.mono hS.size)
    refine hK.out _ _ hS (fun _ => ?_)
    clear hK K hb
    try simp only [Act.put, List.getElem_toArray, List.getElem_cons_zero, List.getElem_cons_succ, List.setIfInBounds_toArray, List.set_cons_zero, List.set_cons_succ]
    refine h_val (i := 45) (v := .string X13) rfl (by kernel_rfl) (by kernel_rfl) (by kernel_rfl) (fun _ _ _ h => h) rfl (fun W _ => h_cat Tryd.underlying9 rfl rfl rfl (by omega) hX13) hS ?_
    try simp only [Act.put, List.getElem_toArray, List.getElem_cons_zero, List.getElem_cons_succ, List.setIfInBounds_toArray, List.set_cons_zero, List.set_cons_succ]
    refine h_val (i := 46) (v := .string X13) rfl (by kernel_rfl) (by kernel_rfl) (by kernel_rfl) (fun _ _ _ h => h) rfl (fun _ _ => rfl) hS ?_
    try simp only [Act.put, List.getElem_toArray, List.getElem_cons_zero, List.getElem_cons_succ, List.setIfInBounds_toArray, List.set_cons_zero, List.set_cons_succ]
    refine h_val (i := 47) (v := .int .i64 0) rfl (by kernel_rfl) (by kernel_rfl) (by kernel_rfl) (fun _ _ _ h => h) rfl (fun _ _ => rfl) hS ?_
    try simp only [Act.put, List.getElem_toArray, List.getElem_cons_zero, List.getElem_cons_succ, List.setIfInBounds_toArray, List.set_cons_zero, List.set_cons_succ]
    refine wpAnyH_done (by kernel_rfl) ?_ _
    have hB9 := Lib.hid (hBW.out.trans (hS.mono hBW.out.size))
    have hfin : Hid (X13 = ⟨(txt t off).toArray⟩) := Lib.hid (by
      subst hm1
      apply Go.WideShapes.bytes_inj
      rw [l13.out, l12.out, l11.out, l10.out, l9.out, l8.out, l7.out, l6.out, l5.out, l4.out, l3.out, l2.out, l1.out, hDN1.out, hMN1.out, hSD.out, hSY.out, hSH.out, hSI.out, hSN.out, htx.out, hdw.out, hmy.out, show sgn off = [45] from if_pos hneg, show (mg / 60 * 100 + mg % 60).toNat = mag off / 60 * 100 + mag off % 60 by unfold mag; omega, dgs_4 _ _ (by omega)]
      simp)
    clear hS
    go_wp2_with fail
    go_ret2
    exact ⟨by rw [hf.out, ← hfin.out]; rfl, hB9.out⟩
  · have bn : decide (off < 0) = false := decide_eq_false hneg
    have m0 : 0 ≤ off := by omega
    obtain ⟨m1, hm1⟩ : ∃ m1, m - 1 = m1 := ⟨_, rfl⟩
    obtain ⟨SD, hSD, zD, hpD0⟩ := Tryd.dig_ex d 2 (by omega) (by omega) (by omega)
    obtain ⟨SY, hSY, zY, hpY0⟩ := Tryd.dig_ex y 4 (by omega) (by omega) (by omega)
    obtain ⟨SH, hSH, zH, hpH0⟩ := Tryd.dig_ex hh 2 (by omega) (by omega) (by omega)
    obtain ⟨SI, hSI, zI, hpI0⟩ := Tryd.dig_ex mi 2 (by omega) (by omega) (by omega)
    obtain ⟨SN, hSN, zN, hpN0⟩ := Tryd.dig_ex (off / 60 * 100 + off % 60) 4 (by omega) (by omega) (by omega)
    have hpD := Lib.hid hpD0
    have hpY := Lib.hid hpY0
    have hpH := Lib.hid hpH0
    have hpI := Lib.hid hpI0
    have hpN := Lib.hid hpN0
    obtain ⟨DN, hDN1, zDN⟩ := str_ex (dnl.getD wd.toNat []) (by rw [dnl_size _ (by omega)])
    obtain ⟨MN, hMN1, zMN⟩ := str_ex (mnl.getD m1.toNat []) (by rw [mnl_size _ (by omega)])
    obtain ⟨X1, hX1, x1, l1⟩ := cat_ex DN ⟨#[44, 32]⟩ 20 (by show _ + 2 ≤ _; omega)
    obtain ⟨X2, hX2, x2, l2⟩ := cat_ex X1 SD 30 (by omega)
    obtain ⟨X3, hX3, x3, l3⟩ := cat_ex X2 ⟨#[32]⟩ 40 (by show _ + 1 ≤ _; omega)
    obtain ⟨X4, hX4, x4, l4⟩ := cat_ex X3 MN 50 (by omega)
    obtain ⟨X5, hX5, x5, l5⟩ := cat_ex X4 ⟨#[32]⟩ 60 (by show _ + 1 ≤ _; omega)
    obtain ⟨X6, hX6, x6, l6⟩ := cat_ex X5 SY 70 (by omega)
    obtain ⟨X7, hX7, x7, l7⟩ := cat_ex X6 ⟨#[32]⟩ 80 (by show _ + 1 ≤ _; omega)
    obtain ⟨X8, hX8, x8, l8⟩ := cat_ex X7 SH 90 (by omega)
    obtain ⟨X9, hX9, x9, l9⟩ := cat_ex X8 ⟨#[58]⟩ 100 (by show _ + 1 ≤ _; omega)
    obtain ⟨X10, hX10, x10, l10⟩ := cat_ex X9 SI 110 (by omega)
    obtain ⟨X11, hX11, x11, l11⟩ := cat_ex X10 ⟨#[32]⟩ 120 (by show _ + 1 ≤ _; omega)
    obtain ⟨X12, hX12, x12, l12⟩ := cat_ex X11 ⟨#[43]⟩ 130 (by show _ + 1 ≤ _; omega)
    obtain ⟨X13, hX13, x13, l13⟩ := cat_ex X12 SN 140 (by omega)
    have w1 : IntKind.i64.wrap (m - 1) = m1 := (IntWalk.i64_in _ (by omega)).trans hm1
    have w1b : IntKind.i64.wrap m1 = m1 := IntWalk.i64_in _ (by omega)
    have w2 : IntKind.i64.wrap (t + off) = t + off := IntWalk.i64_in _ (by omega)
    have q0 : off.tdiv 60 = off / 60 := Int.tdiv_eq_ediv_of_nonneg (by omega)
    have q1 : off.tmod 60 = off % 60 := Int.tmod_eq_emod_of_nonneg (by omega)
    have q2 : IntKind.i64.wrap (off / 60) = off / 60 := IntWalk.i64_in _ (by omega)
    have q3 : IntKind.i64.wrap (off % 60) = off % 60 := IntWalk.i64_in _ (by omega)
    have q4 : IntKind.i64.wrap (off / 60 * 100) = off / 60 * 100 := IntWalk.i64_in _ (by omega)
    have q5 : IntKind.i64.wrap (off / 60 * 100 + off % 60) = off / 60 * 100 + off % 60 := IntWalk.i64_in _ (by omega)
    have wd2 : wd < 7 := by omega
    have m2 : m1 < 12 := by omega
    have m3 : 0 ≤ m1 := by omega
    clear hpD0 hpY0 hpH0 hpI0 hpN0
    go_enter Tryd.func17, Tryd.ntmps17
    go_wp2_with fail
    refine (hHc1.out _).mono ?_
    rintro e w' ⟨rfl, rfl⟩
    go_wp2_with fail
    refine (hHc2.out _).mono ?_
    rintro e w' ⟨rfl, rfl⟩
    go_wp2_with fail
    refine (hHc3.out _).mono ?_
    rintro e W0 ⟨rfl, hb0⟩
    have hB0 := Lib.hid hb0
    clear hb0
    have hBV := hB0.out.alloc hB0.out.size (.cells #[.int .i64 y, .int .i64 m, .int .i64 d, .int .i64 hh, .int .i64 mi] 28)
    have hrV : (W0.alloc (.cells #[.int .i64 y, .int .i64 m, .int .i64 d, .int .i64 hh, .int .i64 mi] 28)).heap[W0.heap.size]? = some (.cells #[.int .i64 y, .int .i64 m, .int .i64 d, .int .i64 hh, .int .i64 mi] 28 (0, 0)) := Go.heap_alloc_new W0 _
    have hsV : W0.heap.size < (W0.alloc (.cells #[.int .i64 y, .int .i64 m, .int .i64 d, .int .i64 hh, .int .i64 mi] 28)).heap.size := by simp
    go_wp2_with fail
    generalize W0.alloc (.cells #[.int .i64 y, .int .i64 m, .int .i64 d, .int .i64 hh, .int .i64 mi] 28) = V at hBV hrV hsV ⊢
    generalize W0.heap.size = B at hrV hsV ⊢
    have hBW := Lib.hid hBV
    have c0 := Lib.hid (fun W (h : Below V.heap.size V W) => (cells5 ((h.block _ hsV).trans hrV)).1)
    have c1 := Lib.hid (fun W (h : Below V.heap.size V W) => (cells5 ((h.block _ hsV).trans hrV)).2.1)
    have c2 := Lib.hid (fun W (h : Below V.heap.size V W) => (cells5 ((h.block _ hsV).trans hrV)).2.2.1)
    have c3 := Lib.hid (fun W (h : Below V.heap.size V W) => (cells5 ((h.block _ hsV).trans hrV)).2.2.2.1)
    have c4 := Lib.hid (fun W (h : Below V.heap.size V W) => (cells5 ((h.block _ hsV).trans hrV)).2.2.2.2.1)
    clear hBV hrV hsV
    refine wp_region_held (S := fun w' => Below V.heap.size V w') (by kernel_rfl) ?_
    have hS : Below V.heap.size V { V with drawn := V.drawn + 1 } := (Below.refl _ _).drew
    refine h_val (i := 1) (v := .int .i64 t) rfl (by kernel_rfl) (by kernel_rfl) (by kernel_rfl) (fun _ _ _ h => h) rfl (fun _ _ => rfl) hS ?_
    try simp only [Act.put, List.getElem_toArray, List.getElem_cons_zero, List.getElem_cons_succ, List.setIfInBounds_toArray, List.set_cons_zero, List.set_cons_succ]
    refine h_val (i := 2) (v := .int .i64 off) rfl (by kernel_rfl) (by kernel_rfl) (by kernel_rfl) (fun _ _ _ h => h) rfl (fun _ _ => rfl) hS ?_
    try simp only [Act.put, List.getElem_toArray, List.getElem_cons_zero, List.getElem_cons_succ, List.setIfInBounds_toArray, List.set_cons_zero, List.set_cons_succ]
    refine h_val (i := 3) (v := ?_) rfl (by kernel_rfl) (by kernel_rfl) (by kernel_rfl) (fun _ _ _ h => h) rfl ?_ hS ?_
    rotate_left
    · intro W hW
      go_simp
      try exact rfl
    try simp only [Act.put, List.getElem_toArray, List.getElem_cons_zero, List.getElem_cons_succ, List.setIfInBounds_toArray, List.set_cons_zero, List.set_cons_succ]
    refine h_val (i := 8) (v := ?_) rfl (by kernel_rfl) (by kernel_rfl) (by kernel_rfl) (fun _ _ _ h => h) rfl ?_ hS ?_
    rotate_left
    · intro W hW
      go_simp
      try exact rfl
    try simp only [Act.put, List.getElem_toArray, List.getElem_cons_zero, List.getElem_cons_succ, List.setIfInBounds_toArray, List.set_cons_zero, List.set_cons_succ]
    refine h_val (i := 9) (v := .int .i64 d) rfl (by kernel_rfl) (by kernel_rfl) (by kernel_rfl) (fun _ _ _ h => h) rfl (fun W hW => h_ld Tryd.isAgg3 (.tmp 48) rfl ⟨B, 2, none⟩ rfl _ (c2.out W hW)) hS ?_
    try simp only [Act.put, List.getElem_toArray, List.getElem_cons_zero, List.getElem_cons_succ, List.setIfInBounds_toArray, List.set_cons_zero, List.set_cons_succ]
    refine h_val (i := 14) (v := ?_) rfl (by kernel_rfl) (by kernel_rfl) (by kernel_rfl) (fun _ _ _ h => h) rfl ?_ hS ?_
    rotate_left
    · intro W hW
      go_simp
      try exact rfl
    try simp only [Act.put, List.getElem_toArray, List.getElem_cons_zero, List.getElem_cons_succ, List.setIfInBounds_toArray, List.set_cons_zero, List.set_cons_succ]
    refine h_val (i := 15) (v := .int .i64 m) rfl (by kernel_rfl) (by kernel_rfl) (by kernel_rfl) (fun _ _ _ h => h) rfl (fun W hW => h_ld Tryd.isAgg3 (.tmp 54) rfl ⟨B, 1, none⟩ rfl _ (c1.out W hW)) hS ?_
    try simp only [Act.put, List.getElem_toArray, List.getElem_cons_zero, List.getElem_cons_succ, List.setIfInBounds_toArray, List.set_cons_zero, List.set_cons_succ]
    refine h_val (i := 16) (v := ?_) rfl (by kernel_rfl) (by kernel_rfl) (by kernel_rfl) (fun _ _ _ h => h) rfl ?_ hS ?_
    rotate_left
    · intro W hW
      go_simp
      try exact rfl
    try simp only [Act.put, List.getElem_toArray, List.getElem_cons_zero, List.getElem_cons_succ, List.setIfInBounds_toArray, List.set_cons_zero, List.set_cons_succ]
    refine h_val (i := 21) (v := ?_) rfl (by kernel_rfl) (by kernel_rfl) (by kernel_rfl) (fun _ _ _ h => h) rfl ?_ hS ?_
    rotate_left
    · intro W hW
      go_simp
      try exact rfl
    try simp only [Act.put, List.getElem_toArray, List.getElem_cons_zero, List.getElem_cons_succ, List.setIfInBounds_toArray, List.set_cons_zero, List.set_cons_succ]
    refine h_val (i := 22) (v := .int .i64 y) rfl (by kernel_rfl) (by kernel_rfl) (by kernel_rfl) (fun _ _ _ h => h) rfl (fun W hW => h_ld Tryd.isAgg3 (.tmp 61) rfl ⟨B, 0, none⟩ rfl _ (c0.out W hW)) hS ?_
    try simp only [Act.put, List.getElem_toArray, List.getElem_cons_zero, List.getElem_cons_succ, List.setIfInBounds_toArray, List.set_cons_zero, List.set_cons_succ]
    refine h_val (i := 26) (v := ?_) rfl (by kernel_rfl) (by kernel_rfl) (by kernel_rfl) (fun _ _ _ h => h) rfl ?_ hS ?_
    rotate_left
    · intro W hW
      go_simp
      try exact rfl
    try simp only [Act.put, List.getElem_toArray, List.getElem_cons_zero, List.getElem_cons_succ, List.setIfInBounds_toArray, List.set_cons_zero, List.set_cons_succ]
    refine h_val (i := 27) (v := .int .i64 hh) rfl (by kernel_rfl) (by kernel_rfl) (by kernel_rfl) (fun _ _ _ h => h) rfl (fun W hW => h_ld Tryd.isAgg3 (.tmp 66) rfl ⟨B, 3, none⟩ rfl _ (c3.out W hW)) hS ?_
    try simp only [Act.put, List.getElem_toArray, List.getElem_cons_zero, List.getElem_cons_succ, List.setIfInBounds_toArray, List.set_cons_zero, List.set_cons_succ]
    refine h_val (i := 31) (v := ?_) rfl (by kernel_rfl) (by kernel_rfl) (by kernel_rfl) (fun _ _ _ h => h) rfl ?_ hS ?_
    rotate_left
    · intro W hW
      go_simp
      try exact rfl
    try simp only [Act.put, List.getElem_toArray, List.getElem_cons_zero, List.getElem_cons_succ, List.setIfInBounds_toArray, List.set_cons_zero, List.set_cons_succ]
    refine h_val (i := 32) (v := .int .i64 mi) rfl (by kernel_rfl) (by kernel_rfl) (by kernel_rfl) (fun _ _ _ h => h) rfl (fun W hW => h_ld Tryd.isAgg3 (.tmp 71) rfl ⟨B, 4, none⟩ rfl _ (c4.out W hW)) hS ?_
    try simp only [Act.put, List.getElem_toArray, List.getElem_cons_zero, List.getElem_cons_succ, List.setIfInBounds_toArray, List.set_cons_zero, List.set_cons_succ]
    refine h_val (i := 36) (v := .string ⟨#[43]⟩) rfl (by kernel_rfl) (by kernel_rfl) (by kernel_rfl) (fun _ _ _ h => h) rfl (fun _ _ => rfl) hS ?_
    try simp only [Act.put, List.getElem_toArray, List.getElem_cons_zero, List.getElem_cons_succ, List.setIfInBounds_toArray, List.set_cons_zero, List.set_cons_succ]
    refine h_val (i := 38) (v := .int .i64 off) rfl (by kernel_rfl) (by kernel_rfl) (by kernel_rfl) (fun _ _ _ h => h) rfl (fun _ _ => rfl) hS ?_
    try simp only [Act.put, List.getElem_toArray, List.getElem_cons_zero, List.getElem_cons_succ, List.setIfInBounds_toArray, List.set_cons_zero, List.set_cons_succ]
    refine h_val (i := 39) (v := ?_) rfl (by kernel_rfl) (by kernel_rfl) (by kernel_rfl) (fun _ _ _ h => h) rfl ?_ hS ?_
    rotate_left
    · intro W hW
      go_simp
      try exact rfl
    try simp only [Act.put, List.getElem_toArray, List.getElem_cons_zero, List.getElem_cons_succ, List.setIfInBounds_toArray, List.set_cons_zero, List.set_cons_succ]
    refine h_val (i := 40) (v := ?_) rfl (by kernel_rfl) (by kernel_rfl) (by kernel_rfl) (fun _ _ _ h => h) rfl ?_ hS ?_
    rotate_left
    · intro W hW
      go_simp
      try exact rfl
    try simp only [Act.put, List.getElem_toArray, List.getElem_cons_zero, List.getElem_cons_succ, List.setIfInBounds_toArray, List.set_cons_zero, List.set_cons_succ]
    refine h_val (i := 41) (v := .int .i64 off) rfl (by kernel_rfl) (by kernel_rfl) (by kernel_rfl) (fun _ _ _ h => h) rfl (fun _ _ => rfl) hS ?_
    try simp only [Act.put, List.getElem_toArray, List.getElem_cons_zero, List.getElem_cons_succ, List.setIfInBounds_toArray, List.set_cons_zero, List.set_cons_succ]
    refine h_val (i := 42) (v := ?_) rfl (by kernel_rfl) (by kernel_rfl) (by kernel_rfl) (fun _ _ _ h => h) rfl ?_ hS ?_
    rotate_left
    · intro W hW
      go_simp
      try exact rfl
    try simp only [Act.put, List.getElem_toArray, List.getElem_cons_zero, List.getElem_cons_succ, List.setIfInBounds_toArray, List.set_cons_zero, List.set_cons_succ]
    refine h_val (i := 43) (v := ?_) rfl (by kernel_rfl) (by kernel_rfl) (by kernel_rfl) (fun _ _ _ h => h) rfl ?_ hS ?_
    rotate_left
    · intro W hW
      go_simp
      try exact rfl
    try simp only [Act.put, List.getElem_toArray, List.getElem_cons_zero, List.getElem_cons_succ, List.setIfInBounds_toArray, List.set_cons_zero, List.set_cons_succ]
    generalize ({ V with drawn := V.drawn + 1 } : World) = W1 at hS ⊢
    refine wpAnyH_ready (rs := [0]) (by kernel_rfl) (by simp) ?_
    refine AllReadyH.cons rfl (fun K hK => ?_) AllReadyH.nil
    go_simp
    refine (Tryd.qDayNames _).mono ?_
    rintro e W2 ⟨rfl, hx⟩
    obtain rfl := hx
    have hS2 := hS.alloc hS.size (.cells dnA 9)
    refine hK.out _ _ hS2 (fun _ => ?_)
    clear hK K
    try simp only [Act.put, List.getElem_toArray, List.getElem_cons_zero, List.getElem_cons_succ, List.setIfInBounds_toArray, List.set_cons_zero, List.set_cons_succ]
    have kDN : Hid (∀ W, Below (W1.alloc (.cells dnA 9)).heap.size (W1.alloc (.cells dnA 9)) W → W.cell? ⟨W1.heap.size, wd.toNat, none⟩ = some (.string DN)) := Lib.hid fun W h => by
      rw [h.cell (p := ⟨W1.heap.size, wd.toNat, none⟩) (by simp), Go.cell_of_row _ _ _ _ _ _ (Go.heap_alloc_new W1 _), hDN1.out]
      exact dnA_at _ (by omega)
    have hBW2 := Lib.hid (hBW.out.trans (hS2.mono hBW.out.size))
    clear hS hBW
    have hBW := hBW2
    clear hBW2
    generalize W1.alloc (.cells dnA 9) = W2 at kDN hBW hS2 ⊢
    generalize W1.heap.size = gA at kDN ⊢
    refine held_mono (S' := fun W => Below W2.heap.size W2 W) (fun W h => hS2.trans (h.mono hS2.size)) _ _ _ _ ?_
    clear hS2
    have hS : Below W2.heap.size W2 W2 := Below.refl _ _
    refine wpAnyH_ready (rs := [4]) (by kernel_rfl) (by simp) ?_
    refine AllReadyH.cons rfl (fun K hK => ?_) AllReadyH.nil
    go_simp
    refine (hHc4.out _).mono ?_
    rintro e W3 ⟨rfl, hx⟩
    rw [hx]
    refine hK.out _ _ hS (fun _ => ?_)
    clear hK K hx
    try simp only [Act.put, List.getElem_toArray, List.getElem_cons_zero, List.getElem_cons_succ, List.setIfInBounds_toArray, List.set_cons_zero, List.set_cons_succ]
    refine h_val (i := 5) (v := ?_) rfl (by kernel_rfl) (by kernel_rfl) (by kernel_rfl) (fun _ _ _ h => h) rfl ?_ hS ?_
    rotate_left
    · intro W hW
      go_simp
      try exact rfl
    try simp only [Act.put, List.getElem_toArray, List.getElem_cons_zero, List.getElem_cons_succ, List.setIfInBounds_toArray, List.set_cons_zero, List.set_cons_succ]
    refine h_val (i := 6) (v := .string DN) rfl (by kernel_rfl) (by kernel_rfl) (by kernel_rfl) (fun _ _ _ h => h) rfl (fun W hW => h_ld Tryd.isAgg9 (.tmp 45) rfl ⟨gA, wd.toNat, none⟩ rfl _ (kDN.out W hW)) hS ?_
    try simp only [Act.put, List.getElem_toArray, List.getElem_cons_zero, List.getElem_cons_succ, List.setIfInBounds_toArray, List.set_cons_zero, List.set_cons_succ]
    refine h_val (i := 7) (v := .string X1) rfl (by kernel_rfl) (by kernel_rfl) (by kernel_rfl) (fun _ _ _ h => h) rfl (fun W _ => h_cat Tryd.underlying9 rfl rfl rfl (by omega) hX1) hS ?_
    try simp only [Act.put, List.getElem_toArray, List.getElem_cons_zero, List.getElem_cons_succ, List.setIfInBounds_toArray, List.set_cons_zero, List.set_cons_succ]
    refine wpAnyH_ready (rs := [10]) (by kernel_rfl) (by simp) ?_
    refine AllReadyH.cons rfl (fun K hK => ?_) AllReadyH.nil
    go_simp
    refine (hpD.out _).mono ?_
    rintro e W4 ⟨rfl, hb⟩
    replace hS := hS.trans (hb.mono hS.size)
    refine hK.out _ _ hS (fun _ => ?_)
    clear hK K hb
    try simp only [Act.put, List.getElem_toArray, List.getElem_cons_zero, List.getElem_cons_succ, List.setIfInBounds_toArray, List.set_cons_zero, List.set_cons_succ]
    refine h_val (i := 11) (v := .string X2) rfl (by kernel_rfl) (by kernel_rfl) (by kernel_rfl) (fun _ _ _ h => h) rfl (fun W _ => h_cat Tryd.underlying9 rfl rfl rfl (by omega) hX2) hS ?_
    try simp only [Act.put, List.getElem_toArray, List.getElem_cons_zero, List.getElem_cons_succ, List.setIfInBounds_toArray, List.set_cons_zero, List.set_cons_succ]
    refine h_val (i := 12) (v := .string X3) rfl (by kernel_rfl) (by kernel_rfl) (by kernel_rfl) (fun _ _ _ h => h) rfl (fun W _ => h_cat Tryd.underlying9 rfl rfl rfl (by omega) hX3) hS ?_
    try simp only [Act.put, List.getElem_toArray, List.getElem_cons_zero, List.getElem_cons_succ, List.setIfInBounds_toArray, List.set_cons_zero, List.set_cons_succ]
    refine wpAnyH_ready (rs := [13]) (by kernel_rfl) (by simp) ?_
    refine AllReadyH.cons rfl (fun K hK => ?_) AllReadyH.nil
    go_simp
    refine (Tryd.qMonthNames _).mono ?_
    rintro e W5 ⟨rfl, hx⟩
    obtain rfl := hx
    have hS2 := hS.alloc hS.size (.cells mnA 9)
    refine hK.out _ _ hS2 (fun _ => ?_)
    clear hK K
    try simp only [Act.put, List.getElem_toArray, List.getElem_cons_zero, List.getElem_cons_succ, List.setIfInBounds_toArray, List.set_cons_zero, List.set_cons_succ]
    have kMN : Hid (∀ W, Below (W4.alloc (.cells mnA 9)).heap.size (W4.alloc (.cells mnA 9)) W → W.cell? ⟨W4.heap.size, m1.toNat, none⟩ = some (.string MN)) := Lib.hid fun W h => by
      rw [h.cell (p := ⟨W4.heap.size, m1.toNat, none⟩) (by simp), Go.cell_of_row _ _ _ _ _ _ (Go.heap_alloc_new W4 _), hMN1.out]
      exact mnA_at _ (by omega)
    have hBW2 := Lib.hid (hBW.out.trans (hS2.mono hBW.out.size))
    clear hS hBW
    have hBW := hBW2
    clear hBW2
    generalize W4.alloc (.cells mnA 9) = W5 at kMN hBW hS2 ⊢
    generalize W4.heap.size = gB at kMN ⊢
    refine held_mono (S' := fun W => Below W5.heap.size W5 W) (fun W h => hS2.trans (h.mono hS2.size)) _ _ _ _ ?_
    clear hS2
    have hS : Below W5.heap.size W5 W5 := Below.refl _ _
    refine h_val (i := 17) (v := ?_) rfl (by kernel_rfl) (by kernel_rfl) (by kernel_rfl) (fun _ _ _ h => h) rfl ?_ hS ?_
    rotate_left
    · intro W hW
      go_simp
      try exact rfl
    try simp only [Act.put, List.getElem_toArray, List.getElem_cons_zero, List.getElem_cons_succ, List.setIfInBounds_toArray, List.set_cons_zero, List.set_cons_succ]
    refine h_val (i := 18) (v := .string MN) rfl (by kernel_rfl) (by kernel_rfl) (by kernel_rfl) (fun _ _ _ h => h) rfl (fun W hW => h_ld Tryd.isAgg9 (.tmp 57) rfl ⟨gB, m1.toNat, none⟩ rfl _ (kMN.out W hW)) hS ?_
    try simp only [Act.put, List.getElem_toArray, List.getElem_cons_zero, List.getElem_cons_succ, List.setIfInBounds_toArray, List.set_cons_zero, List.set_cons_succ]
    refine h_val (i := 19) (v := .string X4) rfl (by kernel_rfl) (by kernel_rfl) (by kernel_rfl) (fun _ _ _ h => h) rfl (fun W _ => h_cat Tryd.underlying9 rfl rfl rfl (by omega) hX4) hS ?_
    try simp only [Act.put, List.getElem_toArray, List.getElem_cons_zero, List.getElem_cons_succ, List.setIfInBounds_toArray, List.set_cons_zero, List.set_cons_succ]
    refine h_val (i := 20) (v := .string X5) rfl (by kernel_rfl) (by kernel_rfl) (by kernel_rfl) (fun _ _ _ h => h) rfl (fun W _ => h_cat Tryd.underlying9 rfl rfl rfl (by omega) hX5) hS ?_
    try simp only [Act.put, List.getElem_toArray, List.getElem_cons_zero, List.getElem_cons_succ, List.setIfInBounds_toArray, List.set_cons_zero, List.set_cons_succ]
    refine wpAnyH_ready (rs := [23]) (by kernel_rfl) (by simp) ?_
    refine AllReadyH.cons rfl (fun K hK => ?_) AllReadyH.nil
    go_simp
    refine (hpY.out _).mono ?_
    rintro e W6 ⟨rfl, hb⟩
    replace hS := hS.trans (hb.mono hS.size)
    refine hK.out _ _ hS (fun _ => ?_)
    clear hK K hb
    try simp only [Act.put, List.getElem_toArray, List.getElem_cons_zero, List.getElem_cons_succ, List.setIfInBounds_toArray, List.set_cons_zero, List.set_cons_succ]
    refine h_val (i := 24) (v := .string X6) rfl (by kernel_rfl) (by kernel_rfl) (by kernel_rfl) (fun _ _ _ h => h) rfl (fun W _ => h_cat Tryd.underlying9 rfl rfl rfl (by omega) hX6) hS ?_
    try simp only [Act.put, List.getElem_toArray, List.getElem_cons_zero, List.getElem_cons_succ, List.setIfInBounds_toArray, List.set_cons_zero, List.set_cons_succ]
    refine h_val (i := 25) (v := .string X7) rfl (by kernel_rfl) (by kernel_rfl) (by kernel_rfl) (fun _ _ _ h => h) rfl (fun W _ => h_cat Tryd.underlying9 rfl rfl rfl (by omega) hX7) hS ?_
    try simp only [Act.put, List.getElem_toArray, List.getElem_cons_zero, List.getElem_cons_succ, List.setIfInBounds_toArray, List.set_cons_zero, List.set_cons_succ]
    refine wpAnyH_ready (rs := [28]) (by kernel_rfl) (by simp) ?_
    refine AllReadyH.cons rfl (fun K hK => ?_) AllReadyH.nil
    go_simp
    refine (hpH.out _).mono ?_
    rintro e W7 ⟨rfl, hb⟩
    replace hS := hS.trans (hb.mono hS.size)
    refine hK.out _ _ hS (fun _ => ?_)
    clear hK K hb
    try simp only [Act.put, List.getElem_toArray, List.getElem_cons_zero, List.getElem_cons_succ, List.setIfInBounds_toArray, List.set_cons_zero, List.set_cons_succ]
    refine h_val (i := 29) (v := .string X8) rfl (by kernel_rfl) (by kernel_rfl) (by kernel_rfl) (fun _ _ _ h => h) rfl (fun W _ => h_cat Tryd.underlying9 rfl rfl rfl (by omega) hX8) hS ?_
    try simp only [Act.put, List.getElem_toArray, List.getElem_cons_zero, List.getElem_cons_succ, List.setIfInBounds_toArray, List.set_cons_zero, List.set_cons_succ]
    refine h_val (i := 30) (v := .string X9) rfl (by kernel_rfl) (by kernel_rfl) (by kernel_rfl) (fun _ _ _ h => h) rfl (fun W _ => h_cat Tryd.underlying9 rfl rfl rfl (by omega) hX9) hS ?_
    try simp only [Act.put, List.getElem_toArray, List.getElem_cons_zero, List.getElem_cons_succ, List.setIfInBounds_toArray, List.set_cons_zero, List.set_cons_succ]
    refine wpAnyH_ready (rs := [33]) (by kernel_rfl) (by simp) ?_
    refine AllReadyH.cons rfl (fun K hK => ?_) AllReadyH.nil
    go_simp
    refine (hpI.out _).mono ?_
    rintro e W8 ⟨rfl, hb⟩
    replace hS := hS.trans (hb.mono hS.size)
    refine hK.out _ _ hS (fun _ => ?_)
    clear hK K hb
    try simp only [Act.put, List.getElem_toArray, List.getElem_cons_zero, List.getElem_cons_succ, List.setIfInBounds_toArray, List.set_cons_zero, List.set_cons_succ]
    refine h_val (i := 34) (v := .string X10) rfl (by kernel_rfl) (by kernel_rfl) (by kernel_rfl) (fun _ _ _ h => h) rfl (fun W _ => h_cat Tryd.underlying9 rfl rfl rfl (by omega) hX10) hS ?_
    try simp only [Act.put, List.getElem_toArray, List.getElem_cons_zero, List.getElem_cons_succ, List.setIfInBounds_toArray, List.set_cons_zero, List.set_cons_succ]
    refine h_val (i := 35) (v := .string X11) rfl (by kernel_rfl) (by kernel_rfl) (by kernel_rfl) (fun _ _ _ h => h) rfl (fun W _ => h_cat Tryd.underlying9 rfl rfl rfl (by omega) hX11) hS ?_
    try simp only [Act.put, List.getElem_toArray, List.getElem_cons_zero, List.getElem_cons_succ, List.setIfInBounds_toArray, List.set_cons_zero, List.set_cons_succ]
    refine h_val (i := 37) (v := .string X12) rfl (by kernel_rfl) (by kernel_rfl) (by kernel_rfl) (fun _ _ _ h => h) rfl (fun W _ => h_cat Tryd.underlying9 rfl rfl rfl (by omega) hX12) hS ?_
    try simp only [Act.put, List.getElem_toArray, List.getElem_cons_zero, List.getElem_cons_succ, List.setIfInBounds_toArray, List.set_cons_zero, List.set_cons_succ]
    refine wpAnyH_ready (rs := [44]) (by kernel_rfl) (by simp) ?_
    refine AllReadyH.cons rfl (fun K hK => ?_) AllReadyH.nil
    go_simp
    refine (hpN.out _).mono ?_
    rintro e W9 ⟨rfl, hb⟩
    replace hS := hS.trans (hb.mono hS.size)
    refine hK.out _ _ hS (fun _ => ?_)
    clear hK K hb
    try simp only [Act.put, List.getElem_toArray, List.getElem_cons_zero, List.getElem_cons_succ, List.setIfInBounds_toArray, List.set_cons_zero, List.set_cons_succ]
    refine h_val (i := 45) (v := .string X13) rfl (by kernel_rfl) (by kernel_rfl) (by kernel_rfl) (fun _ _ _ h => h) rfl (fun W _ => h_cat Tryd.underlying9 rfl rfl rfl (by omega) hX13) hS ?_
    try simp only [Act.put, List.getElem_toArray, List.getElem_cons_zero, List.getElem_cons_succ, List.setIfInBounds_toArray, List.set_cons_zero, List.set_cons_succ]
    refine h_val (i := 46) (v := .string X13) rfl (by kernel_rfl) (by kernel_rfl) (by kernel_rfl) (fun _ _ _ h => h) rfl (fun _ _ => rfl) hS ?_
    try simp only [Act.put, List.getElem_toArray, List.getElem_cons_zero, List.getElem_cons_succ, List.setIfInBounds_toArray, List.set_cons_zero, List.set_cons_succ]
    refine h_val (i := 47) (v := .int .i64 0) rfl (by kernel_rfl) (by kernel_rfl) (by kernel_rfl) (fun _ _ _ h => h) rfl (fun _ _ => rfl) hS ?_
    try simp only [Act.put, List.getElem_toArray, List.getElem_cons_zero, List.getElem_cons_succ, List.setIfInBounds_toArray, List.set_cons_zero, List.set_cons_succ]
    refine wpAnyH_done (by kernel_rfl) ?_ _
    have hB9 := Lib.hid (hBW.out.trans (hS.mono hBW.out.size))
    have hfin : Hid (X13 = ⟨(txt t off).toArray⟩) := Lib.hid (by
      subst hm1
      apply Go.WideShapes.bytes_inj
      rw [l13.out, l12.out, l11.out, l10.out, l9.out, l8.out, l7.out, l6.out, l5.out, l4.out, l3.out, l2.out, l1.out, hDN1.out, hMN1.out, hSD.out, hSY.out, hSH.out, hSI.out, hSN.out, htx.out, hdw.out, hmy.out, show sgn off = [43] from if_neg (by omega), show (off / 60 * 100 + off % 60).toNat = mag off / 60 * 100 + mag off % 60 by unfold mag; omega, dgs_4 _ _ (by omega)]
      simp)
    clear hS
    go_wp2_with fail
    go_ret2
    exact ⟨by rw [hf.out, ← hfin.out]; rfl, hB9.out⟩
end Go.Proofs
