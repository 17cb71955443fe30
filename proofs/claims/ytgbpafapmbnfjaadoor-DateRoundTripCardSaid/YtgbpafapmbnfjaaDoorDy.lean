/- FormatDay of both -/
import Derived.Test.YtgbpafapmbnfjaaDoorIs
namespace Go.Proofs
open Go.RowKit Go.Shelf
set_option linter.unusedVariables false
set_option linter.unusedSimpArgs false
open TK
theorem TK.dtx_eq (d : Int) (h : 0 ≤ d ∧ d ≤ 73048) : dtx d = ⟨(dgs 4 (Cal.ymd d).1.toNat).toArray⟩ ++ ⟨#[45]⟩ ++ ⟨(dgs 2 (Cal.ymd d).2.1.toNat).toArray⟩ ++ ⟨#[45]⟩ ++ ⟨(dgs 2 (Cal.ymd d).2.2.toNat).toArray⟩ := by
  unfold dtx
  rw [if_pos h]
  simp only [str_app, ← List.append_assoc, List.append_toArray]
def TK.dtv (d : Int) : Value := .tuple #[.string (dtx d), .int .i64 (dte d : Int)]
set_option maxRecDepth 100000 in
set_option maxHeartbeats 1000000 in
theorem Tryd.dFormatDay_bad (d : Int) (h : ¬ (0 ≤ d ∧ d ≤ 73048)) (w : World) : Calls Tryd.prog 22 #[.int .i64 d] w fun e w' => e = .returned (dtv d) ∧ Below w.heap.size w w' := by
  have hf : Hid (dtv d = .tuple #[.string ⟨#[]⟩, .int .i64 2]) := Lib.hid (by unfold dtv dtx dte; rw [if_neg h, if_neg h]; rfl)
  by_cases h0 : d < 0
  · have g1 : decide (d < 0) = true := decide_eq_true h0
    go_enter Tryd.func22, Tryd.ntmps22
    go_wp2_with fail
    go_ret2
    exact ⟨by rw [hf.out]; rfl, Below.refl _ _⟩
  · have g1 : decide (d < 0) = false := decide_eq_false h0
    have g2 : decide (73048 < d) = true := decide_eq_true (by omega)
    go_enter Tryd.func22, Tryd.ntmps22
    go_wp2_with fail
    go_ret2
    exact ⟨by rw [hf.out]; rfl, Below.refl _ _⟩
set_option maxRecDepth 100000 in
set_option maxHeartbeats 1000000 in
theorem Tryd.qFormatDay_bad (d : Int) (h : ¬ (0 ≤ d ∧ d ≤ 73048)) (w : World) : Calls Tryd.prog 23 #[.int .i64 d] w fun e w' => e = .returned (dtv d) ∧ Below w.heap.size w w' := by
  have hf : Hid (dtv d = .tuple #[.string ⟨#[]⟩, .int .i64 2]) := Lib.hid (by unfold dtv dtx dte; rw [if_neg h, if_neg h]; rfl)
  by_cases h0 : d < 0
  · have g1 : decide (d < 0) = true := decide_eq_true h0
    go_enter Tryd.func23, Tryd.ntmps23
    go_wp2_with fail
    go_ret2
    exact ⟨by rw [hf.out]; rfl, Below.refl _ _⟩
  · have g1 : decide (d < 0) = false := decide_eq_false h0
    have g2 : decide (73048 < d) = true := decide_eq_true (by omega)
    go_enter Tryd.func23, Tryd.ntmps23
    go_wp2_with fail
    go_ret2
    exact ⟨by rw [hf.out]; rfl, Below.refl _ _⟩
set_option maxRecDepth 100000 in
set_option maxHeartbeats 1000000 in
theorem Tryd.dFormatDay_good (d : Int) (h : 0 ≤ d ∧ d ≤ 73048) (w : World) (hT : Tabs w) : Calls Tryd.prog 22 #[.int .i64 d] w fun e w' => e = .returned (dtv d) ∧ Below w.heap.size w w' := by
  have hv : Cal.valid (d * 1440) = true := Cal.valid_iff.2 (by omega)
  have hc : Calls Tryd.prog 11 #[.int .i64 (d * 1440)] w fun e w' => e = .returned (tcv (d * 1440)) ∧ Below w.heap.size w w' := Tryd.dToCivil (d * 1440) w
  have hcv : Cal.civ (d * 1440) = ((Cal.ymd d).1, (Cal.ymd d).2.1, (Cal.ymd d).2.2, 0, 0) := by
    unfold Cal.civ
    rw [show d * 1440 / 1440 = d by omega, show d * 1440 % 1440 / 60 = 0 by omega, show d * 1440 % 60 = 0 by omega]
  have hbd := civ_bd hv
  unfold tcv at hc
  rw [if_pos hv] at hc
  unfold civv at hc
  rw [hcv] at hc hbd
  have hdt := dtx_eq d h
  have hf : dtv d = .tuple #[.string (dtx d), .int .i64 0] := by unfold dtv dte; rw [if_pos h]; rfl
  rw [hf, hdt]
  clear hdt hf hv hcv
  generalize (Cal.ymd d).1 = y at hc hbd ⊢
  generalize (Cal.ymd d).2.1 = m at hc hbd ⊢
  generalize (Cal.ymd d).2.2 = dd at hc hbd ⊢
  dsimp only at hc hbd
  obtain ⟨b1, b2, b3, b4, b5, b6, -, -, -, -⟩ := hbd
  have hp1 := fun W (hT : Tabs W) => Tryd.padded y 4 (by omega) (by omega) W hT
  have hp2 := fun W (hT : Tabs W) => Tryd.padded m 2 (by omega) (by omega) W hT
  have hp3 := fun W (hT : Tabs W) => Tryd.padded dd 2 (by omega) (by omega) W hT
  have e1 : (⟨(dgs 4 y.toNat).toArray⟩ : ByteArray).size = 4 := by show (dgs 4 y.toNat).length = 4; exact dgs_length _ _
  have e2 : (⟨(dgs 2 m.toNat).toArray⟩ : ByteArray).size = 2 := by show (dgs 2 m.toNat).length = 2; exact dgs_length _ _
  have e3 : (⟨(dgs 2 dd.toNat).toArray⟩ : ByteArray).size = 2 := by show (dgs 2 dd.toNat).length = 2; exact dgs_length _ _
  generalize (⟨(dgs 4 y.toNat).toArray⟩ : ByteArray) = S1 at hp1 e1 ⊢
  generalize (⟨(dgs 2 m.toNat).toArray⟩ : ByteArray) = S2 at hp2 e2 ⊢
  generalize (⟨(dgs 2 dd.toNat).toArray⟩ : ByteArray) = S3 at hp3 e3 ⊢
  have hHp1 := Lib.hid hp1
  have hHp2 := Lib.hid hp2
  have hHp3 := Lib.hid hp3
  clear hp1 hp2 hp3
  have u1 : IntKind.i64.wrap (d * 1440) = d * 1440 := IntWalk.i64_in _ (by omega)
  have g1 : decide (d < 0) = false := decide_eq_false (by omega)
  have g2 : decide (73048 < d) = false := decide_eq_false (by omega)
  have hTw := Lib.hid hT
  clear hT
  go_enter Tryd.func22, Tryd.ntmps22
  go_wp2_with fail
  refine hc.mono ?_
  rintro e W0 ⟨rfl, hb⟩
  have hB0 := Lib.hid hb
  clear hc hb
  go_wp2_with fail
  have hrV : (W0.alloc (.cells #[.int .i64 y, .int .i64 m, .int .i64 dd, .int .i64 0, .int .i64 0] 24)).heap[W0.heap.size]? = some (.cells #[.int .i64 y, .int .i64 m, .int .i64 dd, .int .i64 0, .int .i64 0] 24 (0, 0)) := Go.heap_alloc_new W0 _
  have hBV := hB0.out.alloc hB0.out.size (.cells #[.int .i64 y, .int .i64 m, .int .i64 dd, .int .i64 0, .int .i64 0] 24)
  have hsV : W0.heap.size < (W0.alloc (.cells #[.int .i64 y, .int .i64 m, .int .i64 dd, .int .i64 0, .int .i64 0] 24)).heap.size := by simp
  generalize W0.alloc (.cells #[.int .i64 y, .int .i64 m, .int .i64 dd, .int .i64 0, .int .i64 0] 24) = V at hrV hBV hsV ⊢
  generalize W0.heap.size = B at hrV hsV ⊢
  obtain ⟨C, q1, q2, q3, q4⟩ : ∃ C : World → Prop, C V ∧ (∀ W, C W → Below V.heap.size V W) ∧ (∀ W W', C W → Below W.heap.size W W' → C W') ∧ (∀ W, C W → C { W with drawn := W.drawn + 1 }) := ⟨fun W => Below V.heap.size V W, Below.refl _ _, fun W h => h, fun W W' h hb => h.trans (hb.mono h.size), fun W h => h.drew⟩
  have k0 : Hid (∀ W, C W → W.cell? ⟨B, 0, none⟩ = some (.int .i64 y)) := Lib.hid (fun W hW => (cells5 (((q2 W hW).block _ hsV).trans hrV)).1)
  have k1 : Hid (∀ W, C W → W.cell? ⟨B, 1, none⟩ = some (.int .i64 m)) := Lib.hid (fun W hW => (cells5 (((q2 W hW).block _ hsV).trans hrV)).2.1)
  have k2 : Hid (∀ W, C W → W.cell? ⟨B, 2, none⟩ = some (.int .i64 dd)) := Lib.hid (fun W hW => (cells5 (((q2 W hW).block _ hsV).trans hrV)).2.2.1)
  have h1 : Hid (∀ W, C W → Calls Tryd.prog 35 #[.int .i64 y, .int .i64 4] W fun e w' => e = .returned (.string S1) ∧ C w') := Lib.hid fun W hW => (hHp1.out W (hTw.out.below (hBV.trans ((q2 W hW).mono hBV.size)))).mono fun e w' h => ⟨h.1, q3 _ _ hW h.2⟩
  have h2 : Hid (∀ W, C W → Calls Tryd.prog 35 #[.int .i64 m, .int .i64 2] W fun e w' => e = .returned (.string S2) ∧ C w') := Lib.hid fun W hW => (hHp2.out W (hTw.out.below (hBV.trans ((q2 W hW).mono hBV.size)))).mono fun e w' h => ⟨h.1, q3 _ _ hW h.2⟩
  have h3 : Hid (∀ W, C W → Calls Tryd.prog 35 #[.int .i64 dd, .int .i64 2] W fun e w' => e = .returned (.string S3) ∧ C w') := Lib.hid fun W hW => (hHp3.out W (hTw.out.below (hBV.trans ((q2 W hW).mono hBV.size)))).mono fun e w' h => ⟨h.1, q3 _ _ hW h.2⟩
  have hC1 := Lib.hid q1
  have hCV := Lib.hid q2
  have hCd := Lib.hid q4
  have hBV' := Lib.hid hBV
  clear q1 q2 q3 q4 hrV hsV hBV hHp1 hHp2 hHp3 hB0
  refine q_region C (by kernel_rfl) (by kernel_rfl) (hCd.out _ hC1.out) ?_
  repeat (first
    | (with_reducible refine q_off ?_ ?_
       · rfl
       try simp only [Act.put, List.getElem_toArray, List.getElem_cons_zero, List.getElem_cons_succ, List.setIfInBounds_toArray, List.set_cons_zero, List.set_cons_succ])
    | (with_reducible refine q_lds2 Tryd.isAgg3 ?_ ?_ ⟨B, 0, none⟩ ?_ (.int .i64 y) k0.out ?_
       · rfl
       · rfl
       · rfl
       try simp only [Act.put, List.getElem_toArray, List.getElem_cons_zero, List.getElem_cons_succ, List.setIfInBounds_toArray, List.set_cons_zero, List.set_cons_succ])
    | (with_reducible refine q_lds2 Tryd.isAgg3 ?_ ?_ ⟨B, 1, none⟩ ?_ (.int .i64 m) k1.out ?_
       · rfl
       · rfl
       · rfl
       try simp only [Act.put, List.getElem_toArray, List.getElem_cons_zero, List.getElem_cons_succ, List.setIfInBounds_toArray, List.set_cons_zero, List.set_cons_succ])
    | (with_reducible refine q_lds2 Tryd.isAgg3 ?_ ?_ ⟨B, 2, none⟩ ?_ (.int .i64 dd) k2.out ?_
       · rfl
       · rfl
       · rfl
       try simp only [Act.put, List.getElem_toArray, List.getElem_cons_zero, List.getElem_cons_succ, List.setIfInBounds_toArray, List.set_cons_zero, List.set_cons_succ])
    | (with_reducible refine wpQuiet_step ?_
       intro K hK
       go_simp
       first
       | (refine hK _ ?_; clear hK K)
       | (apply Exists.intro
          refine ⟨fun W hW => ?_, hK _ ?_⟩
          first
          | exact rfl
          | exact ⟨rfl, rfl⟩
          | (with_reducible exact h1.out W hW)
          | (with_reducible exact h2.out W hW)
          | (with_reducible exact h3.out W hW)
          clear hK K)))
  refine wpQuiet_nil ?_
  intro VR h1VR
  have hBR : Below w.heap.size w VR := hBV'.out.trans ((hCV.out VR h1VR).mono hBV'.out.size)
  clear h1VR hC1 k0 k1 k2 hCV hCd h1 h2 h3
  go_wp2_with fail
  go_ret2
  exact ⟨rfl, hBR⟩
set_option maxRecDepth 100000 in
set_option maxHeartbeats 1000000 in
theorem Tryd.qFormatDay_good (d : Int) (h : 0 ≤ d ∧ d ≤ 73048) (w : World) : Calls Tryd.prog 23 #[.int .i64 d] w fun e w' => e = .returned (dtv d) ∧ Below w.heap.size w w' := by
  have hv : Cal.valid (d * 1440) = true := Cal.valid_iff.2 (by omega)
  have hc : Calls Tryd.prog 12 #[.int .i64 (d * 1440)] w fun e w' => e = .returned (tcv (d * 1440)) ∧ Below w.heap.size w w' := Tryd.qToCivil (d * 1440) w
  have hcv : Cal.civ (d * 1440) = ((Cal.ymd d).1, (Cal.ymd d).2.1, (Cal.ymd d).2.2, 0, 0) := by
    unfold Cal.civ
    rw [show d * 1440 / 1440 = d by omega, show d * 1440 % 1440 / 60 = 0 by omega, show d * 1440 % 60 = 0 by omega]
  have hbd := civ_bd hv
  unfold tcv at hc
  rw [if_pos hv] at hc
  unfold civv at hc
  rw [hcv] at hc hbd
  have hdt := dtx_eq d h
  have hf : dtv d = .tuple #[.string (dtx d), .int .i64 0] := by unfold dtv dte; rw [if_pos h]; rfl
  rw [hf, hdt]
  clear hdt hf hv hcv
  generalize (Cal.ymd d).1 = y at hc hbd ⊢
  generalize (Cal.ymd d).2.1 = m at hc hbd ⊢
  generalize (Cal.ymd d).2.2 = dd at hc hbd ⊢
  dsimp only at hc hbd
  obtain ⟨b1, b2, b3, b4, b5, b6, -, -, -, -⟩ := hbd
  have hp1 := fun W => Tryd.qDigits y 4 (by omega) (by omega) (by omega) W
  have hp2 := fun W => Tryd.qDigits m 2 (by omega) (by omega) (by omega) W
  have hp3 := fun W => Tryd.qDigits dd 2 (by omega) (by omega) (by omega) W
  have e1 : (⟨(dgs 4 y.toNat).toArray⟩ : ByteArray).size = 4 := by show (dgs 4 y.toNat).length = 4; exact dgs_length _ _
  have e2 : (⟨(dgs 2 m.toNat).toArray⟩ : ByteArray).size = 2 := by show (dgs 2 m.toNat).length = 2; exact dgs_length _ _
  have e3 : (⟨(dgs 2 dd.toNat).toArray⟩ : ByteArray).size = 2 := by show (dgs 2 dd.toNat).length = 2; exact dgs_length _ _
  generalize (⟨(dgs 4 y.toNat).toArray⟩ : ByteArray) = S1 at hp1 e1 ⊢
  generalize (⟨(dgs 2 m.toNat).toArray⟩ : ByteArray) = S2 at hp2 e2 ⊢
  generalize (⟨(dgs 2 dd.toNat).toArray⟩ : ByteArray) = S3 at hp3 e3 ⊢
  have hHp1 := Lib.hid hp1
  have hHp2 := Lib.hid hp2
  have hHp3 := Lib.hid hp3
  clear hp1 hp2 hp3
  have u1 : IntKind.i64.wrap (d * 1440) = d * 1440 := IntWalk.i64_in _ (by omega)
  have g1 : decide (d < 0) = false := decide_eq_false (by omega)
  have g2 : decide (73048 < d) = false := decide_eq_false (by omega)
  skip
  skip
  go_enter Tryd.func23, Tryd.ntmps23
  go_wp2_with fail
  refine hc.mono ?_
  rintro e W0 ⟨rfl, hb⟩
  have hB0 := Lib.hid hb
  clear hc hb
  go_wp2_with fail
  have hrV : (W0.alloc (.cells #[.int .i64 y, .int .i64 m, .int .i64 dd, .int .i64 0, .int .i64 0] 28)).heap[W0.heap.size]? = some (.cells #[.int .i64 y, .int .i64 m, .int .i64 dd, .int .i64 0, .int .i64 0] 28 (0, 0)) := Go.heap_alloc_new W0 _
  have hBV := hB0.out.alloc hB0.out.size (.cells #[.int .i64 y, .int .i64 m, .int .i64 dd, .int .i64 0, .int .i64 0] 28)
  have hsV : W0.heap.size < (W0.alloc (.cells #[.int .i64 y, .int .i64 m, .int .i64 dd, .int .i64 0, .int .i64 0] 28)).heap.size := by simp
  generalize W0.alloc (.cells #[.int .i64 y, .int .i64 m, .int .i64 dd, .int .i64 0, .int .i64 0] 28) = V at hrV hBV hsV ⊢
  generalize W0.heap.size = B at hrV hsV ⊢
  obtain ⟨C, q1, q2, q3, q4⟩ : ∃ C : World → Prop, C V ∧ (∀ W, C W → Below V.heap.size V W) ∧ (∀ W W', C W → Below W.heap.size W W' → C W') ∧ (∀ W, C W → C { W with drawn := W.drawn + 1 }) := ⟨fun W => Below V.heap.size V W, Below.refl _ _, fun W h => h, fun W W' h hb => h.trans (hb.mono h.size), fun W h => h.drew⟩
  have k0 : Hid (∀ W, C W → W.cell? ⟨B, 0, none⟩ = some (.int .i64 y)) := Lib.hid (fun W hW => (cells5 (((q2 W hW).block _ hsV).trans hrV)).1)
  have k1 : Hid (∀ W, C W → W.cell? ⟨B, 1, none⟩ = some (.int .i64 m)) := Lib.hid (fun W hW => (cells5 (((q2 W hW).block _ hsV).trans hrV)).2.1)
  have k2 : Hid (∀ W, C W → W.cell? ⟨B, 2, none⟩ = some (.int .i64 dd)) := Lib.hid (fun W hW => (cells5 (((q2 W hW).block _ hsV).trans hrV)).2.2.1)
  have h1 : Hid (∀ W, C W → Calls Tryd.prog 32 #[.int .i64 y, .int .i64 4] W fun e w' => e = .returned (.string S1) ∧ C w') := Lib.hid fun W hW => (hHp1.out W).mono fun e w' h => ⟨h.1, q3 _ _ hW h.2⟩
  have h2 : Hid (∀ W, C W → Calls Tryd.prog 32 #[.int .i64 m, .int .i64 2] W fun e w' => e = .returned (.string S2) ∧ C w') := Lib.hid fun W hW => (hHp2.out W).mono fun e w' h => ⟨h.1, q3 _ _ hW h.2⟩
  have h3 : Hid (∀ W, C W → Calls Tryd.prog 32 #[.int .i64 dd, .int .i64 2] W fun e w' => e = .returned (.string S3) ∧ C w') := Lib.hid fun W hW => (hHp3.out W).mono fun e w' h => ⟨h.1, q3 _ _ hW h.2⟩
  have hC1 := Lib.hid q1
  have hCV := Lib.hid q2
  have hCd := Lib.hid q4
  have hBV' := Lib.hid hBV
  clear q1 q2 q3 q4 hrV hsV hBV hHp1 hHp2 hHp3 hB0
  refine q_region C (by kernel_rfl) (by kernel_rfl) (hCd.out _ hC1.out) ?_
  repeat (first
    | (with_reducible refine q_off ?_ ?_
       · rfl
       try simp only [Act.put, List.getElem_toArray, List.getElem_cons_zero, List.getElem_cons_succ, List.setIfInBounds_toArray, List.set_cons_zero, List.set_cons_succ])
    | (with_reducible refine q_lds2 Tryd.isAgg3 ?_ ?_ ⟨B, 0, none⟩ ?_ (.int .i64 y) k0.out ?_
       · rfl
       · rfl
       · rfl
       try simp only [Act.put, List.getElem_toArray, List.getElem_cons_zero, List.getElem_cons_succ, List.setIfInBounds_toArray, List.set_cons_zero, List.set_cons_succ])
    | (with_reducible refine q_lds2 Tryd.isAgg3 ?_ ?_ ⟨B, 1, none⟩ ?_ (.int .i64 m) k1.out ?_
       · rfl
       · rfl
       · rfl
       try simp only [Act.put, List.getElem_toArray, List.getElem_cons_zero, List.getElem_cons_succ, List.setIfInBounds_toArray, List.set_cons_zero, List.set_cons_succ])
    | (with_reducible refine q_lds2 Tryd.isAgg3 ?_ ?_ ⟨B, 2, none⟩ ?_ (.int .i64 dd) k2.out ?_
       · rfl
       · rfl
       · rfl
       try simp only [Act.put, List.getElem_toArray, List.getElem_cons_zero, List.getElem_cons_succ, List.setIfInBounds_toArray, List.set_cons_zero, List.set_cons_succ])
    | (with_reducible refine wpQuiet_step ?_
       intro K hK
       go_simp
       first
       | (refine hK _ ?_; clear hK K)
       | (apply Exists.intro
          refine ⟨fun W hW => ?_, hK _ ?_⟩
          first
          | exact rfl
          | exact ⟨rfl, rfl⟩
          | (with_reducible exact h1.out W hW)
          | (with_reducible exact h2.out W hW)
          | (with_reducible exact h3.out W hW)
          clear hK K)))
  refine wpQuiet_nil ?_
  intro VR h1VR
  have hBR : Below w.heap.size w VR := hBV'.out.trans ((hCV.out VR h1VR).mono hBV'.out.size)
  clear h1VR hC1 k0 k1 k2 hCV hCd h1 h2 h3
  go_wp2_with fail
  go_ret2
  exact ⟨rfl, hBR⟩
theorem Tryd.dFormatDay (d : Int) (w : World) (hT : Tabs w) : Calls Tryd.prog 22 #[.int .i64 d] w fun e w' => e = .returned (dtv d) ∧ Below w.heap.size w w' := by
  by_cases h : 0 ≤ d ∧ d ≤ 73048
  · exact Tryd.dFormatDay_good d h w hT
  · exact Tryd.dFormatDay_bad d h w
theorem Tryd.qFormatDay (d : Int) (w : World) : Calls Tryd.prog 23 #[.int .i64 d] w fun e w' => e = .returned (dtv d) ∧ Below w.heap.size w w' := by
  by_cases h : 0 ≤ d ∧ d ≤ 73048
  · exact Tryd.qFormatDay_good d h w
  · exact Tryd.qFormatDay_bad d h w
end Go.Proofs
