/- FromCivil of both packages, walked -/
import Derived.Test.YtgbpafapmbnfjaaDoorCiv
import Derived.Test.YtgbpafapmbnfjaaDoorTQ
namespace Go.Proofs
open Go.RowKit
set_option linter.unusedVariables false
set_option linter.unusedSimpArgs false
open TK
namespace TK
def fcv (y m d h mi : Int) : Value := .tuple #[.int .i64 (Cal.from_ y m d h mi).1, .int .i64 (Cal.from_ y m d h mi).2]
abbrev I64 (x : Int) : Prop := -9223372036854775808 ≤ x ∧ x ≤ 9223372036854775807
theorem new5 {w : World} {cs : Array Value} {T : TypeId} : (w.alloc (.cells cs T)).heap[w.heap.size]? = some (.cells cs T (0, 0)) := Go.heap_alloc_new w _
end TK
set_option maxRecDepth 100000 in
set_option maxHeartbeats 4000000 in
theorem Tryd.dFromCivil_range (y m d h mi : Int) (hy : I64 y) (hm : I64 m) (hr : y < 2000 ∨ 2199 < y ∨ m < 1 ∨ 12 < m) (w : World) :
    Calls Tryd.prog 14 #[.agg #[.int .i64 y, .int .i64 m, .int .i64 d, .int .i64 h, .int .i64 mi]] w fun e w' => e = .returned (fcv y m d h mi) ∧ Below w.heap.size w w' := by
  have hf : Hid (fcv y m d h mi = .tuple #[.int .i64 0, .int .i64 2]) := Lib.hid (by unfold fcv Cal.from_; rw [if_pos hr])
  obtain ⟨y0, y1⟩ := hy
  obtain ⟨m0, m1⟩ := hm
  by_cases a1 : y < 2000
  · have b1 : decide (y < 2000) = true := decide_eq_true a1
    clear hr
    go_enter Tryd.func14, Tryd.ntmps14
    go_wp2
    go_ret2
    exact ⟨by rw [hf.out]; rfl, (Below.refl _ _).alloc (Nat.le_refl _) _⟩
  · have b1 : decide (y < 2000) = false := decide_eq_false a1
    by_cases a2 : 2199 < y
    · have b2 : decide (2199 < y) = true := decide_eq_true a2
      clear hr
      go_enter Tryd.func14, Tryd.ntmps14
      go_wp2
      go_ret2
      exact ⟨by rw [hf.out]; rfl, (Below.refl _ _).alloc (Nat.le_refl _) _⟩
    · have b2 : decide (2199 < y) = false := decide_eq_false a2
      by_cases a3 : m < 1
      · have b3 : decide (m < 1) = true := decide_eq_true a3
        clear hr
        go_enter Tryd.func14, Tryd.ntmps14
        go_wp2
        go_ret2
        exact ⟨by rw [hf.out]; rfl, (Below.refl _ _).alloc (Nat.le_refl _) _⟩
      · have b3 : decide (m < 1) = false := decide_eq_false a3
        have b4 : decide (12 < m) = true := decide_eq_true (by omega)
        clear hr
        go_enter Tryd.func14, Tryd.ntmps14
        go_wp2
        go_ret2
        exact ⟨by rw [hf.out]; rfl, (Below.refl _ _).alloc (Nat.le_refl _) _⟩
set_option maxRecDepth 100000 in
set_option maxHeartbeats 1000000 in
theorem Tryd.dFromCivil_date0 (y m d h mi q : Int) (hq : Hid (Cal.md y m = q)) (hd : I64 d) (hh : I64 h) (hmi : I64 mi) (g1 : 2000 ≤ y) (g2 : y ≤ 2199) (g3 : 1 ≤ m) (g4 : m ≤ 12) (hf : Hid (fcv y m d h mi = .tuple #[.int .i64 0, .int .i64 13])) (b0 : decide (d < 1) = true) (w : World) :
    Calls Tryd.prog 14 #[.agg #[.int .i64 y, .int .i64 m, .int .i64 d, .int .i64 h, .int .i64 mi]] w fun e w' => e = .returned (fcv y m d h mi) ∧ Below w.heap.size w w' := by
  obtain ⟨d0, d1⟩ := hd
  obtain ⟨h0, h1⟩ := hh
  obtain ⟨i0, i1⟩ := hmi
  have n1 : decide (y < 2000) = false := decide_eq_false (by omega)
  have n2 : decide (2199 < y) = false := decide_eq_false (by omega)
  have n3 : decide (m < 1) = false := decide_eq_false (by omega)
  have n4 : decide (12 < m) = false := decide_eq_false (by omega)
  go_enter Tryd.func14, Tryd.ntmps14
  go_wp2_with fail
  have hV0 : Below w.heap.size w (w.alloc (.cells #[.int .i64 y, .int .i64 m, .int .i64 d, .int .i64 h, .int .i64 mi] 24)) := (Below.refl _ _).alloc (Nat.le_refl _) _
  have hR0 : (w.alloc (.cells #[.int .i64 y, .int .i64 m, .int .i64 d, .int .i64 h, .int .i64 mi] 24)).heap[w.heap.size]? = some (.cells #[.int .i64 y, .int .i64 m, .int .i64 d, .int .i64 h, .int .i64 mi] 24 (0, 0)) := Go.heap_alloc_new w _
  have hs0 : w.heap.size < (w.alloc (.cells #[.int .i64 y, .int .i64 m, .int .i64 d, .int .i64 h, .int .i64 mi] 24)).heap.size := by simp
  generalize w.alloc (.cells #[.int .i64 y, .int .i64 m, .int .i64 d, .int .i64 h, .int .i64 mi] 24) = V at hV0 hR0 hs0 ⊢
  generalize hB : w.heap.size = B at hV0 hR0 hs0 ⊢
  have hHB := Lib.hid hB
  clear hB
  obtain ⟨C, k1, kV, kb, kr⟩ : ∃ C : World → Prop, C { V with drawn := V.drawn + 1 } ∧ (∀ W, C W → Below V.heap.size V W) ∧ (∀ W W', C W → Below W.heap.size W W' → C W') ∧ (∀ W, C W → W.heap[B]? = some (.cells #[.int .i64 y, .int .i64 m, .int .i64 d, .int .i64 h, .int .i64 mi] 24 (0, 0))) :=
    ⟨fun W => Below V.heap.size V W, (Below.refl _ _).drew, fun W h => h, fun W W' h hb => h.trans (hb.mono h.size), fun W h => (h.block _ hs0).trans hR0⟩
  have hcm : Hid (∀ W, C W → Calls Tryd.prog 28 #[.int .i64 y, .int .i64 m] W fun e w' => e = .returned (.int .i64 q) ∧ C w') := Lib.hid fun W hW => (Tryd.dMonthDays y m (by omega) (by omega) (by omega) (by omega) W).mono fun e w' h => ⟨by rw [← hq.out]; exact h.1, kb W w' hW h.2⟩
  have c0 := Lib.hid (fun W hW => (cells5 (kr W hW)).1)
  have c1 := Lib.hid (fun W hW => (cells5 (kr W hW)).2.1)
  have c2 := Lib.hid (fun W hW => (cells5 (kr W hW)).2.2.1)
  have c3 := Lib.hid (fun W hW => (cells5 (kr W hW)).2.2.2.1)
  have c4 := Lib.hid (fun W hW => (cells5 (kr W hW)).2.2.2.2.1)
  have hC1 := Lib.hid k1
  have hCV := Lib.hid kV
  have hRV := Lib.hid hR0
  have hsV := Lib.hid hs0
  have hVV := Lib.hid hV0
  clear k1 kV kb kr hR0 hs0 hV0
  refine q_region C (by kernel_rfl) (by kernel_rfl) hC1.out ?_
  with_reducible refine wpQuiet_step ?_
  intro K hK
  go_simp
  first
  | (refine hK _ ?_; clear hK K)
  | (apply Exists.intro
     refine ⟨fun W hW => ?_, hK _ ?_⟩
     first
     | exact rfl
     | exact ⟨rfl, rfl⟩
     | (with_reducible exact hcm.out W hW)
     clear hK K)
  with_reducible refine q_lds Tryd.isAgg3 (.tmp 25) ?_ ?_ ⟨B, 2, none⟩ ?_ (.int .i64 d) c2.out ?_
  · rfl
  · rfl
  · rfl
  try simp only [Act.put, List.getElem_toArray, List.getElem_cons_zero, List.getElem_cons_succ, List.setIfInBounds_toArray, List.set_cons_zero, List.set_cons_succ]
  with_reducible refine wpQuiet_step ?_
  intro K hK
  go_simp
  first
  | (refine hK _ ?_; clear hK K)
  | (apply Exists.intro
     refine ⟨fun W hW => ?_, hK _ ?_⟩
     first
     | exact rfl
     | exact ⟨rfl, rfl⟩
     | (with_reducible exact hcm.out W hW)
     clear hK K)
  with_reducible refine wpQuiet_step ?_
  intro K hK
  go_simp
  first
  | (refine hK _ ?_; clear hK K)
  | (apply Exists.intro
     refine ⟨fun W hW => ?_, hK _ ?_⟩
     first
     | exact rfl
     | exact ⟨rfl, rfl⟩
     | (with_reducible exact hcm.out W hW)
     clear hK K)
  with_reducible refine q_off ?_ ?_
  · rfl
  try simp only [Act.put, List.getElem_toArray, List.getElem_cons_zero, List.getElem_cons_succ, List.setIfInBounds_toArray, List.set_cons_zero, List.set_cons_succ]
  with_reducible refine q_off ?_ ?_
  · rfl
  try simp only [Act.put, List.getElem_toArray, List.getElem_cons_zero, List.getElem_cons_succ, List.setIfInBounds_toArray, List.set_cons_zero, List.set_cons_succ]
  with_reducible refine q_off ?_ ?_
  · rfl
  try simp only [Act.put, List.getElem_toArray, List.getElem_cons_zero, List.getElem_cons_succ, List.setIfInBounds_toArray, List.set_cons_zero, List.set_cons_succ]
  with_reducible refine q_off ?_ ?_
  · rfl
  try simp only [Act.put, List.getElem_toArray, List.getElem_cons_zero, List.getElem_cons_succ, List.setIfInBounds_toArray, List.set_cons_zero, List.set_cons_succ]
  with_reducible refine q_off ?_ ?_
  · rfl
  try simp only [Act.put, List.getElem_toArray, List.getElem_cons_zero, List.getElem_cons_succ, List.setIfInBounds_toArray, List.set_cons_zero, List.set_cons_succ]
  with_reducible refine q_off ?_ ?_
  · rfl
  try simp only [Act.put, List.getElem_toArray, List.getElem_cons_zero, List.getElem_cons_succ, List.setIfInBounds_toArray, List.set_cons_zero, List.set_cons_succ]
  with_reducible refine q_off ?_ ?_
  · rfl
  try simp only [Act.put, List.getElem_toArray, List.getElem_cons_zero, List.getElem_cons_succ, List.setIfInBounds_toArray, List.set_cons_zero, List.set_cons_succ]
  with_reducible refine q_off ?_ ?_
  · rfl
  try simp only [Act.put, List.getElem_toArray, List.getElem_cons_zero, List.getElem_cons_succ, List.setIfInBounds_toArray, List.set_cons_zero, List.set_cons_succ]
  with_reducible refine wpQuiet_step ?_
  intro K hK
  go_simp
  first
  | (refine hK _ ?_; clear hK K)
  | (apply Exists.intro
     refine ⟨fun W hW => ?_, hK _ ?_⟩
     first
     | exact rfl
     | exact ⟨rfl, rfl⟩
     | (with_reducible exact hcm.out W hW)
     clear hK K)
  with_reducible refine wpQuiet_step ?_
  intro K hK
  go_simp
  first
  | (refine hK _ ?_; clear hK K)
  | (apply Exists.intro
     refine ⟨fun W hW => ?_, hK _ ?_⟩
     first
     | exact rfl
     | exact ⟨rfl, rfl⟩
     | (with_reducible exact hcm.out W hW)
     clear hK K)
  with_reducible refine q_off ?_ ?_
  · rfl
  try simp only [Act.put, List.getElem_toArray, List.getElem_cons_zero, List.getElem_cons_succ, List.setIfInBounds_toArray, List.set_cons_zero, List.set_cons_succ]
  with_reducible refine q_off ?_ ?_
  · rfl
  try simp only [Act.put, List.getElem_toArray, List.getElem_cons_zero, List.getElem_cons_succ, List.setIfInBounds_toArray, List.set_cons_zero, List.set_cons_succ]
  with_reducible refine q_off ?_ ?_
  · rfl
  try simp only [Act.put, List.getElem_toArray, List.getElem_cons_zero, List.getElem_cons_succ, List.setIfInBounds_toArray, List.set_cons_zero, List.set_cons_succ]
  with_reducible refine wpQuiet_step ?_
  intro K hK
  go_simp
  first
  | (refine hK _ ?_; clear hK K)
  | (apply Exists.intro
     refine ⟨fun W hW => ?_, hK _ ?_⟩
     first
     | exact rfl
     | exact ⟨rfl, rfl⟩
     | (with_reducible exact hcm.out W hW)
     clear hK K)
  with_reducible refine wpQuiet_step ?_
  intro K hK
  go_simp
  first
  | (refine hK _ ?_; clear hK K)
  | (apply Exists.intro
     refine ⟨fun W hW => ?_, hK _ ?_⟩
     first
     | exact rfl
     | exact ⟨rfl, rfl⟩
     | (with_reducible exact hcm.out W hW)
     clear hK K)
  with_reducible refine q_off ?_ ?_
  · rfl
  try simp only [Act.put, List.getElem_toArray, List.getElem_cons_zero, List.getElem_cons_succ, List.setIfInBounds_toArray, List.set_cons_zero, List.set_cons_succ]
  with_reducible refine q_off ?_ ?_
  · rfl
  try simp only [Act.put, List.getElem_toArray, List.getElem_cons_zero, List.getElem_cons_succ, List.setIfInBounds_toArray, List.set_cons_zero, List.set_cons_succ]
  with_reducible refine q_off ?_ ?_
  · rfl
  try simp only [Act.put, List.getElem_toArray, List.getElem_cons_zero, List.getElem_cons_succ, List.setIfInBounds_toArray, List.set_cons_zero, List.set_cons_succ]
  with_reducible refine wpQuiet_step ?_
  intro K hK
  go_simp
  first
  | (refine hK _ ?_; clear hK K)
  | (apply Exists.intro
     refine ⟨fun W hW => ?_, hK _ ?_⟩
     first
     | exact rfl
     | exact ⟨rfl, rfl⟩
     | (with_reducible exact hcm.out W hW)
     clear hK K)
  with_reducible refine wpQuiet_step ?_
  intro K hK
  go_simp
  first
  | (refine hK _ ?_; clear hK K)
  | (apply Exists.intro
     refine ⟨fun W hW => ?_, hK _ ?_⟩
     first
     | exact rfl
     | exact ⟨rfl, rfl⟩
     | (with_reducible exact hcm.out W hW)
     clear hK K)
  with_reducible refine q_off ?_ ?_
  · rfl
  try simp only [Act.put, List.getElem_toArray, List.getElem_cons_zero, List.getElem_cons_succ, List.setIfInBounds_toArray, List.set_cons_zero, List.set_cons_succ]
  with_reducible refine q_off ?_ ?_
  · rfl
  try simp only [Act.put, List.getElem_toArray, List.getElem_cons_zero, List.getElem_cons_succ, List.setIfInBounds_toArray, List.set_cons_zero, List.set_cons_succ]
  with_reducible refine q_off ?_ ?_
  · rfl
  try simp only [Act.put, List.getElem_toArray, List.getElem_cons_zero, List.getElem_cons_succ, List.setIfInBounds_toArray, List.set_cons_zero, List.set_cons_succ]
  with_reducible refine wpQuiet_step ?_
  intro K hK
  go_simp
  first
  | (refine hK _ ?_; clear hK K)
  | (apply Exists.intro
     refine ⟨fun W hW => ?_, hK _ ?_⟩
     first
     | exact rfl
     | exact ⟨rfl, rfl⟩
     | (with_reducible exact hcm.out W hW)
     clear hK K)
  with_reducible refine wpQuiet_step ?_
  intro K hK
  go_simp
  first
  | (refine hK _ ?_; clear hK K)
  | (apply Exists.intro
     refine ⟨fun W hW => ?_, hK _ ?_⟩
     first
     | exact rfl
     | exact ⟨rfl, rfl⟩
     | (with_reducible exact hcm.out W hW)
     clear hK K)
  with_reducible refine q_off ?_ ?_
  · rfl
  try simp only [Act.put, List.getElem_toArray, List.getElem_cons_zero, List.getElem_cons_succ, List.setIfInBounds_toArray, List.set_cons_zero, List.set_cons_succ]
  with_reducible refine q_off ?_ ?_
  · rfl
  try simp only [Act.put, List.getElem_toArray, List.getElem_cons_zero, List.getElem_cons_succ, List.setIfInBounds_toArray, List.set_cons_zero, List.set_cons_succ]
  with_reducible refine q_off ?_ ?_
  · rfl
  try simp only [Act.put, List.getElem_toArray, List.getElem_cons_zero, List.getElem_cons_succ, List.setIfInBounds_toArray, List.set_cons_zero, List.set_cons_succ]
  with_reducible refine wpQuiet_step ?_
  intro K hK
  go_simp
  first
  | (refine hK _ ?_; clear hK K)
  | (apply Exists.intro
     refine ⟨fun W hW => ?_, hK _ ?_⟩
     first
     | exact rfl
     | exact ⟨rfl, rfl⟩
     | (with_reducible exact hcm.out W hW)
     clear hK K)
  refine wpQuiet_nil ?_
  intro V1 hV1
  have hB1 := Lib.hid (hCV.out V1 hV1)
  clear hV1 hcm hC1
  go_wp2
  go_ret2
  exact ⟨by rw [hf.out]; rfl, by rw [hHB.out]; exact hVV.out.trans (hB1.out.mono (Nat.le_of_lt hsV.out))⟩
set_option maxRecDepth 100000 in
set_option maxHeartbeats 1000000 in
theorem Tryd.dFromCivil_date1 (y m d h mi q : Int) (hq : Hid (Cal.md y m = q)) (hd : I64 d) (hh : I64 h) (hmi : I64 mi) (g1 : 2000 ≤ y) (g2 : y ≤ 2199) (g3 : 1 ≤ m) (g4 : m ≤ 12) (hf : Hid (fcv y m d h mi = .tuple #[.int .i64 0, .int .i64 13])) (b0 : decide (d < 1) = false) (b1 : decide (q < d) = true) (w : World) :
    Calls Tryd.prog 14 #[.agg #[.int .i64 y, .int .i64 m, .int .i64 d, .int .i64 h, .int .i64 mi]] w fun e w' => e = .returned (fcv y m d h mi) ∧ Below w.heap.size w w' := by
  obtain ⟨d0, d1⟩ := hd
  obtain ⟨h0, h1⟩ := hh
  obtain ⟨i0, i1⟩ := hmi
  have n1 : decide (y < 2000) = false := decide_eq_false (by omega)
  have n2 : decide (2199 < y) = false := decide_eq_false (by omega)
  have n3 : decide (m < 1) = false := decide_eq_false (by omega)
  have n4 : decide (12 < m) = false := decide_eq_false (by omega)
  go_enter Tryd.func14, Tryd.ntmps14
  go_wp2_with fail
  have hV0 : Below w.heap.size w (w.alloc (.cells #[.int .i64 y, .int .i64 m, .int .i64 d, .int .i64 h, .int .i64 mi] 24)) := (Below.refl _ _).alloc (Nat.le_refl _) _
  have hR0 : (w.alloc (.cells #[.int .i64 y, .int .i64 m, .int .i64 d, .int .i64 h, .int .i64 mi] 24)).heap[w.heap.size]? = some (.cells #[.int .i64 y, .int .i64 m, .int .i64 d, .int .i64 h, .int .i64 mi] 24 (0, 0)) := Go.heap_alloc_new w _
  have hs0 : w.heap.size < (w.alloc (.cells #[.int .i64 y, .int .i64 m, .int .i64 d, .int .i64 h, .int .i64 mi] 24)).heap.size := by simp
  generalize w.alloc (.cells #[.int .i64 y, .int .i64 m, .int .i64 d, .int .i64 h, .int .i64 mi] 24) = V at hV0 hR0 hs0 ⊢
  generalize hB : w.heap.size = B at hV0 hR0 hs0 ⊢
  have hHB := Lib.hid hB
  clear hB
  obtain ⟨C, k1, kV, kb, kr⟩ : ∃ C : World → Prop, C { V with drawn := V.drawn + 1 } ∧ (∀ W, C W → Below V.heap.size V W) ∧ (∀ W W', C W → Below W.heap.size W W' → C W') ∧ (∀ W, C W → W.heap[B]? = some (.cells #[.int .i64 y, .int .i64 m, .int .i64 d, .int .i64 h, .int .i64 mi] 24 (0, 0))) :=
    ⟨fun W => Below V.heap.size V W, (Below.refl _ _).drew, fun W h => h, fun W W' h hb => h.trans (hb.mono h.size), fun W h => (h.block _ hs0).trans hR0⟩
  have hcm : Hid (∀ W, C W → Calls Tryd.prog 28 #[.int .i64 y, .int .i64 m] W fun e w' => e = .returned (.int .i64 q) ∧ C w') := Lib.hid fun W hW => (Tryd.dMonthDays y m (by omega) (by omega) (by omega) (by omega) W).mono fun e w' h => ⟨by rw [← hq.out]; exact h.1, kb W w' hW h.2⟩
  have c0 := Lib.hid (fun W hW => (cells5 (kr W hW)).1)
  have c1 := Lib.hid (fun W hW => (cells5 (kr W hW)).2.1)
  have c2 := Lib.hid (fun W hW => (cells5 (kr W hW)).2.2.1)
  have c3 := Lib.hid (fun W hW => (cells5 (kr W hW)).2.2.2.1)
  have c4 := Lib.hid (fun W hW => (cells5 (kr W hW)).2.2.2.2.1)
  have hC1 := Lib.hid k1
  have hCV := Lib.hid kV
  have hRV := Lib.hid hR0
  have hsV := Lib.hid hs0
  have hVV := Lib.hid hV0
  clear k1 kV kb kr hR0 hs0 hV0
  refine q_region C (by kernel_rfl) (by kernel_rfl) hC1.out ?_
  with_reducible refine wpQuiet_step ?_
  intro K hK
  go_simp
  first
  | (refine hK _ ?_; clear hK K)
  | (apply Exists.intro
     refine ⟨fun W hW => ?_, hK _ ?_⟩
     first
     | exact rfl
     | exact ⟨rfl, rfl⟩
     | (with_reducible exact hcm.out W hW)
     clear hK K)
  with_reducible refine q_lds Tryd.isAgg3 (.tmp 25) ?_ ?_ ⟨B, 2, none⟩ ?_ (.int .i64 d) c2.out ?_
  · rfl
  · rfl
  · rfl
  try simp only [Act.put, List.getElem_toArray, List.getElem_cons_zero, List.getElem_cons_succ, List.setIfInBounds_toArray, List.set_cons_zero, List.set_cons_succ]
  with_reducible refine wpQuiet_step ?_
  intro K hK
  go_simp
  first
  | (refine hK _ ?_; clear hK K)
  | (apply Exists.intro
     refine ⟨fun W hW => ?_, hK _ ?_⟩
     first
     | exact rfl
     | exact ⟨rfl, rfl⟩
     | (with_reducible exact hcm.out W hW)
     clear hK K)
  with_reducible refine wpQuiet_step ?_
  intro K hK
  go_simp
  first
  | (refine hK _ ?_; clear hK K)
  | (apply Exists.intro
     refine ⟨fun W hW => ?_, hK _ ?_⟩
     first
     | exact rfl
     | exact ⟨rfl, rfl⟩
     | (with_reducible exact hcm.out W hW)
     clear hK K)
  with_reducible refine wpQuiet_step ?_
  intro K hK
  go_simp
  first
  | (refine hK _ ?_; clear hK K)
  | (apply Exists.intro
     refine ⟨fun W hW => ?_, hK _ ?_⟩
     first
     | exact rfl
     | exact ⟨rfl, rfl⟩
     | (with_reducible exact hcm.out W hW)
     clear hK K)
  with_reducible refine q_lds Tryd.isAgg3 (.tmp 29) ?_ ?_ ⟨B, 2, none⟩ ?_ (.int .i64 d) c2.out ?_
  · rfl
  · rfl
  · rfl
  try simp only [Act.put, List.getElem_toArray, List.getElem_cons_zero, List.getElem_cons_succ, List.setIfInBounds_toArray, List.set_cons_zero, List.set_cons_succ]
  with_reducible refine wpQuiet_step ?_
  intro K hK
  go_simp
  first
  | (refine hK _ ?_; clear hK K)
  | (apply Exists.intro
     refine ⟨fun W hW => ?_, hK _ ?_⟩
     first
     | exact rfl
     | exact ⟨rfl, rfl⟩
     | (with_reducible exact hcm.out W hW)
     clear hK K)
  with_reducible refine q_lds Tryd.isAgg3 (.tmp 31) ?_ ?_ ⟨B, 0, none⟩ ?_ (.int .i64 y) c0.out ?_
  · rfl
  · rfl
  · rfl
  try simp only [Act.put, List.getElem_toArray, List.getElem_cons_zero, List.getElem_cons_succ, List.setIfInBounds_toArray, List.set_cons_zero, List.set_cons_succ]
  with_reducible refine wpQuiet_step ?_
  intro K hK
  go_simp
  first
  | (refine hK _ ?_; clear hK K)
  | (apply Exists.intro
     refine ⟨fun W hW => ?_, hK _ ?_⟩
     first
     | exact rfl
     | exact ⟨rfl, rfl⟩
     | (with_reducible exact hcm.out W hW)
     clear hK K)
  with_reducible refine q_lds Tryd.isAgg3 (.tmp 33) ?_ ?_ ⟨B, 1, none⟩ ?_ (.int .i64 m) c1.out ?_
  · rfl
  · rfl
  · rfl
  try simp only [Act.put, List.getElem_toArray, List.getElem_cons_zero, List.getElem_cons_succ, List.setIfInBounds_toArray, List.set_cons_zero, List.set_cons_succ]
  with_reducible refine wpQuiet_step ?_
  intro K hK
  go_simp
  first
  | (refine hK _ ?_; clear hK K)
  | (apply Exists.intro
     refine ⟨fun W hW => ?_, hK _ ?_⟩
     first
     | exact rfl
     | exact ⟨rfl, rfl⟩
     | (with_reducible exact hcm.out W hW)
     clear hK K)
  with_reducible refine wpQuiet_step ?_
  intro K hK
  go_simp
  first
  | (refine hK _ ?_; clear hK K)
  | (apply Exists.intro
     refine ⟨fun W hW => ?_, hK _ ?_⟩
     first
     | exact rfl
     | exact ⟨rfl, rfl⟩
     | (with_reducible exact hcm.out W hW)
     clear hK K)
  with_reducible refine wpQuiet_step ?_
  intro K hK
  go_simp
  first
  | (refine hK _ ?_; clear hK K)
  | (apply Exists.intro
     refine ⟨fun W hW => ?_, hK _ ?_⟩
     first
     | exact rfl
     | exact ⟨rfl, rfl⟩
     | (with_reducible exact hcm.out W hW)
     clear hK K)
  with_reducible refine wpQuiet_step ?_
  intro K hK
  go_simp
  first
  | (refine hK _ ?_; clear hK K)
  | (apply Exists.intro
     refine ⟨fun W hW => ?_, hK _ ?_⟩
     first
     | exact rfl
     | exact ⟨rfl, rfl⟩
     | (with_reducible exact hcm.out W hW)
     clear hK K)
  with_reducible refine q_off ?_ ?_
  · rfl
  try simp only [Act.put, List.getElem_toArray, List.getElem_cons_zero, List.getElem_cons_succ, List.setIfInBounds_toArray, List.set_cons_zero, List.set_cons_succ]
  with_reducible refine q_off ?_ ?_
  · rfl
  try simp only [Act.put, List.getElem_toArray, List.getElem_cons_zero, List.getElem_cons_succ, List.setIfInBounds_toArray, List.set_cons_zero, List.set_cons_succ]
  with_reducible refine q_off ?_ ?_
  · rfl
  try simp only [Act.put, List.getElem_toArray, List.getElem_cons_zero, List.getElem_cons_succ, List.setIfInBounds_toArray, List.set_cons_zero, List.set_cons_succ]
  with_reducible refine wpQuiet_step ?_
  intro K hK
  go_simp
  first
  | (refine hK _ ?_; clear hK K)
  | (apply Exists.intro
     refine ⟨fun W hW => ?_, hK _ ?_⟩
     first
     | exact rfl
     | exact ⟨rfl, rfl⟩
     | (with_reducible exact hcm.out W hW)
     clear hK K)
  with_reducible refine wpQuiet_step ?_
  intro K hK
  go_simp
  first
  | (refine hK _ ?_; clear hK K)
  | (apply Exists.intro
     refine ⟨fun W hW => ?_, hK _ ?_⟩
     first
     | exact rfl
     | exact ⟨rfl, rfl⟩
     | (with_reducible exact hcm.out W hW)
     clear hK K)
  with_reducible refine q_off ?_ ?_
  · rfl
  try simp only [Act.put, List.getElem_toArray, List.getElem_cons_zero, List.getElem_cons_succ, List.setIfInBounds_toArray, List.set_cons_zero, List.set_cons_succ]
  with_reducible refine q_off ?_ ?_
  · rfl
  try simp only [Act.put, List.getElem_toArray, List.getElem_cons_zero, List.getElem_cons_succ, List.setIfInBounds_toArray, List.set_cons_zero, List.set_cons_succ]
  with_reducible refine q_off ?_ ?_
  · rfl
  try simp only [Act.put, List.getElem_toArray, List.getElem_cons_zero, List.getElem_cons_succ, List.setIfInBounds_toArray, List.set_cons_zero, List.set_cons_succ]
  with_reducible refine wpQuiet_step ?_
  intro K hK
  go_simp
  first
  | (refine hK _ ?_; clear hK K)
  | (apply Exists.intro
     refine ⟨fun W hW => ?_, hK _ ?_⟩
     first
     | exact rfl
     | exact ⟨rfl, rfl⟩
     | (with_reducible exact hcm.out W hW)
     clear hK K)
  with_reducible refine wpQuiet_step ?_
  intro K hK
  go_simp
  first
  | (refine hK _ ?_; clear hK K)
  | (apply Exists.intro
     refine ⟨fun W hW => ?_, hK _ ?_⟩
     first
     | exact rfl
     | exact ⟨rfl, rfl⟩
     | (with_reducible exact hcm.out W hW)
     clear hK K)
  with_reducible refine q_off ?_ ?_
  · rfl
  try simp only [Act.put, List.getElem_toArray, List.getElem_cons_zero, List.getElem_cons_succ, List.setIfInBounds_toArray, List.set_cons_zero, List.set_cons_succ]
  with_reducible refine q_off ?_ ?_
  · rfl
  try simp only [Act.put, List.getElem_toArray, List.getElem_cons_zero, List.getElem_cons_succ, List.setIfInBounds_toArray, List.set_cons_zero, List.set_cons_succ]
  with_reducible refine q_off ?_ ?_
  · rfl
  try simp only [Act.put, List.getElem_toArray, List.getElem_cons_zero, List.getElem_cons_succ, List.setIfInBounds_toArray, List.set_cons_zero, List.set_cons_succ]
  with_reducible refine wpQuiet_step ?_
  intro K hK
  go_simp
  first
  | (refine hK _ ?_; clear hK K)
  | (apply Exists.intro
     refine ⟨fun W hW => ?_, hK _ ?_⟩
     first
     | exact rfl
     | exact ⟨rfl, rfl⟩
     | (with_reducible exact hcm.out W hW)
     clear hK K)
  with_reducible refine wpQuiet_step ?_
  intro K hK
  go_simp
  first
  | (refine hK _ ?_; clear hK K)
  | (apply Exists.intro
     refine ⟨fun W hW => ?_, hK _ ?_⟩
     first
     | exact rfl
     | exact ⟨rfl, rfl⟩
     | (with_reducible exact hcm.out W hW)
     clear hK K)
  with_reducible refine q_off ?_ ?_
  · rfl
  try simp only [Act.put, List.getElem_toArray, List.getElem_cons_zero, List.getElem_cons_succ, List.setIfInBounds_toArray, List.set_cons_zero, List.set_cons_succ]
  with_reducible refine q_off ?_ ?_
  · rfl
  try simp only [Act.put, List.getElem_toArray, List.getElem_cons_zero, List.getElem_cons_succ, List.setIfInBounds_toArray, List.set_cons_zero, List.set_cons_succ]
  with_reducible refine q_off ?_ ?_
  · rfl
  try simp only [Act.put, List.getElem_toArray, List.getElem_cons_zero, List.getElem_cons_succ, List.setIfInBounds_toArray, List.set_cons_zero, List.set_cons_succ]
  with_reducible refine wpQuiet_step ?_
  intro K hK
  go_simp
  first
  | (refine hK _ ?_; clear hK K)
  | (apply Exists.intro
     refine ⟨fun W hW => ?_, hK _ ?_⟩
     first
     | exact rfl
     | exact ⟨rfl, rfl⟩
     | (with_reducible exact hcm.out W hW)
     clear hK K)
  refine wpQuiet_nil ?_
  intro V1 hV1
  have hB1 := Lib.hid (hCV.out V1 hV1)
  clear hV1 hcm hC1
  go_wp2
  go_ret2
  exact ⟨by rw [hf.out]; rfl, by rw [hHB.out]; exact hVV.out.trans (hB1.out.mono (Nat.le_of_lt hsV.out))⟩
set_option maxRecDepth 100000 in
set_option maxHeartbeats 1000000 in
theorem Tryd.dFromCivil_date2 (y m d h mi q : Int) (hq : Hid (Cal.md y m = q)) (hd : I64 d) (hh : I64 h) (hmi : I64 mi) (g1 : 2000 ≤ y) (g2 : y ≤ 2199) (g3 : 1 ≤ m) (g4 : m ≤ 12) (hf : Hid (fcv y m d h mi = .tuple #[.int .i64 0, .int .i64 13])) (b0 : decide (d < 1) = false) (b1 : decide (q < d) = false) (b2 : decide (h < 0) = true) (w : World) :
    Calls Tryd.prog 14 #[.agg #[.int .i64 y, .int .i64 m, .int .i64 d, .int .i64 h, .int .i64 mi]] w fun e w' => e = .returned (fcv y m d h mi) ∧ Below w.heap.size w w' := by
  obtain ⟨d0, d1⟩ := hd
  obtain ⟨h0, h1⟩ := hh
  obtain ⟨i0, i1⟩ := hmi
  have n1 : decide (y < 2000) = false := decide_eq_false (by omega)
  have n2 : decide (2199 < y) = false := decide_eq_false (by omega)
  have n3 : decide (m < 1) = false := decide_eq_false (by omega)
  have n4 : decide (12 < m) = false := decide_eq_false (by omega)
  go_enter Tryd.func14, Tryd.ntmps14
  go_wp2_with fail
  have hV0 : Below w.heap.size w (w.alloc (.cells #[.int .i64 y, .int .i64 m, .int .i64 d, .int .i64 h, .int .i64 mi] 24)) := (Below.refl _ _).alloc (Nat.le_refl _) _
  have hR0 : (w.alloc (.cells #[.int .i64 y, .int .i64 m, .int .i64 d, .int .i64 h, .int .i64 mi] 24)).heap[w.heap.size]? = some (.cells #[.int .i64 y, .int .i64 m, .int .i64 d, .int .i64 h, .int .i64 mi] 24 (0, 0)) := Go.heap_alloc_new w _
  have hs0 : w.heap.size < (w.alloc (.cells #[.int .i64 y, .int .i64 m, .int .i64 d, .int .i64 h, .int .i64 mi] 24)).heap.size := by simp
  generalize w.alloc (.cells #[.int .i64 y, .int .i64 m, .int .i64 d, .int .i64 h, .int .i64 mi] 24) = V at hV0 hR0 hs0 ⊢
  generalize hB : w.heap.size = B at hV0 hR0 hs0 ⊢
  have hHB := Lib.hid hB
  clear hB
  obtain ⟨C, k1, kV, kb, kr⟩ : ∃ C : World → Prop, C { V with drawn := V.drawn + 1 } ∧ (∀ W, C W → Below V.heap.size V W) ∧ (∀ W W', C W → Below W.heap.size W W' → C W') ∧ (∀ W, C W → W.heap[B]? = some (.cells #[.int .i64 y, .int .i64 m, .int .i64 d, .int .i64 h, .int .i64 mi] 24 (0, 0))) :=
    ⟨fun W => Below V.heap.size V W, (Below.refl _ _).drew, fun W h => h, fun W W' h hb => h.trans (hb.mono h.size), fun W h => (h.block _ hs0).trans hR0⟩
  have hcm : Hid (∀ W, C W → Calls Tryd.prog 28 #[.int .i64 y, .int .i64 m] W fun e w' => e = .returned (.int .i64 q) ∧ C w') := Lib.hid fun W hW => (Tryd.dMonthDays y m (by omega) (by omega) (by omega) (by omega) W).mono fun e w' h => ⟨by rw [← hq.out]; exact h.1, kb W w' hW h.2⟩
  have c0 := Lib.hid (fun W hW => (cells5 (kr W hW)).1)
  have c1 := Lib.hid (fun W hW => (cells5 (kr W hW)).2.1)
  have c2 := Lib.hid (fun W hW => (cells5 (kr W hW)).2.2.1)
  have c3 := Lib.hid (fun W hW => (cells5 (kr W hW)).2.2.2.1)
  have c4 := Lib.hid (fun W hW => (cells5 (kr W hW)).2.2.2.2.1)
  have hC1 := Lib.hid k1
  have hCV := Lib.hid kV
  have hRV := Lib.hid hR0
  have hsV := Lib.hid hs0
  have hVV := Lib.hid hV0
  clear k1 kV kb kr hR0 hs0 hV0
  refine q_region C (by kernel_rfl) (by kernel_rfl) hC1.out ?_
  with_reducible refine wpQuiet_step ?_
  intro K hK
  go_simp
  first
  | (refine hK _ ?_; clear hK K)
  | (apply Exists.intro
     refine ⟨fun W hW => ?_, hK _ ?_⟩
     first
     | exact rfl
     | exact ⟨rfl, rfl⟩
     | (with_reducible exact hcm.out W hW)
     clear hK K)
  with_reducible refine q_lds Tryd.isAgg3 (.tmp 25) ?_ ?_ ⟨B, 2, none⟩ ?_ (.int .i64 d) c2.out ?_
  · rfl
  · rfl
  · rfl
  try simp only [Act.put, List.getElem_toArray, List.getElem_cons_zero, List.getElem_cons_succ, List.setIfInBounds_toArray, List.set_cons_zero, List.set_cons_succ]
  with_reducible refine wpQuiet_step ?_
  intro K hK
  go_simp
  first
  | (refine hK _ ?_; clear hK K)
  | (apply Exists.intro
     refine ⟨fun W hW => ?_, hK _ ?_⟩
     first
     | exact rfl
     | exact ⟨rfl, rfl⟩
     | (with_reducible exact hcm.out W hW)
     clear hK K)
  with_reducible refine wpQuiet_step ?_
  intro K hK
  go_simp
  first
  | (refine hK _ ?_; clear hK K)
  | (apply Exists.intro
     refine ⟨fun W hW => ?_, hK _ ?_⟩
     first
     | exact rfl
     | exact ⟨rfl, rfl⟩
     | (with_reducible exact hcm.out W hW)
     clear hK K)
  with_reducible refine wpQuiet_step ?_
  intro K hK
  go_simp
  first
  | (refine hK _ ?_; clear hK K)
  | (apply Exists.intro
     refine ⟨fun W hW => ?_, hK _ ?_⟩
     first
     | exact rfl
     | exact ⟨rfl, rfl⟩
     | (with_reducible exact hcm.out W hW)
     clear hK K)
  with_reducible refine q_lds Tryd.isAgg3 (.tmp 29) ?_ ?_ ⟨B, 2, none⟩ ?_ (.int .i64 d) c2.out ?_
  · rfl
  · rfl
  · rfl
  try simp only [Act.put, List.getElem_toArray, List.getElem_cons_zero, List.getElem_cons_succ, List.setIfInBounds_toArray, List.set_cons_zero, List.set_cons_succ]
  with_reducible refine wpQuiet_step ?_
  intro K hK
  go_simp
  first
  | (refine hK _ ?_; clear hK K)
  | (apply Exists.intro
     refine ⟨fun W hW => ?_, hK _ ?_⟩
     first
     | exact rfl
     | exact ⟨rfl, rfl⟩
     | (with_reducible exact hcm.out W hW)
     clear hK K)
  with_reducible refine q_lds Tryd.isAgg3 (.tmp 31) ?_ ?_ ⟨B, 0, none⟩ ?_ (.int .i64 y) c0.out ?_
  · rfl
  · rfl
  · rfl
  try simp only [Act.put, List.getElem_toArray, List.getElem_cons_zero, List.getElem_cons_succ, List.setIfInBounds_toArray, List.set_cons_zero, List.set_cons_succ]
  with_reducible refine wpQuiet_step ?_
  intro K hK
  go_simp
  first
  | (refine hK _ ?_; clear hK K)
  | (apply Exists.intro
     refine ⟨fun W hW => ?_, hK _ ?_⟩
     first
     | exact rfl
     | exact ⟨rfl, rfl⟩
     | (with_reducible exact hcm.out W hW)
     clear hK K)
  with_reducible refine q_lds Tryd.isAgg3 (.tmp 33) ?_ ?_ ⟨B, 1, none⟩ ?_ (.int .i64 m) c1.out ?_
  · rfl
  · rfl
  · rfl
  try simp only [Act.put, List.getElem_toArray, List.getElem_cons_zero, List.getElem_cons_succ, List.setIfInBounds_toArray, List.set_cons_zero, List.set_cons_succ]
  with_reducible refine wpQuiet_step ?_
  intro K hK
  go_simp
  first
  | (refine hK _ ?_; clear hK K)
  | (apply Exists.intro
     refine ⟨fun W hW => ?_, hK _ ?_⟩
     first
     | exact rfl
     | exact ⟨rfl, rfl⟩
     | (with_reducible exact hcm.out W hW)
     clear hK K)
  with_reducible refine wpQuiet_step ?_
  intro K hK
  go_simp
  first
  | (refine hK _ ?_; clear hK K)
  | (apply Exists.intro
     refine ⟨fun W hW => ?_, hK _ ?_⟩
     first
     | exact rfl
     | exact ⟨rfl, rfl⟩
     | (with_reducible exact hcm.out W hW)
     clear hK K)
  with_reducible refine wpQuiet_step ?_
  intro K hK
  go_simp
  first
  | (refine hK _ ?_; clear hK K)
  | (apply Exists.intro
     refine ⟨fun W hW => ?_, hK _ ?_⟩
     first
     | exact rfl
     | exact ⟨rfl, rfl⟩
     | (with_reducible exact hcm.out W hW)
     clear hK K)
  with_reducible refine wpQuiet_step ?_
  intro K hK
  go_simp
  first
  | (refine hK _ ?_; clear hK K)
  | (apply Exists.intro
     refine ⟨fun W hW => ?_, hK _ ?_⟩
     first
     | exact rfl
     | exact ⟨rfl, rfl⟩
     | (with_reducible exact hcm.out W hW)
     clear hK K)
  with_reducible refine wpQuiet_step ?_
  intro K hK
  go_simp
  first
  | (refine hK _ ?_; clear hK K)
  | (apply Exists.intro
     refine ⟨fun W hW => ?_, hK _ ?_⟩
     first
     | exact rfl
     | exact ⟨rfl, rfl⟩
     | (with_reducible exact hcm.out W hW)
     clear hK K)
  with_reducible refine q_lds Tryd.isAgg3 (.tmp 39) ?_ ?_ ⟨B, 3, none⟩ ?_ (.int .i64 h) c3.out ?_
  · rfl
  · rfl
  · rfl
  try simp only [Act.put, List.getElem_toArray, List.getElem_cons_zero, List.getElem_cons_succ, List.setIfInBounds_toArray, List.set_cons_zero, List.set_cons_succ]
  with_reducible refine wpQuiet_step ?_
  intro K hK
  go_simp
  first
  | (refine hK _ ?_; clear hK K)
  | (apply Exists.intro
     refine ⟨fun W hW => ?_, hK _ ?_⟩
     first
     | exact rfl
     | exact ⟨rfl, rfl⟩
     | (with_reducible exact hcm.out W hW)
     clear hK K)
  with_reducible refine wpQuiet_step ?_
  intro K hK
  go_simp
  first
  | (refine hK _ ?_; clear hK K)
  | (apply Exists.intro
     refine ⟨fun W hW => ?_, hK _ ?_⟩
     first
     | exact rfl
     | exact ⟨rfl, rfl⟩
     | (with_reducible exact hcm.out W hW)
     clear hK K)
  with_reducible refine wpQuiet_step ?_
  intro K hK
  go_simp
  first
  | (refine hK _ ?_; clear hK K)
  | (apply Exists.intro
     refine ⟨fun W hW => ?_, hK _ ?_⟩
     first
     | exact rfl
     | exact ⟨rfl, rfl⟩
     | (with_reducible exact hcm.out W hW)
     clear hK K)
  with_reducible refine q_off ?_ ?_
  · rfl
  try simp only [Act.put, List.getElem_toArray, List.getElem_cons_zero, List.getElem_cons_succ, List.setIfInBounds_toArray, List.set_cons_zero, List.set_cons_succ]
  with_reducible refine q_off ?_ ?_
  · rfl
  try simp only [Act.put, List.getElem_toArray, List.getElem_cons_zero, List.getElem_cons_succ, List.setIfInBounds_toArray, List.set_cons_zero, List.set_cons_succ]
  with_reducible refine q_off ?_ ?_
  · rfl
  try simp only [Act.put, List.getElem_toArray, List.getElem_cons_zero, List.getElem_cons_succ, List.setIfInBounds_toArray, List.set_cons_zero, List.set_cons_succ]
  with_reducible refine wpQuiet_step ?_
  intro K hK
  go_simp
  first
  | (refine hK _ ?_; clear hK K)
  | (apply Exists.intro
     refine ⟨fun W hW => ?_, hK _ ?_⟩
     first
     | exact rfl
     | exact ⟨rfl, rfl⟩
     | (with_reducible exact hcm.out W hW)
     clear hK K)
  with_reducible refine wpQuiet_step ?_
  intro K hK
  go_simp
  first
  | (refine hK _ ?_; clear hK K)
  | (apply Exists.intro
     refine ⟨fun W hW => ?_, hK _ ?_⟩
     first
     | exact rfl
     | exact ⟨rfl, rfl⟩
     | (with_reducible exact hcm.out W hW)
     clear hK K)
  with_reducible refine q_off ?_ ?_
  · rfl
  try simp only [Act.put, List.getElem_toArray, List.getElem_cons_zero, List.getElem_cons_succ, List.setIfInBounds_toArray, List.set_cons_zero, List.set_cons_succ]
  with_reducible refine q_off ?_ ?_
  · rfl
  try simp only [Act.put, List.getElem_toArray, List.getElem_cons_zero, List.getElem_cons_succ, List.setIfInBounds_toArray, List.set_cons_zero, List.set_cons_succ]
  with_reducible refine q_off ?_ ?_
  · rfl
  try simp only [Act.put, List.getElem_toArray, List.getElem_cons_zero, List.getElem_cons_succ, List.setIfInBounds_toArray, List.set_cons_zero, List.set_cons_succ]
  with_reducible refine wpQuiet_step ?_
  intro K hK
  go_simp
  first
  | (refine hK _ ?_; clear hK K)
  | (apply Exists.intro
     refine ⟨fun W hW => ?_, hK _ ?_⟩
     first
     | exact rfl
     | exact ⟨rfl, rfl⟩
     | (with_reducible exact hcm.out W hW)
     clear hK K)
  with_reducible refine wpQuiet_step ?_
  intro K hK
  go_simp
  first
  | (refine hK _ ?_; clear hK K)
  | (apply Exists.intro
     refine ⟨fun W hW => ?_, hK _ ?_⟩
     first
     | exact rfl
     | exact ⟨rfl, rfl⟩
     | (with_reducible exact hcm.out W hW)
     clear hK K)
  with_reducible refine q_off ?_ ?_
  · rfl
  try simp only [Act.put, List.getElem_toArray, List.getElem_cons_zero, List.getElem_cons_succ, List.setIfInBounds_toArray, List.set_cons_zero, List.set_cons_succ]
  with_reducible refine q_off ?_ ?_
  · rfl
  try simp only [Act.put, List.getElem_toArray, List.getElem_cons_zero, List.getElem_cons_succ, List.setIfInBounds_toArray, List.set_cons_zero, List.set_cons_succ]
  with_reducible refine q_off ?_ ?_
  · rfl
  try simp only [Act.put, List.getElem_toArray, List.getElem_cons_zero, List.getElem_cons_succ, List.setIfInBounds_toArray, List.set_cons_zero, List.set_cons_succ]
  with_reducible refine wpQuiet_step ?_
  intro K hK
  go_simp
  first
  | (refine hK _ ?_; clear hK K)
  | (apply Exists.intro
     refine ⟨fun W hW => ?_, hK _ ?_⟩
     first
     | exact rfl
     | exact ⟨rfl, rfl⟩
     | (with_reducible exact hcm.out W hW)
     clear hK K)
  refine wpQuiet_nil ?_
  intro V1 hV1
  have hB1 := Lib.hid (hCV.out V1 hV1)
  clear hV1 hcm hC1
  go_wp2
  go_ret2
  exact ⟨by rw [hf.out]; rfl, by rw [hHB.out]; exact hVV.out.trans (hB1.out.mono (Nat.le_of_lt hsV.out))⟩
set_option maxRecDepth 100000 in
set_option maxHeartbeats 1000000 in
theorem Tryd.dFromCivil_date3 (y m d h mi q : Int) (hq : Hid (Cal.md y m = q)) (hd : I64 d) (hh : I64 h) (hmi : I64 mi) (g1 : 2000 ≤ y) (g2 : y ≤ 2199) (g3 : 1 ≤ m) (g4 : m ≤ 12) (hf : Hid (fcv y m d h mi = .tuple #[.int .i64 0, .int .i64 13])) (b0 : decide (d < 1) = false) (b1 : decide (q < d) = false) (b2 : decide (h < 0) = false) (b3 : decide (23 < h) = true) (w : World) :
    Calls Tryd.prog 14 #[.agg #[.int .i64 y, .int .i64 m, .int .i64 d, .int .i64 h, .int .i64 mi]] w fun e w' => e = .returned (fcv y m d h mi) ∧ Below w.heap.size w w' := by
  obtain ⟨d0, d1⟩ := hd
  obtain ⟨h0, h1⟩ := hh
  obtain ⟨i0, i1⟩ := hmi
  have n1 : decide (y < 2000) = false := decide_eq_false (by omega)
  have n2 : decide (2199 < y) = false := decide_eq_false (by omega)
  have n3 : decide (m < 1) = false := decide_eq_false (by omega)
  have n4 : decide (12 < m) = false := decide_eq_false (by omega)
  go_enter Tryd.func14, Tryd.ntmps14
  go_wp2_with fail
  have hV0 : Below w.heap.size w (w.alloc (.cells #[.int .i64 y, .int .i64 m, .int .i64 d, .int .i64 h, .int .i64 mi] 24)) := (Below.refl _ _).alloc (Nat.le_refl _) _
  have hR0 : (w.alloc (.cells #[.int .i64 y, .int .i64 m, .int .i64 d, .int .i64 h, .int .i64 mi] 24)).heap[w.heap.size]? = some (.cells #[.int .i64 y, .int .i64 m, .int .i64 d, .int .i64 h, .int .i64 mi] 24 (0, 0)) := Go.heap_alloc_new w _
  have hs0 : w.heap.size < (w.alloc (.cells #[.int .i64 y, .int .i64 m, .int .i64 d, .int .i64 h, .int .i64 mi] 24)).heap.size := by simp
  generalize w.alloc (.cells #[.int .i64 y, .int .i64 m, .int .i64 d, .int .i64 h, .int .i64 mi] 24) = V at hV0 hR0 hs0 ⊢
  generalize hB : w.heap.size = B at hV0 hR0 hs0 ⊢
  have hHB := Lib.hid hB
  clear hB
  obtain ⟨C, k1, kV, kb, kr⟩ : ∃ C : World → Prop, C { V with drawn := V.drawn + 1 } ∧ (∀ W, C W → Below V.heap.size V W) ∧ (∀ W W', C W → Below W.heap.size W W' → C W') ∧ (∀ W, C W → W.heap[B]? = some (.cells #[.int .i64 y, .int .i64 m, .int .i64 d, .int .i64 h, .int .i64 mi] 24 (0, 0))) :=
    ⟨fun W => Below V.heap.size V W, (Below.refl _ _).drew, fun W h => h, fun W W' h hb => h.trans (hb.mono h.size), fun W h => (h.block _ hs0).trans hR0⟩
  have hcm : Hid (∀ W, C W → Calls Tryd.prog 28 #[.int .i64 y, .int .i64 m] W fun e w' => e = .returned (.int .i64 q) ∧ C w') := Lib.hid fun W hW => (Tryd.dMonthDays y m (by omega) (by omega) (by omega) (by omega) W).mono fun e w' h => ⟨by rw [← hq.out]; exact h.1, kb W w' hW h.2⟩
  have c0 := Lib.hid (fun W hW => (cells5 (kr W hW)).1)
  have c1 := Lib.hid (fun W hW => (cells5 (kr W hW)).2.1)
  have c2 := Lib.hid (fun W hW => (cells5 (kr W hW)).2.2.1)
  have c3 := Lib.hid (fun W hW => (cells5 (kr W hW)).2.2.2.1)
  have c4 := Lib.hid (fun W hW => (cells5 (kr W hW)).2.2.2.2.1)
  have hC1 := Lib.hid k1
  have hCV := Lib.hid kV
  have hRV := Lib.hid hR0
  have hsV := Lib.hid hs0
  have hVV := Lib.hid hV0
  clear k1 kV kb kr hR0 hs0 hV0
  refine q_region C (by kernel_rfl) (by kernel_rfl) hC1.out ?_
  with_reducible refine wpQuiet_step ?_
  intro K hK
  go_simp
  first
  | (refine hK _ ?_; clear hK K)
  | (apply Exists.intro
     refine ⟨fun W hW => ?_, hK _ ?_⟩
     first
     | exact rfl
     | exact ⟨rfl, rfl⟩
     | (with_reducible exact hcm.out W hW)
     clear hK K)
  with_reducible refine q_lds Tryd.isAgg3 (.tmp 25) ?_ ?_ ⟨B, 2, none⟩ ?_ (.int .i64 d) c2.out ?_
  · rfl
  · rfl
  · rfl
  try simp only [Act.put, List.getElem_toArray, List.getElem_cons_zero, List.getElem_cons_succ, List.setIfInBounds_toArray, List.set_cons_zero, List.set_cons_succ]
  with_reducible refine wpQuiet_step ?_
  intro K hK
  go_simp
  first
  | (refine hK _ ?_; clear hK K)
  | (apply Exists.intro
     refine ⟨fun W hW => ?_, hK _ ?_⟩
     first
     | exact rfl
     | exact ⟨rfl, rfl⟩
     | (with_reducible exact hcm.out W hW)
     clear hK K)
  with_reducible refine wpQuiet_step ?_
  intro K hK
  go_simp
  first
  | (refine hK _ ?_; clear hK K)
  | (apply Exists.intro
     refine ⟨fun W hW => ?_, hK _ ?_⟩
     first
     | exact rfl
     | exact ⟨rfl, rfl⟩
     | (with_reducible exact hcm.out W hW)
     clear hK K)
  with_reducible refine wpQuiet_step ?_
  intro K hK
  go_simp
  first
  | (refine hK _ ?_; clear hK K)
  | (apply Exists.intro
     refine ⟨fun W hW => ?_, hK _ ?_⟩
     first
     | exact rfl
     | exact ⟨rfl, rfl⟩
     | (with_reducible exact hcm.out W hW)
     clear hK K)
  with_reducible refine q_lds Tryd.isAgg3 (.tmp 29) ?_ ?_ ⟨B, 2, none⟩ ?_ (.int .i64 d) c2.out ?_
  · rfl
  · rfl
  · rfl
  try simp only [Act.put, List.getElem_toArray, List.getElem_cons_zero, List.getElem_cons_succ, List.setIfInBounds_toArray, List.set_cons_zero, List.set_cons_succ]
  with_reducible refine wpQuiet_step ?_
  intro K hK
  go_simp
  first
  | (refine hK _ ?_; clear hK K)
  | (apply Exists.intro
     refine ⟨fun W hW => ?_, hK _ ?_⟩
     first
     | exact rfl
     | exact ⟨rfl, rfl⟩
     | (with_reducible exact hcm.out W hW)
     clear hK K)
  with_reducible refine q_lds Tryd.isAgg3 (.tmp 31) ?_ ?_ ⟨B, 0, none⟩ ?_ (.int .i64 y) c0.out ?_
  · rfl
  · rfl
  · rfl
  try simp only [Act.put, List.getElem_toArray, List.getElem_cons_zero, List.getElem_cons_succ, List.setIfInBounds_toArray, List.set_cons_zero, List.set_cons_succ]
  with_reducible refine wpQuiet_step ?_
  intro K hK
  go_simp
  first
  | (refine hK _ ?_; clear hK K)
  | (apply Exists.intro
     refine ⟨fun W hW => ?_, hK _ ?_⟩
     first
     | exact rfl
     | exact ⟨rfl, rfl⟩
     | (with_reducible exact hcm.out W hW)
     clear hK K)
  with_reducible refine q_lds Tryd.isAgg3 (.tmp 33) ?_ ?_ ⟨B, 1, none⟩ ?_ (.int .i64 m) c1.out ?_
  · rfl
  · rfl
  · rfl
  try simp only [Act.put, List.getElem_toArray, List.getElem_cons_zero, List.getElem_cons_succ, List.setIfInBounds_toArray, List.set_cons_zero, List.set_cons_succ]
  with_reducible refine wpQuiet_step ?_
  intro K hK
  go_simp
  first
  | (refine hK _ ?_; clear hK K)
  | (apply Exists.intro
     refine ⟨fun W hW => ?_, hK _ ?_⟩
     first
     | exact rfl
     | exact ⟨rfl, rfl⟩
     | (with_reducible exact hcm.out W hW)
     clear hK K)
  with_reducible refine wpQuiet_step ?_
  intro K hK
  go_simp
  first
  | (refine hK _ ?_; clear hK K)
  | (apply Exists.intro
     refine ⟨fun W hW => ?_, hK _ ?_⟩
     first
     | exact rfl
     | exact ⟨rfl, rfl⟩
     | (with_reducible exact hcm.out W hW)
     clear hK K)
  with_reducible refine wpQuiet_step ?_
  intro K hK
  go_simp
  first
  | (refine hK _ ?_; clear hK K)
  | (apply Exists.intro
     refine ⟨fun W hW => ?_, hK _ ?_⟩
     first
     | exact rfl
     | exact ⟨rfl, rfl⟩
     | (with_reducible exact hcm.out W hW)
     clear hK K)
  with_reducible refine wpQuiet_step ?_
  intro K hK
  go_simp
  first
  | (refine hK _ ?_; clear hK K)
  | (apply Exists.intro
     refine ⟨fun W hW => ?_, hK _ ?_⟩
     first
     | exact rfl
     | exact ⟨rfl, rfl⟩
     | (with_reducible exact hcm.out W hW)
     clear hK K)
  with_reducible refine wpQuiet_step ?_
  intro K hK
  go_simp
  first
  | (refine hK _ ?_; clear hK K)
  | (apply Exists.intro
     refine ⟨fun W hW => ?_, hK _ ?_⟩
     first
     | exact rfl
     | exact ⟨rfl, rfl⟩
     | (with_reducible exact hcm.out W hW)
     clear hK K)
  with_reducible refine q_lds Tryd.isAgg3 (.tmp 39) ?_ ?_ ⟨B, 3, none⟩ ?_ (.int .i64 h) c3.out ?_
  · rfl
  · rfl
  · rfl
  try simp only [Act.put, List.getElem_toArray, List.getElem_cons_zero, List.getElem_cons_succ, List.setIfInBounds_toArray, List.set_cons_zero, List.set_cons_succ]
  with_reducible refine wpQuiet_step ?_
  intro K hK
  go_simp
  first
  | (refine hK _ ?_; clear hK K)
  | (apply Exists.intro
     refine ⟨fun W hW => ?_, hK _ ?_⟩
     first
     | exact rfl
     | exact ⟨rfl, rfl⟩
     | (with_reducible exact hcm.out W hW)
     clear hK K)
  with_reducible refine wpQuiet_step ?_
  intro K hK
  go_simp
  first
  | (refine hK _ ?_; clear hK K)
  | (apply Exists.intro
     refine ⟨fun W hW => ?_, hK _ ?_⟩
     first
     | exact rfl
     | exact ⟨rfl, rfl⟩
     | (with_reducible exact hcm.out W hW)
     clear hK K)
  with_reducible refine wpQuiet_step ?_
  intro K hK
  go_simp
  first
  | (refine hK _ ?_; clear hK K)
  | (apply Exists.intro
     refine ⟨fun W hW => ?_, hK _ ?_⟩
     first
     | exact rfl
     | exact ⟨rfl, rfl⟩
     | (with_reducible exact hcm.out W hW)
     clear hK K)
  with_reducible refine wpQuiet_step ?_
  intro K hK
  go_simp
  first
  | (refine hK _ ?_; clear hK K)
  | (apply Exists.intro
     refine ⟨fun W hW => ?_, hK _ ?_⟩
     first
     | exact rfl
     | exact ⟨rfl, rfl⟩
     | (with_reducible exact hcm.out W hW)
     clear hK K)
  with_reducible refine q_lds Tryd.isAgg3 (.tmp 44) ?_ ?_ ⟨B, 3, none⟩ ?_ (.int .i64 h) c3.out ?_
  · rfl
  · rfl
  · rfl
  try simp only [Act.put, List.getElem_toArray, List.getElem_cons_zero, List.getElem_cons_succ, List.setIfInBounds_toArray, List.set_cons_zero, List.set_cons_succ]
  with_reducible refine wpQuiet_step ?_
  intro K hK
  go_simp
  first
  | (refine hK _ ?_; clear hK K)
  | (apply Exists.intro
     refine ⟨fun W hW => ?_, hK _ ?_⟩
     first
     | exact rfl
     | exact ⟨rfl, rfl⟩
     | (with_reducible exact hcm.out W hW)
     clear hK K)
  with_reducible refine wpQuiet_step ?_
  intro K hK
  go_simp
  first
  | (refine hK _ ?_; clear hK K)
  | (apply Exists.intro
     refine ⟨fun W hW => ?_, hK _ ?_⟩
     first
     | exact rfl
     | exact ⟨rfl, rfl⟩
     | (with_reducible exact hcm.out W hW)
     clear hK K)
  with_reducible refine wpQuiet_step ?_
  intro K hK
  go_simp
  first
  | (refine hK _ ?_; clear hK K)
  | (apply Exists.intro
     refine ⟨fun W hW => ?_, hK _ ?_⟩
     first
     | exact rfl
     | exact ⟨rfl, rfl⟩
     | (with_reducible exact hcm.out W hW)
     clear hK K)
  with_reducible refine q_off ?_ ?_
  · rfl
  try simp only [Act.put, List.getElem_toArray, List.getElem_cons_zero, List.getElem_cons_succ, List.setIfInBounds_toArray, List.set_cons_zero, List.set_cons_succ]
  with_reducible refine q_off ?_ ?_
  · rfl
  try simp only [Act.put, List.getElem_toArray, List.getElem_cons_zero, List.getElem_cons_succ, List.setIfInBounds_toArray, List.set_cons_zero, List.set_cons_succ]
  with_reducible refine q_off ?_ ?_
  · rfl
  try simp only [Act.put, List.getElem_toArray, List.getElem_cons_zero, List.getElem_cons_succ, List.setIfInBounds_toArray, List.set_cons_zero, List.set_cons_succ]
  with_reducible refine wpQuiet_step ?_
  intro K hK
  go_simp
  first
  | (refine hK _ ?_; clear hK K)
  | (apply Exists.intro
     refine ⟨fun W hW => ?_, hK _ ?_⟩
     first
     | exact rfl
     | exact ⟨rfl, rfl⟩
     | (with_reducible exact hcm.out W hW)
     clear hK K)
  with_reducible refine wpQuiet_step ?_
  intro K hK
  go_simp
  first
  | (refine hK _ ?_; clear hK K)
  | (apply Exists.intro
     refine ⟨fun W hW => ?_, hK _ ?_⟩
     first
     | exact rfl
     | exact ⟨rfl, rfl⟩
     | (with_reducible exact hcm.out W hW)
     clear hK K)
  with_reducible refine q_off ?_ ?_
  · rfl
  try simp only [Act.put, List.getElem_toArray, List.getElem_cons_zero, List.getElem_cons_succ, List.setIfInBounds_toArray, List.set_cons_zero, List.set_cons_succ]
  with_reducible refine q_off ?_ ?_
  · rfl
  try simp only [Act.put, List.getElem_toArray, List.getElem_cons_zero, List.getElem_cons_succ, List.setIfInBounds_toArray, List.set_cons_zero, List.set_cons_succ]
  with_reducible refine q_off ?_ ?_
  · rfl
  try simp only [Act.put, List.getElem_toArray, List.getElem_cons_zero, List.getElem_cons_succ, List.setIfInBounds_toArray, List.set_cons_zero, List.set_cons_succ]
  with_reducible refine wpQuiet_step ?_
  intro K hK
  go_simp
  first
  | (refine hK _ ?_; clear hK K)
  | (apply Exists.intro
     refine ⟨fun W hW => ?_, hK _ ?_⟩
     first
     | exact rfl
     | exact ⟨rfl, rfl⟩
     | (with_reducible exact hcm.out W hW)
     clear hK K)
  refine wpQuiet_nil ?_
  intro V1 hV1
  have hB1 := Lib.hid (hCV.out V1 hV1)
  clear hV1 hcm hC1
  go_wp2
  go_ret2
  exact ⟨by rw [hf.out]; rfl, by rw [hHB.out]; exact hVV.out.trans (hB1.out.mono (Nat.le_of_lt hsV.out))⟩
set_option maxRecDepth 100000 in
set_option maxHeartbeats 1000000 in
theorem Tryd.dFromCivil_date4 (y m d h mi q : Int) (hq : Hid (Cal.md y m = q)) (hd : I64 d) (hh : I64 h) (hmi : I64 mi) (g1 : 2000 ≤ y) (g2 : y ≤ 2199) (g3 : 1 ≤ m) (g4 : m ≤ 12) (hf : Hid (fcv y m d h mi = .tuple #[.int .i64 0, .int .i64 13])) (b0 : decide (d < 1) = false) (b1 : decide (q < d) = false) (b2 : decide (h < 0) = false) (b3 : decide (23 < h) = false) (b4 : decide (mi < 0) = true) (w : World) :
    Calls Tryd.prog 14 #[.agg #[.int .i64 y, .int .i64 m, .int .i64 d, .int .i64 h, .int .i64 mi]] w fun e w' => e = .returned (fcv y m d h mi) ∧ Below w.heap.size w w' := by
  obtain ⟨d0, d1⟩ := hd
  obtain ⟨h0, h1⟩ := hh
  obtain ⟨i0, i1⟩ := hmi
  have n1 : decide (y < 2000) = false := decide_eq_false (by omega)
  have n2 : decide (2199 < y) = false := decide_eq_false (by omega)
  have n3 : decide (m < 1) = false := decide_eq_false (by omega)
  have n4 : decide (12 < m) = false := decide_eq_false (by omega)
  go_enter Tryd.func14, Tryd.ntmps14
  go_wp2_with fail
  have hV0 : Below w.heap.size w (w.alloc (.cells #[.int .i64 y, .int .i64 m, .int .i64 d, .int .i64 h, .int .i64 mi] 24)) := (Below.refl _ _).alloc (Nat.le_refl _) _
  have hR0 : (w.alloc (.cells #[.int .i64 y, .int .i64 m, .int .i64 d, .int .i64 h, .int .i64 mi] 24)).heap[w.heap.size]? = some (.cells #[.int .i64 y, .int .i64 m, .int .i64 d, .int .i64 h, .int .i64 mi] 24 (0, 0)) := Go.heap_alloc_new w _
  have hs0 : w.heap.size < (w.alloc (.cells #[.int .i64 y, .int .i64 m, .int .i64 d, .int .i64 h, .int .i64 mi] 24)).heap.size := by simp
  generalize w.alloc (.cells #[.int .i64 y, .int .i64 m, .int .i64 d, .int .i64 h, .int .i64 mi] 24) = V at hV0 hR0 hs0 ⊢
  generalize hB : w.heap.size = B at hV0 hR0 hs0 ⊢
  have hHB := Lib.hid hB
  clear hB
  obtain ⟨C, k1, kV, kb, kr⟩ : ∃ C : World → Prop, C { V with drawn := V.drawn + 1 } ∧ (∀ W, C W → Below V.heap.size V W) ∧ (∀ W W', C W → Below W.heap.size W W' → C W') ∧ (∀ W, C W → W.heap[B]? = some (.cells #[.int .i64 y, .int .i64 m, .int .i64 d, .int .i64 h, .int .i64 mi] 24 (0, 0))) :=
    ⟨fun W => Below V.heap.size V W, (Below.refl _ _).drew, fun W h => h, fun W W' h hb => h.trans (hb.mono h.size), fun W h => (h.block _ hs0).trans hR0⟩
  have hcm : Hid (∀ W, C W → Calls Tryd.prog 28 #[.int .i64 y, .int .i64 m] W fun e w' => e = .returned (.int .i64 q) ∧ C w') := Lib.hid fun W hW => (Tryd.dMonthDays y m (by omega) (by omega) (by omega) (by omega) W).mono fun e w' h => ⟨by rw [← hq.out]; exact h.1, kb W w' hW h.2⟩
  have c0 := Lib.hid (fun W hW => (cells5 (kr W hW)).1)
  have c1 := Lib.hid (fun W hW => (cells5 (kr W hW)).2.1)
  have c2 := Lib.hid (fun W hW => (cells5 (kr W hW)).2.2.1)
  have c3 := Lib.hid (fun W hW => (cells5 (kr W hW)).2.2.2.1)
  have c4 := Lib.hid (fun W hW => (cells5 (kr W hW)).2.2.2.2.1)
  have hC1 := Lib.hid k1
  have hCV := Lib.hid kV
  have hRV := Lib.hid hR0
  have hsV := Lib.hid hs0
  have hVV := Lib.hid hV0
  clear k1 kV kb kr hR0 hs0 hV0
  refine q_region C (by kernel_rfl) (by kernel_rfl) hC1.out ?_
  with_reducible refine wpQuiet_step ?_
  intro K hK
  go_simp
  first
  | (refine hK _ ?_; clear hK K)
  | (apply Exists.intro
     refine ⟨fun W hW => ?_, hK _ ?_⟩
     first
     | exact rfl
     | exact ⟨rfl, rfl⟩
     | (with_reducible exact hcm.out W hW)
     clear hK K)
  with_reducible refine q_lds Tryd.isAgg3 (.tmp 25) ?_ ?_ ⟨B, 2, none⟩ ?_ (.int .i64 d) c2.out ?_
  · rfl
  · rfl
  · rfl
  try simp only [Act.put, List.getElem_toArray, List.getElem_cons_zero, List.getElem_cons_succ, List.setIfInBounds_toArray, List.set_cons_zero, List.set_cons_succ]
  with_reducible refine wpQuiet_step ?_
  intro K hK
  go_simp
  first
  | (refine hK _ ?_; clear hK K)
  | (apply Exists.intro
     refine ⟨fun W hW => ?_, hK _ ?_⟩
     first
     | exact rfl
     | exact ⟨rfl, rfl⟩
     | (with_reducible exact hcm.out W hW)
     clear hK K)
  with_reducible refine wpQuiet_step ?_
  intro K hK
  go_simp
  first
  | (refine hK _ ?_; clear hK K)
  | (apply Exists.intro
     refine ⟨fun W hW => ?_, hK _ ?_⟩
     first
     | exact rfl
     | exact ⟨rfl, rfl⟩
     | (with_reducible exact hcm.out W hW)
     clear hK K)
  with_reducible refine wpQuiet_step ?_
  intro K hK
  go_simp
  first
  | (refine hK _ ?_; clear hK K)
  | (apply Exists.intro
     refine ⟨fun W hW => ?_, hK _ ?_⟩
     first
     | exact rfl
     | exact ⟨rfl, rfl⟩
     | (with_reducible exact hcm.out W hW)
     clear hK K)
  with_reducible refine q_lds Tryd.isAgg3 (.tmp 29) ?_ ?_ ⟨B, 2, none⟩ ?_ (.int .i64 d) c2.out ?_
  · rfl
  · rfl
  · rfl
  try simp only [Act.put, List.getElem_toArray, List.getElem_cons_zero, List.getElem_cons_succ, List.setIfInBounds_toArray, List.set_cons_zero, List.set_cons_succ]
  with_reducible refine wpQuiet_step ?_
  intro K hK
  go_simp
  first
  | (refine hK _ ?_; clear hK K)
  | (apply Exists.intro
     refine ⟨fun W hW => ?_, hK _ ?_⟩
     first
     | exact rfl
     | exact ⟨rfl, rfl⟩
     | (with_reducible exact hcm.out W hW)
     clear hK K)
  with_reducible refine q_lds Tryd.isAgg3 (.tmp 31) ?_ ?_ ⟨B, 0, none⟩ ?_ (.int .i64 y) c0.out ?_
  · rfl
  · rfl
  · rfl
  try simp only [Act.put, List.getElem_toArray, List.getElem_cons_zero, List.getElem_cons_succ, List.setIfInBounds_toArray, List.set_cons_zero, List.set_cons_succ]
  with_reducible refine wpQuiet_step ?_
  intro K hK
  go_simp
  first
  | (refine hK _ ?_; clear hK K)
  | (apply Exists.intro
     refine ⟨fun W hW => ?_, hK _ ?_⟩
     first
     | exact rfl
     | exact ⟨rfl, rfl⟩
     | (with_reducible exact hcm.out W hW)
     clear hK K)
  with_reducible refine q_lds Tryd.isAgg3 (.tmp 33) ?_ ?_ ⟨B, 1, none⟩ ?_ (.int .i64 m) c1.out ?_
  · rfl
  · rfl
  · rfl
  try simp only [Act.put, List.getElem_toArray, List.getElem_cons_zero, List.getElem_cons_succ, List.setIfInBounds_toArray, List.set_cons_zero, List.set_cons_succ]
  with_reducible refine wpQuiet_step ?_
  intro K hK
  go_simp
  first
  | (refine hK _ ?_; clear hK K)
  | (apply Exists.intro
     refine ⟨fun W hW => ?_, hK _ ?_⟩
     first
     | exact rfl
     | exact ⟨rfl, rfl⟩
     | (with_reducible exact hcm.out W hW)
     clear hK K)
  with_reducible refine wpQuiet_step ?_
  intro K hK
  go_simp
  first
  | (refine hK _ ?_; clear hK K)
  | (apply Exists.intro
     refine ⟨fun W hW => ?_, hK _ ?_⟩
     first
     | exact rfl
     | exact ⟨rfl, rfl⟩
     | (with_reducible exact hcm.out W hW)
     clear hK K)
  with_reducible refine wpQuiet_step ?_
  intro K hK
  go_simp
  first
  | (refine hK _ ?_; clear hK K)
  | (apply Exists.intro
     refine ⟨fun W hW => ?_, hK _ ?_⟩
     first
     | exact rfl
     | exact ⟨rfl, rfl⟩
     | (with_reducible exact hcm.out W hW)
     clear hK K)
  with_reducible refine wpQuiet_step ?_
  intro K hK
  go_simp
  first
  | (refine hK _ ?_; clear hK K)
  | (apply Exists.intro
     refine ⟨fun W hW => ?_, hK _ ?_⟩
     first
     | exact rfl
     | exact ⟨rfl, rfl⟩
     | (with_reducible exact hcm.out W hW)
     clear hK K)
  with_reducible refine wpQuiet_step ?_
  intro K hK
  go_simp
  first
  | (refine hK _ ?_; clear hK K)
  | (apply Exists.intro
     refine ⟨fun W hW => ?_, hK _ ?_⟩
     first
     | exact rfl
     | exact ⟨rfl, rfl⟩
     | (with_reducible exact hcm.out W hW)
     clear hK K)
  with_reducible refine q_lds Tryd.isAgg3 (.tmp 39) ?_ ?_ ⟨B, 3, none⟩ ?_ (.int .i64 h) c3.out ?_
  · rfl
  · rfl
  · rfl
  try simp only [Act.put, List.getElem_toArray, List.getElem_cons_zero, List.getElem_cons_succ, List.setIfInBounds_toArray, List.set_cons_zero, List.set_cons_succ]
  with_reducible refine wpQuiet_step ?_
  intro K hK
  go_simp
  first
  | (refine hK _ ?_; clear hK K)
  | (apply Exists.intro
     refine ⟨fun W hW => ?_, hK _ ?_⟩
     first
     | exact rfl
     | exact ⟨rfl, rfl⟩
     | (with_reducible exact hcm.out W hW)
     clear hK K)
  with_reducible refine wpQuiet_step ?_
  intro K hK
  go_simp
  first
  | (refine hK _ ?_; clear hK K)
  | (apply Exists.intro
     refine ⟨fun W hW => ?_, hK _ ?_⟩
     first
     | exact rfl
     | exact ⟨rfl, rfl⟩
     | (with_reducible exact hcm.out W hW)
     clear hK K)
  with_reducible refine wpQuiet_step ?_
  intro K hK
  go_simp
  first
  | (refine hK _ ?_; clear hK K)
  | (apply Exists.intro
     refine ⟨fun W hW => ?_, hK _ ?_⟩
     first
     | exact rfl
     | exact ⟨rfl, rfl⟩
     | (with_reducible exact hcm.out W hW)
     clear hK K)
  with_reducible refine wpQuiet_step ?_
  intro K hK
  go_simp
  first
  | (refine hK _ ?_; clear hK K)
  | (apply Exists.intro
     refine ⟨fun W hW => ?_, hK _ ?_⟩
     first
     | exact rfl
     | exact ⟨rfl, rfl⟩
     | (with_reducible exact hcm.out W hW)
     clear hK K)
  with_reducible refine q_lds Tryd.isAgg3 (.tmp 44) ?_ ?_ ⟨B, 3, none⟩ ?_ (.int .i64 h) c3.out ?_
  · rfl
  · rfl
  · rfl
  try simp only [Act.put, List.getElem_toArray, List.getElem_cons_zero, List.getElem_cons_succ, List.setIfInBounds_toArray, List.set_cons_zero, List.set_cons_succ]
  with_reducible refine wpQuiet_step ?_
  intro K hK
  go_simp
  first
  | (refine hK _ ?_; clear hK K)
  | (apply Exists.intro
     refine ⟨fun W hW => ?_, hK _ ?_⟩
     first
     | exact rfl
     | exact ⟨rfl, rfl⟩
     | (with_reducible exact hcm.out W hW)
     clear hK K)
  with_reducible refine wpQuiet_step ?_
  intro K hK
  go_simp
  first
  | (refine hK _ ?_; clear hK K)
  | (apply Exists.intro
     refine ⟨fun W hW => ?_, hK _ ?_⟩
     first
     | exact rfl
     | exact ⟨rfl, rfl⟩
     | (with_reducible exact hcm.out W hW)
     clear hK K)
  with_reducible refine wpQuiet_step ?_
  intro K hK
  go_simp
  first
  | (refine hK _ ?_; clear hK K)
  | (apply Exists.intro
     refine ⟨fun W hW => ?_, hK _ ?_⟩
     first
     | exact rfl
     | exact ⟨rfl, rfl⟩
     | (with_reducible exact hcm.out W hW)
     clear hK K)
  with_reducible refine wpQuiet_step ?_
  intro K hK
  go_simp
  first
  | (refine hK _ ?_; clear hK K)
  | (apply Exists.intro
     refine ⟨fun W hW => ?_, hK _ ?_⟩
     first
     | exact rfl
     | exact ⟨rfl, rfl⟩
     | (with_reducible exact hcm.out W hW)
     clear hK K)
  with_reducible refine q_lds Tryd.isAgg3 (.tmp 49) ?_ ?_ ⟨B, 4, none⟩ ?_ (.int .i64 mi) c4.out ?_
  · rfl
  · rfl
  · rfl
  try simp only [Act.put, List.getElem_toArray, List.getElem_cons_zero, List.getElem_cons_succ, List.setIfInBounds_toArray, List.set_cons_zero, List.set_cons_succ]
  with_reducible refine wpQuiet_step ?_
  intro K hK
  go_simp
  first
  | (refine hK _ ?_; clear hK K)
  | (apply Exists.intro
     refine ⟨fun W hW => ?_, hK _ ?_⟩
     first
     | exact rfl
     | exact ⟨rfl, rfl⟩
     | (with_reducible exact hcm.out W hW)
     clear hK K)
  with_reducible refine wpQuiet_step ?_
  intro K hK
  go_simp
  first
  | (refine hK _ ?_; clear hK K)
  | (apply Exists.intro
     refine ⟨fun W hW => ?_, hK _ ?_⟩
     first
     | exact rfl
     | exact ⟨rfl, rfl⟩
     | (with_reducible exact hcm.out W hW)
     clear hK K)
  with_reducible refine wpQuiet_step ?_
  intro K hK
  go_simp
  first
  | (refine hK _ ?_; clear hK K)
  | (apply Exists.intro
     refine ⟨fun W hW => ?_, hK _ ?_⟩
     first
     | exact rfl
     | exact ⟨rfl, rfl⟩
     | (with_reducible exact hcm.out W hW)
     clear hK K)
  with_reducible refine q_off ?_ ?_
  · rfl
  try simp only [Act.put, List.getElem_toArray, List.getElem_cons_zero, List.getElem_cons_succ, List.setIfInBounds_toArray, List.set_cons_zero, List.set_cons_succ]
  with_reducible refine q_off ?_ ?_
  · rfl
  try simp only [Act.put, List.getElem_toArray, List.getElem_cons_zero, List.getElem_cons_succ, List.setIfInBounds_toArray, List.set_cons_zero, List.set_cons_succ]
  with_reducible refine q_off ?_ ?_
  · rfl
  try simp only [Act.put, List.getElem_toArray, List.getElem_cons_zero, List.getElem_cons_succ, List.setIfInBounds_toArray, List.set_cons_zero, List.set_cons_succ]
  with_reducible refine wpQuiet_step ?_
  intro K hK
  go_simp
  first
  | (refine hK _ ?_; clear hK K)
  | (apply Exists.intro
     refine ⟨fun W hW => ?_, hK _ ?_⟩
     first
     | exact rfl
     | exact ⟨rfl, rfl⟩
     | (with_reducible exact hcm.out W hW)
     clear hK K)
  refine wpQuiet_nil ?_
  intro V1 hV1
  have hB1 := Lib.hid (hCV.out V1 hV1)
  clear hV1 hcm hC1
  go_wp2
  go_ret2
  exact ⟨by rw [hf.out]; rfl, by rw [hHB.out]; exact hVV.out.trans (hB1.out.mono (Nat.le_of_lt hsV.out))⟩
set_option maxRecDepth 100000 in
set_option maxHeartbeats 1000000 in
theorem Tryd.dFromCivil_date5 (y m d h mi q : Int) (hq : Hid (Cal.md y m = q)) (hd : I64 d) (hh : I64 h) (hmi : I64 mi) (g1 : 2000 ≤ y) (g2 : y ≤ 2199) (g3 : 1 ≤ m) (g4 : m ≤ 12) (hf : Hid (fcv y m d h mi = .tuple #[.int .i64 0, .int .i64 13])) (b0 : decide (d < 1) = false) (b1 : decide (q < d) = false) (b2 : decide (h < 0) = false) (b3 : decide (23 < h) = false) (b4 : decide (mi < 0) = false) (b5 : decide (59 < mi) = true) (w : World) :
    Calls Tryd.prog 14 #[.agg #[.int .i64 y, .int .i64 m, .int .i64 d, .int .i64 h, .int .i64 mi]] w fun e w' => e = .returned (fcv y m d h mi) ∧ Below w.heap.size w w' := by
  obtain ⟨d0, d1⟩ := hd
  obtain ⟨h0, h1⟩ := hh
  obtain ⟨i0, i1⟩ := hmi
  have n1 : decide (y < 2000) = false := decide_eq_false (by omega)
  have n2 : decide (2199 < y) = false := decide_eq_false (by omega)
  have n3 : decide (m < 1) = false := decide_eq_false (by omega)
  have n4 : decide (12 < m) = false := decide_eq_false (by omega)
  go_enter Tryd.func14, Tryd.ntmps14
  go_wp2_with fail
  have hV0 : Below w.heap.size w (w.alloc (.cells #[.int .i64 y, .int .i64 m, .int .i64 d, .int .i64 h, .int .i64 mi] 24)) := (Below.refl _ _).alloc (Nat.le_refl _) _
  have hR0 : (w.alloc (.cells #[.int .i64 y, .int .i64 m, .int .i64 d, .int .i64 h, .int .i64 mi] 24)).heap[w.heap.size]? = some (.cells #[.int .i64 y, .int .i64 m, .int .i64 d, .int .i64 h, .int .i64 mi] 24 (0, 0)) := Go.heap_alloc_new w _
  have hs0 : w.heap.size < (w.alloc (.cells #[.int .i64 y, .int .i64 m, .int .i64 d, .int .i64 h, .int .i64 mi] 24)).heap.size := by simp
  generalize w.alloc (.cells #[.int .i64 y, .int .i64 m, .int .i64 d, .int .i64 h, .int .i64 mi] 24) = V at hV0 hR0 hs0 ⊢
  generalize hB : w.heap.size = B at hV0 hR0 hs0 ⊢
  have hHB := Lib.hid hB
  clear hB
  obtain ⟨C, k1, kV, kb, kr⟩ : ∃ C : World → Prop, C { V with drawn := V.drawn + 1 } ∧ (∀ W, C W → Below V.heap.size V W) ∧ (∀ W W', C W → Below W.heap.size W W' → C W') ∧ (∀ W, C W → W.heap[B]? = some (.cells #[.int .i64 y, .int .i64 m, .int .i64 d, .int .i64 h, .int .i64 mi] 24 (0, 0))) :=
    ⟨fun W => Below V.heap.size V W, (Below.refl _ _).drew, fun W h => h, fun W W' h hb => h.trans (hb.mono h.size), fun W h => (h.block _ hs0).trans hR0⟩
  have hcm : Hid (∀ W, C W → Calls Tryd.prog 28 #[.int .i64 y, .int .i64 m] W fun e w' => e = .returned (.int .i64 q) ∧ C w') := Lib.hid fun W hW => (Tryd.dMonthDays y m (by omega) (by omega) (by omega) (by omega) W).mono fun e w' h => ⟨by rw [← hq.out]; exact h.1, kb W w' hW h.2⟩
  have c0 := Lib.hid (fun W hW => (cells5 (kr W hW)).1)
  have c1 := Lib.hid (fun W hW => (cells5 (kr W hW)).2.1)
  have c2 := Lib.hid (fun W hW => (cells5 (kr W hW)).2.2.1)
  have c3 := Lib.hid (fun W hW => (cells5 (kr W hW)).2.2.2.1)
  have c4 := Lib.hid (fun W hW => (cells5 (kr W hW)).2.2.2.2.1)
  have hC1 := Lib.hid k1
  have hCV := Lib.hid kV
  have hRV := Lib.hid hR0
  have hsV := Lib.hid hs0
  have hVV := Lib.hid hV0
  clear k1 kV kb kr hR0 hs0 hV0
  refine q_region C (by kernel_rfl) (by kernel_rfl) hC1.out ?_
  with_reducible refine wpQuiet_step ?_
  intro K hK
  go_simp
  first
  | (refine hK _ ?_; clear hK K)
  | (apply Exists.intro
     refine ⟨fun W hW => ?_, hK _ ?_⟩
     first
     | exact rfl
     | exact ⟨rfl, rfl⟩
     | (with_reducible exact hcm.out W hW)
     clear hK K)
  with_reducible refine q_lds Tryd.isAgg3 (.tmp 25) ?_ ?_ ⟨B, 2, none⟩ ?_ (.int .i64 d) c2.out ?_
  · rfl
  · rfl
  · rfl
  try simp only [Act.put, List.getElem_toArray, List.getElem_cons_zero, List.getElem_cons_succ, List.setIfInBounds_toArray, List.set_cons_zero, List.set_cons_succ]
  with_reducible refine wpQuiet_step ?_
  intro K hK
  go_simp
  first
  | (refine hK _ ?_; clear hK K)
  | (apply Exists.intro
     refine ⟨fun W hW => ?_, hK _ ?_⟩
     first
     | exact rfl
     | exact ⟨rfl, rfl⟩
     | (with_reducible exact hcm.out W hW)
     clear hK K)
  with_reducible refine wpQuiet_step ?_
  intro K hK
  go_simp
  first
  | (refine hK _ ?_; clear hK K)
  | (apply Exists.intro
     refine ⟨fun W hW => ?_, hK _ ?_⟩
     first
     | exact rfl
     | exact ⟨rfl, rfl⟩
     | (with_reducible exact hcm.out W hW)
     clear hK K)
  with_reducible refine wpQuiet_step ?_
  intro K hK
  go_simp
  first
  | (refine hK _ ?_; clear hK K)
  | (apply Exists.intro
     refine ⟨fun W hW => ?_, hK _ ?_⟩
     first
     | exact rfl
     | exact ⟨rfl, rfl⟩
     | (with_reducible exact hcm.out W hW)
     clear hK K)
  with_reducible refine q_lds Tryd.isAgg3 (.tmp 29) ?_ ?_ ⟨B, 2, none⟩ ?_ (.int .i64 d) c2.out ?_
  · rfl
  · rfl
  · rfl
  try simp only [Act.put, List.getElem_toArray, List.getElem_cons_zero, List.getElem_cons_succ, List.setIfInBounds_toArray, List.set_cons_zero, List.set_cons_succ]
  with_reducible refine wpQuiet_step ?_
  intro K hK
  go_simp
  first
  | (refine hK _ ?_; clear hK K)
  | (apply Exists.intro
     refine ⟨fun W hW => ?_, hK _ ?_⟩
     first
     | exact rfl
     | exact ⟨rfl, rfl⟩
     | (with_reducible exact hcm.out W hW)
     clear hK K)
  with_reducible refine q_lds Tryd.isAgg3 (.tmp 31) ?_ ?_ ⟨B, 0, none⟩ ?_ (.int .i64 y) c0.out ?_
  · rfl
  · rfl
  · rfl
  try simp only [Act.put, List.getElem_toArray, List.getElem_cons_zero, List.getElem_cons_succ, List.setIfInBounds_toArray, List.set_cons_zero, List.set_cons_succ]
  with_reducible refine wpQuiet_step ?_
  intro K hK
  go_simp
  first
  | (refine hK _ ?_; clear hK K)
  | (apply Exists.intro
     refine ⟨fun W hW => ?_, hK _ ?_⟩
     first
     | exact rfl
     | exact ⟨rfl, rfl⟩
     | (with_reducible exact hcm.out W hW)
     clear hK K)
  with_reducible refine q_lds Tryd.isAgg3 (.tmp 33) ?_ ?_ ⟨B, 1, none⟩ ?_ (.int .i64 m) c1.out ?_
  · rfl
  · rfl
  · rfl
  try simp only [Act.put, List.getElem_toArray, List.getElem_cons_zero, List.getElem_cons_succ, List.setIfInBounds_toArray, List.set_cons_zero, List.set_cons_succ]
  with_reducible refine wpQuiet_step ?_
  intro K hK
  go_simp
  first
  | (refine hK _ ?_; clear hK K)
  | (apply Exists.intro
     refine ⟨fun W hW => ?_, hK _ ?_⟩
     first
     | exact rfl
     | exact ⟨rfl, rfl⟩
     | (with_reducible exact hcm.out W hW)
     clear hK K)
  with_reducible refine wpQuiet_step ?_
  intro K hK
  go_simp
  first
  | (refine hK _ ?_; clear hK K)
  | (apply Exists.intro
     refine ⟨fun W hW => ?_, hK _ ?_⟩
     first
     | exact rfl
     | exact ⟨rfl, rfl⟩
     | (with_reducible exact hcm.out W hW)
     clear hK K)
  with_reducible refine wpQuiet_step ?_
  intro K hK
  go_simp
  first
  | (refine hK _ ?_; clear hK K)
  | (apply Exists.intro
     refine ⟨fun W hW => ?_, hK _ ?_⟩
     first
     | exact rfl
     | exact ⟨rfl, rfl⟩
     | (with_reducible exact hcm.out W hW)
     clear hK K)
  with_reducible refine wpQuiet_step ?_
  intro K hK
  go_simp
  first
  | (refine hK _ ?_; clear hK K)
  | (apply Exists.intro
     refine ⟨fun W hW => ?_, hK _ ?_⟩
     first
     | exact rfl
     | exact ⟨rfl, rfl⟩
     | (with_reducible exact hcm.out W hW)
     clear hK K)
  with_reducible refine wpQuiet_step ?_
  intro K hK
  go_simp
  first
  | (refine hK _ ?_; clear hK K)
  | (apply Exists.intro
     refine ⟨fun W hW => ?_, hK _ ?_⟩
     first
     | exact rfl
     | exact ⟨rfl, rfl⟩
     | (with_reducible exact hcm.out W hW)
     clear hK K)
  with_reducible refine q_lds Tryd.isAgg3 (.tmp 39) ?_ ?_ ⟨B, 3, none⟩ ?_ (.int .i64 h) c3.out ?_
  · rfl
  · rfl
  · rfl
  try simp only [Act.put, List.getElem_toArray, List.getElem_cons_zero, List.getElem_cons_succ, List.setIfInBounds_toArray, List.set_cons_zero, List.set_cons_succ]
  with_reducible refine wpQuiet_step ?_
  intro K hK
  go_simp
  first
  | (refine hK _ ?_; clear hK K)
  | (apply Exists.intro
     refine ⟨fun W hW => ?_, hK _ ?_⟩
     first
     | exact rfl
     | exact ⟨rfl, rfl⟩
     | (with_reducible exact hcm.out W hW)
     clear hK K)
  with_reducible refine wpQuiet_step ?_
  intro K hK
  go_simp
  first
  | (refine hK _ ?_; clear hK K)
  | (apply Exists.intro
     refine ⟨fun W hW => ?_, hK _ ?_⟩
     first
     | exact rfl
     | exact ⟨rfl, rfl⟩
     | (with_reducible exact hcm.out W hW)
     clear hK K)
  with_reducible refine wpQuiet_step ?_
  intro K hK
  go_simp
  first
  | (refine hK _ ?_; clear hK K)
  | (apply Exists.intro
     refine ⟨fun W hW => ?_, hK _ ?_⟩
     first
     | exact rfl
     | exact ⟨rfl, rfl⟩
     | (with_reducible exact hcm.out W hW)
     clear hK K)
  with_reducible refine wpQuiet_step ?_
  intro K hK
  go_simp
  first
  | (refine hK _ ?_; clear hK K)
  | (apply Exists.intro
     refine ⟨fun W hW => ?_, hK _ ?_⟩
     first
     | exact rfl
     | exact ⟨rfl, rfl⟩
     | (with_reducible exact hcm.out W hW)
     clear hK K)
  with_reducible refine q_lds Tryd.isAgg3 (.tmp 44) ?_ ?_ ⟨B, 3, none⟩ ?_ (.int .i64 h) c3.out ?_
  · rfl
  · rfl
  · rfl
  try simp only [Act.put, List.getElem_toArray, List.getElem_cons_zero, List.getElem_cons_succ, List.setIfInBounds_toArray, List.set_cons_zero, List.set_cons_succ]
  with_reducible refine wpQuiet_step ?_
  intro K hK
  go_simp
  first
  | (refine hK _ ?_; clear hK K)
  | (apply Exists.intro
     refine ⟨fun W hW => ?_, hK _ ?_⟩
     first
     | exact rfl
     | exact ⟨rfl, rfl⟩
     | (with_reducible exact hcm.out W hW)
     clear hK K)
  with_reducible refine wpQuiet_step ?_
  intro K hK
  go_simp
  first
  | (refine hK _ ?_; clear hK K)
  | (apply Exists.intro
     refine ⟨fun W hW => ?_, hK _ ?_⟩
     first
     | exact rfl
     | exact ⟨rfl, rfl⟩
     | (with_reducible exact hcm.out W hW)
     clear hK K)
  with_reducible refine wpQuiet_step ?_
  intro K hK
  go_simp
  first
  | (refine hK _ ?_; clear hK K)
  | (apply Exists.intro
     refine ⟨fun W hW => ?_, hK _ ?_⟩
     first
     | exact rfl
     | exact ⟨rfl, rfl⟩
     | (with_reducible exact hcm.out W hW)
     clear hK K)
  with_reducible refine wpQuiet_step ?_
  intro K hK
  go_simp
  first
  | (refine hK _ ?_; clear hK K)
  | (apply Exists.intro
     refine ⟨fun W hW => ?_, hK _ ?_⟩
     first
     | exact rfl
     | exact ⟨rfl, rfl⟩
     | (with_reducible exact hcm.out W hW)
     clear hK K)
  with_reducible refine q_lds Tryd.isAgg3 (.tmp 49) ?_ ?_ ⟨B, 4, none⟩ ?_ (.int .i64 mi) c4.out ?_
  · rfl
  · rfl
  · rfl
  try simp only [Act.put, List.getElem_toArray, List.getElem_cons_zero, List.getElem_cons_succ, List.setIfInBounds_toArray, List.set_cons_zero, List.set_cons_succ]
  with_reducible refine wpQuiet_step ?_
  intro K hK
  go_simp
  first
  | (refine hK _ ?_; clear hK K)
  | (apply Exists.intro
     refine ⟨fun W hW => ?_, hK _ ?_⟩
     first
     | exact rfl
     | exact ⟨rfl, rfl⟩
     | (with_reducible exact hcm.out W hW)
     clear hK K)
  with_reducible refine wpQuiet_step ?_
  intro K hK
  go_simp
  first
  | (refine hK _ ?_; clear hK K)
  | (apply Exists.intro
     refine ⟨fun W hW => ?_, hK _ ?_⟩
     first
     | exact rfl
     | exact ⟨rfl, rfl⟩
     | (with_reducible exact hcm.out W hW)
     clear hK K)
  with_reducible refine wpQuiet_step ?_
  intro K hK
  go_simp
  first
  | (refine hK _ ?_; clear hK K)
  | (apply Exists.intro
     refine ⟨fun W hW => ?_, hK _ ?_⟩
     first
     | exact rfl
     | exact ⟨rfl, rfl⟩
     | (with_reducible exact hcm.out W hW)
     clear hK K)
  with_reducible refine wpQuiet_step ?_
  intro K hK
  go_simp
  first
  | (refine hK _ ?_; clear hK K)
  | (apply Exists.intro
     refine ⟨fun W hW => ?_, hK _ ?_⟩
     first
     | exact rfl
     | exact ⟨rfl, rfl⟩
     | (with_reducible exact hcm.out W hW)
     clear hK K)
  with_reducible refine q_lds Tryd.isAgg3 (.tmp 54) ?_ ?_ ⟨B, 4, none⟩ ?_ (.int .i64 mi) c4.out ?_
  · rfl
  · rfl
  · rfl
  try simp only [Act.put, List.getElem_toArray, List.getElem_cons_zero, List.getElem_cons_succ, List.setIfInBounds_toArray, List.set_cons_zero, List.set_cons_succ]
  with_reducible refine wpQuiet_step ?_
  intro K hK
  go_simp
  first
  | (refine hK _ ?_; clear hK K)
  | (apply Exists.intro
     refine ⟨fun W hW => ?_, hK _ ?_⟩
     first
     | exact rfl
     | exact ⟨rfl, rfl⟩
     | (with_reducible exact hcm.out W hW)
     clear hK K)
  with_reducible refine wpQuiet_step ?_
  intro K hK
  go_simp
  first
  | (refine hK _ ?_; clear hK K)
  | (apply Exists.intro
     refine ⟨fun W hW => ?_, hK _ ?_⟩
     first
     | exact rfl
     | exact ⟨rfl, rfl⟩
     | (with_reducible exact hcm.out W hW)
     clear hK K)
  refine wpQuiet_nil ?_
  intro V1 hV1
  have hB1 := Lib.hid (hCV.out V1 hV1)
  clear hV1 hcm hC1
  go_wp2
  go_ret2
  exact ⟨by rw [hf.out]; rfl, by rw [hHB.out]; exact hVV.out.trans (hB1.out.mono (Nat.le_of_lt hsV.out))⟩
set_option maxRecDepth 100000 in
set_option maxHeartbeats 4000000 in
theorem Tryd.qFromCivil_range (y m d h mi : Int) (hy : I64 y) (hm : I64 m) (hr : y < 2000 ∨ 2199 < y ∨ m < 1 ∨ 12 < m) (w : World) :
    Calls Tryd.prog 15 #[.agg #[.int .i64 y, .int .i64 m, .int .i64 d, .int .i64 h, .int .i64 mi]] w fun e w' => e = .returned (fcv y m d h mi) ∧ Below w.heap.size w w' := by
  have hf : Hid (fcv y m d h mi = .tuple #[.int .i64 0, .int .i64 2]) := Lib.hid (by unfold fcv Cal.from_; rw [if_pos hr])
  obtain ⟨y0, y1⟩ := hy
  obtain ⟨m0, m1⟩ := hm
  by_cases a1 : y < 2000
  · have b1 : decide (y < 2000) = true := decide_eq_true a1
    clear hr
    go_enter Tryd.func15, Tryd.ntmps15
    go_wp2
    go_ret2
    exact ⟨by rw [hf.out]; rfl, (Below.refl _ _).alloc (Nat.le_refl _) _⟩
  · have b1 : decide (y < 2000) = false := decide_eq_false a1
    by_cases a2 : 2199 < y
    · have b2 : decide (2199 < y) = true := decide_eq_true a2
      clear hr
      go_enter Tryd.func15, Tryd.ntmps15
      go_wp2
      go_ret2
      exact ⟨by rw [hf.out]; rfl, (Below.refl _ _).alloc (Nat.le_refl _) _⟩
    · have b2 : decide (2199 < y) = false := decide_eq_false a2
      by_cases a3 : m < 1
      · have b3 : decide (m < 1) = true := decide_eq_true a3
        clear hr
        go_enter Tryd.func15, Tryd.ntmps15
        go_wp2
        go_ret2
        exact ⟨by rw [hf.out]; rfl, (Below.refl _ _).alloc (Nat.le_refl _) _⟩
      · have b3 : decide (m < 1) = false := decide_eq_false a3
        have b4 : decide (12 < m) = true := decide_eq_true (by omega)
        clear hr
        go_enter Tryd.func15, Tryd.ntmps15
        go_wp2
        go_ret2
        exact ⟨by rw [hf.out]; rfl, (Below.refl _ _).alloc (Nat.le_refl _) _⟩
set_option maxRecDepth 100000 in
set_option maxHeartbeats 1000000 in
theorem Tryd.qFromCivil_date0 (y m d h mi q : Int) (hq : Hid (Cal.md y m = q)) (hd : I64 d) (hh : I64 h) (hmi : I64 mi) (g1 : 2000 ≤ y) (g2 : y ≤ 2199) (g3 : 1 ≤ m) (g4 : m ≤ 12) (hf : Hid (fcv y m d h mi = .tuple #[.int .i64 0, .int .i64 13])) (b0 : decide (d < 1) = true) (w : World) :
    Calls Tryd.prog 15 #[.agg #[.int .i64 y, .int .i64 m, .int .i64 d, .int .i64 h, .int .i64 mi]] w fun e w' => e = .returned (fcv y m d h mi) ∧ Below w.heap.size w w' := by
  obtain ⟨d0, d1⟩ := hd
  obtain ⟨h0, h1⟩ := hh
  obtain ⟨i0, i1⟩ := hmi
  have n1 : decide (y < 2000) = false := decide_eq_false (by omega)
  have n2 : decide (2199 < y) = false := decide_eq_false (by omega)
  have n3 : decide (m < 1) = false := decide_eq_false (by omega)
  have n4 : decide (12 < m) = false := decide_eq_false (by omega)
  go_enter Tryd.func15, Tryd.ntmps15
  go_wp2_with fail
  have hV0 : Below w.heap.size w (w.alloc (.cells #[.int .i64 y, .int .i64 m, .int .i64 d, .int .i64 h, .int .i64 mi] 28)) := (Below.refl _ _).alloc (Nat.le_refl _) _
  have hR0 : (w.alloc (.cells #[.int .i64 y, .int .i64 m, .int .i64 d, .int .i64 h, .int .i64 mi] 28)).heap[w.heap.size]? = some (.cells #[.int .i64 y, .int .i64 m, .int .i64 d, .int .i64 h, .int .i64 mi] 28 (0, 0)) := Go.heap_alloc_new w _
  have hs0 : w.heap.size < (w.alloc (.cells #[.int .i64 y, .int .i64 m, .int .i64 d, .int .i64 h, .int .i64 mi] 28)).heap.size := by simp
  generalize w.alloc (.cells #[.int .i64 y, .int .i64 m, .int .i64 d, .int .i64 h, .int .i64 mi] 28) = V at hV0 hR0 hs0 ⊢
  generalize hB : w.heap.size = B at hV0 hR0 hs0 ⊢
  have hHB := Lib.hid hB
  clear hB
  obtain ⟨C, k1, kV, kb, kr⟩ : ∃ C : World → Prop, C { V with drawn := V.drawn + 1 } ∧ (∀ W, C W → Below V.heap.size V W) ∧ (∀ W W', C W → Below W.heap.size W W' → C W') ∧ (∀ W, C W → W.heap[B]? = some (.cells #[.int .i64 y, .int .i64 m, .int .i64 d, .int .i64 h, .int .i64 mi] 28 (0, 0))) :=
    ⟨fun W => Below V.heap.size V W, (Below.refl _ _).drew, fun W h => h, fun W W' h hb => h.trans (hb.mono h.size), fun W h => (h.block _ hs0).trans hR0⟩
  have hcm : Hid (∀ W, C W → Calls Tryd.prog 30 #[.int .i64 y, .int .i64 m] W fun e w' => e = .returned (.int .i64 q) ∧ C w') := Lib.hid fun W hW => (Tryd.qDays y m (by omega) (by omega) (by omega) (by omega) W).mono fun e w' h => ⟨by rw [← hq.out]; exact h.1, kb W w' hW h.2⟩
  have c0 := Lib.hid (fun W hW => (cells5 (kr W hW)).1)
  have c1 := Lib.hid (fun W hW => (cells5 (kr W hW)).2.1)
  have c2 := Lib.hid (fun W hW => (cells5 (kr W hW)).2.2.1)
  have c3 := Lib.hid (fun W hW => (cells5 (kr W hW)).2.2.2.1)
  have c4 := Lib.hid (fun W hW => (cells5 (kr W hW)).2.2.2.2.1)
  have hC1 := Lib.hid k1
  have hCV := Lib.hid kV
  have hRV := Lib.hid hR0
  have hsV := Lib.hid hs0
  have hVV := Lib.hid hV0
  clear k1 kV kb kr hR0 hs0 hV0
  refine q_region C (by kernel_rfl) (by kernel_rfl) hC1.out ?_
  with_reducible refine wpQuiet_step ?_
  intro K hK
  go_simp
  first
  | (refine hK _ ?_; clear hK K)
  | (apply Exists.intro
     refine ⟨fun W hW => ?_, hK _ ?_⟩
     first
     | exact rfl
     | exact ⟨rfl, rfl⟩
     | (with_reducible exact hcm.out W hW)
     clear hK K)
  with_reducible refine q_lds Tryd.isAgg3 (.tmp 25) ?_ ?_ ⟨B, 2, none⟩ ?_ (.int .i64 d) c2.out ?_
  · rfl
  · rfl
  · rfl
  try simp only [Act.put, List.getElem_toArray, List.getElem_cons_zero, List.getElem_cons_succ, List.setIfInBounds_toArray, List.set_cons_zero, List.set_cons_succ]
  with_reducible refine wpQuiet_step ?_
  intro K hK
  go_simp
  first
  | (refine hK _ ?_; clear hK K)
  | (apply Exists.intro
     refine ⟨fun W hW => ?_, hK _ ?_⟩
     first
     | exact rfl
     | exact ⟨rfl, rfl⟩
     | (with_reducible exact hcm.out W hW)
     clear hK K)
  with_reducible refine wpQuiet_step ?_
  intro K hK
  go_simp
  first
  | (refine hK _ ?_; clear hK K)
  | (apply Exists.intro
     refine ⟨fun W hW => ?_, hK _ ?_⟩
     first
     | exact rfl
     | exact ⟨rfl, rfl⟩
     | (with_reducible exact hcm.out W hW)
     clear hK K)
  with_reducible refine q_off ?_ ?_
  · rfl
  try simp only [Act.put, List.getElem_toArray, List.getElem_cons_zero, List.getElem_cons_succ, List.setIfInBounds_toArray, List.set_cons_zero, List.set_cons_succ]
  with_reducible refine q_off ?_ ?_
  · rfl
  try simp only [Act.put, List.getElem_toArray, List.getElem_cons_zero, List.getElem_cons_succ, List.setIfInBounds_toArray, List.set_cons_zero, List.set_cons_succ]
  with_reducible refine q_off ?_ ?_
  · rfl
  try simp only [Act.put, List.getElem_toArray, List.getElem_cons_zero, List.getElem_cons_succ, List.setIfInBounds_toArray, List.set_cons_zero, List.set_cons_succ]
  with_reducible refine q_off ?_ ?_
  · rfl
  try simp only [Act.put, List.getElem_toArray, List.getElem_cons_zero, List.getElem_cons_succ, List.setIfInBounds_toArray, List.set_cons_zero, List.set_cons_succ]
  with_reducible refine q_off ?_ ?_
  · rfl
  try simp only [Act.put, List.getElem_toArray, List.getElem_cons_zero, List.getElem_cons_succ, List.setIfInBounds_toArray, List.set_cons_zero, List.set_cons_succ]
  with_reducible refine q_off ?_ ?_
  · rfl
  try simp only [Act.put, List.getElem_toArray, List.getElem_cons_zero, List.getElem_cons_succ, List.setIfInBounds_toArray, List.set_cons_zero, List.set_cons_succ]
  with_reducible refine q_off ?_ ?_
  · rfl
  try simp only [Act.put, List.getElem_toArray, List.getElem_cons_zero, List.getElem_cons_succ, List.setIfInBounds_toArray, List.set_cons_zero, List.set_cons_succ]
  with_reducible refine q_off ?_ ?_
  · rfl
  try simp only [Act.put, List.getElem_toArray, List.getElem_cons_zero, List.getElem_cons_succ, List.setIfInBounds_toArray, List.set_cons_zero, List.set_cons_succ]
  with_reducible refine wpQuiet_step ?_
  intro K hK
  go_simp
  first
  | (refine hK _ ?_; clear hK K)
  | (apply Exists.intro
     refine ⟨fun W hW => ?_, hK _ ?_⟩
     first
     | exact rfl
     | exact ⟨rfl, rfl⟩
     | (with_reducible exact hcm.out W hW)
     clear hK K)
  with_reducible refine wpQuiet_step ?_
  intro K hK
  go_simp
  first
  | (refine hK _ ?_; clear hK K)
  | (apply Exists.intro
     refine ⟨fun W hW => ?_, hK _ ?_⟩
     first
     | exact rfl
     | exact ⟨rfl, rfl⟩
     | (with_reducible exact hcm.out W hW)
     clear hK K)
  with_reducible refine q_off ?_ ?_
  · rfl
  try simp only [Act.put, List.getElem_toArray, List.getElem_cons_zero, List.getElem_cons_succ, List.setIfInBounds_toArray, List.set_cons_zero, List.set_cons_succ]
  with_reducible refine q_off ?_ ?_
  · rfl
  try simp only [Act.put, List.getElem_toArray, List.getElem_cons_zero, List.getElem_cons_succ, List.setIfInBounds_toArray, List.set_cons_zero, List.set_cons_succ]
  with_reducible refine q_off ?_ ?_
  · rfl
  try simp only [Act.put, List.getElem_toArray, List.getElem_cons_zero, List.getElem_cons_succ, List.setIfInBounds_toArray, List.set_cons_zero, List.set_cons_succ]
  with_reducible refine wpQuiet_step ?_
  intro K hK
  go_simp
  first
  | (refine hK _ ?_; clear hK K)
  | (apply Exists.intro
     refine ⟨fun W hW => ?_, hK _ ?_⟩
     first
     | exact rfl
     | exact ⟨rfl, rfl⟩
     | (with_reducible exact hcm.out W hW)
     clear hK K)
  with_reducible refine wpQuiet_step ?_
  intro K hK
  go_simp
  first
  | (refine hK _ ?_; clear hK K)
  | (apply Exists.intro
     refine ⟨fun W hW => ?_, hK _ ?_⟩
     first
     | exact rfl
     | exact ⟨rfl, rfl⟩
     | (with_reducible exact hcm.out W hW)
     clear hK K)
  with_reducible refine q_off ?_ ?_
  · rfl
  try simp only [Act.put, List.getElem_toArray, List.getElem_cons_zero, List.getElem_cons_succ, List.setIfInBounds_toArray, List.set_cons_zero, List.set_cons_succ]
  with_reducible refine q_off ?_ ?_
  · rfl
  try simp only [Act.put, List.getElem_toArray, List.getElem_cons_zero, List.getElem_cons_succ, List.setIfInBounds_toArray, List.set_cons_zero, List.set_cons_succ]
  with_reducible refine q_off ?_ ?_
  · rfl
  try simp only [Act.put, List.getElem_toArray, List.getElem_cons_zero, List.getElem_cons_succ, List.setIfInBounds_toArray, List.set_cons_zero, List.set_cons_succ]
  with_reducible refine wpQuiet_step ?_
  intro K hK
  go_simp
  first
  | (refine hK _ ?_; clear hK K)
  | (apply Exists.intro
     refine ⟨fun W hW => ?_, hK _ ?_⟩
     first
     | exact rfl
     | exact ⟨rfl, rfl⟩
     | (with_reducible exact hcm.out W hW)
     clear hK K)
  with_reducible refine wpQuiet_step ?_
  intro K hK
  go_simp
  first
  | (refine hK _ ?_; clear hK K)
  | (apply Exists.intro
     refine ⟨fun W hW => ?_, hK _ ?_⟩
     first
     | exact rfl
     | exact ⟨rfl, rfl⟩
     | (with_reducible exact hcm.out W hW)
     clear hK K)
  with_reducible refine q_off ?_ ?_
  · rfl
  try simp only [Act.put, List.getElem_toArray, List.getElem_cons_zero, List.getElem_cons_succ, List.setIfInBounds_toArray, List.set_cons_zero, List.set_cons_succ]
  with_reducible refine q_off ?_ ?_
  · rfl
  try simp only [Act.put, List.getElem_toArray, List.getElem_cons_zero, List.getElem_cons_succ, List.setIfInBounds_toArray, List.set_cons_zero, List.set_cons_succ]
  with_reducible refine q_off ?_ ?_
  · rfl
  try simp only [Act.put, List.getElem_toArray, List.getElem_cons_zero, List.getElem_cons_succ, List.setIfInBounds_toArray, List.set_cons_zero, List.set_cons_succ]
  with_reducible refine wpQuiet_step ?_
  intro K hK
  go_simp
  first
  | (refine hK _ ?_; clear hK K)
  | (apply Exists.intro
     refine ⟨fun W hW => ?_, hK _ ?_⟩
     first
     | exact rfl
     | exact ⟨rfl, rfl⟩
     | (with_reducible exact hcm.out W hW)
     clear hK K)
  with_reducible refine wpQuiet_step ?_
  intro K hK
  go_simp
  first
  | (refine hK _ ?_; clear hK K)
  | (apply Exists.intro
     refine ⟨fun W hW => ?_, hK _ ?_⟩
     first
     | exact rfl
     | exact ⟨rfl, rfl⟩
     | (with_reducible exact hcm.out W hW)
     clear hK K)
  with_reducible refine q_off ?_ ?_
  · rfl
  try simp only [Act.put, List.getElem_toArray, List.getElem_cons_zero, List.getElem_cons_succ, List.setIfInBounds_toArray, List.set_cons_zero, List.set_cons_succ]
  with_reducible refine q_off ?_ ?_
  · rfl
  try simp only [Act.put, List.getElem_toArray, List.getElem_cons_zero, List.getElem_cons_succ, List.setIfInBounds_toArray, List.set_cons_zero, List.set_cons_succ]
  with_reducible refine q_off ?_ ?_
  · rfl
  try simp only [Act.put, List.getElem_toArray, List.getElem_cons_zero, List.getElem_cons_succ, List.setIfInBounds_toArray, List.set_cons_zero, List.set_cons_succ]
  with_reducible refine wpQuiet_step ?_
  intro K hK
  go_simp
  first
  | (refine hK _ ?_; clear hK K)
  | (apply Exists.intro
     refine ⟨fun W hW => ?_, hK _ ?_⟩
     first
     | exact rfl
     | exact ⟨rfl, rfl⟩
     | (with_reducible exact hcm.out W hW)
     clear hK K)
  refine wpQuiet_nil ?_
  intro V1 hV1
  have hB1 := Lib.hid (hCV.out V1 hV1)
  clear hV1 hcm hC1
  go_wp2
  go_ret2
  exact ⟨by rw [hf.out]; rfl, by rw [hHB.out]; exact hVV.out.trans (hB1.out.mono (Nat.le_of_lt hsV.out))⟩
set_option maxRecDepth 100000 in
set_option maxHeartbeats 1000000 in
theorem Tryd.qFromCivil_date1 (y m d h mi q : Int) (hq : Hid (Cal.md y m = q)) (hd : I64 d) (hh : I64 h) (hmi : I64 mi) (g1 : 2000 ≤ y) (g2 : y ≤ 2199) (g3 : 1 ≤ m) (g4 : m ≤ 12) (hf : Hid (fcv y m d h mi = .tuple #[.int .i64 0, .int .i64 13])) (b0 : decide (d < 1) = false) (b1 : decide (q < d) = true) (w : World) :
    Calls Tryd.prog 15 #[.agg #[.int .i64 y, .int .i64 m, .int .i64 d, .int .i64 h, .int .i64 mi]] w fun e w' => e = .returned (fcv y m d h mi) ∧ Below w.heap.size w w' := by
  obtain ⟨d0, d1⟩ := hd
  obtain ⟨h0, h1⟩ := hh
  obtain ⟨i0, i1⟩ := hmi
  have n1 : decide (y < 2000) = false := decide_eq_false (by omega)
  have n2 : decide (2199 < y) = false := decide_eq_false (by omega)
  have n3 : decide (m < 1) = false := decide_eq_false (by omega)
  have n4 : decide (12 < m) = false := decide_eq_false (by omega)
  go_enter Tryd.func15, Tryd.ntmps15
  go_wp2_with fail
  have hV0 : Below w.heap.size w (w.alloc (.cells #[.int .i64 y, .int .i64 m, .int .i64 d, .int .i64 h, .int .i64 mi] 28)) := (Below.refl _ _).alloc (Nat.le_refl _) _
  have hR0 : (w.alloc (.cells #[.int .i64 y, .int .i64 m, .int .i64 d, .int .i64 h, .int .i64 mi] 28)).heap[w.heap.size]? = some (.cells #[.int .i64 y, .int .i64 m, .int .i64 d, .int .i64 h, .int .i64 mi] 28 (0, 0)) := Go.heap_alloc_new w _
  have hs0 : w.heap.size < (w.alloc (.cells #[.int .i64 y, .int .i64 m, .int .i64 d, .int .i64 h, .int .i64 mi] 28)).heap.size := by simp
  generalize w.alloc (.cells #[.int .i64 y, .int .i64 m, .int .i64 d, .int .i64 h, .int .i64 mi] 28) = V at hV0 hR0 hs0 ⊢
  generalize hB : w.heap.size = B at hV0 hR0 hs0 ⊢
  have hHB := Lib.hid hB
  clear hB
  obtain ⟨C, k1, kV, kb, kr⟩ : ∃ C : World → Prop, C { V with drawn := V.drawn + 1 } ∧ (∀ W, C W → Below V.heap.size V W) ∧ (∀ W W', C W → Below W.heap.size W W' → C W') ∧ (∀ W, C W → W.heap[B]? = some (.cells #[.int .i64 y, .int .i64 m, .int .i64 d, .int .i64 h, .int .i64 mi] 28 (0, 0))) :=
    ⟨fun W => Below V.heap.size V W, (Below.refl _ _).drew, fun W h => h, fun W W' h hb => h.trans (hb.mono h.size), fun W h => (h.block _ hs0).trans hR0⟩
  have hcm : Hid (∀ W, C W → Calls Tryd.prog 30 #[.int .i64 y, .int .i64 m] W fun e w' => e = .returned (.int .i64 q) ∧ C w') := Lib.hid fun W hW => (Tryd.qDays y m (by omega) (by omega) (by omega) (by omega) W).mono fun e w' h => ⟨by rw [← hq.out]; exact h.1, kb W w' hW h.2⟩
  have c0 := Lib.hid (fun W hW => (cells5 (kr W hW)).1)
  have c1 := Lib.hid (fun W hW => (cells5 (kr W hW)).2.1)
  have c2 := Lib.hid (fun W hW => (cells5 (kr W hW)).2.2.1)
  have c3 := Lib.hid (fun W hW => (cells5 (kr W hW)).2.2.2.1)
  have c4 := Lib.hid (fun W hW => (cells5 (kr W hW)).2.2.2.2.1)
  have hC1 := Lib.hid k1
  have hCV := Lib.hid kV
  have hRV := Lib.hid hR0
  have hsV := Lib.hid hs0
  have hVV := Lib.hid hV0
  clear k1 kV kb kr hR0 hs0 hV0
  refine q_region C (by kernel_rfl) (by kernel_rfl) hC1.out ?_
  with_reducible refine wpQuiet_step ?_
  intro K hK
  go_simp
  first
  | (refine hK _ ?_; clear hK K)
  | (apply Exists.intro
     refine ⟨fun W hW => ?_, hK _ ?_⟩
     first
     | exact rfl
     | exact ⟨rfl, rfl⟩
     | (with_reducible exact hcm.out W hW)
     clear hK K)
  with_reducible refine q_lds Tryd.isAgg3 (.tmp 25) ?_ ?_ ⟨B, 2, none⟩ ?_ (.int .i64 d) c2.out ?_
  · rfl
  · rfl
  · rfl
  try simp only [Act.put, List.getElem_toArray, List.getElem_cons_zero, List.getElem_cons_succ, List.setIfInBounds_toArray, List.set_cons_zero, List.set_cons_succ]
  with_reducible refine wpQuiet_step ?_
  intro K hK
  go_simp
  first
  | (refine hK _ ?_; clear hK K)
  | (apply Exists.intro
     refine ⟨fun W hW => ?_, hK _ ?_⟩
     first
     | exact rfl
     | exact ⟨rfl, rfl⟩
     | (with_reducible exact hcm.out W hW)
     clear hK K)
  with_reducible refine wpQuiet_step ?_
  intro K hK
  go_simp
  first
  | (refine hK _ ?_; clear hK K)
  | (apply Exists.intro
     refine ⟨fun W hW => ?_, hK _ ?_⟩
     first
     | exact rfl
     | exact ⟨rfl, rfl⟩
     | (with_reducible exact hcm.out W hW)
     clear hK K)
  with_reducible refine wpQuiet_step ?_
  intro K hK
  go_simp
  first
  | (refine hK _ ?_; clear hK K)
  | (apply Exists.intro
     refine ⟨fun W hW => ?_, hK _ ?_⟩
     first
     | exact rfl
     | exact ⟨rfl, rfl⟩
     | (with_reducible exact hcm.out W hW)
     clear hK K)
  with_reducible refine q_lds Tryd.isAgg3 (.tmp 29) ?_ ?_ ⟨B, 2, none⟩ ?_ (.int .i64 d) c2.out ?_
  · rfl
  · rfl
  · rfl
  try simp only [Act.put, List.getElem_toArray, List.getElem_cons_zero, List.getElem_cons_succ, List.setIfInBounds_toArray, List.set_cons_zero, List.set_cons_succ]
  with_reducible refine wpQuiet_step ?_
  intro K hK
  go_simp
  first
  | (refine hK _ ?_; clear hK K)
  | (apply Exists.intro
     refine ⟨fun W hW => ?_, hK _ ?_⟩
     first
     | exact rfl
     | exact ⟨rfl, rfl⟩
     | (with_reducible exact hcm.out W hW)
     clear hK K)
  with_reducible refine q_lds Tryd.isAgg3 (.tmp 31) ?_ ?_ ⟨B, 0, none⟩ ?_ (.int .i64 y) c0.out ?_
  · rfl
  · rfl
  · rfl
  try simp only [Act.put, List.getElem_toArray, List.getElem_cons_zero, List.getElem_cons_succ, List.setIfInBounds_toArray, List.set_cons_zero, List.set_cons_succ]
  with_reducible refine wpQuiet_step ?_
  intro K hK
  go_simp
  first
  | (refine hK _ ?_; clear hK K)
  | (apply Exists.intro
     refine ⟨fun W hW => ?_, hK _ ?_⟩
     first
     | exact rfl
     | exact ⟨rfl, rfl⟩
     | (with_reducible exact hcm.out W hW)
     clear hK K)
  with_reducible refine q_lds Tryd.isAgg3 (.tmp 33) ?_ ?_ ⟨B, 1, none⟩ ?_ (.int .i64 m) c1.out ?_
  · rfl
  · rfl
  · rfl
  try simp only [Act.put, List.getElem_toArray, List.getElem_cons_zero, List.getElem_cons_succ, List.setIfInBounds_toArray, List.set_cons_zero, List.set_cons_succ]
  with_reducible refine wpQuiet_step ?_
  intro K hK
  go_simp
  first
  | (refine hK _ ?_; clear hK K)
  | (apply Exists.intro
     refine ⟨fun W hW => ?_, hK _ ?_⟩
     first
     | exact rfl
     | exact ⟨rfl, rfl⟩
     | (with_reducible exact hcm.out W hW)
     clear hK K)
  with_reducible refine wpQuiet_step ?_
  intro K hK
  go_simp
  first
  | (refine hK _ ?_; clear hK K)
  | (apply Exists.intro
     refine ⟨fun W hW => ?_, hK _ ?_⟩
     first
     | exact rfl
     | exact ⟨rfl, rfl⟩
     | (with_reducible exact hcm.out W hW)
     clear hK K)
  with_reducible refine wpQuiet_step ?_
  intro K hK
  go_simp
  first
  | (refine hK _ ?_; clear hK K)
  | (apply Exists.intro
     refine ⟨fun W hW => ?_, hK _ ?_⟩
     first
     | exact rfl
     | exact ⟨rfl, rfl⟩
     | (with_reducible exact hcm.out W hW)
     clear hK K)
  with_reducible refine wpQuiet_step ?_
  intro K hK
  go_simp
  first
  | (refine hK _ ?_; clear hK K)
  | (apply Exists.intro
     refine ⟨fun W hW => ?_, hK _ ?_⟩
     first
     | exact rfl
     | exact ⟨rfl, rfl⟩
     | (with_reducible exact hcm.out W hW)
     clear hK K)
  with_reducible refine q_off ?_ ?_
  · rfl
  try simp only [Act.put, List.getElem_toArray, List.getElem_cons_zero, List.getElem_cons_succ, List.setIfInBounds_toArray, List.set_cons_zero, List.set_cons_succ]
  with_reducible refine q_off ?_ ?_
  · rfl
  try simp only [Act.put, List.getElem_toArray, List.getElem_cons_zero, List.getElem_cons_succ, List.setIfInBounds_toArray, List.set_cons_zero, List.set_cons_succ]
  with_reducible refine q_off ?_ ?_
  · rfl
  try simp only [Act.put, List.getElem_toArray, List.getElem_cons_zero, List.getElem_cons_succ, List.setIfInBounds_toArray, List.set_cons_zero, List.set_cons_succ]
  with_reducible refine wpQuiet_step ?_
  intro K hK
  go_simp
  first
  | (refine hK _ ?_; clear hK K)
  | (apply Exists.intro
     refine ⟨fun W hW => ?_, hK _ ?_⟩
     first
     | exact rfl
     | exact ⟨rfl, rfl⟩
     | (with_reducible exact hcm.out W hW)
     clear hK K)
  with_reducible refine wpQuiet_step ?_
  intro K hK
  go_simp
  first
  | (refine hK _ ?_; clear hK K)
  | (apply Exists.intro
     refine ⟨fun W hW => ?_, hK _ ?_⟩
     first
     | exact rfl
     | exact ⟨rfl, rfl⟩
     | (with_reducible exact hcm.out W hW)
     clear hK K)
  with_reducible refine q_off ?_ ?_
  · rfl
  try simp only [Act.put, List.getElem_toArray, List.getElem_cons_zero, List.getElem_cons_succ, List.setIfInBounds_toArray, List.set_cons_zero, List.set_cons_succ]
  with_reducible refine q_off ?_ ?_
  · rfl
  try simp only [Act.put, List.getElem_toArray, List.getElem_cons_zero, List.getElem_cons_succ, List.setIfInBounds_toArray, List.set_cons_zero, List.set_cons_succ]
  with_reducible refine q_off ?_ ?_
  · rfl
  try simp only [Act.put, List.getElem_toArray, List.getElem_cons_zero, List.getElem_cons_succ, List.setIfInBounds_toArray, List.set_cons_zero, List.set_cons_succ]
  with_reducible refine wpQuiet_step ?_
  intro K hK
  go_simp
  first
  | (refine hK _ ?_; clear hK K)
  | (apply Exists.intro
     refine ⟨fun W hW => ?_, hK _ ?_⟩
     first
     | exact rfl
     | exact ⟨rfl, rfl⟩
     | (with_reducible exact hcm.out W hW)
     clear hK K)
  with_reducible refine wpQuiet_step ?_
  intro K hK
  go_simp
  first
  | (refine hK _ ?_; clear hK K)
  | (apply Exists.intro
     refine ⟨fun W hW => ?_, hK _ ?_⟩
     first
     | exact rfl
     | exact ⟨rfl, rfl⟩
     | (with_reducible exact hcm.out W hW)
     clear hK K)
  with_reducible refine q_off ?_ ?_
  · rfl
  try simp only [Act.put, List.getElem_toArray, List.getElem_cons_zero, List.getElem_cons_succ, List.setIfInBounds_toArray, List.set_cons_zero, List.set_cons_succ]
  with_reducible refine q_off ?_ ?_
  · rfl
  try simp only [Act.put, List.getElem_toArray, List.getElem_cons_zero, List.getElem_cons_succ, List.setIfInBounds_toArray, List.set_cons_zero, List.set_cons_succ]
  with_reducible refine q_off ?_ ?_
  · rfl
  try simp only [Act.put, List.getElem_toArray, List.getElem_cons_zero, List.getElem_cons_succ, List.setIfInBounds_toArray, List.set_cons_zero, List.set_cons_succ]
  with_reducible refine wpQuiet_step ?_
  intro K hK
  go_simp
  first
  | (refine hK _ ?_; clear hK K)
  | (apply Exists.intro
     refine ⟨fun W hW => ?_, hK _ ?_⟩
     first
     | exact rfl
     | exact ⟨rfl, rfl⟩
     | (with_reducible exact hcm.out W hW)
     clear hK K)
  with_reducible refine wpQuiet_step ?_
  intro K hK
  go_simp
  first
  | (refine hK _ ?_; clear hK K)
  | (apply Exists.intro
     refine ⟨fun W hW => ?_, hK _ ?_⟩
     first
     | exact rfl
     | exact ⟨rfl, rfl⟩
     | (with_reducible exact hcm.out W hW)
     clear hK K)
  with_reducible refine q_off ?_ ?_
  · rfl
  try simp only [Act.put, List.getElem_toArray, List.getElem_cons_zero, List.getElem_cons_succ, List.setIfInBounds_toArray, List.set_cons_zero, List.set_cons_succ]
  with_reducible refine q_off ?_ ?_
  · rfl
  try simp only [Act.put, List.getElem_toArray, List.getElem_cons_zero, List.getElem_cons_succ, List.setIfInBounds_toArray, List.set_cons_zero, List.set_cons_succ]
  with_reducible refine q_off ?_ ?_
  · rfl
  try simp only [Act.put, List.getElem_toArray, List.getElem_cons_zero, List.getElem_cons_succ, List.setIfInBounds_toArray, List.set_cons_zero, List.set_cons_succ]
  with_reducible refine wpQuiet_step ?_
  intro K hK
  go_simp
  first
  | (refine hK _ ?_; clear hK K)
  | (apply Exists.intro
     refine ⟨fun W hW => ?_, hK _ ?_⟩
     first
     | exact rfl
     | exact ⟨rfl, rfl⟩
     | (with_reducible exact hcm.out W hW)
     clear hK K)
  refine wpQuiet_nil ?_
  intro V1 hV1
  have hB1 := Lib.hid (hCV.out V1 hV1)
  clear hV1 hcm hC1
  go_wp2
  go_ret2
  exact ⟨by rw [hf.out]; rfl, by rw [hHB.out]; exact hVV.out.trans (hB1.out.mono (Nat.le_of_lt hsV.out))⟩
set_option maxRecDepth 100000 in
set_option maxHeartbeats 1000000 in
theorem Tryd.qFromCivil_date2 (y m d h mi q : Int) (hq : Hid (Cal.md y m = q)) (hd : I64 d) (hh : I64 h) (hmi : I64 mi) (g1 : 2000 ≤ y) (g2 : y ≤ 2199) (g3 : 1 ≤ m) (g4 : m ≤ 12) (hf : Hid (fcv y m d h mi = .tuple #[.int .i64 0, .int .i64 13])) (b0 : decide (d < 1) = false) (b1 : decide (q < d) = false) (b2 : decide (h < 0) = true) (w : World) :
    Calls Tryd.prog 15 #[.agg #[.int .i64 y, .int .i64 m, .int .i64 d, .int .i64 h, .int .i64 mi]] w fun e w' => e = .returned (fcv y m d h mi) ∧ Below w.heap.size w w' := by
  obtain ⟨d0, d1⟩ := hd
  obtain ⟨h0, h1⟩ := hh
  obtain ⟨i0, i1⟩ := hmi
  have n1 : decide (y < 2000) = false := decide_eq_false (by omega)
  have n2 : decide (2199 < y) = false := decide_eq_false (by omega)
  have n3 : decide (m < 1) = false := decide_eq_false (by omega)
  have n4 : decide (12 < m) = false := decide_eq_false (by omega)
  go_enter Tryd.func15, Tryd.ntmps15
  go_wp2_with fail
  have hV0 : Below w.heap.size w (w.alloc (.cells #[.int .i64 y, .int .i64 m, .int .i64 d, .int .i64 h, .int .i64 mi] 28)) := (Below.refl _ _).alloc (Nat.le_refl _) _
  have hR0 : (w.alloc (.cells #[.int .i64 y, .int .i64 m, .int .i64 d, .int .i64 h, .int .i64 mi] 28)).heap[w.heap.size]? = some (.cells #[.int .i64 y, .int .i64 m, .int .i64 d, .int .i64 h, .int .i64 mi] 28 (0, 0)) := Go.heap_alloc_new w _
  have hs0 : w.heap.size < (w.alloc (.cells #[.int .i64 y, .int .i64 m, .int .i64 d, .int .i64 h, .int .i64 mi] 28)).heap.size := by simp
  generalize w.alloc (.cells #[.int .i64 y, .int .i64 m, .int .i64 d, .int .i64 h, .int .i64 mi] 28) = V at hV0 hR0 hs0 ⊢
  generalize hB : w.heap.size = B at hV0 hR0 hs0 ⊢
  have hHB := Lib.hid hB
  clear hB
  obtain ⟨C, k1, kV, kb, kr⟩ : ∃ C : World → Prop, C { V with drawn := V.drawn + 1 } ∧ (∀ W, C W → Below V.heap.size V W) ∧ (∀ W W', C W → Below W.heap.size W W' → C W') ∧ (∀ W, C W → W.heap[B]? = some (.cells #[.int .i64 y, .int .i64 m, .int .i64 d, .int .i64 h, .int .i64 mi] 28 (0, 0))) :=
    ⟨fun W => Below V.heap.size V W, (Below.refl _ _).drew, fun W h => h, fun W W' h hb => h.trans (hb.mono h.size), fun W h => (h.block _ hs0).trans hR0⟩
  have hcm : Hid (∀ W, C W → Calls Tryd.prog 30 #[.int .i64 y, .int .i64 m] W fun e w' => e = .returned (.int .i64 q) ∧ C w') := Lib.hid fun W hW => (Tryd.qDays y m (by omega) (by omega) (by omega) (by omega) W).mono fun e w' h => ⟨by rw [← hq.out]; exact h.1, kb W w' hW h.2⟩
  have c0 := Lib.hid (fun W hW => (cells5 (kr W hW)).1)
  have c1 := Lib.hid (fun W hW => (cells5 (kr W hW)).2.1)
  have c2 := Lib.hid (fun W hW => (cells5 (kr W hW)).2.2.1)
  have c3 := Lib.hid (fun W hW => (cells5 (kr W hW)).2.2.2.1)
  have c4 := Lib.hid (fun W hW => (cells5 (kr W hW)).2.2.2.2.1)
  have hC1 := Lib.hid k1
  have hCV := Lib.hid kV
  have hRV := Lib.hid hR0
  have hsV := Lib.hid hs0
  have hVV := Lib.hid hV0
  clear k1 kV kb kr hR0 hs0 hV0
  refine q_region C (by kernel_rfl) (by kernel_rfl) hC1.out ?_
  with_reducible refine wpQuiet_step ?_
  intro K hK
  go_simp
  first
  | (refine hK _ ?_; clear hK K)
  | (apply Exists.intro
     refine ⟨fun W hW => ?_, hK _ ?_⟩
     first
     | exact rfl
     | exact ⟨rfl, rfl⟩
     | (with_reducible exact hcm.out W hW)
     clear hK K)
  with_reducible refine q_lds Tryd.isAgg3 (.tmp 25) ?_ ?_ ⟨B, 2, none⟩ ?_ (.int .i64 d) c2.out ?_
  · rfl
  · rfl
  · rfl
  try simp only [Act.put, List.getElem_toArray, List.getElem_cons_zero, List.getElem_cons_succ, List.setIfInBounds_toArray, List.set_cons_zero, List.set_cons_succ]
  with_reducible refine wpQuiet_step ?_
  intro K hK
  go_simp
  first
  | (refine hK _ ?_; clear hK K)
  | (apply Exists.intro
     refine ⟨fun W hW => ?_, hK _ ?_⟩
     first
     | exact rfl
     | exact ⟨rfl, rfl⟩
     | (with_reducible exact hcm.out W hW)
     clear hK K)
  with_reducible refine wpQuiet_step ?_
  intro K hK
  go_simp
  first
  | (refine hK _ ?_; clear hK K)
  | (apply Exists.intro
     refine ⟨fun W hW => ?_, hK _ ?_⟩
     first
     | exact rfl
     | exact ⟨rfl, rfl⟩
     | (with_reducible exact hcm.out W hW)
     clear hK K)
  with_reducible refine wpQuiet_step ?_
  intro K hK
  go_simp
  first
  | (refine hK _ ?_; clear hK K)
  | (apply Exists.intro
     refine ⟨fun W hW => ?_, hK _ ?_⟩
     first
     | exact rfl
     | exact ⟨rfl, rfl⟩
     | (with_reducible exact hcm.out W hW)
     clear hK K)
  with_reducible refine q_lds Tryd.isAgg3 (.tmp 29) ?_ ?_ ⟨B, 2, none⟩ ?_ (.int .i64 d) c2.out ?_
  · rfl
  · rfl
  · rfl
  try simp only [Act.put, List.getElem_toArray, List.getElem_cons_zero, List.getElem_cons_succ, List.setIfInBounds_toArray, List.set_cons_zero, List.set_cons_succ]
  with_reducible refine wpQuiet_step ?_
  intro K hK
  go_simp
  first
  | (refine hK _ ?_; clear hK K)
  | (apply Exists.intro
     refine ⟨fun W hW => ?_, hK _ ?_⟩
     first
     | exact rfl
     | exact ⟨rfl, rfl⟩
     | (with_reducible exact hcm.out W hW)
     clear hK K)
  with_reducible refine q_lds Tryd.isAgg3 (.tmp 31) ?_ ?_ ⟨B, 0, none⟩ ?_ (.int .i64 y) c0.out ?_
  · rfl
  · rfl
  · rfl
  try simp only [Act.put, List.getElem_toArray, List.getElem_cons_zero, List.getElem_cons_succ, List.setIfInBounds_toArray, List.set_cons_zero, List.set_cons_succ]
  with_reducible refine wpQuiet_step ?_
  intro K hK
  go_simp
  first
  | (refine hK _ ?_; clear hK K)
  | (apply Exists.intro
     refine ⟨fun W hW => ?_, hK _ ?_⟩
     first
     | exact rfl
     | exact ⟨rfl, rfl⟩
     | (with_reducible exact hcm.out W hW)
     clear hK K)
  with_reducible refine q_lds Tryd.isAgg3 (.tmp 33) ?_ ?_ ⟨B, 1, none⟩ ?_ (.int .i64 m) c1.out ?_
  · rfl
  · rfl
  · rfl
  try simp only [Act.put, List.getElem_toArray, List.getElem_cons_zero, List.getElem_cons_succ, List.setIfInBounds_toArray, List.set_cons_zero, List.set_cons_succ]
  with_reducible refine wpQuiet_step ?_
  intro K hK
  go_simp
  first
  | (refine hK _ ?_; clear hK K)
  | (apply Exists.intro
     refine ⟨fun W hW => ?_, hK _ ?_⟩
     first
     | exact rfl
     | exact ⟨rfl, rfl⟩
     | (with_reducible exact hcm.out W hW)
     clear hK K)
  with_reducible refine wpQuiet_step ?_
  intro K hK
  go_simp
  first
  | (refine hK _ ?_; clear hK K)
  | (apply Exists.intro
     refine ⟨fun W hW => ?_, hK _ ?_⟩
     first
     | exact rfl
     | exact ⟨rfl, rfl⟩
     | (with_reducible exact hcm.out W hW)
     clear hK K)
  with_reducible refine wpQuiet_step ?_
  intro K hK
  go_simp
  first
  | (refine hK _ ?_; clear hK K)
  | (apply Exists.intro
     refine ⟨fun W hW => ?_, hK _ ?_⟩
     first
     | exact rfl
     | exact ⟨rfl, rfl⟩
     | (with_reducible exact hcm.out W hW)
     clear hK K)
  with_reducible refine wpQuiet_step ?_
  intro K hK
  go_simp
  first
  | (refine hK _ ?_; clear hK K)
  | (apply Exists.intro
     refine ⟨fun W hW => ?_, hK _ ?_⟩
     first
     | exact rfl
     | exact ⟨rfl, rfl⟩
     | (with_reducible exact hcm.out W hW)
     clear hK K)
  with_reducible refine wpQuiet_step ?_
  intro K hK
  go_simp
  first
  | (refine hK _ ?_; clear hK K)
  | (apply Exists.intro
     refine ⟨fun W hW => ?_, hK _ ?_⟩
     first
     | exact rfl
     | exact ⟨rfl, rfl⟩
     | (with_reducible exact hcm.out W hW)
     clear hK K)
  with_reducible refine q_lds Tryd.isAgg3 (.tmp 39) ?_ ?_ ⟨B, 3, none⟩ ?_ (.int .i64 h) c3.out ?_
  · rfl
  · rfl
  · rfl
  try simp only [Act.put, List.getElem_toArray, List.getElem_cons_zero, List.getElem_cons_succ, List.setIfInBounds_toArray, List.set_cons_zero, List.set_cons_succ]
  with_reducible refine wpQuiet_step ?_
  intro K hK
  go_simp
  first
  | (refine hK _ ?_; clear hK K)
  | (apply Exists.intro
     refine ⟨fun W hW => ?_, hK _ ?_⟩
     first
     | exact rfl
     | exact ⟨rfl, rfl⟩
     | (with_reducible exact hcm.out W hW)
     clear hK K)
  with_reducible refine wpQuiet_step ?_
  intro K hK
  go_simp
  first
  | (refine hK _ ?_; clear hK K)
  | (apply Exists.intro
     refine ⟨fun W hW => ?_, hK _ ?_⟩
     first
     | exact rfl
     | exact ⟨rfl, rfl⟩
     | (with_reducible exact hcm.out W hW)
     clear hK K)
  with_reducible refine wpQuiet_step ?_
  intro K hK
  go_simp
  first
  | (refine hK _ ?_; clear hK K)
  | (apply Exists.intro
     refine ⟨fun W hW => ?_, hK _ ?_⟩
     first
     | exact rfl
     | exact ⟨rfl, rfl⟩
     | (with_reducible exact hcm.out W hW)
     clear hK K)
  with_reducible refine q_off ?_ ?_
  · rfl
  try simp only [Act.put, List.getElem_toArray, List.getElem_cons_zero, List.getElem_cons_succ, List.setIfInBounds_toArray, List.set_cons_zero, List.set_cons_succ]
  with_reducible refine q_off ?_ ?_
  · rfl
  try simp only [Act.put, List.getElem_toArray, List.getElem_cons_zero, List.getElem_cons_succ, List.setIfInBounds_toArray, List.set_cons_zero, List.set_cons_succ]
  with_reducible refine q_off ?_ ?_
  · rfl
  try simp only [Act.put, List.getElem_toArray, List.getElem_cons_zero, List.getElem_cons_succ, List.setIfInBounds_toArray, List.set_cons_zero, List.set_cons_succ]
  with_reducible refine wpQuiet_step ?_
  intro K hK
  go_simp
  first
  | (refine hK _ ?_; clear hK K)
  | (apply Exists.intro
     refine ⟨fun W hW => ?_, hK _ ?_⟩
     first
     | exact rfl
     | exact ⟨rfl, rfl⟩
     | (with_reducible exact hcm.out W hW)
     clear hK K)
  with_reducible refine wpQuiet_step ?_
  intro K hK
  go_simp
  first
  | (refine hK _ ?_; clear hK K)
  | (apply Exists.intro
     refine ⟨fun W hW => ?_, hK _ ?_⟩
     first
     | exact rfl
     | exact ⟨rfl, rfl⟩
     | (with_reducible exact hcm.out W hW)
     clear hK K)
  with_reducible refine q_off ?_ ?_
  · rfl
  try simp only [Act.put, List.getElem_toArray, List.getElem_cons_zero, List.getElem_cons_succ, List.setIfInBounds_toArray, List.set_cons_zero, List.set_cons_succ]
  with_reducible refine q_off ?_ ?_
  · rfl
  try simp only [Act.put, List.getElem_toArray, List.getElem_cons_zero, List.getElem_cons_succ, List.setIfInBounds_toArray, List.set_cons_zero, List.set_cons_succ]
  with_reducible refine q_off ?_ ?_
  · rfl
  try simp only [Act.put, List.getElem_toArray, List.getElem_cons_zero, List.getElem_cons_succ, List.setIfInBounds_toArray, List.set_cons_zero, List.set_cons_succ]
  with_reducible refine wpQuiet_step ?_
  intro K hK
  go_simp
  first
  | (refine hK _ ?_; clear hK K)
  | (apply Exists.intro
     refine ⟨fun W hW => ?_, hK _ ?_⟩
     first
     | exact rfl
     | exact ⟨rfl, rfl⟩
     | (with_reducible exact hcm.out W hW)
     clear hK K)
  with_reducible refine wpQuiet_step ?_
  intro K hK
  go_simp
  first
  | (refine hK _ ?_; clear hK K)
  | (apply Exists.intro
     refine ⟨fun W hW => ?_, hK _ ?_⟩
     first
     | exact rfl
     | exact ⟨rfl, rfl⟩
     | (with_reducible exact hcm.out W hW)
     clear hK K)
  with_reducible refine q_off ?_ ?_
  · rfl
  try simp only [Act.put, List.getElem_toArray, List.getElem_cons_zero, List.getElem_cons_succ, List.setIfInBounds_toArray, List.set_cons_zero, List.set_cons_succ]
  with_reducible refine q_off ?_ ?_
  · rfl
  try simp only [Act.put, List.getElem_toArray, List.getElem_cons_zero, List.getElem_cons_succ, List.setIfInBounds_toArray, List.set_cons_zero, List.set_cons_succ]
  with_reducible refine q_off ?_ ?_
  · rfl
  try simp only [Act.put, List.getElem_toArray, List.getElem_cons_zero, List.getElem_cons_succ, List.setIfInBounds_toArray, List.set_cons_zero, List.set_cons_succ]
  with_reducible refine wpQuiet_step ?_
  intro K hK
  go_simp
  first
  | (refine hK _ ?_; clear hK K)
  | (apply Exists.intro
     refine ⟨fun W hW => ?_, hK _ ?_⟩
     first
     | exact rfl
     | exact ⟨rfl, rfl⟩
     | (with_reducible exact hcm.out W hW)
     clear hK K)
  refine wpQuiet_nil ?_
  intro V1 hV1
  have hB1 := Lib.hid (hCV.out V1 hV1)
  clear hV1 hcm hC1
  go_wp2
  go_ret2
  exact ⟨by rw [hf.out]; rfl, by rw [hHB.out]; exact hVV.out.trans (hB1.out.mono (Nat.le_of_lt hsV.out))⟩
set_option maxRecDepth 100000 in
set_option maxHeartbeats 1000000 in
theorem Tryd.qFromCivil_date3 (y m d h mi q : Int) (hq : Hid (Cal.md y m = q)) (hd : I64 d) (hh : I64 h) (hmi : I64 mi) (g1 : 2000 ≤ y) (g2 : y ≤ 2199) (g3 : 1 ≤ m) (g4 : m ≤ 12) (hf : Hid (fcv y m d h mi = .tuple #[.int .i64 0, .int .i64 13])) (b0 : decide (d < 1) = false) (b1 : decide (q < d) = false) (b2 : decide (h < 0) = false) (b3 : decide (23 < h) = true) (w : World) :
    Calls Tryd.prog 15 #[.agg #[.int .i64 y, .int .i64 m, .int .i64 d, .int .i64 h, .int .i64 mi]] w fun e w' => e = .returned (fcv y m d h mi) ∧ Below w.heap.size w w' := by
  obtain ⟨d0, d1⟩ := hd
  obtain ⟨h0, h1⟩ := hh
  obtain ⟨i0, i1⟩ := hmi
  have n1 : decide (y < 2000) = false := decide_eq_false (by omega)
  have n2 : decide (2199 < y) = false := decide_eq_false (by omega)
  have n3 : decide (m < 1) = false := decide_eq_false (by omega)
  have n4 : decide (12 < m) = false := decide_eq_false (by omega)
  go_enter Tryd.func15, Tryd.ntmps15
  go_wp2_with fail
  have hV0 : Below w.heap.size w (w.alloc (.cells #[.int .i64 y, .int .i64 m, .int .i64 d, .int .i64 h, .int .i64 mi] 28)) := (Below.refl _ _).alloc (Nat.le_refl _) _
  have hR0 : (w.alloc (.cells #[.int .i64 y, .int .i64 m, .int .i64 d, .int .i64 h, .int .i64 mi] 28)).heap[w.heap.size]? = some (.cells #[.int .i64 y, .int .i64 m, .int .i64 d, .int .i64 h, .int .i64 mi] 28 (0, 0)) := Go.heap_alloc_new w _
  have hs0 : w.heap.size < (w.alloc (.cells #[.int .i64 y, .int .i64 m, .int .i64 d, .int .i64 h, .int .i64 mi] 28)).heap.size := by simp
  generalize w.alloc (.cells #[.int .i64 y, .int .i64 m, .int .i64 d, .int .i64 h, .int .i64 mi] 28) = V at hV0 hR0 hs0 ⊢
  generalize hB : w.heap.size = B at hV0 hR0 hs0 ⊢
  have hHB := Lib.hid hB
  clear hB
  obtain ⟨C, k1, kV, kb, kr⟩ : ∃ C : World → Prop, C { V with drawn := V.drawn + 1 } ∧ (∀ W, C W → Below V.heap.size V W) ∧ (∀ W W', C W → Below W.heap.size W W' → C W') ∧ (∀ W, C W → W.heap[B]? = some (.cells #[.int .i64 y, .int .i64 m, .int .i64 d, .int .i64 h, .int .i64 mi] 28 (0, 0))) :=
    ⟨fun W => Below V.heap.size V W, (Below.refl _ _).drew, fun W h => h, fun W W' h hb => h.trans (hb.mono h.size), fun W h => (h.block _ hs0).trans hR0⟩
  have hcm : Hid (∀ W, C W → Calls Tryd.prog 30 #[.int .i64 y, .int .i64 m] W fun e w' => e = .returned (.int .i64 q) ∧ C w') := Lib.hid fun W hW => (Tryd.qDays y m (by omega) (by omega) (by omega) (by omega) W).mono fun e w' h => ⟨by rw [← hq.out]; exact h.1, kb W w' hW h.2⟩
  have c0 := Lib.hid (fun W hW => (cells5 (kr W hW)).1)
  have c1 := Lib.hid (fun W hW => (cells5 (kr W hW)).2.1)
  have c2 := Lib.hid (fun W hW => (cells5 (kr W hW)).2.2.1)
  have c3 := Lib.hid (fun W hW => (cells5 (kr W hW)).2.2.2.1)
  have c4 := Lib.hid (fun W hW => (cells5 (kr W hW)).2.2.2.2.1)
  have hC1 := Lib.hid k1
  have hCV := Lib.hid kV
  have hRV := Lib.hid hR0
  have hsV := Lib.hid hs0
  have hVV := Lib.hid hV0
  clear k1 kV kb kr hR0 hs0 hV0
  refine q_region C (by kernel_rfl) (by kernel_rfl) hC1.out ?_
  with_reducible refine wpQuiet_step ?_
  intro K hK
  go_simp
  first
  | (refine hK _ ?_; clear hK K)
  | (apply Exists.intro
     refine ⟨fun W hW => ?_, hK _ ?_⟩
     first
     | exact rfl
     | exact ⟨rfl, rfl⟩
     | (with_reducible exact hcm.out W hW)
     clear hK K)
  with_reducible refine q_lds Tryd.isAgg3 (.tmp 25) ?_ ?_ ⟨B, 2, none⟩ ?_ (.int .i64 d) c2.out ?_
  · rfl
  · rfl
  · rfl
  try simp only [Act.put, List.getElem_toArray, List.getElem_cons_zero, List.getElem_cons_succ, List.setIfInBounds_toArray, List.set_cons_zero, List.set_cons_succ]
  with_reducible refine wpQuiet_step ?_
  intro K hK
  go_simp
  first
  | (refine hK _ ?_; clear hK K)
  | (apply Exists.intro
     refine ⟨fun W hW => ?_, hK _ ?_⟩
     first
     | exact rfl
     | exact ⟨rfl, rfl⟩
     | (with_reducible exact hcm.out W hW)
     clear hK K)
  with_reducible refine wpQuiet_step ?_
  intro K hK
  go_simp
  first
  | (refine hK _ ?_; clear hK K)
  | (apply Exists.intro
     refine ⟨fun W hW => ?_, hK _ ?_⟩
     first
     | exact rfl
     | exact ⟨rfl, rfl⟩
     | (with_reducible exact hcm.out W hW)
     clear hK K)
  with_reducible refine wpQuiet_step ?_
  intro K hK
  go_simp
  first
  | (refine hK _ ?_; clear hK K)
  | (apply Exists.intro
     refine ⟨fun W hW => ?_, hK _ ?_⟩
     first
     | exact rfl
     | exact ⟨rfl, rfl⟩
     | (with_reducible exact hcm.out W hW)
     clear hK K)
  with_reducible refine q_lds Tryd.isAgg3 (.tmp 29) ?_ ?_ ⟨B, 2, none⟩ ?_ (.int .i64 d) c2.out ?_
  · rfl
  · rfl
  · rfl
  try simp only [Act.put, List.getElem_toArray, List.getElem_cons_zero, List.getElem_cons_succ, List.setIfInBounds_toArray, List.set_cons_zero, List.set_cons_succ]
  with_reducible refine wpQuiet_step ?_
  intro K hK
  go_simp
  first
  | (refine hK _ ?_; clear hK K)
  | (apply Exists.intro
     refine ⟨fun W hW => ?_, hK _ ?_⟩
     first
     | exact rfl
     | exact ⟨rfl, rfl⟩
     | (with_reducible exact hcm.out W hW)
     clear hK K)
  with_reducible refine q_lds Tryd.isAgg3 (.tmp 31) ?_ ?_ ⟨B, 0, none⟩ ?_ (.int .i64 y) c0.out ?_
  · rfl
  · rfl
  · rfl
  try simp only [Act.put, List.getElem_toArray, List.getElem_cons_zero, List.getElem_cons_succ, List.setIfInBounds_toArray, List.set_cons_zero, List.set_cons_succ]
  with_reducible refine wpQuiet_step ?_
  intro K hK
  go_simp
  first
  | (refine hK _ ?_; clear hK K)
  | (apply Exists.intro
     refine ⟨fun W hW => ?_, hK _ ?_⟩
     first
     | exact rfl
     | exact ⟨rfl, rfl⟩
     | (with_reducible exact hcm.out W hW)
     clear hK K)
  with_reducible refine q_lds Tryd.isAgg3 (.tmp 33) ?_ ?_ ⟨B, 1, none⟩ ?_ (.int .i64 m) c1.out ?_
  · rfl
  · rfl
  · rfl
  try simp only [Act.put, List.getElem_toArray, List.getElem_cons_zero, List.getElem_cons_succ, List.setIfInBounds_toArray, List.set_cons_zero, List.set_cons_succ]
  with_reducible refine wpQuiet_step ?_
  intro K hK
  go_simp
  first
  | (refine hK _ ?_; clear hK K)
  | (apply Exists.intro
     refine ⟨fun W hW => ?_, hK _ ?_⟩
     first
     | exact rfl
     | exact ⟨rfl, rfl⟩
     | (with_reducible exact hcm.out W hW)
     clear hK K)
  with_reducible refine wpQuiet_step ?_
  intro K hK
  go_simp
  first
  | (refine hK _ ?_; clear hK K)
  | (apply Exists.intro
     refine ⟨fun W hW => ?_, hK _ ?_⟩
     first
     | exact rfl
     | exact ⟨rfl, rfl⟩
     | (with_reducible exact hcm.out W hW)
     clear hK K)
  with_reducible refine wpQuiet_step ?_
  intro K hK
  go_simp
  first
  | (refine hK _ ?_; clear hK K)
  | (apply Exists.intro
     refine ⟨fun W hW => ?_, hK _ ?_⟩
     first
     | exact rfl
     | exact ⟨rfl, rfl⟩
     | (with_reducible exact hcm.out W hW)
     clear hK K)
  with_reducible refine wpQuiet_step ?_
  intro K hK
  go_simp
  first
  | (refine hK _ ?_; clear hK K)
  | (apply Exists.intro
     refine ⟨fun W hW => ?_, hK _ ?_⟩
     first
     | exact rfl
     | exact ⟨rfl, rfl⟩
     | (with_reducible exact hcm.out W hW)
     clear hK K)
  with_reducible refine wpQuiet_step ?_
  intro K hK
  go_simp
  first
  | (refine hK _ ?_; clear hK K)
  | (apply Exists.intro
     refine ⟨fun W hW => ?_, hK _ ?_⟩
     first
     | exact rfl
     | exact ⟨rfl, rfl⟩
     | (with_reducible exact hcm.out W hW)
     clear hK K)
  with_reducible refine q_lds Tryd.isAgg3 (.tmp 39) ?_ ?_ ⟨B, 3, none⟩ ?_ (.int .i64 h) c3.out ?_
  · rfl
  · rfl
  · rfl
  try simp only [Act.put, List.getElem_toArray, List.getElem_cons_zero, List.getElem_cons_succ, List.setIfInBounds_toArray, List.set_cons_zero, List.set_cons_succ]
  with_reducible refine wpQuiet_step ?_
  intro K hK
  go_simp
  first
  | (refine hK _ ?_; clear hK K)
  | (apply Exists.intro
     refine ⟨fun W hW => ?_, hK _ ?_⟩
     first
     | exact rfl
     | exact ⟨rfl, rfl⟩
     | (with_reducible exact hcm.out W hW)
     clear hK K)
  with_reducible refine wpQuiet_step ?_
  intro K hK
  go_simp
  first
  | (refine hK _ ?_; clear hK K)
  | (apply Exists.intro
     refine ⟨fun W hW => ?_, hK _ ?_⟩
     first
     | exact rfl
     | exact ⟨rfl, rfl⟩
     | (with_reducible exact hcm.out W hW)
     clear hK K)
  with_reducible refine wpQuiet_step ?_
  intro K hK
  go_simp
  first
  | (refine hK _ ?_; clear hK K)
  | (apply Exists.intro
     refine ⟨fun W hW => ?_, hK _ ?_⟩
     first
     | exact rfl
     | exact ⟨rfl, rfl⟩
     | (with_reducible exact hcm.out W hW)
     clear hK K)
  with_reducible refine wpQuiet_step ?_
  intro K hK
  go_simp
  first
  | (refine hK _ ?_; clear hK K)
  | (apply Exists.intro
     refine ⟨fun W hW => ?_, hK _ ?_⟩
     first
     | exact rfl
     | exact ⟨rfl, rfl⟩
     | (with_reducible exact hcm.out W hW)
     clear hK K)
  with_reducible refine q_lds Tryd.isAgg3 (.tmp 44) ?_ ?_ ⟨B, 3, none⟩ ?_ (.int .i64 h) c3.out ?_
  · rfl
  · rfl
  · rfl
  try simp only [Act.put, List.getElem_toArray, List.getElem_cons_zero, List.getElem_cons_succ, List.setIfInBounds_toArray, List.set_cons_zero, List.set_cons_succ]
  with_reducible refine wpQuiet_step ?_
  intro K hK
  go_simp
  first
  | (refine hK _ ?_; clear hK K)
  | (apply Exists.intro
     refine ⟨fun W hW => ?_, hK _ ?_⟩
     first
     | exact rfl
     | exact ⟨rfl, rfl⟩
     | (with_reducible exact hcm.out W hW)
     clear hK K)
  with_reducible refine wpQuiet_step ?_
  intro K hK
  go_simp
  first
  | (refine hK _ ?_; clear hK K)
  | (apply Exists.intro
     refine ⟨fun W hW => ?_, hK _ ?_⟩
     first
     | exact rfl
     | exact ⟨rfl, rfl⟩
     | (with_reducible exact hcm.out W hW)
     clear hK K)
  with_reducible refine wpQuiet_step ?_
  intro K hK
  go_simp
  first
  | (refine hK _ ?_; clear hK K)
  | (apply Exists.intro
     refine ⟨fun W hW => ?_, hK _ ?_⟩
     first
     | exact rfl
     | exact ⟨rfl, rfl⟩
     | (with_reducible exact hcm.out W hW)
     clear hK K)
  with_reducible refine q_off ?_ ?_
  · rfl
  try simp only [Act.put, List.getElem_toArray, List.getElem_cons_zero, List.getElem_cons_succ, List.setIfInBounds_toArray, List.set_cons_zero, List.set_cons_succ]
  with_reducible refine q_off ?_ ?_
  · rfl
  try simp only [Act.put, List.getElem_toArray, List.getElem_cons_zero, List.getElem_cons_succ, List.setIfInBounds_toArray, List.set_cons_zero, List.set_cons_succ]
  with_reducible refine q_off ?_ ?_
  · rfl
  try simp only [Act.put, List.getElem_toArray, List.getElem_cons_zero, List.getElem_cons_succ, List.setIfInBounds_toArray, List.set_cons_zero, List.set_cons_succ]
  with_reducible refine wpQuiet_step ?_
  intro K hK
  go_simp
  first
  | (refine hK _ ?_; clear hK K)
  | (apply Exists.intro
     refine ⟨fun W hW => ?_, hK _ ?_⟩
     first
     | exact rfl
     | exact ⟨rfl, rfl⟩
     | (with_reducible exact hcm.out W hW)
     clear hK K)
  with_reducible refine wpQuiet_step ?_
  intro K hK
  go_simp
  first
  | (refine hK _ ?_; clear hK K)
  | (apply Exists.intro
     refine ⟨fun W hW => ?_, hK _ ?_⟩
     first
     | exact rfl
     | exact ⟨rfl, rfl⟩
     | (with_reducible exact hcm.out W hW)
     clear hK K)
  with_reducible refine q_off ?_ ?_
  · rfl
  try simp only [Act.put, List.getElem_toArray, List.getElem_cons_zero, List.getElem_cons_succ, List.setIfInBounds_toArray, List.set_cons_zero, List.set_cons_succ]
  with_reducible refine q_off ?_ ?_
  · rfl
  try simp only [Act.put, List.getElem_toArray, List.getElem_cons_zero, List.getElem_cons_succ, List.setIfInBounds_toArray, List.set_cons_zero, List.set_cons_succ]
  with_reducible refine q_off ?_ ?_
  · rfl
  try simp only [Act.put, List.getElem_toArray, List.getElem_cons_zero, List.getElem_cons_succ, List.setIfInBounds_toArray, List.set_cons_zero, List.set_cons_succ]
  with_reducible refine wpQuiet_step ?_
  intro K hK
  go_simp
  first
  | (refine hK _ ?_; clear hK K)
  | (apply Exists.intro
     refine ⟨fun W hW => ?_, hK _ ?_⟩
     first
     | exact rfl
     | exact ⟨rfl, rfl⟩
     | (with_reducible exact hcm.out W hW)
     clear hK K)
  refine wpQuiet_nil ?_
  intro V1 hV1
  have hB1 := Lib.hid (hCV.out V1 hV1)
  clear hV1 hcm hC1
  go_wp2
  go_ret2
  exact ⟨by rw [hf.out]; rfl, by rw [hHB.out]; exact hVV.out.trans (hB1.out.mono (Nat.le_of_lt hsV.out))⟩
set_option maxRecDepth 100000 in
set_option maxHeartbeats 1000000 in
theorem Tryd.qFromCivil_date4 (y m d h mi q : Int) (hq : Hid (Cal.md y m = q)) (hd : I64 d) (hh : I64 h) (hmi : I64 mi) (g1 : 2000 ≤ y) (g2 : y ≤ 2199) (g3 : 1 ≤ m) (g4 : m ≤ 12) (hf : Hid (fcv y m d h mi = .tuple #[.int .i64 0, .int .i64 13])) (b0 : decide (d < 1) = false) (b1 : decide (q < d) = false) (b2 : decide (h < 0) = false) (b3 : decide (23 < h) = false) (b4 : decide (mi < 0) = true) (w : World) :
    Calls Tryd.prog 15 #[.agg #[.int .i64 y, .int .i64 m, .int .i64 d, .int .i64 h, .int .i64 mi]] w fun e w' => e = .returned (fcv y m d h mi) ∧ Below w.heap.size w w' := by
  obtain ⟨d0, d1⟩ := hd
  obtain ⟨h0, h1⟩ := hh
  obtain ⟨i0, i1⟩ := hmi
  have n1 : decide (y < 2000) = false := decide_eq_false (by omega)
  have n2 : decide (2199 < y) = false := decide_eq_false (by omega)
  have n3 : decide (m < 1) = false := decide_eq_false (by omega)
  have n4 : decide (12 < m) = false := decide_eq_false (by omega)
  go_enter Tryd.func15, Tryd.ntmps15
  go_wp2_with fail
  have hV0 : Below w.heap.size w (w.alloc (.cells #[.int .i64 y, .int .i64 m, .int .i64 d, .int .i64 h, .int .i64 mi] 28)) := (Below.refl _ _).alloc (Nat.le_refl _) _
  have hR0 : (w.alloc (.cells #[.int .i64 y, .int .i64 m, .int .i64 d, .int .i64 h, .int .i64 mi] 28)).heap[w.heap.size]? = some (.cells #[.int .i64 y, .int .i64 m, .int .i64 d, .int .i64 h, .int .i64 mi] 28 (0, 0)) := Go.heap_alloc_new w _
  have hs0 : w.heap.size < (w.alloc (.cells #[.int .i64 y, .int .i64 m, .int .i64 d, .int .i64 h, .int .i64 mi] 28)).heap.size := by simp
  generalize w.alloc (.cells #[.int .i64 y, .int .i64 m, .int .i64 d, .int .i64 h, .int .i64 mi] 28) = V at hV0 hR0 hs0 ⊢
  generalize hB : w.heap.size = B at hV0 hR0 hs0 ⊢
  have hHB := Lib.hid hB
  clear hB
  obtain ⟨C, k1, kV, kb, kr⟩ : ∃ C : World → Prop, C { V with drawn := V.drawn + 1 } ∧ (∀ W, C W → Below V.heap.size V W) ∧ (∀ W W', C W → Below W.heap.size W W' → C W') ∧ (∀ W, C W → W.heap[B]? = some (.cells #[.int .i64 y, .int .i64 m, .int .i64 d, .int .i64 h, .int .i64 mi] 28 (0, 0))) :=
    ⟨fun W => Below V.heap.size V W, (Below.refl _ _).drew, fun W h => h, fun W W' h hb => h.trans (hb.mono h.size), fun W h => (h.block _ hs0).trans hR0⟩
  have hcm : Hid (∀ W, C W → Calls Tryd.prog 30 #[.int .i64 y, .int .i64 m] W fun e w' => e = .returned (.int .i64 q) ∧ C w') := Lib.hid fun W hW => (Tryd.qDays y m (by omega) (by omega) (by omega) (by omega) W).mono fun e w' h => ⟨by rw [← hq.out]; exact h.1, kb W w' hW h.2⟩
  have c0 := Lib.hid (fun W hW => (cells5 (kr W hW)).1)
  have c1 := Lib.hid (fun W hW => (cells5 (kr W hW)).2.1)
  have c2 := Lib.hid (fun W hW => (cells5 (kr W hW)).2.2.1)
  have c3 := Lib.hid (fun W hW => (cells5 (kr W hW)).2.2.2.1)
  have c4 := Lib.hid (fun W hW => (cells5 (kr W hW)).2.2.2.2.1)
  have hC1 := Lib.hid k1
  have hCV := Lib.hid kV
  have hRV := Lib.hid hR0
  have hsV := Lib.hid hs0
  have hVV := Lib.hid hV0
  clear k1 kV kb kr hR0 hs0 hV0
  refine q_region C (by kernel_rfl) (by kernel_rfl) hC1.out ?_
  with_reducible refine wpQuiet_step ?_
  intro K hK
  go_simp
  first
  | (refine hK _ ?_; clear hK K)
  | (apply Exists.intro
     refine ⟨fun W hW => ?_, hK _ ?_⟩
     first
     | exact rfl
     | exact ⟨rfl, rfl⟩
     | (with_reducible exact hcm.out W hW)
     clear hK K)
  with_reducible refine q_lds Tryd.isAgg3 (.tmp 25) ?_ ?_ ⟨B, 2, none⟩ ?_ (.int .i64 d) c2.out ?_
  · rfl
  · rfl
  · rfl
  try simp only [Act.put, List.getElem_toArray, List.getElem_cons_zero, List.getElem_cons_succ, List.setIfInBounds_toArray, List.set_cons_zero, List.set_cons_succ]
  with_reducible refine wpQuiet_step ?_
  intro K hK
  go_simp
  first
  | (refine hK _ ?_; clear hK K)
  | (apply Exists.intro
     refine ⟨fun W hW => ?_, hK _ ?_⟩
     first
     | exact rfl
     | exact ⟨rfl, rfl⟩
     | (with_reducible exact hcm.out W hW)
     clear hK K)
  with_reducible refine wpQuiet_step ?_
  intro K hK
  go_simp
  first
  | (refine hK _ ?_; clear hK K)
  | (apply Exists.intro
     refine ⟨fun W hW => ?_, hK _ ?_⟩
     first
     | exact rfl
     | exact ⟨rfl, rfl⟩
     | (with_reducible exact hcm.out W hW)
     clear hK K)
  with_reducible refine wpQuiet_step ?_
  intro K hK
  go_simp
  first
  | (refine hK _ ?_; clear hK K)
  | (apply Exists.intro
     refine ⟨fun W hW => ?_, hK _ ?_⟩
     first
     | exact rfl
     | exact ⟨rfl, rfl⟩
     | (with_reducible exact hcm.out W hW)
     clear hK K)
  with_reducible refine q_lds Tryd.isAgg3 (.tmp 29) ?_ ?_ ⟨B, 2, none⟩ ?_ (.int .i64 d) c2.out ?_
  · rfl
  · rfl
  · rfl
  try simp only [Act.put, List.getElem_toArray, List.getElem_cons_zero, List.getElem_cons_succ, List.setIfInBounds_toArray, List.set_cons_zero, List.set_cons_succ]
  with_reducible refine wpQuiet_step ?_
  intro K hK
  go_simp
  first
  | (refine hK _ ?_; clear hK K)
  | (apply Exists.intro
     refine ⟨fun W hW => ?_, hK _ ?_⟩
     first
     | exact rfl
     | exact ⟨rfl, rfl⟩
     | (with_reducible exact hcm.out W hW)
     clear hK K)
  with_reducible refine q_lds Tryd.isAgg3 (.tmp 31) ?_ ?_ ⟨B, 0, none⟩ ?_ (.int .i64 y) c0.out ?_
  · rfl
  · rfl
  · rfl
  try simp only [Act.put, List.getElem_toArray, List.getElem_cons_zero, List.getElem_cons_succ, List.setIfInBounds_toArray, List.set_cons_zero, List.set_cons_succ]
  with_reducible refine wpQuiet_step ?_
  intro K hK
  go_simp
  first
  | (refine hK _ ?_; clear hK K)
  | (apply Exists.intro
     refine ⟨fun W hW => ?_, hK _ ?_⟩
     first
     | exact rfl
     | exact ⟨rfl, rfl⟩
     | (with_reducible exact hcm.out W hW)
     clear hK K)
  with_reducible refine q_lds Tryd.isAgg3 (.tmp 33) ?_ ?_ ⟨B, 1, none⟩ ?_ (.int .i64 m) c1.out ?_
  · rfl
  · rfl
  · rfl
  try simp only [Act.put, List.getElem_toArray, List.getElem_cons_zero, List.getElem_cons_succ, List.setIfInBounds_toArray, List.set_cons_zero, List.set_cons_succ]
  with_reducible refine wpQuiet_step ?_
  intro K hK
  go_simp
  first
  | (refine hK _ ?_; clear hK K)
  | (apply Exists.intro
     refine ⟨fun W hW => ?_, hK _ ?_⟩
     first
     | exact rfl
     | exact ⟨rfl, rfl⟩
     | (with_reducible exact hcm.out W hW)
     clear hK K)
  with_reducible refine wpQuiet_step ?_
  intro K hK
  go_simp
  first
  | (refine hK _ ?_; clear hK K)
  | (apply Exists.intro
     refine ⟨fun W hW => ?_, hK _ ?_⟩
     first
     | exact rfl
     | exact ⟨rfl, rfl⟩
     | (with_reducible exact hcm.out W hW)
     clear hK K)
  with_reducible refine wpQuiet_step ?_
  intro K hK
  go_simp
  first
  | (refine hK _ ?_; clear hK K)
  | (apply Exists.intro
     refine ⟨fun W hW => ?_, hK _ ?_⟩
     first
     | exact rfl
     | exact ⟨rfl, rfl⟩
     | (with_reducible exact hcm.out W hW)
     clear hK K)
  with_reducible refine wpQuiet_step ?_
  intro K hK
  go_simp
  first
  | (refine hK _ ?_; clear hK K)
  | (apply Exists.intro
     refine ⟨fun W hW => ?_, hK _ ?_⟩
     first
     | exact rfl
     | exact ⟨rfl, rfl⟩
     | (with_reducible exact hcm.out W hW)
     clear hK K)
  with_reducible refine wpQuiet_step ?_
  intro K hK
  go_simp
  first
  | (refine hK _ ?_; clear hK K)
  | (apply Exists.intro
     refine ⟨fun W hW => ?_, hK _ ?_⟩
     first
     | exact rfl
     | exact ⟨rfl, rfl⟩
     | (with_reducible exact hcm.out W hW)
     clear hK K)
  with_reducible refine q_lds Tryd.isAgg3 (.tmp 39) ?_ ?_ ⟨B, 3, none⟩ ?_ (.int .i64 h) c3.out ?_
  · rfl
  · rfl
  · rfl
  try simp only [Act.put, List.getElem_toArray, List.getElem_cons_zero, List.getElem_cons_succ, List.setIfInBounds_toArray, List.set_cons_zero, List.set_cons_succ]
  with_reducible refine wpQuiet_step ?_
  intro K hK
  go_simp
  first
  | (refine hK _ ?_; clear hK K)
  | (apply Exists.intro
     refine ⟨fun W hW => ?_, hK _ ?_⟩
     first
     | exact rfl
     | exact ⟨rfl, rfl⟩
     | (with_reducible exact hcm.out W hW)
     clear hK K)
  with_reducible refine wpQuiet_step ?_
  intro K hK
  go_simp
  first
  | (refine hK _ ?_; clear hK K)
  | (apply Exists.intro
     refine ⟨fun W hW => ?_, hK _ ?_⟩
     first
     | exact rfl
     | exact ⟨rfl, rfl⟩
     | (with_reducible exact hcm.out W hW)
     clear hK K)
  with_reducible refine wpQuiet_step ?_
  intro K hK
  go_simp
  first
  | (refine hK _ ?_; clear hK K)
  | (apply Exists.intro
     refine ⟨fun W hW => ?_, hK _ ?_⟩
     first
     | exact rfl
     | exact ⟨rfl, rfl⟩
     | (with_reducible exact hcm.out W hW)
     clear hK K)
  with_reducible refine wpQuiet_step ?_
  intro K hK
  go_simp
  first
  | (refine hK _ ?_; clear hK K)
  | (apply Exists.intro
     refine ⟨fun W hW => ?_, hK _ ?_⟩
     first
     | exact rfl
     | exact ⟨rfl, rfl⟩
     | (with_reducible exact hcm.out W hW)
     clear hK K)
  with_reducible refine q_lds Tryd.isAgg3 (.tmp 44) ?_ ?_ ⟨B, 3, none⟩ ?_ (.int .i64 h) c3.out ?_
  · rfl
  · rfl
  · rfl
  try simp only [Act.put, List.getElem_toArray, List.getElem_cons_zero, List.getElem_cons_succ, List.setIfInBounds_toArray, List.set_cons_zero, List.set_cons_succ]
  with_reducible refine wpQuiet_step ?_
  intro K hK
  go_simp
  first
  | (refine hK _ ?_; clear hK K)
  | (apply Exists.intro
     refine ⟨fun W hW => ?_, hK _ ?_⟩
     first
     | exact rfl
     | exact ⟨rfl, rfl⟩
     | (with_reducible exact hcm.out W hW)
     clear hK K)
  with_reducible refine wpQuiet_step ?_
  intro K hK
  go_simp
  first
  | (refine hK _ ?_; clear hK K)
  | (apply Exists.intro
     refine ⟨fun W hW => ?_, hK _ ?_⟩
     first
     | exact rfl
     | exact ⟨rfl, rfl⟩
     | (with_reducible exact hcm.out W hW)
     clear hK K)
  with_reducible refine wpQuiet_step ?_
  intro K hK
  go_simp
  first
  | (refine hK _ ?_; clear hK K)
  | (apply Exists.intro
     refine ⟨fun W hW => ?_, hK _ ?_⟩
     first
     | exact rfl
     | exact ⟨rfl, rfl⟩
     | (with_reducible exact hcm.out W hW)
     clear hK K)
  with_reducible refine wpQuiet_step ?_
  intro K hK
  go_simp
  first
  | (refine hK _ ?_; clear hK K)
  | (apply Exists.intro
     refine ⟨fun W hW => ?_, hK _ ?_⟩
     first
     | exact rfl
     | exact ⟨rfl, rfl⟩
     | (with_reducible exact hcm.out W hW)
     clear hK K)
  with_reducible refine q_lds Tryd.isAgg3 (.tmp 49) ?_ ?_ ⟨B, 4, none⟩ ?_ (.int .i64 mi) c4.out ?_
  · rfl
  · rfl
  · rfl
  try simp only [Act.put, List.getElem_toArray, List.getElem_cons_zero, List.getElem_cons_succ, List.setIfInBounds_toArray, List.set_cons_zero, List.set_cons_succ]
  with_reducible refine wpQuiet_step ?_
  intro K hK
  go_simp
  first
  | (refine hK _ ?_; clear hK K)
  | (apply Exists.intro
     refine ⟨fun W hW => ?_, hK _ ?_⟩
     first
     | exact rfl
     | exact ⟨rfl, rfl⟩
     | (with_reducible exact hcm.out W hW)
     clear hK K)
  with_reducible refine wpQuiet_step ?_
  intro K hK
  go_simp
  first
  | (refine hK _ ?_; clear hK K)
  | (apply Exists.intro
     refine ⟨fun W hW => ?_, hK _ ?_⟩
     first
     | exact rfl
     | exact ⟨rfl, rfl⟩
     | (with_reducible exact hcm.out W hW)
     clear hK K)
  with_reducible refine wpQuiet_step ?_
  intro K hK
  go_simp
  first
  | (refine hK _ ?_; clear hK K)
  | (apply Exists.intro
     refine ⟨fun W hW => ?_, hK _ ?_⟩
     first
     | exact rfl
     | exact ⟨rfl, rfl⟩
     | (with_reducible exact hcm.out W hW)
     clear hK K)
  with_reducible refine q_off ?_ ?_
  · rfl
  try simp only [Act.put, List.getElem_toArray, List.getElem_cons_zero, List.getElem_cons_succ, List.setIfInBounds_toArray, List.set_cons_zero, List.set_cons_succ]
  with_reducible refine q_off ?_ ?_
  · rfl
  try simp only [Act.put, List.getElem_toArray, List.getElem_cons_zero, List.getElem_cons_succ, List.setIfInBounds_toArray, List.set_cons_zero, List.set_cons_succ]
  with_reducible refine q_off ?_ ?_
  · rfl
  try simp only [Act.put, List.getElem_toArray, List.getElem_cons_zero, List.getElem_cons_succ, List.setIfInBounds_toArray, List.set_cons_zero, List.set_cons_succ]
  with_reducible refine wpQuiet_step ?_
  intro K hK
  go_simp
  first
  | (refine hK _ ?_; clear hK K)
  | (apply Exists.intro
     refine ⟨fun W hW => ?_, hK _ ?_⟩
     first
     | exact rfl
     | exact ⟨rfl, rfl⟩
     | (with_reducible exact hcm.out W hW)
     clear hK K)
  refine wpQuiet_nil ?_
  intro V1 hV1
  have hB1 := Lib.hid (hCV.out V1 hV1)
  clear hV1 hcm hC1
  go_wp2
  go_ret2
  exact ⟨by rw [hf.out]; rfl, by rw [hHB.out]; exact hVV.out.trans (hB1.out.mono (Nat.le_of_lt hsV.out))⟩
set_option maxRecDepth 100000 in
set_option maxHeartbeats 1000000 in
theorem Tryd.qFromCivil_date5 (y m d h mi q : Int) (hq : Hid (Cal.md y m = q)) (hd : I64 d) (hh : I64 h) (hmi : I64 mi) (g1 : 2000 ≤ y) (g2 : y ≤ 2199) (g3 : 1 ≤ m) (g4 : m ≤ 12) (hf : Hid (fcv y m d h mi = .tuple #[.int .i64 0, .int .i64 13])) (b0 : decide (d < 1) = false) (b1 : decide (q < d) = false) (b2 : decide (h < 0) = false) (b3 : decide (23 < h) = false) (b4 : decide (mi < 0) = false) (b5 : decide (59 < mi) = true) (w : World) :
    Calls Tryd.prog 15 #[.agg #[.int .i64 y, .int .i64 m, .int .i64 d, .int .i64 h, .int .i64 mi]] w fun e w' => e = .returned (fcv y m d h mi) ∧ Below w.heap.size w w' := by
  obtain ⟨d0, d1⟩ := hd
  obtain ⟨h0, h1⟩ := hh
  obtain ⟨i0, i1⟩ := hmi
  have n1 : decide (y < 2000) = false := decide_eq_false (by omega)
  have n2 : decide (2199 < y) = false := decide_eq_false (by omega)
  have n3 : decide (m < 1) = false := decide_eq_false (by omega)
  have n4 : decide (12 < m) = false := decide_eq_false (by omega)
  go_enter Tryd.func15, Tryd.ntmps15
  go_wp2_with fail
  have hV0 : Below w.heap.size w (w.alloc (.cells #[.int .i64 y, .int .i64 m, .int .i64 d, .int .i64 h, .int .i64 mi] 28)) := (Below.refl _ _).alloc (Nat.le_refl _) _
  have hR0 : (w.alloc (.cells #[.int .i64 y, .int .i64 m, .int .i64 d, .int .i64 h, .int .i64 mi] 28)).heap[w.heap.size]? = some (.cells #[.int .i64 y, .int .i64 m, .int .i64 d, .int .i64 h, .int .i64 mi] 28 (0, 0)) := Go.heap_alloc_new w _
  have hs0 : w.heap.size < (w.alloc (.cells #[.int .i64 y, .int .i64 m, .int .i64 d, .int .i64 h, .int .i64 mi] 28)).heap.size := by simp
  generalize w.alloc (.cells #[.int .i64 y, .int .i64 m, .int .i64 d, .int .i64 h, .int .i64 mi] 28) = V at hV0 hR0 hs0 ⊢
  generalize hB : w.heap.size = B at hV0 hR0 hs0 ⊢
  have hHB := Lib.hid hB
  clear hB
  obtain ⟨C, k1, kV, kb, kr⟩ : ∃ C : World → Prop, C { V with drawn := V.drawn + 1 } ∧ (∀ W, C W → Below V.heap.size V W) ∧ (∀ W W', C W → Below W.heap.size W W' → C W') ∧ (∀ W, C W → W.heap[B]? = some (.cells #[.int .i64 y, .int .i64 m, .int .i64 d, .int .i64 h, .int .i64 mi] 28 (0, 0))) :=
    ⟨fun W => Below V.heap.size V W, (Below.refl _ _).drew, fun W h => h, fun W W' h hb => h.trans (hb.mono h.size), fun W h => (h.block _ hs0).trans hR0⟩
  have hcm : Hid (∀ W, C W → Calls Tryd.prog 30 #[.int .i64 y, .int .i64 m] W fun e w' => e = .returned (.int .i64 q) ∧ C w') := Lib.hid fun W hW => (Tryd.qDays y m (by omega) (by omega) (by omega) (by omega) W).mono fun e w' h => ⟨by rw [← hq.out]; exact h.1, kb W w' hW h.2⟩
  have c0 := Lib.hid (fun W hW => (cells5 (kr W hW)).1)
  have c1 := Lib.hid (fun W hW => (cells5 (kr W hW)).2.1)
  have c2 := Lib.hid (fun W hW => (cells5 (kr W hW)).2.2.1)
  have c3 := Lib.hid (fun W hW => (cells5 (kr W hW)).2.2.2.1)
  have c4 := Lib.hid (fun W hW => (cells5 (kr W hW)).2.2.2.2.1)
  have hC1 := Lib.hid k1
  have hCV := Lib.hid kV
  have hRV := Lib.hid hR0
  have hsV := Lib.hid hs0
  have hVV := Lib.hid hV0
  clear k1 kV kb kr hR0 hs0 hV0
  refine q_region C (by kernel_rfl) (by kernel_rfl) hC1.out ?_
  with_reducible refine wpQuiet_step ?_
  intro K hK
  go_simp
  first
  | (refine hK _ ?_; clear hK K)
  | (apply Exists.intro
     refine ⟨fun W hW => ?_, hK _ ?_⟩
     first
     | exact rfl
     | exact ⟨rfl, rfl⟩
     | (with_reducible exact hcm.out W hW)
     clear hK K)
  with_reducible refine q_lds Tryd.isAgg3 (.tmp 25) ?_ ?_ ⟨B, 2, none⟩ ?_ (.int .i64 d) c2.out ?_
  · rfl
  · rfl
  · rfl
  try simp only [Act.put, List.getElem_toArray, List.getElem_cons_zero, List.getElem_cons_succ, List.setIfInBounds_toArray, List.set_cons_zero, List.set_cons_succ]
  with_reducible refine wpQuiet_step ?_
  intro K hK
  go_simp
  first
  | (refine hK _ ?_; clear hK K)
  | (apply Exists.intro
     refine ⟨fun W hW => ?_, hK _ ?_⟩
     first
     | exact rfl
     | exact ⟨rfl, rfl⟩
     | (with_reducible exact hcm.out W hW)
     clear hK K)
  with_reducible refine wpQuiet_step ?_
  intro K hK
  go_simp
  first
  | (refine hK _ ?_; clear hK K)
  | (apply Exists.intro
     refine ⟨fun W hW => ?_, hK _ ?_⟩
     first
     | exact rfl
     | exact ⟨rfl, rfl⟩
     | (with_reducible exact hcm.out W hW)
     clear hK K)
  with_reducible refine wpQuiet_step ?_
  intro K hK
  go_simp
  first
  | (refine hK _ ?_; clear hK K)
  | (apply Exists.intro
     refine ⟨fun W hW => ?_, hK _ ?_⟩
     first
     | exact rfl
     | exact ⟨rfl, rfl⟩
     | (with_reducible exact hcm.out W hW)
     clear hK K)
  with_reducible refine q_lds Tryd.isAgg3 (.tmp 29) ?_ ?_ ⟨B, 2, none⟩ ?_ (.int .i64 d) c2.out ?_
  · rfl
  · rfl
  · rfl
  try simp only [Act.put, List.getElem_toArray, List.getElem_cons_zero, List.getElem_cons_succ, List.setIfInBounds_toArray, List.set_cons_zero, List.set_cons_succ]
  with_reducible refine wpQuiet_step ?_
  intro K hK
  go_simp
  first
  | (refine hK _ ?_; clear hK K)
  | (apply Exists.intro
     refine ⟨fun W hW => ?_, hK _ ?_⟩
     first
     | exact rfl
     | exact ⟨rfl, rfl⟩
     | (with_reducible exact hcm.out W hW)
     clear hK K)
  with_reducible refine q_lds Tryd.isAgg3 (.tmp 31) ?_ ?_ ⟨B, 0, none⟩ ?_ (.int .i64 y) c0.out ?_
  · rfl
  · rfl
  · rfl
  try simp only [Act.put, List.getElem_toArray, List.getElem_cons_zero, List.getElem_cons_succ, List.setIfInBounds_toArray, List.set_cons_zero, List.set_cons_succ]
  with_reducible refine wpQuiet_step ?_
  intro K hK
  go_simp
  first
  | (refine hK _ ?_; clear hK K)
  | (apply Exists.intro
     refine ⟨fun W hW => ?_, hK _ ?_⟩
     first
     | exact rfl
     | exact ⟨rfl, rfl⟩
     | (with_reducible exact hcm.out W hW)
     clear hK K)
  with_reducible refine q_lds Tryd.isAgg3 (.tmp 33) ?_ ?_ ⟨B, 1, none⟩ ?_ (.int .i64 m) c1.out ?_
  · rfl
  · rfl
  · rfl
  try simp only [Act.put, List.getElem_toArray, List.getElem_cons_zero, List.getElem_cons_succ, List.setIfInBounds_toArray, List.set_cons_zero, List.set_cons_succ]
  with_reducible refine wpQuiet_step ?_
  intro K hK
  go_simp
  first
  | (refine hK _ ?_; clear hK K)
  | (apply Exists.intro
     refine ⟨fun W hW => ?_, hK _ ?_⟩
     first
     | exact rfl
     | exact ⟨rfl, rfl⟩
     | (with_reducible exact hcm.out W hW)
     clear hK K)
  with_reducible refine wpQuiet_step ?_
  intro K hK
  go_simp
  first
  | (refine hK _ ?_; clear hK K)
  | (apply Exists.intro
     refine ⟨fun W hW => ?_, hK _ ?_⟩
     first
     | exact rfl
     | exact ⟨rfl, rfl⟩
     | (with_reducible exact hcm.out W hW)
     clear hK K)
  with_reducible refine wpQuiet_step ?_
  intro K hK
  go_simp
  first
  | (refine hK _ ?_; clear hK K)
  | (apply Exists.intro
     refine ⟨fun W hW => ?_, hK _ ?_⟩
     first
     | exact rfl
     | exact ⟨rfl, rfl⟩
     | (with_reducible exact hcm.out W hW)
     clear hK K)
  with_reducible refine wpQuiet_step ?_
  intro K hK
  go_simp
  first
  | (refine hK _ ?_; clear hK K)
  | (apply Exists.intro
     refine ⟨fun W hW => ?_, hK _ ?_⟩
     first
     | exact rfl
     | exact ⟨rfl, rfl⟩
     | (with_reducible exact hcm.out W hW)
     clear hK K)
  with_reducible refine wpQuiet_step ?_
  intro K hK
  go_simp
  first
  | (refine hK _ ?_; clear hK K)
  | (apply Exists.intro
     refine ⟨fun W hW => ?_, hK _ ?_⟩
     first
     | exact rfl
     | exact ⟨rfl, rfl⟩
     | (with_reducible exact hcm.out W hW)
     clear hK K)
  with_reducible refine q_lds Tryd.isAgg3 (.tmp 39) ?_ ?_ ⟨B, 3, none⟩ ?_ (.int .i64 h) c3.out ?_
  · rfl
  · rfl
  · rfl
  try simp only [Act.put, List.getElem_toArray, List.getElem_cons_zero, List.getElem_cons_succ, List.setIfInBounds_toArray, List.set_cons_zero, List.set_cons_succ]
  with_reducible refine wpQuiet_step ?_
  intro K hK
  go_simp
  first
  | (refine hK _ ?_; clear hK K)
  | (apply Exists.intro
     refine ⟨fun W hW => ?_, hK _ ?_⟩
     first
     | exact rfl
     | exact ⟨rfl, rfl⟩
     | (with_reducible exact hcm.out W hW)
     clear hK K)
  with_reducible refine wpQuiet_step ?_
  intro K hK
  go_simp
  first
  | (refine hK _ ?_; clear hK K)
  | (apply Exists.intro
     refine ⟨fun W hW => ?_, hK _ ?_⟩
     first
     | exact rfl
     | exact ⟨rfl, rfl⟩
     | (with_reducible exact hcm.out W hW)
     clear hK K)
  with_reducible refine wpQuiet_step ?_
  intro K hK
  go_simp
  first
  | (refine hK _ ?_; clear hK K)
  | (apply Exists.intro
     refine ⟨fun W hW => ?_, hK _ ?_⟩
     first
     | exact rfl
     | exact ⟨rfl, rfl⟩
     | (with_reducible exact hcm.out W hW)
     clear hK K)
  with_reducible refine wpQuiet_step ?_
  intro K hK
  go_simp
  first
  | (refine hK _ ?_; clear hK K)
  | (apply Exists.intro
     refine ⟨fun W hW => ?_, hK _ ?_⟩
     first
     | exact rfl
     | exact ⟨rfl, rfl⟩
     | (with_reducible exact hcm.out W hW)
     clear hK K)
  with_reducible refine q_lds Tryd.isAgg3 (.tmp 44) ?_ ?_ ⟨B, 3, none⟩ ?_ (.int .i64 h) c3.out ?_
  · rfl
  · rfl
  · rfl
  try simp only [Act.put, List.getElem_toArray, List.getElem_cons_zero, List.getElem_cons_succ, List.setIfInBounds_toArray, List.set_cons_zero, List.set_cons_succ]
  with_reducible refine wpQuiet_step ?_
  intro K hK
  go_simp
  first
  | (refine hK _ ?_; clear hK K)
  | (apply Exists.intro
     refine ⟨fun W hW => ?_, hK _ ?_⟩
     first
     | exact rfl
     | exact ⟨rfl, rfl⟩
     | (with_reducible exact hcm.out W hW)
     clear hK K)
  with_reducible refine wpQuiet_step ?_
  intro K hK
  go_simp
  first
  | (refine hK _ ?_; clear hK K)
  | (apply Exists.intro
     refine ⟨fun W hW => ?_, hK _ ?_⟩
     first
     | exact rfl
     | exact ⟨rfl, rfl⟩
     | (with_reducible exact hcm.out W hW)
     clear hK K)
  with_reducible refine wpQuiet_step ?_
  intro K hK
  go_simp
  first
  | (refine hK _ ?_; clear hK K)
  | (apply Exists.intro
     refine ⟨fun W hW => ?_, hK _ ?_⟩
     first
     | exact rfl
     | exact ⟨rfl, rfl⟩
     | (with_reducible exact hcm.out W hW)
     clear hK K)
  with_reducible refine wpQuiet_step ?_
  intro K hK
  go_simp
  first
  | (refine hK _ ?_; clear hK K)
  | (apply Exists.intro
     refine ⟨fun W hW => ?_, hK _ ?_⟩
     first
     | exact rfl
     | exact ⟨rfl, rfl⟩
     | (with_reducible exact hcm.out W hW)
     clear hK K)
  with_reducible refine q_lds Tryd.isAgg3 (.tmp 49) ?_ ?_ ⟨B, 4, none⟩ ?_ (.int .i64 mi) c4.out ?_
  · rfl
  · rfl
  · rfl
  try simp only [Act.put, List.getElem_toArray, List.getElem_cons_zero, List.getElem_cons_succ, List.setIfInBounds_toArray, List.set_cons_zero, List.set_cons_succ]
  with_reducible refine wpQuiet_step ?_
  intro K hK
  go_simp
  first
  | (refine hK _ ?_; clear hK K)
  | (apply Exists.intro
     refine ⟨fun W hW => ?_, hK _ ?_⟩
     first
     | exact rfl
     | exact ⟨rfl, rfl⟩
     | (with_reducible exact hcm.out W hW)
     clear hK K)
  with_reducible refine wpQuiet_step ?_
  intro K hK
  go_simp
  first
  | (refine hK _ ?_; clear hK K)
  | (apply Exists.intro
     refine ⟨fun W hW => ?_, hK _ ?_⟩
     first
     | exact rfl
     | exact ⟨rfl, rfl⟩
     | (with_reducible exact hcm.out W hW)
     clear hK K)
  with_reducible refine wpQuiet_step ?_
  intro K hK
  go_simp
  first
  | (refine hK _ ?_; clear hK K)
  | (apply Exists.intro
     refine ⟨fun W hW => ?_, hK _ ?_⟩
     first
     | exact rfl
     | exact ⟨rfl, rfl⟩
     | (with_reducible exact hcm.out W hW)
     clear hK K)
  with_reducible refine wpQuiet_step ?_
  intro K hK
  go_simp
  first
  | (refine hK _ ?_; clear hK K)
  | (apply Exists.intro
     refine ⟨fun W hW => ?_, hK _ ?_⟩
     first
     | exact rfl
     | exact ⟨rfl, rfl⟩
     | (with_reducible exact hcm.out W hW)
     clear hK K)
  with_reducible refine q_lds Tryd.isAgg3 (.tmp 54) ?_ ?_ ⟨B, 4, none⟩ ?_ (.int .i64 mi) c4.out ?_
  · rfl
  · rfl
  · rfl
  try simp only [Act.put, List.getElem_toArray, List.getElem_cons_zero, List.getElem_cons_succ, List.setIfInBounds_toArray, List.set_cons_zero, List.set_cons_succ]
  with_reducible refine wpQuiet_step ?_
  intro K hK
  go_simp
  first
  | (refine hK _ ?_; clear hK K)
  | (apply Exists.intro
     refine ⟨fun W hW => ?_, hK _ ?_⟩
     first
     | exact rfl
     | exact ⟨rfl, rfl⟩
     | (with_reducible exact hcm.out W hW)
     clear hK K)
  with_reducible refine wpQuiet_step ?_
  intro K hK
  go_simp
  first
  | (refine hK _ ?_; clear hK K)
  | (apply Exists.intro
     refine ⟨fun W hW => ?_, hK _ ?_⟩
     first
     | exact rfl
     | exact ⟨rfl, rfl⟩
     | (with_reducible exact hcm.out W hW)
     clear hK K)
  refine wpQuiet_nil ?_
  intro V1 hV1
  have hB1 := Lib.hid (hCV.out V1 hV1)
  clear hV1 hcm hC1
  go_wp2
  go_ret2
  exact ⟨by rw [hf.out]; rfl, by rw [hHB.out]; exact hVV.out.trans (hB1.out.mono (Nat.le_of_lt hsV.out))⟩
end Go.Proofs
