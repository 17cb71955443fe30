/- zones -/
import Derived.Test.YtgbpafapmbnfjaaDoorSm
import Derived.Maps.OwnSet
namespace Go.Proofs
open Go.RowKit Go.Shelf Go.Maps
set_option linter.unusedVariables false
set_option linter.unusedSimpArgs false
namespace TK
def zput (D : DataW Empty) (u : List UInt8) (c : Int) : DataW Empty := D.put (.string u) (.lit (.int .i64 c))
def zD : DataW Empty := (zput (zput (zput (zput (zput (zput (zput (zput (zput (zput (zput (zput (.map []) [85, 84] (0)) [85, 84, 67] (0)) [71, 77, 84] (0)) [90] (0)) [69, 83, 84] (-300)) [69, 68, 84] (-240)) [67, 83, 84] (-360)) [67, 68, 84] (-300)) [77, 83, 84] (-420)) [77, 68, 84] (-360)) [80, 83, 84] (-480)) [80, 68, 84] (-420))
end TK
open TK
set_option maxRecDepth 100000 in
set_option maxHeartbeats 2000000 in
theorem Tryd.dZones (w : World) : Calls Tryd.prog 67 #[] w fun z w' => z = .returned (.map (some w.heap.size)) ∧ Below w.heap.size w w' ∧ w'.ownsMap Tryd.prog 9 (plainElem Tryd.prog 3) w.heap.size 12 zD := by
  have hmm := @run_makeMap Tryd.prog
  obtain ⟨w0, hw0⟩ : ∃ w0, w.alloc (.map #[] 0) = w0 := ⟨_, rfl⟩
  have hown0 : w0.ownsMap Tryd.prog 9 (plainElem (H := Empty) Tryd.prog 3) w.heap.size 0 (.map []) := by rw [← hw0]; exact World.ownsMap_made _ _ _ _
  have hB0 : Below w.heap.size w w0 := by rw [← hw0]; exact (Below.refl _ _).alloc (Nat.le_refl _) _
  obtain ⟨w1, hrun1, hown1, hg1⟩ := hown0.update (t := 97) (string_keyed Tryd.underlying9) Tryd.underlying97 (by unfold maxLen; omega) (WideMaps.keyOf_string_mk (s := ⟨#[85, 84]⟩) Tryd.underlying9 (by unfold maxLen; decide)) (plainElem_int Tryd.underlying3 (a := 0) (by decide))
  have hB1 := hB0.grown hg1 hB0.size (fun j hj => by cases hj; exact Nat.le_refl _)
  obtain ⟨w2, hrun2, hown2, hg2⟩ := hown1.update (t := 97) (string_keyed Tryd.underlying9) Tryd.underlying97 (by unfold maxLen; omega) (WideMaps.keyOf_string_mk (s := ⟨#[85, 84, 67]⟩) Tryd.underlying9 (by unfold maxLen; decide)) (plainElem_int Tryd.underlying3 (a := 0) (by decide))
  have hB2 := hB1.grown hg2 hB1.size (fun j hj => by cases hj; exact Nat.le_refl _)
  obtain ⟨w3, hrun3, hown3, hg3⟩ := hown2.update (t := 97) (string_keyed Tryd.underlying9) Tryd.underlying97 (by unfold maxLen; omega) (WideMaps.keyOf_string_mk (s := ⟨#[71, 77, 84]⟩) Tryd.underlying9 (by unfold maxLen; decide)) (plainElem_int Tryd.underlying3 (a := 0) (by decide))
  have hB3 := hB2.grown hg3 hB2.size (fun j hj => by cases hj; exact Nat.le_refl _)
  obtain ⟨w4, hrun4, hown4, hg4⟩ := hown3.update (t := 97) (string_keyed Tryd.underlying9) Tryd.underlying97 (by unfold maxLen; omega) (WideMaps.keyOf_string_mk (s := ⟨#[90]⟩) Tryd.underlying9 (by unfold maxLen; decide)) (plainElem_int Tryd.underlying3 (a := 0) (by decide))
  have hB4 := hB3.grown hg4 hB3.size (fun j hj => by cases hj; exact Nat.le_refl _)
  obtain ⟨w5, hrun5, hown5, hg5⟩ := hown4.update (t := 97) (string_keyed Tryd.underlying9) Tryd.underlying97 (by unfold maxLen; omega) (WideMaps.keyOf_string_mk (s := ⟨#[69, 83, 84]⟩) Tryd.underlying9 (by unfold maxLen; decide)) (plainElem_int Tryd.underlying3 (a := -300) (by decide))
  have hB5 := hB4.grown hg5 hB4.size (fun j hj => by cases hj; exact Nat.le_refl _)
  obtain ⟨w6, hrun6, hown6, hg6⟩ := hown5.update (t := 97) (string_keyed Tryd.underlying9) Tryd.underlying97 (by unfold maxLen; omega) (WideMaps.keyOf_string_mk (s := ⟨#[69, 68, 84]⟩) Tryd.underlying9 (by unfold maxLen; decide)) (plainElem_int Tryd.underlying3 (a := -240) (by decide))
  have hB6 := hB5.grown hg6 hB5.size (fun j hj => by cases hj; exact Nat.le_refl _)
  obtain ⟨w7, hrun7, hown7, hg7⟩ := hown6.update (t := 97) (string_keyed Tryd.underlying9) Tryd.underlying97 (by unfold maxLen; omega) (WideMaps.keyOf_string_mk (s := ⟨#[67, 83, 84]⟩) Tryd.underlying9 (by unfold maxLen; decide)) (plainElem_int Tryd.underlying3 (a := -360) (by decide))
  have hB7 := hB6.grown hg7 hB6.size (fun j hj => by cases hj; exact Nat.le_refl _)
  obtain ⟨w8, hrun8, hown8, hg8⟩ := hown7.update (t := 97) (string_keyed Tryd.underlying9) Tryd.underlying97 (by unfold maxLen; omega) (WideMaps.keyOf_string_mk (s := ⟨#[67, 68, 84]⟩) Tryd.underlying9 (by unfold maxLen; decide)) (plainElem_int Tryd.underlying3 (a := -300) (by decide))
  have hB8 := hB7.grown hg8 hB7.size (fun j hj => by cases hj; exact Nat.le_refl _)
  obtain ⟨w9, hrun9, hown9, hg9⟩ := hown8.update (t := 97) (string_keyed Tryd.underlying9) Tryd.underlying97 (by unfold maxLen; omega) (WideMaps.keyOf_string_mk (s := ⟨#[77, 83, 84]⟩) Tryd.underlying9 (by unfold maxLen; decide)) (plainElem_int Tryd.underlying3 (a := -420) (by decide))
  have hB9 := hB8.grown hg9 hB8.size (fun j hj => by cases hj; exact Nat.le_refl _)
  obtain ⟨w10, hrun10, hown10, hg10⟩ := hown9.update (t := 97) (string_keyed Tryd.underlying9) Tryd.underlying97 (by unfold maxLen; omega) (WideMaps.keyOf_string_mk (s := ⟨#[77, 68, 84]⟩) Tryd.underlying9 (by unfold maxLen; decide)) (plainElem_int Tryd.underlying3 (a := -360) (by decide))
  have hB10 := hB9.grown hg10 hB9.size (fun j hj => by cases hj; exact Nat.le_refl _)
  obtain ⟨w11, hrun11, hown11, hg11⟩ := hown10.update (t := 97) (string_keyed Tryd.underlying9) Tryd.underlying97 (by unfold maxLen; omega) (WideMaps.keyOf_string_mk (s := ⟨#[80, 83, 84]⟩) Tryd.underlying9 (by unfold maxLen; decide)) (plainElem_int Tryd.underlying3 (a := -480) (by decide))
  have hB11 := hB10.grown hg11 hB10.size (fun j hj => by cases hj; exact Nat.le_refl _)
  obtain ⟨w12, hrun12, hown12, hg12⟩ := hown11.update (t := 97) (string_keyed Tryd.underlying9) Tryd.underlying97 (by unfold maxLen; omega) (WideMaps.keyOf_string_mk (s := ⟨#[80, 68, 84]⟩) Tryd.underlying9 (by unfold maxLen; decide)) (plainElem_int Tryd.underlying3 (a := -420) (by decide))
  have hB12 := hB11.grown hg12 hB11.size (fun j hj => by cases hj; exact Nat.le_refl _)
  have hfo := Lib.hid hown12
  have hfb := Lib.hid hB12
  clear hown0 hB0 hown1 hB1 hown2 hB2 hown3 hB3 hown4 hB4 hown5 hB5 hown6 hB6 hown7 hB7 hown8 hB8 hown9 hB9 hown10 hB10 hown11 hB11 hown12 hB12 hg1 hg2 hg3 hg4 hg5 hg6 hg7 hg8 hg9 hg10 hg11 hg12
  go_enter Tryd.func67, Tryd.ntmps67
  go_wp2_with fail
  go_ret
  exact ⟨rfl, hfb.out, hfo.out⟩
end Go.Proofs
