/- known of the Date laws -/
import Derived.Test.YtgbpafapmbnfjaaDoorDy
namespace Go.Proofs
open Go.RowKit Go.Shelf
set_option linter.unusedVariables false
set_option linter.unusedSimpArgs false
open TK
namespace TK
def kA : ByteArray := ⟨#[77, 111, 110, 44, 32, 49, 54, 32, 78, 111, 118, 32, 50, 48, 50, 54, 32, 48, 50, 58, 48, 53, 32, 43, 48, 48, 48, 48]⟩
def kB : ByteArray := ⟨#[49, 54, 32, 110, 111, 118, 32, 50, 48, 50, 54, 32, 48, 51, 58, 51, 53, 32, 43, 48, 49, 51, 48]⟩
def kC : ByteArray := ⟨#[49, 54, 32, 110, 111, 118, 32, 50, 48, 50, 54, 32, 51, 58, 51, 53, 32, 43, 48, 49, 51, 48]⟩
theorem kA_txt : (txt 14135165 0).toArray = kA.data := by decide +kernel
theorem kA_ok : okz 14135165 0 = true := by decide +kernel
set_option maxRecDepth 100000 in
theorem kB_parse : parse kB = (14135165, 0, 0) := by decide +kernel
set_option maxRecDepth 100000 in
theorem kC_parse : parse kC = (0, 13, 3) := by decide +kernel
end TK
set_option maxRecDepth 100000 in
set_option maxHeartbeats 1000000 in
theorem Tryd.kKnown (w : World) (hT : Tabs w) : Calls Tryd.prog 10 #[] w fun e w' => e = .returned (.bool true) ∧ Below w.heap.size w w' := by
  have h1 : ∀ W, Tabs W → Calls Tryd.prog 16 #[.int .i64 14135165] W fun e w' => e = .returned (.tuple #[.string ⟨#[77, 111, 110, 44, 32, 49, 54, 32, 78, 111, 118, 32, 50, 48, 50, 54, 32, 48, 50, 58, 48, 53, 32, 43, 48, 48, 48, 48]⟩, .int .i64 0]) ∧ Below W.heap.size W w' := fun W h => by
    have hc := Tryd.dFormat 14135165 W h
    rw [fzv_eq] at hc
    unfold fzs fze at hc
    rw [kA_ok, if_pos rfl, if_pos rfl, kA_txt] at hc
    exact hc
  have h2 : ∀ W, Tabs W → Calls Tryd.prog 20 #[.string ⟨#[49, 54, 32, 110, 111, 118, 32, 50, 48, 50, 54, 32, 48, 51, 58, 51, 53, 32, 43, 48, 49, 51, 48]⟩] W fun e w' => e = .returned (.tuple #[.int .i64 14135165, .int .i64 0, .int .i64 0]) ∧ Below W.heap.size W w' := fun W h => by
    have hc := Tryd.dParse kB (by decide) W h
    unfold parsev at hc
    rw [kB_parse] at hc
    exact hc
  have h3 : ∀ W, Tabs W → Calls Tryd.prog 20 #[.string ⟨#[49, 54, 32, 110, 111, 118, 32, 50, 48, 50, 54, 32, 51, 58, 51, 53, 32, 43, 48, 49, 51, 48]⟩] W fun e w' => e = .returned (.tuple #[.int .i64 0, .int .i64 13, .int .i64 3]) ∧ Below W.heap.size W w' := fun W h => by
    have hc := Tryd.dParse kC (by decide) W h
    unfold parsev at hc
    rw [kC_parse] at hc
    exact hc
  have hTw := Lib.hid hT
  clear hT
  go_enter Tryd.func10, Tryd.ntmps10
  go_wp2_with fail
  refine (h1 _ hTw.out).mono ?_
  rintro e W1 ⟨rfl, hb1⟩
  have hT1 := hTw.out.below hb1
  have hB1 := Lib.hid hb1
  clear h1 hb1
  go_wp2_with fail
  refine (h2 _ hT1).mono ?_
  rintro e W2 ⟨rfl, hb2⟩
  have hT2 := hT1.below hb2
  have hB2 := Lib.hid (hB1.out.trans (hb2.mono hB1.out.size))
  clear h2 hT1 hb2
  go_wp2_with fail
  refine (h3 _ hT2).mono ?_
  rintro e W3 ⟨rfl, hb3⟩
  have hB3 : Below w.heap.size w W3 := hB2.out.trans (hb3.mono hB2.out.size)
  clear h3 hT2 hb3
  go_wp2_with fail
  go_ret
  exact ⟨rfl, hB3⟩
end Go.Proofs
