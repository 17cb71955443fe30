/- FormatZone for all offsets, Format -/
import Derived.Test.YtgbpafapmbnfjaaDoorQfz
namespace Go.Proofs
open Go.RowKit Go.Shelf
set_option linter.unusedVariables false
set_option linter.unusedSimpArgs false
open TK
theorem Tryd.dFormatZone (t off : Int) (hoff : -9223372036854775808 ≤ off ∧ off ≤ 9223372036854775807) (w : World) (hT : Tabs w) : Calls Tryd.prog 18 #[.int .i64 t, .int .i64 off] w fun e w' => e = .returned (fzv t off) ∧ Below w.heap.size w w' := by
  cases h : okz t off
  · exact Tryd.dFormatZone_bad t off h hoff w
  · exact Tryd.dFormatZone_good t off h w hT
theorem Tryd.qFormatZone (t off : Int) (hoff : -9223372036854775808 ≤ off ∧ off ≤ 9223372036854775807) (w : World) : Calls Tryd.prog 17 #[.int .i64 t, .int .i64 off] w fun e w' => e = .returned (fzv t off) ∧ Below w.heap.size w w' := by
  cases h : okz t off
  · exact Tryd.qFormatZone_bad t off h hoff w
  · exact Tryd.qFormatZone_good t off h w
theorem TK.fzv_ex (t off : Int) : ∃ s n, fzv t off = .tuple #[.string s, .int .i64 n] := by
  unfold fzv
  split
  · exact ⟨_, _, rfl⟩
  · exact ⟨_, _, rfl⟩
theorem Tryd.dFormat (t : Int) (w : World) (hT : Tabs w) : Calls Tryd.prog 16 #[.int .i64 t] w fun e w' => e = .returned (fzv t 0) ∧ Below w.heap.size w w' := by
  have hc := Tryd.dFormatZone t 0 ⟨by omega, by omega⟩ w hT
  obtain ⟨s, n, hv⟩ := fzv_ex t 0
  rw [hv] at hc ⊢
  have hHc := Lib.hid hc
  clear hc hT hv
  go_enter Tryd.func16, Tryd.ntmps16
  go_wp2_with (go_at_call 18; refine (hHc.out).mono ?_; rintro e w' ⟨rfl, hb⟩)
  go_ret2
  exact ⟨rfl, hb⟩
end Go.Proofs
