/- the tables that the row lists, as the walks take them -/
import Derived.Test.YtgbpafapmbnfjaaDoorDg
import Derived.Test.YtgbpafapmbnfjaaDoorRows
import Derived.ProofKit
import Derived.PinnedBridge
import Derived.Lib.LaidCase
import Derived.Lib.LaidU8
import Derived.Lib.LaidTab
import Derived.MakeChecks
import Derived.LaidOnce
namespace Go.Proofs
open Go.RowKit Go.Shelf
set_option linter.unusedVariables false
open TK
theorem TK.tab_of_reads {P : Program} {W : World} {name : String} {k : IntKind} {zs : List Int} {g : Nat} {t e : TypeId} {n : Nat}
    (hg : P.globalNamed name = some g) (hty : (P.globals[g]?).map (·.type) = some t) (ht : P.underlying t = some (.array n e)) (he : P.underlying e = some (.int k)) (hce : P.cellsOf e = 1) (hct : P.cellsOf t = n)
    (h : Lib.VarReads P W name (Lib.tabData k zs)) : Lib.TabIs P W name k zs := by
  obtain ⟨g', t', cs, fuel, p, hg', ht', hvar, hd⟩ := h
  obtain rfl := Option.some.inj (hg.symm.trans hg')
  obtain rfl := Option.some.inj (hty.symm.trans ht')
  unfold Lib.TabIs
  rw [hvar, ← Lib.cells_of_tab ht he hce hct hd]
def TK.ren274 : Go.Shelf.Ren := { Tryd.lays274_ren with g := fun n => if n = 13 then 2 else n }
theorem TK.lays274b : Go.Proofs.Lays.n274 Tryd.prog TK.ren274 := { Tryd.lays274 with }
theorem Tryd.tabs_of (W : World) (hL0 : laidMetH Tryd.prog YtgbpafapmbnfjaaDoor.Rows.dateCivilRow.laid W) : Tabs W := by
  rw [MakeChecks.laidMetH_plain _ _ _ (by kernel_rfl)] at hL0
  have hL : laidMet Tryd.prog YtgbpafapmbnfjaaDoor.Rows.dateCivilRow.laid W := hL0
  refine ⟨?_, ?_, ?_⟩
  · have h := Lib.laidMet.reads hL (.tail _ (.tail _ (.head _)))
    exact tab_of_reads (g := 1) (t := 127) (e := 105) (n := 20) (by kernel_rfl) (by kernel_rfl) (by kernel_rfl) (by kernel_rfl) (by kernel_rfl) (by kernel_rfl) h
  · have h5 : Lib.VarReads Tryd.prog W "unicode/utf8.first" Pinned.utf8First := Lib.laidMet.reads hL (.tail _ (.tail _ (.tail _ (.tail _ (.tail _ (.head _))))))
    rw [Pinned.utf8First_eq] at h5
    exact utf8Tabs_of_reads Tryd.lays260 ⟨by kernel_rfl, by kernel_rfl, by kernel_rfl, by kernel_rfl, by kernel_rfl, by kernel_rfl, by kernel_rfl⟩ h5 (Lib.laidMet.reads hL (.tail _ (.tail _ (.tail _ (.head _)))))
  · have h5 : Lib.VarReads Tryd.prog W "unicode.CaseRanges" Pinned.caseRanges := Lib.laidMet.reads hL (.tail _ (.tail _ (.tail _ (.tail _ (.head _)))))
    rw [Pinned.caseRanges_eq] at h5
    exact caseVar_of_reads (ρ := TK.ren274) TK.lays274b (by kernel_rfl) ⟨by kernel_rfl, by kernel_rfl, by kernel_rfl, by kernel_rfl, by kernel_rfl, by kernel_rfl⟩ h5
end Go.Proofs
