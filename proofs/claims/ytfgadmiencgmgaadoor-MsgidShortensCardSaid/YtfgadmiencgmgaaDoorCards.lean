/-
  DERIVED. GIVEN WITH THE SEED: THE CARDS: each row of YtfgadmiencgmgaaDoorRows.lean that lists a variable, with what it lists TIED to the program's text (the seventh form; the later family's looks); each row that meets fmt, with fmt's text TOLD by the authors' own Lean function (tested against real Go, not proved from fmt's source: count such statements apart). THE CARD IS WHAT COUNTS. Prove the row's statement (the work); the ties are given (YtfgadmiencgmgaaDoorTie.lean); close each card by the builder's one call (the guide's Derived/Test/ToyasCard.lean, 'card_holds'). Laid BY PROGRAM, IN A SANDBOX (cutbox-door.mjs). By AI agents, Wed Nov 11 2026. No macro, syntax, notation, axiom, sorry.
-/
import Derived.Test.YtfgadmiencgmgaaDoorRows
import GoSem.ClaimSeven
namespace Go.Proofs.YtfgadmiencgmgaaDoor
namespace Rows

/-- THE TIED CARD OF 'bulletinlaw11.MsgidResolves'. -/
def msgidResolvesCard : Claim7 := { stood := { row := msgidResolvesRow, standIns := [], harness := (true, "e08dc873f49442e99fe5d1eb431b2727fbe8d8699d35fd2577d8b4551552b881"), looks := false }, kinds := [], alts := [], laidByText := true, laidKinds := [.data, .pinned], laidTests := true, laidLooks := .later }
def MsgidResolvesCardSaid : Prop := Claim7.holds Tryd.pinned (.plain (OpenSpec.ofChange msgidResolvesSpec)) msgidResolvesCard

/-- THE TIED CARD OF 'bulletinlaw11.MsgidShortens'. -/
def msgidShortensCard : Claim7 := { stood := { row := msgidShortensRow, standIns := [], harness := (true, "e08dc873f49442e99fe5d1eb431b2727fbe8d8699d35fd2577d8b4551552b881"), looks := false }, kinds := [], alts := [], laidByText := true, laidKinds := [.data, .pinned], laidTests := true, laidLooks := .later }
def MsgidShortensCardSaid : Prop := Claim7.holds Tryd.pinned (.plain (OpenSpec.ofChange msgidShortensSpec)) msgidShortensCard

/-- THE SECOND FORM's CARD OF 'bulletinlaw11.MsgidResolves'. -/
def msgidResolvesUptoCard : Claim7 := { stood := { row := msgidResolvesUptoRow, standIns := [], harness := (true, "e08dc873f49442e99fe5d1eb431b2727fbe8d8699d35fd2577d8b4551552b881"), looks := false }, kinds := [], alts := [], laidByText := true, laidKinds := [.data, .pinned], laidTests := true, laidLooks := .later }
def MsgidResolvesUptoCardSaid : Prop := Claim7.holds Tryd.pinned (.plain (OpenSpec.upto msgidResolvesSpec)) msgidResolvesUptoCard

/-- THE SECOND FORM's CARD OF 'bulletinlaw11.MsgidShortens'. -/
def msgidShortensUptoCard : Claim7 := { stood := { row := msgidShortensUptoRow, standIns := [], harness := (true, "e08dc873f49442e99fe5d1eb431b2727fbe8d8699d35fd2577d8b4551552b881"), looks := false }, kinds := [], alts := [], laidByText := true, laidKinds := [.data, .pinned], laidTests := true, laidLooks := .later }
def MsgidShortensUptoCardSaid : Prop := Claim7.holds Tryd.pinned (.plain (OpenSpec.upto msgidShortensSpec)) msgidShortensUptoCard
end Rows
end Go.Proofs.YtfgadmiencgmgaaDoor
