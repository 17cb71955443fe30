/- what msgid.Site, as print.sh prints it, answers for the two examples -/
import Derived.Test.YtfgadmiencgmgaaDoorPSitex
namespace Go.Proofs
open Go.RowKit Go.Proofs.YtfgadmiencgmgaaDoor.PSite Go.Proofs.YtfgadmiencgmgaaDoorW.PrintWords
namespace Site
theorem ab : msgid_Site.f 10 ⟨#[97, 46, 46, 98]⟩ = some (2, 12) := by decide +kernel
theorem news : msgid_Site.f 40 ⟨#[110, 101, 119, 115, 46, 101, 120, 97, 109, 112, 108, 101, 45, 49]⟩ = some (0, 0) := by decide +kernel
end Site
end Go.Proofs
