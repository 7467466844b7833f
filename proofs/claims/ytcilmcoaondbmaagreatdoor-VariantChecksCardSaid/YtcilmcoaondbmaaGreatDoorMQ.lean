/- Closed facts on the program. -/
import Derived.Test.YtcilmcoaondbmaaGreatDoorTie
import Derived.Test.YtcilmcoaondbmaaGreatDoorCards
import Derived.ProofKit
import Derived.JoinedOf
/- The row: closed facts on the program, each a theorem of its own (together in one declaration they outgrow the kernel). -/
namespace Go.Proofs.YtcilmcoaondbmaaGreatDoor.variantChecks
open Go.ChangeShapes Go.WideShapes Go.ChangeAt Go.RowKit
set_option maxRecDepth 100000
theorem j12 : ((Rows.variantChecksRow.recurses == Tryz.prog.recurses 3)) = true := by kernel_rfl
theorem j13 : ((Rows.variantChecksRow.named == Tryz.prog.varsNamed 3)) = true := by kernel_rfl
theorem j14 : ((Rows.variantChecksRow.maps == (Tryz.f3.params.toList ++ Rows.variantChecksSpec.plain.varTypes Tryz.prog).any (Tryz.prog.mapsRec ·))) = true := by kernel_rfl
theorem j15 : ((Rows.variantChecksRow.ifaces == (Tryz.f3.params.toList ++ Rows.variantChecksSpec.plain.varTypes Tryz.prog).any (Tryz.prog.ifacesRec ·))) = true := by kernel_rfl
theorem j16 : ((Rows.variantChecksRow.mapsOut == Tryz.prog.mapsAmong Tryz.f3.resultTypes.toList)) = true := by kernel_rfl
theorem j17 : ((Rows.variantChecksRow.loops == (Tryz.f3.params.toList ++ Rows.variantChecksSpec.plain.varTypes Tryz.prog).any (Tryz.prog.loopsFrom ·))) = true := by kernel_rfl
theorem j18 : ((Rows.variantChecksRow.wideKeys == (Tryz.f3.params.toList ++ Rows.variantChecksSpec.plain.varTypes Tryz.prog ++ Tryz.f3.resultTypes.toList).any (Tryz.prog.wideKeysFrom ·))) = true := by kernel_rfl
theorem j19 : (Rows.variantChecksSpec.vars.all (Tryz.prog.varReadable ·)) = true := by kernel_rfl
theorem j20 : (Tryz.f3.resultTypes.all (fun t => Tryz.prog.readableRec t && decide (t < Tryz.prog.types.size))) = true := by kernel_rfl
theorem j21 : ((Rows.variantChecksRow.ifacesOut == Tryz.f3.resultTypes.toList.any (Tryz.prog.ifacesRec ·))) = true := by kernel_rfl
theorem j22 : ((Rows.variantChecksRow.loopsOut == Tryz.f3.resultTypes.toList.any (Tryz.prog.loopsFrom ·))) = true := by kernel_rfl
end Go.Proofs.YtcilmcoaondbmaaGreatDoor.variantChecks
