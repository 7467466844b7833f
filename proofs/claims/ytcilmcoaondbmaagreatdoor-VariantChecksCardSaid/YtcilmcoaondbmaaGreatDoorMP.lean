/- Closed facts on the program. -/
import Derived.Test.YtcilmcoaondbmaaGreatDoorTie
import Derived.Test.YtcilmcoaondbmaaGreatDoorCards
import Derived.ProofKit
import Derived.JoinedOf
/- The row: closed facts on the program, each a theorem of its own (together in one declaration they outgrow the kernel). -/
namespace Go.Proofs.YtcilmcoaondbmaaGreatDoor.variantChecks
open Go.ChangeShapes Go.WideShapes Go.ChangeAt Go.RowKit
set_option maxRecDepth 100000
theorem j1 : (Rows.variantChecksRow.wf (OpenSpec.ofChange Rows.variantChecksSpec)) = true := by kernel_rfl
theorem j2 : (laidOutB Tryz.prog) = true := by kernel_rfl
theorem j3 : (mapsRowed Tryz.prog) = true := by kernel_rfl
theorem j4 : (Tryz.f3.params.all (Tryz.prog.readableRec ·)) = true := by kernel_rfl
theorem j5 : (namedTie Tryz.prog Rows.variantChecksRow.named Rows.variantChecksSpec.vars) = true := by kernel_rfl
theorem j6 : ((Rows.variantChecksRow.stops == [])) = true := by kernel_rfl
theorem j7 : ((Tryz.prog.stops == [])) = true := by kernel_rfl
theorem j8 : ((Rows.variantChecksRow.knobs == [])) = true := by kernel_rfl
theorem j9 : ((Tryz.prog.stopKnobs == [])) = true := by kernel_rfl
theorem j10 : ((Rows.variantChecksRow.inPlace == Tryz.prog.inPlace 3)) = true := by kernel_rfl
theorem j11 : ((Rows.variantChecksRow.unfollowed == Tryz.prog.unfollowed 3)) = true := by kernel_rfl
end Go.Proofs.YtcilmcoaondbmaaGreatDoor.variantChecks
