/- Closed facts on the program. -/
import Derived.Test.YtcilmcoaondbmaaGreatDoorTie
import Derived.Test.YtcilmcoaondbmaaGreatDoorCards
import Derived.ProofKit
import Derived.JoinedOf
import Derived.Test.YtcilmcoaondbmaaGreatDoorMP
import Derived.Test.YtcilmcoaondbmaaGreatDoorMQ
/- The row: closed facts on the program, each a theorem of its own (together in one declaration they outgrow the kernel). -/
namespace Go.Proofs.YtcilmcoaondbmaaGreatDoor.variantChecks
open Go.ChangeShapes Go.WideShapes Go.ChangeAt Go.RowKit
set_option maxRecDepth 100000
theorem j23 : ((Rows.variantChecksRow.plainKeys == Tryz.prog.plainKeys)) = true := by kernel_rfl
theorem j24 : (Rows.variantChecksRow.shortTexts.isNone) = true := by kernel_rfl
theorem j25 : (Tryz.prog.stopsHeard) = true := by kernel_rfl
theorem j26 : (Tryz.prog.mayEnter) = true := by kernel_rfl
theorem j27 : ((Rows.variantChecksRow.lifted == Tryz.prog.liftsFinal)) = true := by kernel_rfl
theorem j28 : ((Tryz.prog.make == some Rows.variantChecksRow.make)) = true := by kernel_rfl
theorem j29 : ((Rows.variantChecksRow.kinds == (if Rows.variantChecksRow.domain.isEmpty then [] else Tryz.f3.params.toList.map fun t => match Tryz.prog.underlying t with | some (.int k) => some k | _ => none))) = true := by kernel_rfl
theorem j30 : ((Rows.variantChecksRow.pinned == Rows.variantChecksRow.pinnedBy)) = true := by kernel_rfl
theorem j31 : ((Rows.variantChecksRow.veiled == (Tryz.f3.params.toList ++ Rows.variantChecksSpec.plain.varTypes Tryz.prog ++ Tryz.f3.resultTypes.toList).any (Tryz.prog.veiledRec ·))) = true := by kernel_rfl
theorem j32 : (Rows.variantChecksRow.veiledFits Tryz.prog Tryz.f3.params.toList (Tryz.f3.params.toList ++ Rows.variantChecksSpec.plain.varTypes Tryz.prog ++ Tryz.f3.resultTypes.toList)) = true := by kernel_rfl
theorem named : Tryz.prog.funcNamed "dowel/dowellaw48.VariantChecks" = some 3 := by kernel_rfl
theorem inst : Tryz.f3.isInstance Tryz.prog Rows.variantChecksRow.origin Rows.variantChecksRow.targs := of_decide_eq_true (by kernel_rfl)
theorem wrapper : Tryz.f3.isWrapper Tryz.prog Rows.variantChecksRow.wrapper Rows.variantChecksRow.mainSum := by unfold Func.isWrapper; first | (rw [if_pos (by decide +kernel)]; kernel_rfl) | (rw [if_neg (by decide +kernel)]; exact ⟨rfl, rfl⟩)
theorem two {a b : Bool} (h1 : a = true) (h2 : b = true) : (a && b) = true := by rw [h1, h2]; rfl
end Go.Proofs.YtcilmcoaondbmaaGreatDoor.variantChecks
namespace Go.Proofs.YtcilmcoaondbmaaGreatDoor.variantChecks
open Go.ChangeShapes Go.WideShapes Go.ChangeAt Go.RowKit
set_option maxRecDepth 100000
theorem closed : joinedFacts Tryz.prog 3 Tryz.f3 Rows.variantChecksSpec Rows.variantChecksRow = true := by
  unfold joinedFacts
  exact (two (two (two (two (two (two (two (two (two (two (two (two (two (two (two (two (two (two (two (two (two (two (two (two (two (two (two (two (two (two (two j1 j2) j3) j4) j5) j6) j7) j8) j9) j10) j11) j12) j13) j14) j15) j16) j17) j18) j19) j20) j21) j22) j23) j24) j25) j26) j27) j28) j29) j30) j31) j32)
end Go.Proofs.YtcilmcoaondbmaaGreatDoor.variantChecks
