/- The row of the law VariantChecks and its tied card. -/
import Derived.Test.YtcilmcoaondbmaaGreatDoorML
import Derived.Test.YtcilmcoaondbmaaGreatDoorMR
import Derived.Test.YtcilmcoaondbmaaGreatDoorTie
import Derived.Test.YtcilmcoaondbmaaGreatDoorCards
import Derived.SevenTiedAt
/- The row of the law VariantChecks and its tied card. -/
namespace Go.Proofs.YtcilmcoaondbmaaGreatDoor.variantChecks
open Go.ChangeShapes Go.WideShapes Go.ChangeAt Go.RowKit
set_option linter.unusedVariables false
theorem over : Rows.variantChecksRow.holds Tryz.pinned (OpenSpec.ofChange Rows.variantChecksSpec) :=
  OpenClaim.holds_of_wide 3 Tryz.f3 rfl rfl rfl rfl rfl rfl rfl ⟨rfl, rfl, rfl, rfl, rfl⟩ rfl rfl rfl rfl rfl named Tryz.func3 closed inst wrapper
    (fun os started H enc _ => lifted os started H enc)
theorem proved : Rows.VariantChecksSaid := over
theorem card : Rows.VariantChecksCardSaid :=
  Claim7.holds_tied_plain_at .later [] [.data, .data, .data, .data, .sentinel, .sentinel, .pinned] true (true, "839d68b316b8496fb32eeccc738cab57ba048e9ca2c71d5feaa64e1bd9f47158") true
    proved (fun _ h => by cases h) (by kernel_rfl) (fun _ h => by cases h) variantChecks_row_tie rfl ⟨rfl, rfl⟩ (by kernel_rfl) rfl
    (fun f fn hf hfn => by
      obtain rfl : f = 3 := Option.some.inj ((show Tryz.prog.funcNamed "dowel/dowellaw48.VariantChecks" = some 3 by kernel_rfl).symm.trans hf) |>.symm
      obtain rfl : fn = Tryz.f3 := (Option.some.inj (Tryz.func3.symm.trans hfn)).symm
      exact ⟨by kernel_rfl, fun j t ht => by
        rw [Tryz.params3] at ht
        have hm : t ∈ [36] := by simpa using Array.mem_of_getElem? ht
        have hall : ([36].all fun u => !Tryz.prog.wantsStandIn u) = true := by kernel_rfl
        exact (show Tryz.prog.wantsStandIn t = false by simpa using List.all_eq_true.1 hall t hm)⟩)
    (by kernel_rfl)
#print axioms card
end Go.Proofs.YtcilmcoaondbmaaGreatDoor.variantChecks
namespace Go.Proofs.YtcilmcoaondbmaaGreatDoor
theorem variantChecks_holds : Rows.VariantChecksCardSaid := variantChecks.card
end Go.Proofs.YtcilmcoaondbmaaGreatDoor
