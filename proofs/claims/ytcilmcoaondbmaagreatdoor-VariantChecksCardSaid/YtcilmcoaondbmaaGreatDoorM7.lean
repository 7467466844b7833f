/- The reference's functions in plain lists, and its sets against the program's configurations. -/
import Derived.Test.YtcilmcoaondbmaaGreatDoorM5
import Derived.Test.YtcilmcoaondbmaaGreatDoorM6
/- The reference's functions, told in plain lists. -/
namespace Go.Proofs.YtcilmcoaondbmaaGreatDoor.PX
open Go.RowKit Go.Proofs.YtcilmcoaondbmaaGreatDoorW.PrintWords Go.Proofs.YtcilmcoaondbmaaGreatDoorW.PrintLast Go.Proofs.YtcilmcoaondbmaaGreatDoorW.PrintMore
set_option linter.unusedVariables false
set_option linter.unusedSimpArgs false
theorem wrap_succ (i : Nat) (h : i < 100000) : wrap64 ((i : Int) + 1) = ((i + 1 : Nat) : Int) := by unfold wrap64; omega
def Pos (l : List S62) : Prop := ∀ x ∈ l, 0 ≤ x.f0
end Go.Proofs.YtcilmcoaondbmaaGreatDoor.PX
/- Sets and configurations: both lists are one, under two numberings. -/
namespace Go.Proofs.YtcilmcoaondbmaaGreatDoor.PX
open Go.RowKit Go.Proofs.YtcilmcoaondbmaaGreatDoorW.PrintWords Go.Proofs.YtcilmcoaondbmaaGreatDoorW.PrintLast Go.Proofs.YtcilmcoaondbmaaGreatDoorW.PrintMore
set_option linter.unusedVariables false
set_option linter.unusedSimpArgs false
/-- Literals of n options. -/
def LitsIn (n : Nat) (l : List S62) : Prop := ∀ x ∈ l, 0 ≤ x.f0 ∧ x.f0 < (n : Int)
theorem LitsIn.pos {n : Nat} {l : List S62} (h : LitsIn n l) : Pos l := fun x hx => (h x hx).1
theorem LitsIn.ok {n : Nat} {l : List S62} (h : LitsIn n l) (hn : n ≤ 12) : LitsOk l := fun x hx => by have := h x hx; omega
/-- The rules that are not left out. -/
def kept : List S70 → List Bool → List S70
  | [], _ => []
  | r :: rs, o => if o.headD false then kept rs o.tail else r :: kept rs o.tail
end Go.Proofs.YtcilmcoaondbmaaGreatDoor.PX
