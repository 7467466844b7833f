/- The kinds of values of this program: for each a Lean type, and what a value of it holds in its cells. -/
import Derived.Test.YtcilmcoaondbmaaGreatDoorProg
import Derived.Below
import Derived.Deep.Draws
import Derived.Deep.AppendLies
import Derived.Maps.AppendAt
import Derived.OwnWalk
import Derived.Laws.BytesArg
import Derived.Laws.MakeOwn
import Derived.Laws.OwnMore
import Derived.Deep.OwnRows
import Derived.Tactics
import Derived.Lib.ConvBytes
import Derived.Laws.Slices
import Derived.WalkKit
import Derived.KernelRfl
import Derived.RowKit3
import Derived.Deep.LoopGhost
import Derived.Deep.QuietTactic
import Derived.BigQuiet
import Derived.WideLaws
import Derived.Deep.DeepCutAuto
import Derived.Deep.CutBlock
import Derived.Deep.RegionHeld3
import Derived.Laws.Rows
import Derived.Lib.AppendStr
import Derived.ArgAppend
import Derived.Laws.IdiomCopy
import Derived.OrdersHeld
import Derived.Laws.BitsLemmas
import Derived.RowKit
import Derived.Test.YtcilmcoaondbmaaGreatDoorWWords
import Derived.Test.YtcilmcoaondbmaaGreatDoorWLast
import Derived.Test.YtcilmcoaondbmaaGreatDoorWTab
import Derived.Test.YtcilmcoaondbmaaGreatDoorWQPut
import Derived.Test.YtcilmcoaondbmaaGreatDoorWApart
import Derived.Test.YtcilmcoaondbmaaGreatDoorWArr
import Derived.Test.YtcilmcoaondbmaaGreatDoorWZeros
import Derived.Test.YtcilmcoaondbmaaGreatDoorWFoot
import Derived.Test.YtcilmcoaondbmaaGreatDoorWKept
import Derived.Test.YtcilmcoaondbmaaGreatDoorWShare
import Derived.Test.YtcilmcoaondbmaaGreatDoorWN
import Derived.Test.YtcilmcoaondbmaaGreatDoorWEqStruct
import Derived.Test.YtcilmcoaondbmaaGreatDoorWRepsOne
import Derived.Test.YtcilmcoaondbmaaGreatDoorWGuard
import Derived.Test.YtcilmcoaondbmaaGreatDoorWNEv
import Derived.Test.YtcilmcoaondbmaaGreatDoorWMore
namespace Go.Proofs.YtcilmcoaondbmaaGreatDoor.PX
open Go.RowKit Go.Proofs.YtcilmcoaondbmaaGreatDoorW.PrintWords Go.Proofs.YtcilmcoaondbmaaGreatDoorW.PrintLast Go.Proofs.YtcilmcoaondbmaaGreatDoorW.PrintMore
attribute [local go_sem] max2_int min2_int max_two min_two max_three min_three max_four min_four   -- for this text's walks alone
set_option linter.unusedVariables false
set_option linter.unusedSimpArgs false

def errW : Option Int → Value
  | none => .nilIface
  | some c => .iface 0 (.int .i64 c)
theorem errW_none : errW none = .nilIface := rfl
theorem errW_some (c : Int) : errW (some c) = .iface 0 (.int .i64 c) := rfl

theorem info3 : (Tryz.prog.info? 3).map (fun i => (i.zero, i.size, i.bytes)) = some (some (.int .i64 0), 1, 8) := by kernel_rfl
theorem info4 : (Tryz.prog.info? 4).map (fun i => (i.zero, i.size, i.bytes)) = some (some (.bool false), 1, 1) := by kernel_rfl
theorem info9 : (Tryz.prog.info? 9).map (fun i => (i.zero, i.size, i.bytes)) = some (some (.string ⟨#[]⟩), 1, 16) := by kernel_rfl
theorem info62 : (Tryz.prog.info? 73).map (fun i => (i.zero, i.size, i.bytes)) = some (some (.agg #[(.int .i64 0), (.bool false)]), 2, 16) := by kernel_rfl
theorem info70 : (Tryz.prog.info? 40).map (fun i => (i.zero, i.size, i.bytes)) = some (some (.agg #[(.string ⟨#[]⟩), (.slice none 0 0)]), 2, 40) := by kernel_rfl
theorem info79 : (Tryz.prog.info? 80).map (fun i => (i.zero, i.size, i.bytes)) = some (some (.agg #[(.int .i64 0), (.slice none 0 0)]), 2, 32) := by kernel_rfl
theorem info83 : (Tryz.prog.info? 86).map (fun i => (i.zero, i.size, i.bytes)) = some (some (.agg #[(.slice none 0 0), (.int .i64 0), (.string ⟨#[]⟩), (.int .i64 0), (.int .i64 0), (.int .i64 0)]), 6, 72) := by kernel_rfl
theorem info105 : (Tryz.prog.info? 115).map (fun i => (i.zero, i.size, i.bytes)) = some (some (.agg #[(.string ⟨#[]⟩), (.string ⟨#[]⟩), (.int .i64 0), (.int .i64 0), (.int .i64 0), (.int .i64 0), (.string ⟨#[]⟩), (.string ⟨#[]⟩), (.string ⟨#[]⟩)]), 9, 112) := by kernel_rfl
-- the values' own types
def rd_L2 (xs : List (List Int)) (i : Int) : (List Int) := xs.getD i.toNat ([] : List Int)
theorem at_L2 {w : World} {A : Option Addr} {n : Nat} {xs : List (List Int)} (h : Kd.C (Kd.slice 66 (Kd.int .i8)) w A n xs) (i : Int) (h0 : 0 ≤ i) (h1 : i < n) : ∃ ad A0 c0, A = some ad ∧ w.cell? (ad.add i.toNat) = some (.slice A0 (rd_L2 xs i).length c0) ∧ (rd_L2 xs i).length ≤ c0 ∧ (Kd.int .i8).C w A0 (rd_L2 xs i).length (rd_L2 xs i) := by
  obtain ⟨ad, c, e, _, hK, hc0⟩ := Kd.C_get h ([] : List Int) i h0 h1
  have hc : ∀ j u, c[j]? = some u → w.cell? (ad.add (i.toNat * 1 + j)) = some u := hc0
  obtain ⟨A0, c0, rfl, l0, g0⟩ := hK
  exact ⟨ad, A0, c0, e, by have hq := hc 0 _ rfl; rwa [Nat.mul_one, Nat.add_zero] at hq, l0, g0⟩

/-! #### struct type 81 -/
structure S81 where
  f0 : ByteArray
  f1 : Int
  f2 : Int
  f3 : Int
def z81 : S81 := ⟨(⟨#[]⟩ : ByteArray), (0 : Int), (0 : Int), (0 : Int)⟩
def k81 : Kd S81 := Kd.iso (Kd.pair Kd.string (Kd.pair (Kd.int .i64) (Kd.pair (Kd.int .i64) (Kd.int .i64)))) (fun x : S81 => (x.f0, x.f1, x.f2, x.f3))
theorem k81_open {w : World} {x : S81} {cs : List Value} (h : k81.K w x cs) : cs = [.string x.f0, .int .i64 x.f1, .int .i64 x.f2, .int .i64 x.f3] := by
  obtain ⟨_, _, rfl, rfl, ⟨_, _, rfl, rfl, ⟨_, _, rfl, rfl, rfl⟩⟩⟩ := h
  exact rfl
theorem k81_mkM (w : World) (base : Nat) (ok : Nat → Prop) (x : S81)  : k81.M w base ok x [.string x.f0, .int .i64 x.f1, .int .i64 x.f2, .int .i64 x.f3] := ⟨[.string x.f0], [.int .i64 x.f1, .int .i64 x.f2, .int .i64 x.f3], rfl, rfl, ⟨[.int .i64 x.f1], [.int .i64 x.f2, .int .i64 x.f3], rfl, rfl, ⟨[.int .i64 x.f2], [.int .i64 x.f3], rfl, rfl, rfl⟩⟩⟩
def rd_T81 (xs : List S81) (i : Int) : S81 := xs.getD i.toNat z81
theorem at_T81 {w : World} {A : Option Addr} {n : Nat} {xs : List S81} (h : Kd.C k81 w A n xs) (i : Int) (h0 : 0 ≤ i) (h1 : i < n) : ∃ ad , A = some ad ∧ w.cell? (ad.add (i.toNat * 4)) = some (.string (rd_T81 xs i).f0) ∧ w.cell? ⟨(ad.add (i.toNat * 4)).block, (ad.add (i.toNat * 4)).off + 1, none⟩ = some (.int .i64 (rd_T81 xs i).f1) ∧ w.cell? ⟨(ad.add (i.toNat * 4)).block, (ad.add (i.toNat * 4)).off + 2, none⟩ = some (.int .i64 (rd_T81 xs i).f2) ∧ w.cell? ⟨(ad.add (i.toNat * 4)).block, (ad.add (i.toNat * 4)).off + 3, none⟩ = some (.int .i64 (rd_T81 xs i).f3) := by
  obtain ⟨ad, c, e, _, hK, hc0⟩ := Kd.C_get h z81 i h0 h1
  have hc : ∀ j u, c[j]? = some u → w.cell? (ad.add (i.toNat * 4 + j)) = some u := hc0
  obtain rfl := k81_open hK
  exact ⟨ad, e, hc 0 _ rfl, by rw [← add_field _ _ 1 (by omega)]; exact hc 1 _ rfl, by rw [← add_field _ _ 2 (by omega)]; exact hc 2 _ rfl, by rw [← add_field _ _ 3 (by omega)]; exact hc 3 _ rfl⟩

/-! #### struct type 62 -/
structure S62 where
  f0 : Int
  f1 : Bool
def z62 : S62 := ⟨(0 : Int), false⟩
def k62 : Kd S62 := Kd.iso (Kd.pair (Kd.int .i64) Kd.bool) (fun x : S62 => (x.f0, x.f1))
theorem k62_open {w : World} {x : S62} {cs : List Value} (h : k62.K w x cs) : cs = [.int .i64 x.f0, .bool x.f1] := by
  obtain ⟨_, _, rfl, rfl, rfl⟩ := h
  exact rfl
theorem k62_mk (w : World) (x : S62)  : k62.K w x [.int .i64 x.f0, .bool x.f1] := ⟨[.int .i64 x.f0], [.bool x.f1], rfl, rfl, rfl⟩
def rd_T62 (xs : List S62) (i : Int) : S62 := xs.getD i.toNat z62
theorem at_T62 {w : World} {A : Option Addr} {n : Nat} {xs : List S62} (h : Kd.C k62 w A n xs) (i : Int) (h0 : 0 ≤ i) (h1 : i < n) : ∃ ad , A = some ad ∧ w.cell? (ad.add (i.toNat * 2)) = some (.int .i64 (rd_T62 xs i).f0) ∧ w.cell? ⟨(ad.add (i.toNat * 2)).block, (ad.add (i.toNat * 2)).off + 1, none⟩ = some (.bool (rd_T62 xs i).f1) := by
  obtain ⟨ad, c, e, _, hK, hc0⟩ := Kd.C_get h z62 i h0 h1
  have hc : ∀ j u, c[j]? = some u → w.cell? (ad.add (i.toNat * 2 + j)) = some u := hc0
  obtain rfl := k62_open hK
  exact ⟨ad, e, hc 0 _ rfl, by rw [← add_field _ _ 1 (by omega)]; exact hc 1 _ rfl⟩

/-! #### struct type 70 -/
structure S70 where
  f0 : ByteArray
  f1 : (List S62)
def z70 : S70 := ⟨(⟨#[]⟩ : ByteArray), ([] : List S62)⟩
def k70 : Kd S70 := Kd.iso (Kd.pair Kd.string (Kd.slice 73 k62)) (fun x : S70 => (x.f0, x.f1))
theorem k70_open {w : World} {x : S70} {cs : List Value} (h : k70.K w x cs) : ∃ A1 c1, cs = [.string x.f0, .slice A1 x.f1.length c1] ∧ x.f1.length ≤ c1 ∧ k62.C w A1 x.f1.length x.f1 := by
  obtain ⟨_, _, rfl, rfl, ⟨A1, c1, rfl, l1, g1⟩⟩ := h
  exact ⟨A1, c1, rfl, l1, g1⟩
theorem k70_mk (w : World) (x : S70) {A1 : Option Addr} {c1 : Nat} (l1 : x.f1.length ≤ c1) (g1 : k62.C w A1 x.f1.length x.f1) : k70.K w x [.string x.f0, .slice A1 x.f1.length c1] := ⟨[.string x.f0], [.slice A1 x.f1.length c1], rfl, rfl, ⟨A1, c1, rfl, l1, g1⟩⟩
theorem k70_mkM (w : World) (base : Nat) (ok : Nat → Prop) (x : S70) {v1 : Value} (g1 : k62.R 73 w base ok v1 x.f1) : k70.M w base ok x [.string x.f0, v1] := ⟨[.string x.f0], [v1], rfl, rfl, ⟨v1, rfl, g1⟩⟩
theorem k70_openF {W : World} {ok : Nat → Prop} {x : S70} {cs : List Value} (h : Kd.FK k70 W ok x cs) : ∃ A1 c1, cs = [.string x.f0, .slice A1 x.f1.length c1] ∧ x.f1.length ≤ c1 ∧ Kd.F k62 W ok A1 x.f1.length x.f1 := by
  obtain ⟨A1, c1, rfl, l1, _⟩ := k70_open (Kd.FK_now h)
  exact ⟨A1, c1, rfl, l1, (fun W' hW => by obtain ⟨A1_, c1_, he, l1_, g1_⟩ := k70_open (h W' hW); injection (Option.some.inj (show some (Value.slice A1 x.f1.length c1) = some (Value.slice A1_ x.f1.length c1_) from congrArg (fun l => l[1]?) he)) with ha_ _ _; rw [ha_]; exact g1_)⟩
theorem k70_mkF (W : World) (ok : Nat → Prop) (x : S70) {A1 : Option Addr} {c1 : Nat} (l1 : x.f1.length ≤ c1) (g1 : Kd.F k62 W ok A1 x.f1.length x.f1) : Kd.FK k70 W ok x [.string x.f0, .slice A1 x.f1.length c1] := fun W2 hW => k70_mk W2 x l1 (g1 W2 hW)
def rd_T70 (xs : List S70) (i : Int) : S70 := xs.getD i.toNat z70
theorem at_T70 {w : World} {A : Option Addr} {n : Nat} {xs : List S70} (h : Kd.C k70 w A n xs) (i : Int) (h0 : 0 ≤ i) (h1 : i < n) : ∃ ad A1 c1, A = some ad ∧ w.cell? (ad.add (i.toNat * 2)) = some (.string (rd_T70 xs i).f0) ∧ w.cell? ⟨(ad.add (i.toNat * 2)).block, (ad.add (i.toNat * 2)).off + 1, none⟩ = some (.slice A1 (rd_T70 xs i).f1.length c1) ∧ (rd_T70 xs i).f1.length ≤ c1 ∧ k62.C w A1 (rd_T70 xs i).f1.length (rd_T70 xs i).f1 := by
  obtain ⟨ad, c, e, _, hK, hc0⟩ := Kd.C_get h z70 i h0 h1
  have hc : ∀ j u, c[j]? = some u → w.cell? (ad.add (i.toNat * 2 + j)) = some u := hc0
  obtain ⟨A1, c1, rfl, l1, g1⟩ := k70_open hK
  exact ⟨ad, A1, c1, e, hc 0 _ rfl, by rw [← add_field _ _ 1 (by omega)]; exact hc 1 _ rfl, l1, g1⟩

/-! #### struct type 79 -/
structure S79 where
  f0 : Int
  f1 : (List S62)
def z79 : S79 := ⟨(0 : Int), ([] : List S62)⟩
def k79 : Kd S79 := Kd.iso (Kd.pair (Kd.int .i64) (Kd.slice 73 k62)) (fun x : S79 => (x.f0, x.f1))
theorem k79_open {w : World} {x : S79} {cs : List Value} (h : k79.K w x cs) : ∃ A1 c1, cs = [.int .i64 x.f0, .slice A1 x.f1.length c1] ∧ x.f1.length ≤ c1 ∧ k62.C w A1 x.f1.length x.f1 := by
  obtain ⟨_, _, rfl, rfl, ⟨A1, c1, rfl, l1, g1⟩⟩ := h
  exact ⟨A1, c1, rfl, l1, g1⟩
theorem k79_mkM (w : World) (base : Nat) (ok : Nat → Prop) (x : S79) {v1 : Value} (g1 : k62.R 73 w base ok v1 x.f1) : k79.M w base ok x [.int .i64 x.f0, v1] := ⟨[.int .i64 x.f0], [v1], rfl, rfl, ⟨v1, rfl, g1⟩⟩
def rd_T79 (xs : List S79) (i : Int) : S79 := xs.getD i.toNat z79
theorem at_T79 {w : World} {A : Option Addr} {n : Nat} {xs : List S79} (h : Kd.C k79 w A n xs) (i : Int) (h0 : 0 ≤ i) (h1 : i < n) : ∃ ad A1 c1, A = some ad ∧ w.cell? (ad.add (i.toNat * 2)) = some (.int .i64 (rd_T79 xs i).f0) ∧ w.cell? ⟨(ad.add (i.toNat * 2)).block, (ad.add (i.toNat * 2)).off + 1, none⟩ = some (.slice A1 (rd_T79 xs i).f1.length c1) ∧ (rd_T79 xs i).f1.length ≤ c1 ∧ k62.C w A1 (rd_T79 xs i).f1.length (rd_T79 xs i).f1 := by
  obtain ⟨ad, c, e, _, hK, hc0⟩ := Kd.C_get h z79 i h0 h1
  have hc : ∀ j u, c[j]? = some u → w.cell? (ad.add (i.toNat * 2 + j)) = some u := hc0
  obtain ⟨A1, c1, rfl, l1, g1⟩ := k79_open hK
  exact ⟨ad, A1, c1, e, hc 0 _ rfl, by rw [← add_field _ _ 1 (by omega)]; exact hc 1 _ rfl, l1, g1⟩

/-! #### struct type 83 -/
structure S83 where
  f0 : (List S62)
  f1 : Int
  f2 : S81
def z83 : S83 := ⟨([] : List S62), (0 : Int), z81⟩
def k83 : Kd S83 := Kd.iso (Kd.pair (Kd.slice 73 k62) (Kd.pair (Kd.int .i64) k81)) (fun x : S83 => (x.f0, x.f1, x.f2))
theorem k83_open {w : World} {x : S83} {cs : List Value} (h : k83.K w x cs) : ∃ A0 c0, cs = [.slice A0 x.f0.length c0, .int .i64 x.f1, .string x.f2.f0, .int .i64 x.f2.f1, .int .i64 x.f2.f2, .int .i64 x.f2.f3] ∧ x.f0.length ≤ c0 ∧ k62.C w A0 x.f0.length x.f0 := by
  obtain ⟨_, _, rfl, ⟨A0, c0, rfl, l0, g0⟩, ⟨_, _, rfl, rfl, s2⟩⟩ := h
  obtain rfl := k81_open s2
  exact ⟨A0, c0, rfl, l0, g0⟩
theorem k83_mkM (w : World) (base : Nat) (ok : Nat → Prop) (x : S83) {v0 : Value} (g0 : k62.R 73 w base ok v0 x.f0) : k83.M w base ok x [v0, .int .i64 x.f1, .string x.f2.f0, .int .i64 x.f2.f1, .int .i64 x.f2.f2, .int .i64 x.f2.f3] := ⟨[v0], [.int .i64 x.f1, .string x.f2.f0, .int .i64 x.f2.f1, .int .i64 x.f2.f2, .int .i64 x.f2.f3], rfl, ⟨v0, rfl, g0⟩, ⟨[.int .i64 x.f1], [.string x.f2.f0, .int .i64 x.f2.f1, .int .i64 x.f2.f2, .int .i64 x.f2.f3], rfl, rfl, (k81_mkM w base ok x.f2 )⟩⟩
def rd_T83 (xs : List S83) (i : Int) : S83 := xs.getD i.toNat z83
theorem at_T83 {w : World} {A : Option Addr} {n : Nat} {xs : List S83} (h : Kd.C k83 w A n xs) (i : Int) (h0 : 0 ≤ i) (h1 : i < n) : ∃ ad A0 c0, A = some ad ∧ w.cell? (ad.add (i.toNat * 6)) = some (.slice A0 (rd_T83 xs i).f0.length c0) ∧ w.cell? ⟨(ad.add (i.toNat * 6)).block, (ad.add (i.toNat * 6)).off + 1, none⟩ = some (.int .i64 (rd_T83 xs i).f1) ∧ w.cell? ⟨(ad.add (i.toNat * 6)).block, (ad.add (i.toNat * 6)).off + 2, none⟩ = some (.string (rd_T83 xs i).f2.f0) ∧ w.cell? ⟨(ad.add (i.toNat * 6)).block, (ad.add (i.toNat * 6)).off + 3, none⟩ = some (.int .i64 (rd_T83 xs i).f2.f1) ∧ w.cell? ⟨(ad.add (i.toNat * 6)).block, (ad.add (i.toNat * 6)).off + 4, none⟩ = some (.int .i64 (rd_T83 xs i).f2.f2) ∧ w.cell? ⟨(ad.add (i.toNat * 6)).block, (ad.add (i.toNat * 6)).off + 5, none⟩ = some (.int .i64 (rd_T83 xs i).f2.f3) ∧ (rd_T83 xs i).f0.length ≤ c0 ∧ k62.C w A0 (rd_T83 xs i).f0.length (rd_T83 xs i).f0 := by
  obtain ⟨ad, c, e, _, hK, hc0⟩ := Kd.C_get h z83 i h0 h1
  have hc : ∀ j u, c[j]? = some u → w.cell? (ad.add (i.toNat * 6 + j)) = some u := hc0
  obtain ⟨A0, c0, rfl, l0, g0⟩ := k83_open hK
  exact ⟨ad, A0, c0, e, hc 0 _ rfl, by rw [← add_field _ _ 1 (by omega)]; exact hc 1 _ rfl, by rw [← add_field _ _ 2 (by omega)]; exact hc 2 _ rfl, by rw [← add_field _ _ 3 (by omega)]; exact hc 3 _ rfl, by rw [← add_field _ _ 4 (by omega)]; exact hc 4 _ rfl, by rw [← add_field _ _ 5 (by omega)]; exact hc 5 _ rfl, l0, g0⟩

/-! #### struct type 150 -/
structure S150 where
  f0 : Int
  f1 : Int
  f2 : Int
def k150 : Kd S150 := Kd.iso (Kd.pair (Kd.int .i64) (Kd.pair (Kd.int .i64) (Kd.int .i64))) (fun x : S150 => (x.f0, x.f1, x.f2))
/-! #### struct type 147 -/
structure S147 where
  f0 : (List S150)
def k147 : Kd S147 := Kd.iso (Kd.slice 148 k150) (fun x : S147 => x.f0)
/-! #### struct type 129 -/
structure S129 where
  f0 : ByteArray
  f1 : Int
  f2 : (List S147)
def k129 : Kd S129 := Kd.iso (Kd.pair Kd.string (Kd.pair (Kd.int .i64) (Kd.slice 145 k147))) (fun x : S129 => (x.f0, x.f1, x.f2))
/-! #### struct type 98 -/
structure S98 where
  f0 : Int
  f1 : Int
  f2 : Int
  f3 : Int
def z98 : S98 := ⟨(0 : Int), (0 : Int), (0 : Int), (0 : Int)⟩
def k98 : Kd S98 := Kd.iso (Kd.pair (Kd.int .i64) (Kd.pair (Kd.int .i64) (Kd.pair (Kd.int .i64) (Kd.int .i64)))) (fun x : S98 => (x.f0, x.f1, x.f2, x.f3))
theorem k98_open {w : World} {x : S98} {cs : List Value} (h : k98.K w x cs) : cs = [.int .i64 x.f0, .int .i64 x.f1, .int .i64 x.f2, .int .i64 x.f3] := by
  obtain ⟨_, _, rfl, rfl, ⟨_, _, rfl, rfl, ⟨_, _, rfl, rfl, rfl⟩⟩⟩ := h
  exact rfl
theorem k98_mkM (w : World) (base : Nat) (ok : Nat → Prop) (x : S98)  : k98.M w base ok x [.int .i64 x.f0, .int .i64 x.f1, .int .i64 x.f2, .int .i64 x.f3] := ⟨[.int .i64 x.f0], [.int .i64 x.f1, .int .i64 x.f2, .int .i64 x.f3], rfl, rfl, ⟨[.int .i64 x.f1], [.int .i64 x.f2, .int .i64 x.f3], rfl, rfl, ⟨[.int .i64 x.f2], [.int .i64 x.f3], rfl, rfl, rfl⟩⟩⟩
/-! #### struct type 101 -/
structure S101 where
  f0 : ByteArray
  f1 : ByteArray
  f2 : ByteArray
def z101 : S101 := ⟨(⟨#[]⟩ : ByteArray), (⟨#[]⟩ : ByteArray), (⟨#[]⟩ : ByteArray)⟩
def k101 : Kd S101 := Kd.iso (Kd.pair Kd.string (Kd.pair Kd.string Kd.string)) (fun x : S101 => (x.f0, x.f1, x.f2))
theorem k101_open {w : World} {x : S101} {cs : List Value} (h : k101.K w x cs) : cs = [.string x.f0, .string x.f1, .string x.f2] := by
  obtain ⟨_, _, rfl, rfl, ⟨_, _, rfl, rfl, rfl⟩⟩ := h
  exact rfl
theorem k101_mkM (w : World) (base : Nat) (ok : Nat → Prop) (x : S101)  : k101.M w base ok x [.string x.f0, .string x.f1, .string x.f2] := ⟨[.string x.f0], [.string x.f1, .string x.f2], rfl, rfl, ⟨[.string x.f1], [.string x.f2], rfl, rfl, rfl⟩⟩
/-! #### struct type 103 -/
structure S103 where
  f0 : S98
  f1 : S101
def z103 : S103 := ⟨z98, z101⟩
def k103 : Kd S103 := Kd.iso (Kd.pair k98 k101) (fun x : S103 => (x.f0, x.f1))
theorem k103_open {w : World} {x : S103} {cs : List Value} (h : k103.K w x cs) : cs = [.int .i64 x.f0.f0, .int .i64 x.f0.f1, .int .i64 x.f0.f2, .int .i64 x.f0.f3, .string x.f1.f0, .string x.f1.f1, .string x.f1.f2] := by
  obtain ⟨_, _, rfl, s0, s4⟩ := h
  obtain rfl := k98_open s0
  obtain rfl := k101_open s4
  exact rfl
theorem k103_mkM (w : World) (base : Nat) (ok : Nat → Prop) (x : S103)  : k103.M w base ok x [.int .i64 x.f0.f0, .int .i64 x.f0.f1, .int .i64 x.f0.f2, .int .i64 x.f0.f3, .string x.f1.f0, .string x.f1.f1, .string x.f1.f2] := ⟨[.int .i64 x.f0.f0, .int .i64 x.f0.f1, .int .i64 x.f0.f2, .int .i64 x.f0.f3], [.string x.f1.f0, .string x.f1.f1, .string x.f1.f2], rfl, (k98_mkM w base ok x.f0 ), (k101_mkM w base ok x.f1 )⟩
/-! #### struct type 105 -/
structure S105 where
  f0 : ByteArray
  f1 : ByteArray
  f2 : S103
def z105 : S105 := ⟨(⟨#[]⟩ : ByteArray), (⟨#[]⟩ : ByteArray), z103⟩
def k105 : Kd S105 := Kd.iso (Kd.pair Kd.string (Kd.pair Kd.string k103)) (fun x : S105 => (x.f0, x.f1, x.f2))
theorem k105_open {w : World} {x : S105} {cs : List Value} (h : k105.K w x cs) : cs = [.string x.f0, .string x.f1, .int .i64 x.f2.f0.f0, .int .i64 x.f2.f0.f1, .int .i64 x.f2.f0.f2, .int .i64 x.f2.f0.f3, .string x.f2.f1.f0, .string x.f2.f1.f1, .string x.f2.f1.f2] := by
  obtain ⟨_, _, rfl, rfl, ⟨_, _, rfl, rfl, s2⟩⟩ := h
  obtain rfl := k103_open s2
  exact rfl
theorem k105_mkM (w : World) (base : Nat) (ok : Nat → Prop) (x : S105)  : k105.M w base ok x [.string x.f0, .string x.f1, .int .i64 x.f2.f0.f0, .int .i64 x.f2.f0.f1, .int .i64 x.f2.f0.f2, .int .i64 x.f2.f0.f3, .string x.f2.f1.f0, .string x.f2.f1.f1, .string x.f2.f1.f2] := ⟨[.string x.f0], [.string x.f1, .int .i64 x.f2.f0.f0, .int .i64 x.f2.f0.f1, .int .i64 x.f2.f0.f2, .int .i64 x.f2.f0.f3, .string x.f2.f1.f0, .string x.f2.f1.f1, .string x.f2.f1.f2], rfl, rfl, ⟨[.string x.f1], [.int .i64 x.f2.f0.f0, .int .i64 x.f2.f0.f1, .int .i64 x.f2.f0.f2, .int .i64 x.f2.f0.f3, .string x.f2.f1.f0, .string x.f2.f1.f1, .string x.f2.f1.f2], rfl, rfl, (k103_mkM w base ok x.f2 )⟩⟩
def rd_T105 (xs : List S105) (i : Int) : S105 := xs.getD i.toNat z105
theorem at_T105 {w : World} {A : Option Addr} {n : Nat} {xs : List S105} (h : Kd.C k105 w A n xs) (i : Int) (h0 : 0 ≤ i) (h1 : i < n) : ∃ ad , A = some ad ∧ w.cell? (ad.add (i.toNat * 9)) = some (.string (rd_T105 xs i).f0) ∧ w.cell? ⟨(ad.add (i.toNat * 9)).block, (ad.add (i.toNat * 9)).off + 1, none⟩ = some (.string (rd_T105 xs i).f1) ∧ w.cell? ⟨(ad.add (i.toNat * 9)).block, (ad.add (i.toNat * 9)).off + 2, none⟩ = some (.int .i64 (rd_T105 xs i).f2.f0.f0) ∧ w.cell? ⟨(ad.add (i.toNat * 9)).block, (ad.add (i.toNat * 9)).off + 3, none⟩ = some (.int .i64 (rd_T105 xs i).f2.f0.f1) ∧ w.cell? ⟨(ad.add (i.toNat * 9)).block, (ad.add (i.toNat * 9)).off + 4, none⟩ = some (.int .i64 (rd_T105 xs i).f2.f0.f2) ∧ w.cell? ⟨(ad.add (i.toNat * 9)).block, (ad.add (i.toNat * 9)).off + 5, none⟩ = some (.int .i64 (rd_T105 xs i).f2.f0.f3) ∧ w.cell? ⟨(ad.add (i.toNat * 9)).block, (ad.add (i.toNat * 9)).off + 6, none⟩ = some (.string (rd_T105 xs i).f2.f1.f0) ∧ w.cell? ⟨(ad.add (i.toNat * 9)).block, (ad.add (i.toNat * 9)).off + 7, none⟩ = some (.string (rd_T105 xs i).f2.f1.f1) ∧ w.cell? ⟨(ad.add (i.toNat * 9)).block, (ad.add (i.toNat * 9)).off + 8, none⟩ = some (.string (rd_T105 xs i).f2.f1.f2) := by
  obtain ⟨ad, c, e, _, hK, hc0⟩ := Kd.C_get h z105 i h0 h1
  have hc : ∀ j u, c[j]? = some u → w.cell? (ad.add (i.toNat * 9 + j)) = some u := hc0
  obtain rfl := k105_open hK
  exact ⟨ad, e, hc 0 _ rfl, by rw [← add_field _ _ 1 (by omega)]; exact hc 1 _ rfl, by rw [← add_field _ _ 2 (by omega)]; exact hc 2 _ rfl, by rw [← add_field _ _ 3 (by omega)]; exact hc 3 _ rfl, by rw [← add_field _ _ 4 (by omega)]; exact hc 4 _ rfl, by rw [← add_field _ _ 5 (by omega)]; exact hc 5 _ rfl, by rw [← add_field _ _ 6 (by omega)]; exact hc 6 _ rfl, by rw [← add_field _ _ 7 (by omega)]; exact hc 7 _ rfl, by rw [← add_field _ _ 8 (by omega)]; exact hc 8 _ rfl⟩

/-! #### struct type 171 -/
structure S171 where
  f0 : Int
  f1 : ByteArray
def k171 : Kd S171 := Kd.iso (Kd.pair (Kd.int .i64) Kd.string) (fun x : S171 => (x.f0, x.f1))
/-! #### struct type 156 -/
structure S156 where
  f0 : ByteArray
  f1 : (List S171)
def k156 : Kd S156 := Kd.iso (Kd.pair Kd.string (Kd.slice 176 k171)) (fun x : S156 => (x.f0, x.f1))
/-! #### struct type 158 -/
structure S158 where
  f0 : ByteArray
  f1 : S156
def k158 : Kd S158 := Kd.iso (Kd.pair Kd.string k156) (fun x : S158 => (x.f0, x.f1))
/-! #### struct type 163, nested in itself -/
structure S163 where
  f0 : Int
  f1 : S156
  f2 : ByteArray
  f3 : (List S163)
def F163 (d : Kd S163) : Kd S163 := Kd.iso (Kd.pair (Kd.int .i64) (Kd.pair k156 (Kd.pair Kd.string (Kd.slice 161 d)))) (fun x : S163 => (x.f0, x.f1, x.f2, x.f3))
theorem sub163 : Kd.Sub F163 [161, 176] := Kd.sub_iso _ (Kd.sub_pair (Kd.sub_const _ (by decide)) (Kd.sub_pair (Kd.sub_const _ (by decide)) (Kd.sub_pair (Kd.sub_const _ (by decide)) (Kd.sub_slice 161 (by decide) Kd.sub_id))))
theorem sz163 : ∀ n, (Kd.upto F163 5 [161, 176] n).sz = 5 := Kd.upto_sz (fun _ => rfl)
def k163 : Kd S163 := Kd.fix F163 5 [161, 176] sz163 (Kd.upto_E sub163)
/-! #### struct type 165 -/
structure S165 where
  f0 : ByteArray
  f1 : S163
  f2 : ByteArray
  f3 : ByteArray
def k165 : Kd S165 := Kd.iso (Kd.pair Kd.string (Kd.pair k163 (Kd.pair Kd.string Kd.string))) (fun x : S165 => (x.f0, x.f1, x.f2, x.f3))
end Go.Proofs.YtcilmcoaondbmaaGreatDoor.PX
