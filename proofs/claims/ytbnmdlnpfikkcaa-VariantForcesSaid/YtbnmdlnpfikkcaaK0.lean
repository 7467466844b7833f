/- The kinds of values of this program: for each a Lean type, and what a value of it holds in its cells. -/
import Derived.Test.YtbnmdlnpfikkcaaProg
import Derived.Below
import Derived.Deep.Draws
import Derived.Deep.AppendLies
import Derived.Maps.AppendAt
import Derived.OwnWalk
import Derived.Laws.BytesArg
import Derived.Laws.MakeOwn
import Derived.Laws.OwnMore
import Derived.Deep.OwnRows
import Derived.Tactics
import Derived.Lib.ConvBytes
import Derived.Laws.Slices
import Derived.WalkKit
import Derived.KernelRfl
import Derived.RowKit3
import Derived.Deep.LoopGhost
import Derived.Deep.QuietTactic
import Derived.BigQuiet
import Derived.WideLaws
import Derived.Deep.DeepCutAuto
import Derived.Deep.CutBlock
import Derived.Deep.RegionHeld3
import Derived.Laws.Rows
import Derived.Lib.AppendStr
import Derived.ArgAppend
import Derived.Laws.IdiomCopy
import Derived.OrdersHeld
import Derived.Laws.BitsLemmas
import Derived.RowKit
import Derived.Test.YtbnmdlnpfikkcaaWWords
import Derived.Test.YtbnmdlnpfikkcaaWLast
import Derived.Test.YtbnmdlnpfikkcaaWTab
import Derived.Test.YtbnmdlnpfikkcaaWQPut
import Derived.Test.YtbnmdlnpfikkcaaWApart
import Derived.Test.YtbnmdlnpfikkcaaWArr
import Derived.Test.YtbnmdlnpfikkcaaWZeros
import Derived.Test.YtbnmdlnpfikkcaaWFoot
import Derived.Test.YtbnmdlnpfikkcaaWKept
import Derived.Test.YtbnmdlnpfikkcaaWShare
import Derived.Test.YtbnmdlnpfikkcaaWN
import Derived.Test.YtbnmdlnpfikkcaaWEqStruct
import Derived.Test.YtbnmdlnpfikkcaaWRepsOne
import Derived.Test.YtbnmdlnpfikkcaaWGuard
import Derived.Test.YtbnmdlnpfikkcaaWNEv
import Derived.Test.YtbnmdlnpfikkcaaWMore
namespace Go.Proofs.Ytbnmdlnpfikkcaa.PX
open Go.RowKit Go.Proofs.YtbnmdlnpfikkcaaW.PrintWords Go.Proofs.YtbnmdlnpfikkcaaW.PrintLast Go.Proofs.YtbnmdlnpfikkcaaW.PrintMore
attribute [local go_sem] max2_int min2_int max_two min_two max_three min_three max_four min_four   -- for this text's walks alone
set_option linter.unusedVariables false
set_option linter.unusedSimpArgs false



def errW : Option Int → Value
  | none => .nilIface
  | some c => .iface 0 (.int .i64 c)
theorem errW_none : errW none = .nilIface := rfl
theorem errW_some (c : Int) : errW (some c) = .iface 0 (.int .i64 c) := rfl

theorem info3 : (Try.prog.info? 3).map (fun i => (i.zero, i.size, i.bytes)) = some (some (.int .i64 0), 1, 8) := by kernel_rfl
theorem info4 : (Try.prog.info? 4).map (fun i => (i.zero, i.size, i.bytes)) = some (some (.bool false), 1, 1) := by kernel_rfl
theorem info5 : (Try.prog.info? 5).map (fun i => (i.zero, i.size, i.bytes)) = some (some (.int .u8 0), 1, 1) := by kernel_rfl
theorem info9 : (Try.prog.info? 9).map (fun i => (i.zero, i.size, i.bytes)) = some (some (.string ⟨#[]⟩), 1, 16) := by kernel_rfl
theorem info57 : (Try.prog.info? 57).map (fun i => (i.zero, i.size, i.bytes)) = some (some (.slice none 0 0), 1, 24) := by kernel_rfl
theorem info62 : (Try.prog.info? 62).map (fun i => (i.zero, i.size, i.bytes)) = some (some (.agg #[(.int .i64 0), (.bool false)]), 2, 16) := by kernel_rfl
theorem info70 : (Try.prog.info? 70).map (fun i => (i.zero, i.size, i.bytes)) = some (some (.agg #[(.string ⟨#[]⟩), (.slice none 0 0)]), 2, 40) := by kernel_rfl
theorem info79 : (Try.prog.info? 79).map (fun i => (i.zero, i.size, i.bytes)) = some (some (.agg #[(.int .i64 0), (.slice none 0 0)]), 2, 32) := by kernel_rfl
theorem info81 : (Try.prog.info? 81).map (fun i => (i.zero, i.size, i.bytes)) = some (some (.agg #[(.string ⟨#[]⟩), (.int .i64 0), (.int .i64 0), (.int .i64 0)]), 4, 40) := by kernel_rfl
theorem info83 : (Try.prog.info? 83).map (fun i => (i.zero, i.size, i.bytes)) = some (some (.agg #[(.slice none 0 0), (.int .i64 0), (.string ⟨#[]⟩), (.int .i64 0), (.int .i64 0), (.int .i64 0)]), 6, 72) := by kernel_rfl
theorem info95 : (Try.prog.info? 95).map (fun i => (i.zero, i.size, i.bytes)) = some (some (.int .i8 0), 1, 1) := by kernel_rfl
theorem info105 : (Try.prog.info? 105).map (fun i => (i.zero, i.size, i.bytes)) = some (some (.agg #[(.string ⟨#[]⟩), (.string ⟨#[]⟩), (.int .i64 0), (.int .i64 0), (.int .i64 0), (.int .i64 0), (.string ⟨#[]⟩), (.string ⟨#[]⟩), (.string ⟨#[]⟩)]), 9, 112) := by kernel_rfl
-- the values' own types
def rd_L2 (xs : List (List Int)) (i : Int) : (List Int) := xs.getD i.toNat ([] : List Int)
theorem at_L2 {w : World} {A : Option Addr} {n : Nat} {xs : List (List Int)} (h : Kd.C (Kd.slice 95 (Kd.int .i8)) w A n xs) (i : Int) (h0 : 0 ≤ i) (h1 : i < n) : ∃ ad A0 c0, A = some ad ∧ w.cell? (ad.add i.toNat) = some (.slice A0 (rd_L2 xs i).length c0) ∧ (rd_L2 xs i).length ≤ c0 ∧ (Kd.int .i8).C w A0 (rd_L2 xs i).length (rd_L2 xs i) := by
  obtain ⟨ad, c, e, _, hK, hc0⟩ := Kd.C_get h ([] : List Int) i h0 h1
  have hc : ∀ j u, c[j]? = some u → w.cell? (ad.add (i.toNat * 1 + j)) = some u := hc0
  obtain ⟨A0, c0, rfl, l0, g0⟩ := hK
  exact ⟨ad, A0, c0, e, by have hq := hc 0 _ rfl; rwa [Nat.mul_one, Nat.add_zero] at hq, l0, g0⟩

/-! #### struct type 81 -/
structure S81 where
  f0 : ByteArray
  f1 : Int
  f2 : Int
  f3 : Int
def z81 : S81 := ⟨(⟨#[]⟩ : ByteArray), (0 : Int), (0 : Int), (0 : Int)⟩
def k81 : Kd S81 := Kd.iso (Kd.pair Kd.string (Kd.pair (Kd.int .i64) (Kd.pair (Kd.int .i64) (Kd.int .i64)))) (fun x : S81 => (x.f0, x.f1, x.f2, x.f3))
theorem k81_open {w : World} {x : S81} {cs : List Value} (h : k81.K w x cs) : cs = [.string x.f0, .int .i64 x.f1, .int .i64 x.f2, .int .i64 x.f3] := by
  obtain ⟨_, _, rfl, rfl, ⟨_, _, rfl, rfl, ⟨_, _, rfl, rfl, rfl⟩⟩⟩ := h
  exact rfl
theorem k81_openM {w : World} {base : Nat} {ok : Nat → Prop} {x : S81} {cs : List Value} (h : k81.M w base ok x cs) : cs = [.string x.f0, .int .i64 x.f1, .int .i64 x.f2, .int .i64 x.f3] := by
  obtain ⟨_, _, rfl, rfl, ⟨_, _, rfl, rfl, ⟨_, _, rfl, rfl, rfl⟩⟩⟩ := h
  exact rfl
theorem k81_mk (w : World) (x : S81)  : k81.K w x [.string x.f0, .int .i64 x.f1, .int .i64 x.f2, .int .i64 x.f3] := ⟨[.string x.f0], [.int .i64 x.f1, .int .i64 x.f2, .int .i64 x.f3], rfl, rfl, ⟨[.int .i64 x.f1], [.int .i64 x.f2, .int .i64 x.f3], rfl, rfl, ⟨[.int .i64 x.f2], [.int .i64 x.f3], rfl, rfl, rfl⟩⟩⟩
theorem k81_mkM (w : World) (base : Nat) (ok : Nat → Prop) (x : S81)  : k81.M w base ok x [.string x.f0, .int .i64 x.f1, .int .i64 x.f2, .int .i64 x.f3] := ⟨[.string x.f0], [.int .i64 x.f1, .int .i64 x.f2, .int .i64 x.f3], rfl, rfl, ⟨[.int .i64 x.f1], [.int .i64 x.f2, .int .i64 x.f3], rfl, rfl, ⟨[.int .i64 x.f2], [.int .i64 x.f3], rfl, rfl, rfl⟩⟩⟩
theorem k81_mkF (W : World) (ok : Nat → Prop) (x : S81) : Kd.FK k81 W ok x [.string x.f0, .int .i64 x.f1, .int .i64 x.f2, .int .i64 x.f3] := fun W2 _ => k81_mk W2 x
def rd_T81 (xs : List S81) (i : Int) : S81 := xs.getD i.toNat z81
theorem at_T81 {w : World} {A : Option Addr} {n : Nat} {xs : List S81} (h : Kd.C k81 w A n xs) (i : Int) (h0 : 0 ≤ i) (h1 : i < n) : ∃ ad , A = some ad ∧ w.cell? (ad.add (i.toNat * 4)) = some (.string (rd_T81 xs i).f0) ∧ w.cell? ⟨(ad.add (i.toNat * 4)).block, (ad.add (i.toNat * 4)).off + 1, none⟩ = some (.int .i64 (rd_T81 xs i).f1) ∧ w.cell? ⟨(ad.add (i.toNat * 4)).block, (ad.add (i.toNat * 4)).off + 2, none⟩ = some (.int .i64 (rd_T81 xs i).f2) ∧ w.cell? ⟨(ad.add (i.toNat * 4)).block, (ad.add (i.toNat * 4)).off + 3, none⟩ = some (.int .i64 (rd_T81 xs i).f3) := by
  obtain ⟨ad, c, e, _, hK, hc0⟩ := Kd.C_get h z81 i h0 h1
  have hc : ∀ j u, c[j]? = some u → w.cell? (ad.add (i.toNat * 4 + j)) = some u := hc0
  obtain rfl := k81_open hK
  exact ⟨ad, e, hc 0 _ rfl, by rw [← add_field _ _ 1 (by omega)]; exact hc 1 _ rfl, by rw [← add_field _ _ 2 (by omega)]; exact hc 2 _ rfl, by rw [← add_field _ _ 3 (by omega)]; exact hc 3 _ rfl⟩

/-! #### struct type 62 -/
structure S62 where
  f0 : Int
  f1 : Bool
def z62 : S62 := ⟨(0 : Int), false⟩
def k62 : Kd S62 := Kd.iso (Kd.pair (Kd.int .i64) Kd.bool) (fun x : S62 => (x.f0, x.f1))
theorem k62_open {w : World} {x : S62} {cs : List Value} (h : k62.K w x cs) : cs = [.int .i64 x.f0, .bool x.f1] := by
  obtain ⟨_, _, rfl, rfl, rfl⟩ := h
  exact rfl
theorem k62_openM {w : World} {base : Nat} {ok : Nat → Prop} {x : S62} {cs : List Value} (h : k62.M w base ok x cs) : cs = [.int .i64 x.f0, .bool x.f1] := by
  obtain ⟨_, _, rfl, rfl, rfl⟩ := h
  exact rfl
theorem k62_mk (w : World) (x : S62)  : k62.K w x [.int .i64 x.f0, .bool x.f1] := ⟨[.int .i64 x.f0], [.bool x.f1], rfl, rfl, rfl⟩
theorem k62_mkM (w : World) (base : Nat) (ok : Nat → Prop) (x : S62)  : k62.M w base ok x [.int .i64 x.f0, .bool x.f1] := ⟨[.int .i64 x.f0], [.bool x.f1], rfl, rfl, rfl⟩
theorem k62_mkF (W : World) (ok : Nat → Prop) (x : S62) : Kd.FK k62 W ok x [.int .i64 x.f0, .bool x.f1] := fun W2 _ => k62_mk W2 x
def rd_T62 (xs : List S62) (i : Int) : S62 := xs.getD i.toNat z62
theorem at_T62 {w : World} {A : Option Addr} {n : Nat} {xs : List S62} (h : Kd.C k62 w A n xs) (i : Int) (h0 : 0 ≤ i) (h1 : i < n) : ∃ ad , A = some ad ∧ w.cell? (ad.add (i.toNat * 2)) = some (.int .i64 (rd_T62 xs i).f0) ∧ w.cell? ⟨(ad.add (i.toNat * 2)).block, (ad.add (i.toNat * 2)).off + 1, none⟩ = some (.bool (rd_T62 xs i).f1) := by
  obtain ⟨ad, c, e, _, hK, hc0⟩ := Kd.C_get h z62 i h0 h1
  have hc : ∀ j u, c[j]? = some u → w.cell? (ad.add (i.toNat * 2 + j)) = some u := hc0
  obtain rfl := k62_open hK
  exact ⟨ad, e, hc 0 _ rfl, by rw [← add_field _ _ 1 (by omega)]; exact hc 1 _ rfl⟩

def rd_L8 (xs : List (List S62)) (i : Int) : (List S62) := xs.getD i.toNat ([] : List S62)
theorem at_L8 {w : World} {A : Option Addr} {n : Nat} {xs : List (List S62)} (h : Kd.C (Kd.slice 62 k62) w A n xs) (i : Int) (h0 : 0 ≤ i) (h1 : i < n) : ∃ ad A0 c0, A = some ad ∧ w.cell? (ad.add i.toNat) = some (.slice A0 (rd_L8 xs i).length c0) ∧ (rd_L8 xs i).length ≤ c0 ∧ k62.C w A0 (rd_L8 xs i).length (rd_L8 xs i) := by
  obtain ⟨ad, c, e, _, hK, hc0⟩ := Kd.C_get h ([] : List S62) i h0 h1
  have hc : ∀ j u, c[j]? = some u → w.cell? (ad.add (i.toNat * 1 + j)) = some u := hc0
  obtain ⟨A0, c0, rfl, l0, g0⟩ := hK
  exact ⟨ad, A0, c0, e, by have hq := hc 0 _ rfl; rwa [Nat.mul_one, Nat.add_zero] at hq, l0, g0⟩

/-! #### struct type 70 -/
structure S70 where
  f0 : ByteArray
  f1 : (List S62)
def z70 : S70 := ⟨(⟨#[]⟩ : ByteArray), ([] : List S62)⟩
def k70 : Kd S70 := Kd.iso (Kd.pair Kd.string (Kd.slice 62 k62)) (fun x : S70 => (x.f0, x.f1))
theorem k70_open {w : World} {x : S70} {cs : List Value} (h : k70.K w x cs) : ∃ A1 c1, cs = [.string x.f0, .slice A1 x.f1.length c1] ∧ x.f1.length ≤ c1 ∧ k62.C w A1 x.f1.length x.f1 := by
  obtain ⟨_, _, rfl, rfl, ⟨A1, c1, rfl, l1, g1⟩⟩ := h
  exact ⟨A1, c1, rfl, l1, g1⟩
theorem k70_openM {w : World} {base : Nat} {ok : Nat → Prop} {x : S70} {cs : List Value} (h : k70.M w base ok x cs) : ∃ v1, cs = [.string x.f0, v1] ∧ k62.R 62 w base ok v1 x.f1 := by
  obtain ⟨_, _, rfl, rfl, ⟨v1, rfl, g1⟩⟩ := h
  exact ⟨v1, rfl, g1⟩
theorem k70_mk (w : World) (x : S70) {A1 : Option Addr} {c1 : Nat} (l1 : x.f1.length ≤ c1) (g1 : k62.C w A1 x.f1.length x.f1) : k70.K w x [.string x.f0, .slice A1 x.f1.length c1] := ⟨[.string x.f0], [.slice A1 x.f1.length c1], rfl, rfl, ⟨A1, c1, rfl, l1, g1⟩⟩
theorem k70_mkM (w : World) (base : Nat) (ok : Nat → Prop) (x : S70) {v1 : Value} (g1 : k62.R 62 w base ok v1 x.f1) : k70.M w base ok x [.string x.f0, v1] := ⟨[.string x.f0], [v1], rfl, rfl, ⟨v1, rfl, g1⟩⟩
theorem k70_openF {W : World} {ok : Nat → Prop} {x : S70} {cs : List Value} (h : Kd.FK k70 W ok x cs) : ∃ A1 c1, cs = [.string x.f0, .slice A1 x.f1.length c1] ∧ x.f1.length ≤ c1 ∧ Kd.F k62 W ok A1 x.f1.length x.f1 := by
  obtain ⟨A1, c1, rfl, l1, _⟩ := k70_open (Kd.FK_now h)
  exact ⟨A1, c1, rfl, l1, (fun W' hW => by obtain ⟨A1_, c1_, he, l1_, g1_⟩ := k70_open (h W' hW); injection (Option.some.inj (show some (Value.slice A1 x.f1.length c1) = some (Value.slice A1_ x.f1.length c1_) from congrArg (fun l => l[1]?) he)) with ha_ _ _; rw [ha_]; exact g1_)⟩
theorem k70_mkF (W : World) (ok : Nat → Prop) (x : S70) {A1 : Option Addr} {c1 : Nat} (l1 : x.f1.length ≤ c1) (g1 : Kd.F k62 W ok A1 x.f1.length x.f1) : Kd.FK k70 W ok x [.string x.f0, .slice A1 x.f1.length c1] := fun W2 hW => k70_mk W2 x l1 (g1 W2 hW)
def rd_T70 (xs : List S70) (i : Int) : S70 := xs.getD i.toNat z70
theorem at_T70 {w : World} {A : Option Addr} {n : Nat} {xs : List S70} (h : Kd.C k70 w A n xs) (i : Int) (h0 : 0 ≤ i) (h1 : i < n) : ∃ ad A1 c1, A = some ad ∧ w.cell? (ad.add (i.toNat * 2)) = some (.string (rd_T70 xs i).f0) ∧ w.cell? ⟨(ad.add (i.toNat * 2)).block, (ad.add (i.toNat * 2)).off + 1, none⟩ = some (.slice A1 (rd_T70 xs i).f1.length c1) ∧ (rd_T70 xs i).f1.length ≤ c1 ∧ k62.C w A1 (rd_T70 xs i).f1.length (rd_T70 xs i).f1 := by
  obtain ⟨ad, c, e, _, hK, hc0⟩ := Kd.C_get h z70 i h0 h1
  have hc : ∀ j u, c[j]? = some u → w.cell? (ad.add (i.toNat * 2 + j)) = some u := hc0
  obtain ⟨A1, c1, rfl, l1, g1⟩ := k70_open hK
  exact ⟨ad, A1, c1, e, hc 0 _ rfl, by rw [← add_field _ _ 1 (by omega)]; exact hc 1 _ rfl, l1, g1⟩

/-! #### struct type 79 -/
structure S79 where
  f0 : Int
  f1 : (List S62)
def z79 : S79 := ⟨(0 : Int), ([] : List S62)⟩
def k79 : Kd S79 := Kd.iso (Kd.pair (Kd.int .i64) (Kd.slice 62 k62)) (fun x : S79 => (x.f0, x.f1))
theorem k79_open {w : World} {x : S79} {cs : List Value} (h : k79.K w x cs) : ∃ A1 c1, cs = [.int .i64 x.f0, .slice A1 x.f1.length c1] ∧ x.f1.length ≤ c1 ∧ k62.C w A1 x.f1.length x.f1 := by
  obtain ⟨_, _, rfl, rfl, ⟨A1, c1, rfl, l1, g1⟩⟩ := h
  exact ⟨A1, c1, rfl, l1, g1⟩
theorem k79_openM {w : World} {base : Nat} {ok : Nat → Prop} {x : S79} {cs : List Value} (h : k79.M w base ok x cs) : ∃ v1, cs = [.int .i64 x.f0, v1] ∧ k62.R 62 w base ok v1 x.f1 := by
  obtain ⟨_, _, rfl, rfl, ⟨v1, rfl, g1⟩⟩ := h
  exact ⟨v1, rfl, g1⟩
theorem k79_mk (w : World) (x : S79) {A1 : Option Addr} {c1 : Nat} (l1 : x.f1.length ≤ c1) (g1 : k62.C w A1 x.f1.length x.f1) : k79.K w x [.int .i64 x.f0, .slice A1 x.f1.length c1] := ⟨[.int .i64 x.f0], [.slice A1 x.f1.length c1], rfl, rfl, ⟨A1, c1, rfl, l1, g1⟩⟩
theorem k79_mkM (w : World) (base : Nat) (ok : Nat → Prop) (x : S79) {v1 : Value} (g1 : k62.R 62 w base ok v1 x.f1) : k79.M w base ok x [.int .i64 x.f0, v1] := ⟨[.int .i64 x.f0], [v1], rfl, rfl, ⟨v1, rfl, g1⟩⟩
theorem k79_openF {W : World} {ok : Nat → Prop} {x : S79} {cs : List Value} (h : Kd.FK k79 W ok x cs) : ∃ A1 c1, cs = [.int .i64 x.f0, .slice A1 x.f1.length c1] ∧ x.f1.length ≤ c1 ∧ Kd.F k62 W ok A1 x.f1.length x.f1 := by
  obtain ⟨A1, c1, rfl, l1, _⟩ := k79_open (Kd.FK_now h)
  exact ⟨A1, c1, rfl, l1, (fun W' hW => by obtain ⟨A1_, c1_, he, l1_, g1_⟩ := k79_open (h W' hW); injection (Option.some.inj (show some (Value.slice A1 x.f1.length c1) = some (Value.slice A1_ x.f1.length c1_) from congrArg (fun l => l[1]?) he)) with ha_ _ _; rw [ha_]; exact g1_)⟩
theorem k79_mkF (W : World) (ok : Nat → Prop) (x : S79) {A1 : Option Addr} {c1 : Nat} (l1 : x.f1.length ≤ c1) (g1 : Kd.F k62 W ok A1 x.f1.length x.f1) : Kd.FK k79 W ok x [.int .i64 x.f0, .slice A1 x.f1.length c1] := fun W2 hW => k79_mk W2 x l1 (g1 W2 hW)
def rd_T79 (xs : List S79) (i : Int) : S79 := xs.getD i.toNat z79
theorem at_T79 {w : World} {A : Option Addr} {n : Nat} {xs : List S79} (h : Kd.C k79 w A n xs) (i : Int) (h0 : 0 ≤ i) (h1 : i < n) : ∃ ad A1 c1, A = some ad ∧ w.cell? (ad.add (i.toNat * 2)) = some (.int .i64 (rd_T79 xs i).f0) ∧ w.cell? ⟨(ad.add (i.toNat * 2)).block, (ad.add (i.toNat * 2)).off + 1, none⟩ = some (.slice A1 (rd_T79 xs i).f1.length c1) ∧ (rd_T79 xs i).f1.length ≤ c1 ∧ k62.C w A1 (rd_T79 xs i).f1.length (rd_T79 xs i).f1 := by
  obtain ⟨ad, c, e, _, hK, hc0⟩ := Kd.C_get h z79 i h0 h1
  have hc : ∀ j u, c[j]? = some u → w.cell? (ad.add (i.toNat * 2 + j)) = some u := hc0
  obtain ⟨A1, c1, rfl, l1, g1⟩ := k79_open hK
  exact ⟨ad, A1, c1, e, hc 0 _ rfl, by rw [← add_field _ _ 1 (by omega)]; exact hc 1 _ rfl, l1, g1⟩

/-! #### struct type 83 -/
structure S83 where
  f0 : (List S62)
  f1 : Int
  f2 : S81
def z83 : S83 := ⟨([] : List S62), (0 : Int), z81⟩
def k83 : Kd S83 := Kd.iso (Kd.pair (Kd.slice 62 k62) (Kd.pair (Kd.int .i64) k81)) (fun x : S83 => (x.f0, x.f1, x.f2))
theorem k83_open {w : World} {x : S83} {cs : List Value} (h : k83.K w x cs) : ∃ A0 c0, cs = [.slice A0 x.f0.length c0, .int .i64 x.f1, .string x.f2.f0, .int .i64 x.f2.f1, .int .i64 x.f2.f2, .int .i64 x.f2.f3] ∧ x.f0.length ≤ c0 ∧ k62.C w A0 x.f0.length x.f0 := by
  obtain ⟨_, _, rfl, ⟨A0, c0, rfl, l0, g0⟩, ⟨_, _, rfl, rfl, s2⟩⟩ := h
  obtain rfl := k81_open s2
  exact ⟨A0, c0, rfl, l0, g0⟩
theorem k83_openM {w : World} {base : Nat} {ok : Nat → Prop} {x : S83} {cs : List Value} (h : k83.M w base ok x cs) : ∃ v0, cs = [v0, .int .i64 x.f1, .string x.f2.f0, .int .i64 x.f2.f1, .int .i64 x.f2.f2, .int .i64 x.f2.f3] ∧ k62.R 62 w base ok v0 x.f0 := by
  obtain ⟨_, _, rfl, ⟨v0, rfl, g0⟩, ⟨_, _, rfl, rfl, s2⟩⟩ := h
  obtain rfl := k81_openM s2
  exact ⟨v0, rfl, g0⟩
theorem k83_mk (w : World) (x : S83) {A0 : Option Addr} {c0 : Nat} (l0 : x.f0.length ≤ c0) (g0 : k62.C w A0 x.f0.length x.f0) : k83.K w x [.slice A0 x.f0.length c0, .int .i64 x.f1, .string x.f2.f0, .int .i64 x.f2.f1, .int .i64 x.f2.f2, .int .i64 x.f2.f3] := ⟨[.slice A0 x.f0.length c0], [.int .i64 x.f1, .string x.f2.f0, .int .i64 x.f2.f1, .int .i64 x.f2.f2, .int .i64 x.f2.f3], rfl, ⟨A0, c0, rfl, l0, g0⟩, ⟨[.int .i64 x.f1], [.string x.f2.f0, .int .i64 x.f2.f1, .int .i64 x.f2.f2, .int .i64 x.f2.f3], rfl, rfl, (k81_mk w x.f2 )⟩⟩
theorem k83_mkM (w : World) (base : Nat) (ok : Nat → Prop) (x : S83) {v0 : Value} (g0 : k62.R 62 w base ok v0 x.f0) : k83.M w base ok x [v0, .int .i64 x.f1, .string x.f2.f0, .int .i64 x.f2.f1, .int .i64 x.f2.f2, .int .i64 x.f2.f3] := ⟨[v0], [.int .i64 x.f1, .string x.f2.f0, .int .i64 x.f2.f1, .int .i64 x.f2.f2, .int .i64 x.f2.f3], rfl, ⟨v0, rfl, g0⟩, ⟨[.int .i64 x.f1], [.string x.f2.f0, .int .i64 x.f2.f1, .int .i64 x.f2.f2, .int .i64 x.f2.f3], rfl, rfl, (k81_mkM w base ok x.f2 )⟩⟩
theorem k83_openF {W : World} {ok : Nat → Prop} {x : S83} {cs : List Value} (h : Kd.FK k83 W ok x cs) : ∃ A0 c0, cs = [.slice A0 x.f0.length c0, .int .i64 x.f1, .string x.f2.f0, .int .i64 x.f2.f1, .int .i64 x.f2.f2, .int .i64 x.f2.f3] ∧ x.f0.length ≤ c0 ∧ Kd.F k62 W ok A0 x.f0.length x.f0 := by
  obtain ⟨A0, c0, rfl, l0, _⟩ := k83_open (Kd.FK_now h)
  exact ⟨A0, c0, rfl, l0, (fun W' hW => by obtain ⟨A0_, c0_, he, l0_, g0_⟩ := k83_open (h W' hW); injection (Option.some.inj (show some (Value.slice A0 x.f0.length c0) = some (Value.slice A0_ x.f0.length c0_) from congrArg (fun l => l[0]?) he)) with ha_ _ _; rw [ha_]; exact g0_)⟩
theorem k83_mkF (W : World) (ok : Nat → Prop) (x : S83) {A0 : Option Addr} {c0 : Nat} (l0 : x.f0.length ≤ c0) (g0 : Kd.F k62 W ok A0 x.f0.length x.f0) : Kd.FK k83 W ok x [.slice A0 x.f0.length c0, .int .i64 x.f1, .string x.f2.f0, .int .i64 x.f2.f1, .int .i64 x.f2.f2, .int .i64 x.f2.f3] := fun W2 hW => k83_mk W2 x l0 (g0 W2 hW)
def rd_T83 (xs : List S83) (i : Int) : S83 := xs.getD i.toNat z83
theorem at_T83 {w : World} {A : Option Addr} {n : Nat} {xs : List S83} (h : Kd.C k83 w A n xs) (i : Int) (h0 : 0 ≤ i) (h1 : i < n) : ∃ ad A0 c0, A = some ad ∧ w.cell? (ad.add (i.toNat * 6)) = some (.slice A0 (rd_T83 xs i).f0.length c0) ∧ w.cell? ⟨(ad.add (i.toNat * 6)).block, (ad.add (i.toNat * 6)).off + 1, none⟩ = some (.int .i64 (rd_T83 xs i).f1) ∧ w.cell? ⟨(ad.add (i.toNat * 6)).block, (ad.add (i.toNat * 6)).off + 2, none⟩ = some (.string (rd_T83 xs i).f2.f0) ∧ w.cell? ⟨(ad.add (i.toNat * 6)).block, (ad.add (i.toNat * 6)).off + 3, none⟩ = some (.int .i64 (rd_T83 xs i).f2.f1) ∧ w.cell? ⟨(ad.add (i.toNat * 6)).block, (ad.add (i.toNat * 6)).off + 4, none⟩ = some (.int .i64 (rd_T83 xs i).f2.f2) ∧ w.cell? ⟨(ad.add (i.toNat * 6)).block, (ad.add (i.toNat * 6)).off + 5, none⟩ = some (.int .i64 (rd_T83 xs i).f2.f3) ∧ (rd_T83 xs i).f0.length ≤ c0 ∧ k62.C w A0 (rd_T83 xs i).f0.length (rd_T83 xs i).f0 := by
  obtain ⟨ad, c, e, _, hK, hc0⟩ := Kd.C_get h z83 i h0 h1
  have hc : ∀ j u, c[j]? = some u → w.cell? (ad.add (i.toNat * 6 + j)) = some u := hc0
  obtain ⟨A0, c0, rfl, l0, g0⟩ := k83_open hK
  exact ⟨ad, A0, c0, e, hc 0 _ rfl, by rw [← add_field _ _ 1 (by omega)]; exact hc 1 _ rfl, by rw [← add_field _ _ 2 (by omega)]; exact hc 2 _ rfl, by rw [← add_field _ _ 3 (by omega)]; exact hc 3 _ rfl, by rw [← add_field _ _ 4 (by omega)]; exact hc 4 _ rfl, by rw [← add_field _ _ 5 (by omega)]; exact hc 5 _ rfl, l0, g0⟩

/-! #### struct type 150 -/
structure S150 where
  f0 : Int
  f1 : Int
  f2 : Int
def z150 : S150 := ⟨(0 : Int), (0 : Int), (0 : Int)⟩
def k150 : Kd S150 := Kd.iso (Kd.pair (Kd.int .i64) (Kd.pair (Kd.int .i64) (Kd.int .i64))) (fun x : S150 => (x.f0, x.f1, x.f2))
theorem k150_open {w : World} {x : S150} {cs : List Value} (h : k150.K w x cs) : cs = [.int .i64 x.f0, .int .i64 x.f1, .int .i64 x.f2] := by
  obtain ⟨_, _, rfl, rfl, ⟨_, _, rfl, rfl, rfl⟩⟩ := h
  exact rfl
theorem k150_openM {w : World} {base : Nat} {ok : Nat → Prop} {x : S150} {cs : List Value} (h : k150.M w base ok x cs) : cs = [.int .i64 x.f0, .int .i64 x.f1, .int .i64 x.f2] := by
  obtain ⟨_, _, rfl, rfl, ⟨_, _, rfl, rfl, rfl⟩⟩ := h
  exact rfl
theorem k150_mk (w : World) (x : S150)  : k150.K w x [.int .i64 x.f0, .int .i64 x.f1, .int .i64 x.f2] := ⟨[.int .i64 x.f0], [.int .i64 x.f1, .int .i64 x.f2], rfl, rfl, ⟨[.int .i64 x.f1], [.int .i64 x.f2], rfl, rfl, rfl⟩⟩
theorem k150_mkM (w : World) (base : Nat) (ok : Nat → Prop) (x : S150)  : k150.M w base ok x [.int .i64 x.f0, .int .i64 x.f1, .int .i64 x.f2] := ⟨[.int .i64 x.f0], [.int .i64 x.f1, .int .i64 x.f2], rfl, rfl, ⟨[.int .i64 x.f1], [.int .i64 x.f2], rfl, rfl, rfl⟩⟩
theorem k150_mkF (W : World) (ok : Nat → Prop) (x : S150) : Kd.FK k150 W ok x [.int .i64 x.f0, .int .i64 x.f1, .int .i64 x.f2] := fun W2 _ => k150_mk W2 x
def rd_T150 (xs : List S150) (i : Int) : S150 := xs.getD i.toNat z150
theorem at_T150 {w : World} {A : Option Addr} {n : Nat} {xs : List S150} (h : Kd.C k150 w A n xs) (i : Int) (h0 : 0 ≤ i) (h1 : i < n) : ∃ ad , A = some ad ∧ w.cell? (ad.add (i.toNat * 3)) = some (.int .i64 (rd_T150 xs i).f0) ∧ w.cell? ⟨(ad.add (i.toNat * 3)).block, (ad.add (i.toNat * 3)).off + 1, none⟩ = some (.int .i64 (rd_T150 xs i).f1) ∧ w.cell? ⟨(ad.add (i.toNat * 3)).block, (ad.add (i.toNat * 3)).off + 2, none⟩ = some (.int .i64 (rd_T150 xs i).f2) := by
  obtain ⟨ad, c, e, _, hK, hc0⟩ := Kd.C_get h z150 i h0 h1
  have hc : ∀ j u, c[j]? = some u → w.cell? (ad.add (i.toNat * 3 + j)) = some u := hc0
  obtain rfl := k150_open hK
  exact ⟨ad, e, hc 0 _ rfl, by rw [← add_field _ _ 1 (by omega)]; exact hc 1 _ rfl, by rw [← add_field _ _ 2 (by omega)]; exact hc 2 _ rfl⟩

def rd_L13 (xs : List (List S150)) (i : Int) : (List S150) := xs.getD i.toNat ([] : List S150)
theorem at_L13 {w : World} {A : Option Addr} {n : Nat} {xs : List (List S150)} (h : Kd.C (Kd.slice 150 k150) w A n xs) (i : Int) (h0 : 0 ≤ i) (h1 : i < n) : ∃ ad A0 c0, A = some ad ∧ w.cell? (ad.add i.toNat) = some (.slice A0 (rd_L13 xs i).length c0) ∧ (rd_L13 xs i).length ≤ c0 ∧ k150.C w A0 (rd_L13 xs i).length (rd_L13 xs i) := by
  obtain ⟨ad, c, e, _, hK, hc0⟩ := Kd.C_get h ([] : List S150) i h0 h1
  have hc : ∀ j u, c[j]? = some u → w.cell? (ad.add (i.toNat * 1 + j)) = some u := hc0
  obtain ⟨A0, c0, rfl, l0, g0⟩ := hK
  exact ⟨ad, A0, c0, e, by have hq := hc 0 _ rfl; rwa [Nat.mul_one, Nat.add_zero] at hq, l0, g0⟩

/-! #### struct type 147 -/
structure S147 where
  f0 : (List S150)
def z147 : S147 := ⟨([] : List S150)⟩
def k147 : Kd S147 := Kd.iso (Kd.slice 150 k150) (fun x : S147 => x.f0)
theorem k147_open {w : World} {x : S147} {cs : List Value} (h : k147.K w x cs) : ∃ A0 c0, cs = [.slice A0 x.f0.length c0] ∧ x.f0.length ≤ c0 ∧ k150.C w A0 x.f0.length x.f0 := by
  obtain ⟨A0, c0, rfl, l0, g0⟩ := h
  exact ⟨A0, c0, rfl, l0, g0⟩
theorem k147_openM {w : World} {base : Nat} {ok : Nat → Prop} {x : S147} {cs : List Value} (h : k147.M w base ok x cs) : ∃ v0, cs = [v0] ∧ k150.R 150 w base ok v0 x.f0 := by
  obtain ⟨v0, rfl, g0⟩ := h
  exact ⟨v0, rfl, g0⟩
theorem k147_mk (w : World) (x : S147) {A0 : Option Addr} {c0 : Nat} (l0 : x.f0.length ≤ c0) (g0 : k150.C w A0 x.f0.length x.f0) : k147.K w x [.slice A0 x.f0.length c0] := ⟨A0, c0, rfl, l0, g0⟩
theorem k147_mkM (w : World) (base : Nat) (ok : Nat → Prop) (x : S147) {v0 : Value} (g0 : k150.R 150 w base ok v0 x.f0) : k147.M w base ok x [v0] := ⟨v0, rfl, g0⟩
theorem k147_openF {W : World} {ok : Nat → Prop} {x : S147} {cs : List Value} (h : Kd.FK k147 W ok x cs) : ∃ A0 c0, cs = [.slice A0 x.f0.length c0] ∧ x.f0.length ≤ c0 ∧ Kd.F k150 W ok A0 x.f0.length x.f0 := by
  obtain ⟨A0, c0, rfl, l0, _⟩ := k147_open (Kd.FK_now h)
  exact ⟨A0, c0, rfl, l0, (fun W' hW => by obtain ⟨A0_, c0_, he, l0_, g0_⟩ := k147_open (h W' hW); injection (Option.some.inj (show some (Value.slice A0 x.f0.length c0) = some (Value.slice A0_ x.f0.length c0_) from congrArg (fun l => l[0]?) he)) with ha_ _ _; rw [ha_]; exact g0_)⟩
theorem k147_mkF (W : World) (ok : Nat → Prop) (x : S147) {A0 : Option Addr} {c0 : Nat} (l0 : x.f0.length ≤ c0) (g0 : Kd.F k150 W ok A0 x.f0.length x.f0) : Kd.FK k147 W ok x [.slice A0 x.f0.length c0] := fun W2 hW => k147_mk W2 x l0 (g0 W2 hW)
def rd_T147 (xs : List S147) (i : Int) : S147 := xs.getD i.toNat z147
theorem at_T147 {w : World} {A : Option Addr} {n : Nat} {xs : List S147} (h : Kd.C k147 w A n xs) (i : Int) (h0 : 0 ≤ i) (h1 : i < n) : ∃ ad A0 c0, A = some ad ∧ w.cell? (ad.add i.toNat) = some (.slice A0 (rd_T147 xs i).f0.length c0) ∧ (rd_T147 xs i).f0.length ≤ c0 ∧ k150.C w A0 (rd_T147 xs i).f0.length (rd_T147 xs i).f0 := by
  obtain ⟨ad, c, e, _, hK, hc0⟩ := Kd.C_get h z147 i h0 h1
  have hc : ∀ j u, c[j]? = some u → w.cell? (ad.add (i.toNat * 1 + j)) = some u := hc0
  obtain ⟨A0, c0, rfl, l0, g0⟩ := k147_open hK
  exact ⟨ad, A0, c0, e, by have hq := hc 0 _ rfl; rwa [Nat.mul_one, Nat.add_zero] at hq, l0, g0⟩

def rd_L15 (xs : List (List S147)) (i : Int) : (List S147) := xs.getD i.toNat ([] : List S147)
theorem at_L15 {w : World} {A : Option Addr} {n : Nat} {xs : List (List S147)} (h : Kd.C (Kd.slice 147 k147) w A n xs) (i : Int) (h0 : 0 ≤ i) (h1 : i < n) : ∃ ad A0 c0, A = some ad ∧ w.cell? (ad.add i.toNat) = some (.slice A0 (rd_L15 xs i).length c0) ∧ (rd_L15 xs i).length ≤ c0 ∧ k147.C w A0 (rd_L15 xs i).length (rd_L15 xs i) := by
  obtain ⟨ad, c, e, _, hK, hc0⟩ := Kd.C_get h ([] : List S147) i h0 h1
  have hc : ∀ j u, c[j]? = some u → w.cell? (ad.add (i.toNat * 1 + j)) = some u := hc0
  obtain ⟨A0, c0, rfl, l0, g0⟩ := hK
  exact ⟨ad, A0, c0, e, by have hq := hc 0 _ rfl; rwa [Nat.mul_one, Nat.add_zero] at hq, l0, g0⟩

/-! #### struct type 129 -/
structure S129 where
  f0 : ByteArray
  f1 : Int
  f2 : (List S147)
def z129 : S129 := ⟨(⟨#[]⟩ : ByteArray), (0 : Int), ([] : List S147)⟩
def k129 : Kd S129 := Kd.iso (Kd.pair Kd.string (Kd.pair (Kd.int .i64) (Kd.slice 147 k147))) (fun x : S129 => (x.f0, x.f1, x.f2))
theorem k129_open {w : World} {x : S129} {cs : List Value} (h : k129.K w x cs) : ∃ A2 c2, cs = [.string x.f0, .int .i64 x.f1, .slice A2 x.f2.length c2] ∧ x.f2.length ≤ c2 ∧ k147.C w A2 x.f2.length x.f2 := by
  obtain ⟨_, _, rfl, rfl, ⟨_, _, rfl, rfl, ⟨A2, c2, rfl, l2, g2⟩⟩⟩ := h
  exact ⟨A2, c2, rfl, l2, g2⟩
theorem k129_openM {w : World} {base : Nat} {ok : Nat → Prop} {x : S129} {cs : List Value} (h : k129.M w base ok x cs) : ∃ v2, cs = [.string x.f0, .int .i64 x.f1, v2] ∧ k147.R 147 w base ok v2 x.f2 := by
  obtain ⟨_, _, rfl, rfl, ⟨_, _, rfl, rfl, ⟨v2, rfl, g2⟩⟩⟩ := h
  exact ⟨v2, rfl, g2⟩
theorem k129_mk (w : World) (x : S129) {A2 : Option Addr} {c2 : Nat} (l2 : x.f2.length ≤ c2) (g2 : k147.C w A2 x.f2.length x.f2) : k129.K w x [.string x.f0, .int .i64 x.f1, .slice A2 x.f2.length c2] := ⟨[.string x.f0], [.int .i64 x.f1, .slice A2 x.f2.length c2], rfl, rfl, ⟨[.int .i64 x.f1], [.slice A2 x.f2.length c2], rfl, rfl, ⟨A2, c2, rfl, l2, g2⟩⟩⟩
theorem k129_mkM (w : World) (base : Nat) (ok : Nat → Prop) (x : S129) {v2 : Value} (g2 : k147.R 147 w base ok v2 x.f2) : k129.M w base ok x [.string x.f0, .int .i64 x.f1, v2] := ⟨[.string x.f0], [.int .i64 x.f1, v2], rfl, rfl, ⟨[.int .i64 x.f1], [v2], rfl, rfl, ⟨v2, rfl, g2⟩⟩⟩
theorem k129_openF {W : World} {ok : Nat → Prop} {x : S129} {cs : List Value} (h : Kd.FK k129 W ok x cs) : ∃ A2 c2, cs = [.string x.f0, .int .i64 x.f1, .slice A2 x.f2.length c2] ∧ x.f2.length ≤ c2 ∧ Kd.F k147 W ok A2 x.f2.length x.f2 := by
  obtain ⟨A2, c2, rfl, l2, _⟩ := k129_open (Kd.FK_now h)
  exact ⟨A2, c2, rfl, l2, (fun W' hW => by obtain ⟨A2_, c2_, he, l2_, g2_⟩ := k129_open (h W' hW); injection (Option.some.inj (show some (Value.slice A2 x.f2.length c2) = some (Value.slice A2_ x.f2.length c2_) from congrArg (fun l => l[2]?) he)) with ha_ _ _; rw [ha_]; exact g2_)⟩
theorem k129_mkF (W : World) (ok : Nat → Prop) (x : S129) {A2 : Option Addr} {c2 : Nat} (l2 : x.f2.length ≤ c2) (g2 : Kd.F k147 W ok A2 x.f2.length x.f2) : Kd.FK k129 W ok x [.string x.f0, .int .i64 x.f1, .slice A2 x.f2.length c2] := fun W2 hW => k129_mk W2 x l2 (g2 W2 hW)
def rd_T129 (xs : List S129) (i : Int) : S129 := xs.getD i.toNat z129
theorem at_T129 {w : World} {A : Option Addr} {n : Nat} {xs : List S129} (h : Kd.C k129 w A n xs) (i : Int) (h0 : 0 ≤ i) (h1 : i < n) : ∃ ad A2 c2, A = some ad ∧ w.cell? (ad.add (i.toNat * 3)) = some (.string (rd_T129 xs i).f0) ∧ w.cell? ⟨(ad.add (i.toNat * 3)).block, (ad.add (i.toNat * 3)).off + 1, none⟩ = some (.int .i64 (rd_T129 xs i).f1) ∧ w.cell? ⟨(ad.add (i.toNat * 3)).block, (ad.add (i.toNat * 3)).off + 2, none⟩ = some (.slice A2 (rd_T129 xs i).f2.length c2) ∧ (rd_T129 xs i).f2.length ≤ c2 ∧ k147.C w A2 (rd_T129 xs i).f2.length (rd_T129 xs i).f2 := by
  obtain ⟨ad, c, e, _, hK, hc0⟩ := Kd.C_get h z129 i h0 h1
  have hc : ∀ j u, c[j]? = some u → w.cell? (ad.add (i.toNat * 3 + j)) = some u := hc0
  obtain ⟨A2, c2, rfl, l2, g2⟩ := k129_open hK
  exact ⟨ad, A2, c2, e, hc 0 _ rfl, by rw [← add_field _ _ 1 (by omega)]; exact hc 1 _ rfl, by rw [← add_field _ _ 2 (by omega)]; exact hc 2 _ rfl, l2, g2⟩

/-! #### struct type 98 -/
structure S98 where
  f0 : Int
  f1 : Int
  f2 : Int
  f3 : Int
def z98 : S98 := ⟨(0 : Int), (0 : Int), (0 : Int), (0 : Int)⟩
def k98 : Kd S98 := Kd.iso (Kd.pair (Kd.int .i64) (Kd.pair (Kd.int .i64) (Kd.pair (Kd.int .i64) (Kd.int .i64)))) (fun x : S98 => (x.f0, x.f1, x.f2, x.f3))
theorem k98_open {w : World} {x : S98} {cs : List Value} (h : k98.K w x cs) : cs = [.int .i64 x.f0, .int .i64 x.f1, .int .i64 x.f2, .int .i64 x.f3] := by
  obtain ⟨_, _, rfl, rfl, ⟨_, _, rfl, rfl, ⟨_, _, rfl, rfl, rfl⟩⟩⟩ := h
  exact rfl
theorem k98_openM {w : World} {base : Nat} {ok : Nat → Prop} {x : S98} {cs : List Value} (h : k98.M w base ok x cs) : cs = [.int .i64 x.f0, .int .i64 x.f1, .int .i64 x.f2, .int .i64 x.f3] := by
  obtain ⟨_, _, rfl, rfl, ⟨_, _, rfl, rfl, ⟨_, _, rfl, rfl, rfl⟩⟩⟩ := h
  exact rfl
theorem k98_mk (w : World) (x : S98)  : k98.K w x [.int .i64 x.f0, .int .i64 x.f1, .int .i64 x.f2, .int .i64 x.f3] := ⟨[.int .i64 x.f0], [.int .i64 x.f1, .int .i64 x.f2, .int .i64 x.f3], rfl, rfl, ⟨[.int .i64 x.f1], [.int .i64 x.f2, .int .i64 x.f3], rfl, rfl, ⟨[.int .i64 x.f2], [.int .i64 x.f3], rfl, rfl, rfl⟩⟩⟩
theorem k98_mkM (w : World) (base : Nat) (ok : Nat → Prop) (x : S98)  : k98.M w base ok x [.int .i64 x.f0, .int .i64 x.f1, .int .i64 x.f2, .int .i64 x.f3] := ⟨[.int .i64 x.f0], [.int .i64 x.f1, .int .i64 x.f2, .int .i64 x.f3], rfl, rfl, ⟨[.int .i64 x.f1], [.int .i64 x.f2, .int .i64 x.f3], rfl, rfl, ⟨[.int .i64 x.f2], [.int .i64 x.f3], rfl, rfl, rfl⟩⟩⟩
theorem k98_mkF (W : World) (ok : Nat → Prop) (x : S98) : Kd.FK k98 W ok x [.int .i64 x.f0, .int .i64 x.f1, .int .i64 x.f2, .int .i64 x.f3] := fun W2 _ => k98_mk W2 x
def rd_T98 (xs : List S98) (i : Int) : S98 := xs.getD i.toNat z98
theorem at_T98 {w : World} {A : Option Addr} {n : Nat} {xs : List S98} (h : Kd.C k98 w A n xs) (i : Int) (h0 : 0 ≤ i) (h1 : i < n) : ∃ ad , A = some ad ∧ w.cell? (ad.add (i.toNat * 4)) = some (.int .i64 (rd_T98 xs i).f0) ∧ w.cell? ⟨(ad.add (i.toNat * 4)).block, (ad.add (i.toNat * 4)).off + 1, none⟩ = some (.int .i64 (rd_T98 xs i).f1) ∧ w.cell? ⟨(ad.add (i.toNat * 4)).block, (ad.add (i.toNat * 4)).off + 2, none⟩ = some (.int .i64 (rd_T98 xs i).f2) ∧ w.cell? ⟨(ad.add (i.toNat * 4)).block, (ad.add (i.toNat * 4)).off + 3, none⟩ = some (.int .i64 (rd_T98 xs i).f3) := by
  obtain ⟨ad, c, e, _, hK, hc0⟩ := Kd.C_get h z98 i h0 h1
  have hc : ∀ j u, c[j]? = some u → w.cell? (ad.add (i.toNat * 4 + j)) = some u := hc0
  obtain rfl := k98_open hK
  exact ⟨ad, e, hc 0 _ rfl, by rw [← add_field _ _ 1 (by omega)]; exact hc 1 _ rfl, by rw [← add_field _ _ 2 (by omega)]; exact hc 2 _ rfl, by rw [← add_field _ _ 3 (by omega)]; exact hc 3 _ rfl⟩

/-! #### struct type 101 -/
structure S101 where
  f0 : ByteArray
  f1 : ByteArray
  f2 : ByteArray
def z101 : S101 := ⟨(⟨#[]⟩ : ByteArray), (⟨#[]⟩ : ByteArray), (⟨#[]⟩ : ByteArray)⟩
def k101 : Kd S101 := Kd.iso (Kd.pair Kd.string (Kd.pair Kd.string Kd.string)) (fun x : S101 => (x.f0, x.f1, x.f2))
theorem k101_open {w : World} {x : S101} {cs : List Value} (h : k101.K w x cs) : cs = [.string x.f0, .string x.f1, .string x.f2] := by
  obtain ⟨_, _, rfl, rfl, ⟨_, _, rfl, rfl, rfl⟩⟩ := h
  exact rfl
theorem k101_openM {w : World} {base : Nat} {ok : Nat → Prop} {x : S101} {cs : List Value} (h : k101.M w base ok x cs) : cs = [.string x.f0, .string x.f1, .string x.f2] := by
  obtain ⟨_, _, rfl, rfl, ⟨_, _, rfl, rfl, rfl⟩⟩ := h
  exact rfl
theorem k101_mk (w : World) (x : S101)  : k101.K w x [.string x.f0, .string x.f1, .string x.f2] := ⟨[.string x.f0], [.string x.f1, .string x.f2], rfl, rfl, ⟨[.string x.f1], [.string x.f2], rfl, rfl, rfl⟩⟩
theorem k101_mkM (w : World) (base : Nat) (ok : Nat → Prop) (x : S101)  : k101.M w base ok x [.string x.f0, .string x.f1, .string x.f2] := ⟨[.string x.f0], [.string x.f1, .string x.f2], rfl, rfl, ⟨[.string x.f1], [.string x.f2], rfl, rfl, rfl⟩⟩
theorem k101_mkF (W : World) (ok : Nat → Prop) (x : S101) : Kd.FK k101 W ok x [.string x.f0, .string x.f1, .string x.f2] := fun W2 _ => k101_mk W2 x
def rd_T101 (xs : List S101) (i : Int) : S101 := xs.getD i.toNat z101
theorem at_T101 {w : World} {A : Option Addr} {n : Nat} {xs : List S101} (h : Kd.C k101 w A n xs) (i : Int) (h0 : 0 ≤ i) (h1 : i < n) : ∃ ad , A = some ad ∧ w.cell? (ad.add (i.toNat * 3)) = some (.string (rd_T101 xs i).f0) ∧ w.cell? ⟨(ad.add (i.toNat * 3)).block, (ad.add (i.toNat * 3)).off + 1, none⟩ = some (.string (rd_T101 xs i).f1) ∧ w.cell? ⟨(ad.add (i.toNat * 3)).block, (ad.add (i.toNat * 3)).off + 2, none⟩ = some (.string (rd_T101 xs i).f2) := by
  obtain ⟨ad, c, e, _, hK, hc0⟩ := Kd.C_get h z101 i h0 h1
  have hc : ∀ j u, c[j]? = some u → w.cell? (ad.add (i.toNat * 3 + j)) = some u := hc0
  obtain rfl := k101_open hK
  exact ⟨ad, e, hc 0 _ rfl, by rw [← add_field _ _ 1 (by omega)]; exact hc 1 _ rfl, by rw [← add_field _ _ 2 (by omega)]; exact hc 2 _ rfl⟩

/-! #### struct type 103 -/
structure S103 where
  f0 : S98
  f1 : S101
def z103 : S103 := ⟨z98, z101⟩
def k103 : Kd S103 := Kd.iso (Kd.pair k98 k101) (fun x : S103 => (x.f0, x.f1))
theorem k103_open {w : World} {x : S103} {cs : List Value} (h : k103.K w x cs) : cs = [.int .i64 x.f0.f0, .int .i64 x.f0.f1, .int .i64 x.f0.f2, .int .i64 x.f0.f3, .string x.f1.f0, .string x.f1.f1, .string x.f1.f2] := by
  obtain ⟨_, _, rfl, s0, s4⟩ := h
  obtain rfl := k98_open s0
  obtain rfl := k101_open s4
  exact rfl
theorem k103_openM {w : World} {base : Nat} {ok : Nat → Prop} {x : S103} {cs : List Value} (h : k103.M w base ok x cs) : cs = [.int .i64 x.f0.f0, .int .i64 x.f0.f1, .int .i64 x.f0.f2, .int .i64 x.f0.f3, .string x.f1.f0, .string x.f1.f1, .string x.f1.f2] := by
  obtain ⟨_, _, rfl, s0, s4⟩ := h
  obtain rfl := k98_openM s0
  obtain rfl := k101_openM s4
  exact rfl
theorem k103_mk (w : World) (x : S103)  : k103.K w x [.int .i64 x.f0.f0, .int .i64 x.f0.f1, .int .i64 x.f0.f2, .int .i64 x.f0.f3, .string x.f1.f0, .string x.f1.f1, .string x.f1.f2] := ⟨[.int .i64 x.f0.f0, .int .i64 x.f0.f1, .int .i64 x.f0.f2, .int .i64 x.f0.f3], [.string x.f1.f0, .string x.f1.f1, .string x.f1.f2], rfl, (k98_mk w x.f0 ), (k101_mk w x.f1 )⟩
theorem k103_mkM (w : World) (base : Nat) (ok : Nat → Prop) (x : S103)  : k103.M w base ok x [.int .i64 x.f0.f0, .int .i64 x.f0.f1, .int .i64 x.f0.f2, .int .i64 x.f0.f3, .string x.f1.f0, .string x.f1.f1, .string x.f1.f2] := ⟨[.int .i64 x.f0.f0, .int .i64 x.f0.f1, .int .i64 x.f0.f2, .int .i64 x.f0.f3], [.string x.f1.f0, .string x.f1.f1, .string x.f1.f2], rfl, (k98_mkM w base ok x.f0 ), (k101_mkM w base ok x.f1 )⟩
theorem k103_mkF (W : World) (ok : Nat → Prop) (x : S103) : Kd.FK k103 W ok x [.int .i64 x.f0.f0, .int .i64 x.f0.f1, .int .i64 x.f0.f2, .int .i64 x.f0.f3, .string x.f1.f0, .string x.f1.f1, .string x.f1.f2] := fun W2 _ => k103_mk W2 x
def rd_T103 (xs : List S103) (i : Int) : S103 := xs.getD i.toNat z103
theorem at_T103 {w : World} {A : Option Addr} {n : Nat} {xs : List S103} (h : Kd.C k103 w A n xs) (i : Int) (h0 : 0 ≤ i) (h1 : i < n) : ∃ ad , A = some ad ∧ w.cell? (ad.add (i.toNat * 7)) = some (.int .i64 (rd_T103 xs i).f0.f0) ∧ w.cell? ⟨(ad.add (i.toNat * 7)).block, (ad.add (i.toNat * 7)).off + 1, none⟩ = some (.int .i64 (rd_T103 xs i).f0.f1) ∧ w.cell? ⟨(ad.add (i.toNat * 7)).block, (ad.add (i.toNat * 7)).off + 2, none⟩ = some (.int .i64 (rd_T103 xs i).f0.f2) ∧ w.cell? ⟨(ad.add (i.toNat * 7)).block, (ad.add (i.toNat * 7)).off + 3, none⟩ = some (.int .i64 (rd_T103 xs i).f0.f3) ∧ w.cell? ⟨(ad.add (i.toNat * 7)).block, (ad.add (i.toNat * 7)).off + 4, none⟩ = some (.string (rd_T103 xs i).f1.f0) ∧ w.cell? ⟨(ad.add (i.toNat * 7)).block, (ad.add (i.toNat * 7)).off + 5, none⟩ = some (.string (rd_T103 xs i).f1.f1) ∧ w.cell? ⟨(ad.add (i.toNat * 7)).block, (ad.add (i.toNat * 7)).off + 6, none⟩ = some (.string (rd_T103 xs i).f1.f2) := by
  obtain ⟨ad, c, e, _, hK, hc0⟩ := Kd.C_get h z103 i h0 h1
  have hc : ∀ j u, c[j]? = some u → w.cell? (ad.add (i.toNat * 7 + j)) = some u := hc0
  obtain rfl := k103_open hK
  exact ⟨ad, e, hc 0 _ rfl, by rw [← add_field _ _ 1 (by omega)]; exact hc 1 _ rfl, by rw [← add_field _ _ 2 (by omega)]; exact hc 2 _ rfl, by rw [← add_field _ _ 3 (by omega)]; exact hc 3 _ rfl, by rw [← add_field _ _ 4 (by omega)]; exact hc 4 _ rfl, by rw [← add_field _ _ 5 (by omega)]; exact hc 5 _ rfl, by rw [← add_field _ _ 6 (by omega)]; exact hc 6 _ rfl⟩

/-! #### struct type 105 -/
structure S105 where
  f0 : ByteArray
  f1 : ByteArray
  f2 : S103
def z105 : S105 := ⟨(⟨#[]⟩ : ByteArray), (⟨#[]⟩ : ByteArray), z103⟩
def k105 : Kd S105 := Kd.iso (Kd.pair Kd.string (Kd.pair Kd.string k103)) (fun x : S105 => (x.f0, x.f1, x.f2))
theorem k105_open {w : World} {x : S105} {cs : List Value} (h : k105.K w x cs) : cs = [.string x.f0, .string x.f1, .int .i64 x.f2.f0.f0, .int .i64 x.f2.f0.f1, .int .i64 x.f2.f0.f2, .int .i64 x.f2.f0.f3, .string x.f2.f1.f0, .string x.f2.f1.f1, .string x.f2.f1.f2] := by
  obtain ⟨_, _, rfl, rfl, ⟨_, _, rfl, rfl, s2⟩⟩ := h
  obtain rfl := k103_open s2
  exact rfl
theorem k105_openM {w : World} {base : Nat} {ok : Nat → Prop} {x : S105} {cs : List Value} (h : k105.M w base ok x cs) : cs = [.string x.f0, .string x.f1, .int .i64 x.f2.f0.f0, .int .i64 x.f2.f0.f1, .int .i64 x.f2.f0.f2, .int .i64 x.f2.f0.f3, .string x.f2.f1.f0, .string x.f2.f1.f1, .string x.f2.f1.f2] := by
  obtain ⟨_, _, rfl, rfl, ⟨_, _, rfl, rfl, s2⟩⟩ := h
  obtain rfl := k103_openM s2
  exact rfl
theorem k105_mk (w : World) (x : S105)  : k105.K w x [.string x.f0, .string x.f1, .int .i64 x.f2.f0.f0, .int .i64 x.f2.f0.f1, .int .i64 x.f2.f0.f2, .int .i64 x.f2.f0.f3, .string x.f2.f1.f0, .string x.f2.f1.f1, .string x.f2.f1.f2] := ⟨[.string x.f0], [.string x.f1, .int .i64 x.f2.f0.f0, .int .i64 x.f2.f0.f1, .int .i64 x.f2.f0.f2, .int .i64 x.f2.f0.f3, .string x.f2.f1.f0, .string x.f2.f1.f1, .string x.f2.f1.f2], rfl, rfl, ⟨[.string x.f1], [.int .i64 x.f2.f0.f0, .int .i64 x.f2.f0.f1, .int .i64 x.f2.f0.f2, .int .i64 x.f2.f0.f3, .string x.f2.f1.f0, .string x.f2.f1.f1, .string x.f2.f1.f2], rfl, rfl, (k103_mk w x.f2 )⟩⟩
theorem k105_mkM (w : World) (base : Nat) (ok : Nat → Prop) (x : S105)  : k105.M w base ok x [.string x.f0, .string x.f1, .int .i64 x.f2.f0.f0, .int .i64 x.f2.f0.f1, .int .i64 x.f2.f0.f2, .int .i64 x.f2.f0.f3, .string x.f2.f1.f0, .string x.f2.f1.f1, .string x.f2.f1.f2] := ⟨[.string x.f0], [.string x.f1, .int .i64 x.f2.f0.f0, .int .i64 x.f2.f0.f1, .int .i64 x.f2.f0.f2, .int .i64 x.f2.f0.f3, .string x.f2.f1.f0, .string x.f2.f1.f1, .string x.f2.f1.f2], rfl, rfl, ⟨[.string x.f1], [.int .i64 x.f2.f0.f0, .int .i64 x.f2.f0.f1, .int .i64 x.f2.f0.f2, .int .i64 x.f2.f0.f3, .string x.f2.f1.f0, .string x.f2.f1.f1, .string x.f2.f1.f2], rfl, rfl, (k103_mkM w base ok x.f2 )⟩⟩
theorem k105_mkF (W : World) (ok : Nat → Prop) (x : S105) : Kd.FK k105 W ok x [.string x.f0, .string x.f1, .int .i64 x.f2.f0.f0, .int .i64 x.f2.f0.f1, .int .i64 x.f2.f0.f2, .int .i64 x.f2.f0.f3, .string x.f2.f1.f0, .string x.f2.f1.f1, .string x.f2.f1.f2] := fun W2 _ => k105_mk W2 x
def rd_T105 (xs : List S105) (i : Int) : S105 := xs.getD i.toNat z105
theorem at_T105 {w : World} {A : Option Addr} {n : Nat} {xs : List S105} (h : Kd.C k105 w A n xs) (i : Int) (h0 : 0 ≤ i) (h1 : i < n) : ∃ ad , A = some ad ∧ w.cell? (ad.add (i.toNat * 9)) = some (.string (rd_T105 xs i).f0) ∧ w.cell? ⟨(ad.add (i.toNat * 9)).block, (ad.add (i.toNat * 9)).off + 1, none⟩ = some (.string (rd_T105 xs i).f1) ∧ w.cell? ⟨(ad.add (i.toNat * 9)).block, (ad.add (i.toNat * 9)).off + 2, none⟩ = some (.int .i64 (rd_T105 xs i).f2.f0.f0) ∧ w.cell? ⟨(ad.add (i.toNat * 9)).block, (ad.add (i.toNat * 9)).off + 3, none⟩ = some (.int .i64 (rd_T105 xs i).f2.f0.f1) ∧ w.cell? ⟨(ad.add (i.toNat * 9)).block, (ad.add (i.toNat * 9)).off + 4, none⟩ = some (.int .i64 (rd_T105 xs i).f2.f0.f2) ∧ w.cell? ⟨(ad.add (i.toNat * 9)).block, (ad.add (i.toNat * 9)).off + 5, none⟩ = some (.int .i64 (rd_T105 xs i).f2.f0.f3) ∧ w.cell? ⟨(ad.add (i.toNat * 9)).block, (ad.add (i.toNat * 9)).off + 6, none⟩ = some (.string (rd_T105 xs i).f2.f1.f0) ∧ w.cell? ⟨(ad.add (i.toNat * 9)).block, (ad.add (i.toNat * 9)).off + 7, none⟩ = some (.string (rd_T105 xs i).f2.f1.f1) ∧ w.cell? ⟨(ad.add (i.toNat * 9)).block, (ad.add (i.toNat * 9)).off + 8, none⟩ = some (.string (rd_T105 xs i).f2.f1.f2) := by
  obtain ⟨ad, c, e, _, hK, hc0⟩ := Kd.C_get h z105 i h0 h1
  have hc : ∀ j u, c[j]? = some u → w.cell? (ad.add (i.toNat * 9 + j)) = some u := hc0
  obtain rfl := k105_open hK
  exact ⟨ad, e, hc 0 _ rfl, by rw [← add_field _ _ 1 (by omega)]; exact hc 1 _ rfl, by rw [← add_field _ _ 2 (by omega)]; exact hc 2 _ rfl, by rw [← add_field _ _ 3 (by omega)]; exact hc 3 _ rfl, by rw [← add_field _ _ 4 (by omega)]; exact hc 4 _ rfl, by rw [← add_field _ _ 5 (by omega)]; exact hc 5 _ rfl, by rw [← add_field _ _ 6 (by omega)]; exact hc 6 _ rfl, by rw [← add_field _ _ 7 (by omega)]; exact hc 7 _ rfl, by rw [← add_field _ _ 8 (by omega)]; exact hc 8 _ rfl⟩

/-! #### struct type 171 -/
structure S171 where
  f0 : Int
  f1 : ByteArray
def z171 : S171 := ⟨(0 : Int), (⟨#[]⟩ : ByteArray)⟩
def k171 : Kd S171 := Kd.iso (Kd.pair (Kd.int .i64) Kd.string) (fun x : S171 => (x.f0, x.f1))
theorem k171_open {w : World} {x : S171} {cs : List Value} (h : k171.K w x cs) : cs = [.int .i64 x.f0, .string x.f1] := by
  obtain ⟨_, _, rfl, rfl, rfl⟩ := h
  exact rfl
theorem k171_openM {w : World} {base : Nat} {ok : Nat → Prop} {x : S171} {cs : List Value} (h : k171.M w base ok x cs) : cs = [.int .i64 x.f0, .string x.f1] := by
  obtain ⟨_, _, rfl, rfl, rfl⟩ := h
  exact rfl
theorem k171_mk (w : World) (x : S171)  : k171.K w x [.int .i64 x.f0, .string x.f1] := ⟨[.int .i64 x.f0], [.string x.f1], rfl, rfl, rfl⟩
theorem k171_mkM (w : World) (base : Nat) (ok : Nat → Prop) (x : S171)  : k171.M w base ok x [.int .i64 x.f0, .string x.f1] := ⟨[.int .i64 x.f0], [.string x.f1], rfl, rfl, rfl⟩
theorem k171_mkF (W : World) (ok : Nat → Prop) (x : S171) : Kd.FK k171 W ok x [.int .i64 x.f0, .string x.f1] := fun W2 _ => k171_mk W2 x
def rd_T171 (xs : List S171) (i : Int) : S171 := xs.getD i.toNat z171
theorem at_T171 {w : World} {A : Option Addr} {n : Nat} {xs : List S171} (h : Kd.C k171 w A n xs) (i : Int) (h0 : 0 ≤ i) (h1 : i < n) : ∃ ad , A = some ad ∧ w.cell? (ad.add (i.toNat * 2)) = some (.int .i64 (rd_T171 xs i).f0) ∧ w.cell? ⟨(ad.add (i.toNat * 2)).block, (ad.add (i.toNat * 2)).off + 1, none⟩ = some (.string (rd_T171 xs i).f1) := by
  obtain ⟨ad, c, e, _, hK, hc0⟩ := Kd.C_get h z171 i h0 h1
  have hc : ∀ j u, c[j]? = some u → w.cell? (ad.add (i.toNat * 2 + j)) = some u := hc0
  obtain rfl := k171_open hK
  exact ⟨ad, e, hc 0 _ rfl, by rw [← add_field _ _ 1 (by omega)]; exact hc 1 _ rfl⟩

def rd_L22 (xs : List (List S171)) (i : Int) : (List S171) := xs.getD i.toNat ([] : List S171)
theorem at_L22 {w : World} {A : Option Addr} {n : Nat} {xs : List (List S171)} (h : Kd.C (Kd.slice 171 k171) w A n xs) (i : Int) (h0 : 0 ≤ i) (h1 : i < n) : ∃ ad A0 c0, A = some ad ∧ w.cell? (ad.add i.toNat) = some (.slice A0 (rd_L22 xs i).length c0) ∧ (rd_L22 xs i).length ≤ c0 ∧ k171.C w A0 (rd_L22 xs i).length (rd_L22 xs i) := by
  obtain ⟨ad, c, e, _, hK, hc0⟩ := Kd.C_get h ([] : List S171) i h0 h1
  have hc : ∀ j u, c[j]? = some u → w.cell? (ad.add (i.toNat * 1 + j)) = some u := hc0
  obtain ⟨A0, c0, rfl, l0, g0⟩ := hK
  exact ⟨ad, A0, c0, e, by have hq := hc 0 _ rfl; rwa [Nat.mul_one, Nat.add_zero] at hq, l0, g0⟩

/-! #### struct type 156 -/
structure S156 where
  f0 : ByteArray
  f1 : (List S171)
def z156 : S156 := ⟨(⟨#[]⟩ : ByteArray), ([] : List S171)⟩
def k156 : Kd S156 := Kd.iso (Kd.pair Kd.string (Kd.slice 171 k171)) (fun x : S156 => (x.f0, x.f1))
theorem k156_open {w : World} {x : S156} {cs : List Value} (h : k156.K w x cs) : ∃ A1 c1, cs = [.string x.f0, .slice A1 x.f1.length c1] ∧ x.f1.length ≤ c1 ∧ k171.C w A1 x.f1.length x.f1 := by
  obtain ⟨_, _, rfl, rfl, ⟨A1, c1, rfl, l1, g1⟩⟩ := h
  exact ⟨A1, c1, rfl, l1, g1⟩
theorem k156_openM {w : World} {base : Nat} {ok : Nat → Prop} {x : S156} {cs : List Value} (h : k156.M w base ok x cs) : ∃ v1, cs = [.string x.f0, v1] ∧ k171.R 171 w base ok v1 x.f1 := by
  obtain ⟨_, _, rfl, rfl, ⟨v1, rfl, g1⟩⟩ := h
  exact ⟨v1, rfl, g1⟩
theorem k156_mk (w : World) (x : S156) {A1 : Option Addr} {c1 : Nat} (l1 : x.f1.length ≤ c1) (g1 : k171.C w A1 x.f1.length x.f1) : k156.K w x [.string x.f0, .slice A1 x.f1.length c1] := ⟨[.string x.f0], [.slice A1 x.f1.length c1], rfl, rfl, ⟨A1, c1, rfl, l1, g1⟩⟩
theorem k156_mkM (w : World) (base : Nat) (ok : Nat → Prop) (x : S156) {v1 : Value} (g1 : k171.R 171 w base ok v1 x.f1) : k156.M w base ok x [.string x.f0, v1] := ⟨[.string x.f0], [v1], rfl, rfl, ⟨v1, rfl, g1⟩⟩
theorem k156_openF {W : World} {ok : Nat → Prop} {x : S156} {cs : List Value} (h : Kd.FK k156 W ok x cs) : ∃ A1 c1, cs = [.string x.f0, .slice A1 x.f1.length c1] ∧ x.f1.length ≤ c1 ∧ Kd.F k171 W ok A1 x.f1.length x.f1 := by
  obtain ⟨A1, c1, rfl, l1, _⟩ := k156_open (Kd.FK_now h)
  exact ⟨A1, c1, rfl, l1, (fun W' hW => by obtain ⟨A1_, c1_, he, l1_, g1_⟩ := k156_open (h W' hW); injection (Option.some.inj (show some (Value.slice A1 x.f1.length c1) = some (Value.slice A1_ x.f1.length c1_) from congrArg (fun l => l[1]?) he)) with ha_ _ _; rw [ha_]; exact g1_)⟩
theorem k156_mkF (W : World) (ok : Nat → Prop) (x : S156) {A1 : Option Addr} {c1 : Nat} (l1 : x.f1.length ≤ c1) (g1 : Kd.F k171 W ok A1 x.f1.length x.f1) : Kd.FK k156 W ok x [.string x.f0, .slice A1 x.f1.length c1] := fun W2 hW => k156_mk W2 x l1 (g1 W2 hW)
def rd_T156 (xs : List S156) (i : Int) : S156 := xs.getD i.toNat z156
theorem at_T156 {w : World} {A : Option Addr} {n : Nat} {xs : List S156} (h : Kd.C k156 w A n xs) (i : Int) (h0 : 0 ≤ i) (h1 : i < n) : ∃ ad A1 c1, A = some ad ∧ w.cell? (ad.add (i.toNat * 2)) = some (.string (rd_T156 xs i).f0) ∧ w.cell? ⟨(ad.add (i.toNat * 2)).block, (ad.add (i.toNat * 2)).off + 1, none⟩ = some (.slice A1 (rd_T156 xs i).f1.length c1) ∧ (rd_T156 xs i).f1.length ≤ c1 ∧ k171.C w A1 (rd_T156 xs i).f1.length (rd_T156 xs i).f1 := by
  obtain ⟨ad, c, e, _, hK, hc0⟩ := Kd.C_get h z156 i h0 h1
  have hc : ∀ j u, c[j]? = some u → w.cell? (ad.add (i.toNat * 2 + j)) = some u := hc0
  obtain ⟨A1, c1, rfl, l1, g1⟩ := k156_open hK
  exact ⟨ad, A1, c1, e, hc 0 _ rfl, by rw [← add_field _ _ 1 (by omega)]; exact hc 1 _ rfl, l1, g1⟩

/-! #### struct type 158 -/
structure S158 where
  f0 : ByteArray
  f1 : S156
def z158 : S158 := ⟨(⟨#[]⟩ : ByteArray), z156⟩
def k158 : Kd S158 := Kd.iso (Kd.pair Kd.string k156) (fun x : S158 => (x.f0, x.f1))
theorem k158_open {w : World} {x : S158} {cs : List Value} (h : k158.K w x cs) : ∃ A2 c2, cs = [.string x.f0, .string x.f1.f0, .slice A2 x.f1.f1.length c2] ∧ x.f1.f1.length ≤ c2 ∧ k171.C w A2 x.f1.f1.length x.f1.f1 := by
  obtain ⟨_, _, rfl, rfl, s1⟩ := h
  obtain ⟨A2, c2, rfl, l2, g2⟩ := k156_open s1
  exact ⟨A2, c2, rfl, l2, g2⟩
theorem k158_openM {w : World} {base : Nat} {ok : Nat → Prop} {x : S158} {cs : List Value} (h : k158.M w base ok x cs) : ∃ v2, cs = [.string x.f0, .string x.f1.f0, v2] ∧ k171.R 171 w base ok v2 x.f1.f1 := by
  obtain ⟨_, _, rfl, rfl, s1⟩ := h
  obtain ⟨v2, rfl, g2⟩ := k156_openM s1
  exact ⟨v2, rfl, g2⟩
theorem k158_mk (w : World) (x : S158) {A2 : Option Addr} {c2 : Nat} (l2 : x.f1.f1.length ≤ c2) (g2 : k171.C w A2 x.f1.f1.length x.f1.f1) : k158.K w x [.string x.f0, .string x.f1.f0, .slice A2 x.f1.f1.length c2] := ⟨[.string x.f0], [.string x.f1.f0, .slice A2 x.f1.f1.length c2], rfl, rfl, (k156_mk w x.f1 l2 g2)⟩
theorem k158_mkM (w : World) (base : Nat) (ok : Nat → Prop) (x : S158) {v2 : Value} (g2 : k171.R 171 w base ok v2 x.f1.f1) : k158.M w base ok x [.string x.f0, .string x.f1.f0, v2] := ⟨[.string x.f0], [.string x.f1.f0, v2], rfl, rfl, (k156_mkM w base ok x.f1 g2)⟩
theorem k158_openF {W : World} {ok : Nat → Prop} {x : S158} {cs : List Value} (h : Kd.FK k158 W ok x cs) : ∃ A2 c2, cs = [.string x.f0, .string x.f1.f0, .slice A2 x.f1.f1.length c2] ∧ x.f1.f1.length ≤ c2 ∧ Kd.F k171 W ok A2 x.f1.f1.length x.f1.f1 := by
  obtain ⟨A2, c2, rfl, l2, _⟩ := k158_open (Kd.FK_now h)
  exact ⟨A2, c2, rfl, l2, (fun W' hW => by obtain ⟨A2_, c2_, he, l2_, g2_⟩ := k158_open (h W' hW); injection (Option.some.inj (show some (Value.slice A2 x.f1.f1.length c2) = some (Value.slice A2_ x.f1.f1.length c2_) from congrArg (fun l => l[2]?) he)) with ha_ _ _; rw [ha_]; exact g2_)⟩
theorem k158_mkF (W : World) (ok : Nat → Prop) (x : S158) {A2 : Option Addr} {c2 : Nat} (l2 : x.f1.f1.length ≤ c2) (g2 : Kd.F k171 W ok A2 x.f1.f1.length x.f1.f1) : Kd.FK k158 W ok x [.string x.f0, .string x.f1.f0, .slice A2 x.f1.f1.length c2] := fun W2 hW => k158_mk W2 x l2 (g2 W2 hW)
def rd_T158 (xs : List S158) (i : Int) : S158 := xs.getD i.toNat z158
theorem at_T158 {w : World} {A : Option Addr} {n : Nat} {xs : List S158} (h : Kd.C k158 w A n xs) (i : Int) (h0 : 0 ≤ i) (h1 : i < n) : ∃ ad A2 c2, A = some ad ∧ w.cell? (ad.add (i.toNat * 3)) = some (.string (rd_T158 xs i).f0) ∧ w.cell? ⟨(ad.add (i.toNat * 3)).block, (ad.add (i.toNat * 3)).off + 1, none⟩ = some (.string (rd_T158 xs i).f1.f0) ∧ w.cell? ⟨(ad.add (i.toNat * 3)).block, (ad.add (i.toNat * 3)).off + 2, none⟩ = some (.slice A2 (rd_T158 xs i).f1.f1.length c2) ∧ (rd_T158 xs i).f1.f1.length ≤ c2 ∧ k171.C w A2 (rd_T158 xs i).f1.f1.length (rd_T158 xs i).f1.f1 := by
  obtain ⟨ad, c, e, _, hK, hc0⟩ := Kd.C_get h z158 i h0 h1
  have hc : ∀ j u, c[j]? = some u → w.cell? (ad.add (i.toNat * 3 + j)) = some u := hc0
  obtain ⟨A2, c2, rfl, l2, g2⟩ := k158_open hK
  exact ⟨ad, A2, c2, e, hc 0 _ rfl, by rw [← add_field _ _ 1 (by omega)]; exact hc 1 _ rfl, by rw [← add_field _ _ 2 (by omega)]; exact hc 2 _ rfl, l2, g2⟩

/-! #### struct type 163, nested in itself -/
structure S163 where
  f0 : Int
  f1 : S156
  f2 : ByteArray
  f3 : (List S163)
def z163 : S163 := ⟨(0 : Int), z156, (⟨#[]⟩ : ByteArray), ([] : List S163)⟩
def F163 (d : Kd S163) : Kd S163 := Kd.iso (Kd.pair (Kd.int .i64) (Kd.pair k156 (Kd.pair Kd.string (Kd.slice 163 d)))) (fun x : S163 => (x.f0, x.f1, x.f2, x.f3))
theorem mono163 : Kd.Mono F163 := Kd.mono_iso _ (Kd.mono_pair (Kd.mono_const _) (Kd.mono_pair (Kd.mono_const _) (Kd.mono_pair (Kd.mono_const _) (Kd.mono_slice 163 Kd.mono_id))))
theorem sub163 : Kd.Sub F163 [163, 171] := Kd.sub_iso _ (Kd.sub_pair (Kd.sub_const _ (by decide)) (Kd.sub_pair (Kd.sub_const _ (by decide)) (Kd.sub_pair (Kd.sub_const _ (by decide)) (Kd.sub_slice 163 (by decide) Kd.sub_id))))
theorem sz163 : ∀ n, (Kd.upto F163 5 [163, 171] n).sz = 5 := Kd.upto_sz (fun _ => rfl)
def k163 : Kd S163 := Kd.fix F163 5 [163, 171] sz163 (Kd.upto_E sub163)
theorem k163_open {w : World} {x : S163} {cs : List Value} (h : k163.K w x cs) : ∃ A2 c2 A4 c4, cs = [.int .i64 x.f0, .string x.f1.f0, .slice A2 x.f1.f1.length c2, .string x.f2, .slice A4 x.f3.length c4] ∧ x.f1.f1.length ≤ c2 ∧ k171.C w A2 x.f1.f1.length x.f1.f1 ∧ x.f3.length ≤ c4 ∧ k163.C w A4 x.f3.length x.f3 := by
  obtain ⟨n, h⟩ := h
  cases n with
  | zero => exact h.elim
  | succ n =>
    obtain ⟨_, _, rfl, rfl, ⟨_, _, rfl, s1, ⟨_, _, rfl, rfl, ⟨A4, c4, rfl, l4, g4⟩⟩⟩⟩ := h
    obtain ⟨A2, c2, rfl, l2, g2⟩ := k156_open s1
    exact ⟨A2, c2, A4, c4, rfl, l2, g2, l4, Kd.fix_C g4⟩
theorem k163_openM {w : World} {base : Nat} {ok : Nat → Prop} {x : S163} {cs : List Value} (h : k163.M w base ok x cs) : ∃ v2 v4, cs = [.int .i64 x.f0, .string x.f1.f0, v2, .string x.f2, v4] ∧ k171.R 171 w base ok v2 x.f1.f1 ∧ k163.R 163 w base ok v4 x.f3 := by
  obtain ⟨n, h⟩ := h
  cases n with
  | zero => exact h.elim
  | succ n =>
    obtain ⟨_, _, rfl, rfl, ⟨_, _, rfl, s1, ⟨_, _, rfl, rfl, ⟨v4, rfl, g4⟩⟩⟩⟩ := h
    obtain ⟨v2, rfl, g2⟩ := k156_openM s1
    exact ⟨v2, v4, rfl, g2, Kd.fix_R g4⟩
theorem k163_mk (w : World) (x : S163) {A2 : Option Addr} {c2 : Nat} (l2 : x.f1.f1.length ≤ c2) (g2 : k171.C w A2 x.f1.f1.length x.f1.f1) {A4 : Option Addr} {c4 : Nat} (l4 : x.f3.length ≤ c4) (g4 : k163.C w A4 x.f3.length x.f3) : k163.K w x [.int .i64 x.f0, .string x.f1.f0, .slice A2 x.f1.f1.length c2, .string x.f2, .slice A4 x.f3.length c4] := by
  obtain ⟨n4, q4⟩ := Kd.fix_C_back mono163 g4
  have r4 := Kd.upto_C_le mono163 sz163 (show n4 ≤ n4 by omega) q4
  exact ⟨n4 + 1, ⟨[.int .i64 x.f0], [.string x.f1.f0, .slice A2 x.f1.f1.length c2, .string x.f2, .slice A4 x.f3.length c4], rfl, rfl, ⟨[.string x.f1.f0, .slice A2 x.f1.f1.length c2], [.string x.f2, .slice A4 x.f3.length c4], rfl, (k156_mk w x.f1 l2 g2), ⟨[.string x.f2], [.slice A4 x.f3.length c4], rfl, rfl, ⟨A4, c4, rfl, l4, r4⟩⟩⟩⟩⟩
theorem k163_mkM (w : World) (base : Nat) (ok : Nat → Prop) (x : S163) {v2 : Value} (g2 : k171.R 171 w base ok v2 x.f1.f1) {v4 : Value} (g4 : k163.R 163 w base ok v4 x.f3) : k163.M w base ok x [.int .i64 x.f0, .string x.f1.f0, v2, .string x.f2, v4] := by
  obtain ⟨n4, q4⟩ := Kd.fix_R_back mono163 g4
  have r4 := Kd.upto_R_le mono163 sz163 (show n4 ≤ n4 by omega) q4
  exact ⟨n4 + 1, ⟨[.int .i64 x.f0], [.string x.f1.f0, v2, .string x.f2, v4], rfl, rfl, ⟨[.string x.f1.f0, v2], [.string x.f2, v4], rfl, (k156_mkM w base ok x.f1 g2), ⟨[.string x.f2], [v4], rfl, rfl, ⟨v4, rfl, r4⟩⟩⟩⟩⟩
theorem k163_openF {W : World} {ok : Nat → Prop} {x : S163} {cs : List Value} (h : Kd.FK k163 W ok x cs) : ∃ A2 c2 A4 c4, cs = [.int .i64 x.f0, .string x.f1.f0, .slice A2 x.f1.f1.length c2, .string x.f2, .slice A4 x.f3.length c4] ∧ x.f1.f1.length ≤ c2 ∧ Kd.F k171 W ok A2 x.f1.f1.length x.f1.f1 ∧ x.f3.length ≤ c4 ∧ Kd.F k163 W ok A4 x.f3.length x.f3 := by
  obtain ⟨A2, c2, A4, c4, rfl, l2, _, l4, _⟩ := k163_open (Kd.FK_now h)
  exact ⟨A2, c2, A4, c4, rfl, l2, (fun W' hW => by obtain ⟨A2_, c2_, A4_, c4_, he, l2_, g2_, l4_, g4_⟩ := k163_open (h W' hW); injection (Option.some.inj (show some (Value.slice A2 x.f1.f1.length c2) = some (Value.slice A2_ x.f1.f1.length c2_) from congrArg (fun l => l[2]?) he)) with ha_ _ _; rw [ha_]; exact g2_), l4, (fun W' hW => by obtain ⟨A2_, c2_, A4_, c4_, he, l2_, g2_, l4_, g4_⟩ := k163_open (h W' hW); injection (Option.some.inj (show some (Value.slice A4 x.f3.length c4) = some (Value.slice A4_ x.f3.length c4_) from congrArg (fun l => l[4]?) he)) with ha_ _ _; rw [ha_]; exact g4_)⟩
theorem k163_mkF (W : World) (ok : Nat → Prop) (x : S163) {A2 : Option Addr} {c2 : Nat} (l2 : x.f1.f1.length ≤ c2) (g2 : Kd.F k171 W ok A2 x.f1.f1.length x.f1.f1) {A4 : Option Addr} {c4 : Nat} (l4 : x.f3.length ≤ c4) (g4 : Kd.F k163 W ok A4 x.f3.length x.f3) : Kd.FK k163 W ok x [.int .i64 x.f0, .string x.f1.f0, .slice A2 x.f1.f1.length c2, .string x.f2, .slice A4 x.f3.length c4] := fun W2 hW => k163_mk W2 x l2 (g2 W2 hW) l4 (g4 W2 hW)
def rd_T163 (xs : List S163) (i : Int) : S163 := xs.getD i.toNat z163
theorem at_T163 {w : World} {A : Option Addr} {n : Nat} {xs : List S163} (h : Kd.C k163 w A n xs) (i : Int) (h0 : 0 ≤ i) (h1 : i < n) : ∃ ad A2 c2 A4 c4, A = some ad ∧ w.cell? (ad.add (i.toNat * 5)) = some (.int .i64 (rd_T163 xs i).f0) ∧ w.cell? ⟨(ad.add (i.toNat * 5)).block, (ad.add (i.toNat * 5)).off + 1, none⟩ = some (.string (rd_T163 xs i).f1.f0) ∧ w.cell? ⟨(ad.add (i.toNat * 5)).block, (ad.add (i.toNat * 5)).off + 2, none⟩ = some (.slice A2 (rd_T163 xs i).f1.f1.length c2) ∧ w.cell? ⟨(ad.add (i.toNat * 5)).block, (ad.add (i.toNat * 5)).off + 3, none⟩ = some (.string (rd_T163 xs i).f2) ∧ w.cell? ⟨(ad.add (i.toNat * 5)).block, (ad.add (i.toNat * 5)).off + 4, none⟩ = some (.slice A4 (rd_T163 xs i).f3.length c4) ∧ (rd_T163 xs i).f1.f1.length ≤ c2 ∧ k171.C w A2 (rd_T163 xs i).f1.f1.length (rd_T163 xs i).f1.f1 ∧ (rd_T163 xs i).f3.length ≤ c4 ∧ k163.C w A4 (rd_T163 xs i).f3.length (rd_T163 xs i).f3 := by
  obtain ⟨ad, c, e, _, hK, hc0⟩ := Kd.C_get h z163 i h0 h1
  have hc : ∀ j u, c[j]? = some u → w.cell? (ad.add (i.toNat * 5 + j)) = some u := hc0
  obtain ⟨A2, c2, A4, c4, rfl, l2, g2, l4, g4⟩ := k163_open hK
  exact ⟨ad, A2, c2, A4, c4, e, hc 0 _ rfl, by rw [← add_field _ _ 1 (by omega)]; exact hc 1 _ rfl, by rw [← add_field _ _ 2 (by omega)]; exact hc 2 _ rfl, by rw [← add_field _ _ 3 (by omega)]; exact hc 3 _ rfl, by rw [← add_field _ _ 4 (by omega)]; exact hc 4 _ rfl, l2, g2, l4, g4⟩

/-! #### struct type 165 -/
structure S165 where
  f0 : ByteArray
  f1 : S163
  f2 : ByteArray
  f3 : ByteArray
def z165 : S165 := ⟨(⟨#[]⟩ : ByteArray), z163, (⟨#[]⟩ : ByteArray), (⟨#[]⟩ : ByteArray)⟩
def k165 : Kd S165 := Kd.iso (Kd.pair Kd.string (Kd.pair k163 (Kd.pair Kd.string Kd.string))) (fun x : S165 => (x.f0, x.f1, x.f2, x.f3))
theorem k165_open {w : World} {x : S165} {cs : List Value} (h : k165.K w x cs) : ∃ A3 c3 A5 c5, cs = [.string x.f0, .int .i64 x.f1.f0, .string x.f1.f1.f0, .slice A3 x.f1.f1.f1.length c3, .string x.f1.f2, .slice A5 x.f1.f3.length c5, .string x.f2, .string x.f3] ∧ x.f1.f1.f1.length ≤ c3 ∧ k171.C w A3 x.f1.f1.f1.length x.f1.f1.f1 ∧ x.f1.f3.length ≤ c5 ∧ k163.C w A5 x.f1.f3.length x.f1.f3 := by
  obtain ⟨_, _, rfl, rfl, ⟨_, _, rfl, s1, ⟨_, _, rfl, rfl, rfl⟩⟩⟩ := h
  obtain ⟨A3, c3, A5, c5, rfl, l3, g3, l5, g5⟩ := k163_open s1
  exact ⟨A3, c3, A5, c5, rfl, l3, g3, l5, g5⟩
theorem k165_openM {w : World} {base : Nat} {ok : Nat → Prop} {x : S165} {cs : List Value} (h : k165.M w base ok x cs) : ∃ v3 v5, cs = [.string x.f0, .int .i64 x.f1.f0, .string x.f1.f1.f0, v3, .string x.f1.f2, v5, .string x.f2, .string x.f3] ∧ k171.R 171 w base ok v3 x.f1.f1.f1 ∧ k163.R 163 w base ok v5 x.f1.f3 := by
  obtain ⟨_, _, rfl, rfl, ⟨_, _, rfl, s1, ⟨_, _, rfl, rfl, rfl⟩⟩⟩ := h
  obtain ⟨v3, v5, rfl, g3, g5⟩ := k163_openM s1
  exact ⟨v3, v5, rfl, g3, g5⟩
theorem k165_mk (w : World) (x : S165) {A3 : Option Addr} {c3 : Nat} (l3 : x.f1.f1.f1.length ≤ c3) (g3 : k171.C w A3 x.f1.f1.f1.length x.f1.f1.f1) {A5 : Option Addr} {c5 : Nat} (l5 : x.f1.f3.length ≤ c5) (g5 : k163.C w A5 x.f1.f3.length x.f1.f3) : k165.K w x [.string x.f0, .int .i64 x.f1.f0, .string x.f1.f1.f0, .slice A3 x.f1.f1.f1.length c3, .string x.f1.f2, .slice A5 x.f1.f3.length c5, .string x.f2, .string x.f3] := ⟨[.string x.f0], [.int .i64 x.f1.f0, .string x.f1.f1.f0, .slice A3 x.f1.f1.f1.length c3, .string x.f1.f2, .slice A5 x.f1.f3.length c5, .string x.f2, .string x.f3], rfl, rfl, ⟨[.int .i64 x.f1.f0, .string x.f1.f1.f0, .slice A3 x.f1.f1.f1.length c3, .string x.f1.f2, .slice A5 x.f1.f3.length c5], [.string x.f2, .string x.f3], rfl, (k163_mk w x.f1 l3 g3 l5 g5), ⟨[.string x.f2], [.string x.f3], rfl, rfl, rfl⟩⟩⟩
theorem k165_mkM (w : World) (base : Nat) (ok : Nat → Prop) (x : S165) {v3 : Value} (g3 : k171.R 171 w base ok v3 x.f1.f1.f1) {v5 : Value} (g5 : k163.R 163 w base ok v5 x.f1.f3) : k165.M w base ok x [.string x.f0, .int .i64 x.f1.f0, .string x.f1.f1.f0, v3, .string x.f1.f2, v5, .string x.f2, .string x.f3] := ⟨[.string x.f0], [.int .i64 x.f1.f0, .string x.f1.f1.f0, v3, .string x.f1.f2, v5, .string x.f2, .string x.f3], rfl, rfl, ⟨[.int .i64 x.f1.f0, .string x.f1.f1.f0, v3, .string x.f1.f2, v5], [.string x.f2, .string x.f3], rfl, (k163_mkM w base ok x.f1 g3 g5), ⟨[.string x.f2], [.string x.f3], rfl, rfl, rfl⟩⟩⟩
theorem k165_openF {W : World} {ok : Nat → Prop} {x : S165} {cs : List Value} (h : Kd.FK k165 W ok x cs) : ∃ A3 c3 A5 c5, cs = [.string x.f0, .int .i64 x.f1.f0, .string x.f1.f1.f0, .slice A3 x.f1.f1.f1.length c3, .string x.f1.f2, .slice A5 x.f1.f3.length c5, .string x.f2, .string x.f3] ∧ x.f1.f1.f1.length ≤ c3 ∧ Kd.F k171 W ok A3 x.f1.f1.f1.length x.f1.f1.f1 ∧ x.f1.f3.length ≤ c5 ∧ Kd.F k163 W ok A5 x.f1.f3.length x.f1.f3 := by
  obtain ⟨A3, c3, A5, c5, rfl, l3, _, l5, _⟩ := k165_open (Kd.FK_now h)
  exact ⟨A3, c3, A5, c5, rfl, l3, (fun W' hW => by obtain ⟨A3_, c3_, A5_, c5_, he, l3_, g3_, l5_, g5_⟩ := k165_open (h W' hW); injection (Option.some.inj (show some (Value.slice A3 x.f1.f1.f1.length c3) = some (Value.slice A3_ x.f1.f1.f1.length c3_) from congrArg (fun l => l[3]?) he)) with ha_ _ _; rw [ha_]; exact g3_), l5, (fun W' hW => by obtain ⟨A3_, c3_, A5_, c5_, he, l3_, g3_, l5_, g5_⟩ := k165_open (h W' hW); injection (Option.some.inj (show some (Value.slice A5 x.f1.f3.length c5) = some (Value.slice A5_ x.f1.f3.length c5_) from congrArg (fun l => l[5]?) he)) with ha_ _ _; rw [ha_]; exact g5_)⟩
theorem k165_mkF (W : World) (ok : Nat → Prop) (x : S165) {A3 : Option Addr} {c3 : Nat} (l3 : x.f1.f1.f1.length ≤ c3) (g3 : Kd.F k171 W ok A3 x.f1.f1.f1.length x.f1.f1.f1) {A5 : Option Addr} {c5 : Nat} (l5 : x.f1.f3.length ≤ c5) (g5 : Kd.F k163 W ok A5 x.f1.f3.length x.f1.f3) : Kd.FK k165 W ok x [.string x.f0, .int .i64 x.f1.f0, .string x.f1.f1.f0, .slice A3 x.f1.f1.f1.length c3, .string x.f1.f2, .slice A5 x.f1.f3.length c5, .string x.f2, .string x.f3] := fun W2 hW => k165_mk W2 x l3 (g3 W2 hW) l5 (g5 W2 hW)
def rd_T165 (xs : List S165) (i : Int) : S165 := xs.getD i.toNat z165
theorem at_T165 {w : World} {A : Option Addr} {n : Nat} {xs : List S165} (h : Kd.C k165 w A n xs) (i : Int) (h0 : 0 ≤ i) (h1 : i < n) : ∃ ad A3 c3 A5 c5, A = some ad ∧ w.cell? (ad.add (i.toNat * 8)) = some (.string (rd_T165 xs i).f0) ∧ w.cell? ⟨(ad.add (i.toNat * 8)).block, (ad.add (i.toNat * 8)).off + 1, none⟩ = some (.int .i64 (rd_T165 xs i).f1.f0) ∧ w.cell? ⟨(ad.add (i.toNat * 8)).block, (ad.add (i.toNat * 8)).off + 2, none⟩ = some (.string (rd_T165 xs i).f1.f1.f0) ∧ w.cell? ⟨(ad.add (i.toNat * 8)).block, (ad.add (i.toNat * 8)).off + 3, none⟩ = some (.slice A3 (rd_T165 xs i).f1.f1.f1.length c3) ∧ w.cell? ⟨(ad.add (i.toNat * 8)).block, (ad.add (i.toNat * 8)).off + 4, none⟩ = some (.string (rd_T165 xs i).f1.f2) ∧ w.cell? ⟨(ad.add (i.toNat * 8)).block, (ad.add (i.toNat * 8)).off + 5, none⟩ = some (.slice A5 (rd_T165 xs i).f1.f3.length c5) ∧ w.cell? ⟨(ad.add (i.toNat * 8)).block, (ad.add (i.toNat * 8)).off + 6, none⟩ = some (.string (rd_T165 xs i).f2) ∧ w.cell? ⟨(ad.add (i.toNat * 8)).block, (ad.add (i.toNat * 8)).off + 7, none⟩ = some (.string (rd_T165 xs i).f3) ∧ (rd_T165 xs i).f1.f1.f1.length ≤ c3 ∧ k171.C w A3 (rd_T165 xs i).f1.f1.f1.length (rd_T165 xs i).f1.f1.f1 ∧ (rd_T165 xs i).f1.f3.length ≤ c5 ∧ k163.C w A5 (rd_T165 xs i).f1.f3.length (rd_T165 xs i).f1.f3 := by
  obtain ⟨ad, c, e, _, hK, hc0⟩ := Kd.C_get h z165 i h0 h1
  have hc : ∀ j u, c[j]? = some u → w.cell? (ad.add (i.toNat * 8 + j)) = some u := hc0
  obtain ⟨A3, c3, A5, c5, rfl, l3, g3, l5, g5⟩ := k165_open hK
  exact ⟨ad, A3, c3, A5, c5, e, hc 0 _ rfl, by rw [← add_field _ _ 1 (by omega)]; exact hc 1 _ rfl, by rw [← add_field _ _ 2 (by omega)]; exact hc 2 _ rfl, by rw [← add_field _ _ 3 (by omega)]; exact hc 3 _ rfl, by rw [← add_field _ _ 4 (by omega)]; exact hc 4 _ rfl, by rw [← add_field _ _ 5 (by omega)]; exact hc 5 _ rfl, by rw [← add_field _ _ 6 (by omega)]; exact hc 6 _ rfl, by rw [← add_field _ _ 7 (by omega)]; exact hc 7 _ rfl, l3, g3, l5, g5⟩

end Go.Proofs.Ytbnmdlnpfikkcaa.PX
