/- The law's argument, opened. -/
import Derived.Test.YtcilmcoaondbmaaGreatDoorMY
import Derived.Test.YtcilmcoaondbmaaGreatDoorRows
import Derived.WalkKit
import Derived.ProofKit
import Derived.OpenShut
import Derived.ChangeOld
import Derived.SizedLaws
import Derived.Deep.Slices
import Derived.Lib.SmallJoins
/- The law's argument, opened: what a family holds. -/
namespace Go.Proofs.YtcilmcoaondbmaaGreatDoor.PX
open Go.ChangeShapes Go.WideShapes Go.RowKit Go.Proofs.YtcilmcoaondbmaaGreatDoorW.PrintWords Go.Proofs.YtcilmcoaondbmaaGreatDoorW.PrintLast Go.Proofs.YtcilmcoaondbmaaGreatDoorW.PrintMore
set_option linter.unusedVariables false
set_option linter.unusedSimpArgs false
section
variable {H : Type} (enc : TypeId × Value → H) (w : World)
/-- Whatever reads as data at a type is of a kind. -/
def Opens {α : Type} (k : Kd α) (t : TypeId) : Prop := ∀ fuel (cs : List Value) (x : DataW H × List MemPlace), DataW.trod enc Tryz.prog w 0 (fun _ => true) true fuel t cs = some x → ∃ p : α, k.K w p cs
/-- The same of the fields of a struct, from a place on. -/
def OpensF {α : Type} (k : Kd α) (fs : List Field) (off : Nat) : Prop := ∀ fuel (cs : List Value), (∀ f, f ∈ fs → ∃ x : DataW H × List MemPlace, DataW.trod enc Tryz.prog w 0 (fun _ => true) true fuel f.type ((cs.drop f.offset).take (Tryz.prog.cellsOf f.type)) = some x) → ∃ p : α, k.K w p ((cs.drop off).take k.sz)
variable {enc : TypeId × Value → H} {w : World}
theorem opens_int {k : IntKind} {t : TypeId} (ht : Tryz.prog.underlying t = some (.int k)) : Opens enc w (Kd.int k) t := fun fuel cs x h => by
  obtain ⟨n, rfl, _, _⟩ := DataW.trod_int ht h
  exact ⟨n, rfl⟩
theorem opens_bool {t : TypeId} (ht : Tryz.prog.underlying t = some .bool) : Opens enc w Kd.bool t := fun fuel cs x h => by
  obtain ⟨b, rfl, _⟩ := DataW.trod_bool ht h
  exact ⟨b, rfl⟩
theorem opens_string {t : TypeId} (ht : Tryz.prog.underlying t = some .string) : Opens enc w Kd.string t := fun fuel cs x h => by
  obtain ⟨s, rfl, _, _⟩ := DataW.trod_string ht h
  exact ⟨s, rfl⟩
theorem opens_iso {α β : Type} {d : Kd α} {f : β → α} {t : TypeId} (h : Opens enc w d t) (g : α → β) (hg : ∀ x, f (g x) = x) : Opens enc w (Kd.iso d f) t := fun fuel cs x hx => by
  obtain ⟨p, hp⟩ := h fuel cs x hx
  exact ⟨g p, show d.K w (f (g p)) cs by rw [hg]; exact hp⟩
theorem opens_slice {α : Type} [Inhabited α] {k : Kd α} {t e : TypeId} (q : Nat) (ht : Tryz.prog.underlying t = some (.slice e)) (he : Tryz.prog.cellsOf e = k.sz) (h : Opens enc w k e) : Opens enc w (Kd.slice q k) t := fun fuel cs x hx => by
  rcases Go.Deep.open_slice ht hx with ⟨rfl, _⟩ | ⟨a, len, cap, m, n, D, Pl, rfl, _, hl, hm, hmm, _, hr⟩
  · exact ⟨[], none, 0, rfl, Nat.le_refl _, Kd.C_nil _ _⟩
  · have hlm : len ≤ m := by rw [hmm]; split <;> omega
    have each : ∀ i, i < len → ∃ y : α × List Value, y.2.length = k.sz ∧ k.K w y.1 y.2 ∧ ∀ j u, y.2[j]? = some u → w.cell? (a.add (i * k.sz + j)) = some u := by
      intro i hi
      obtain ⟨cs', h1, h2⟩ := hr i (by omega)
      obtain ⟨_, hlen, hcell⟩ := World.cells?_some h1
      obtain ⟨p, hp⟩ := h _ _ _ h2
      refine ⟨(p, cs'), hlen.trans he, hp, fun j u hu => ?_⟩
      have hj : j < Tryz.prog.cellsOf e := by rw [← hlen]; exact (List.getElem?_eq_some_iff.1 hu).1
      have := hcell j hj
      rw [Go.Deep.add_add, he] at this
      exact this.trans hu
    obtain ⟨y, hy⟩ := Go.Deep.choose_lt each
    have hlen : ((List.range len).map fun i => (y i).1).length = len := by simp
    have hmx : maxLen = 9223372036854775807 := rfl
    refine ⟨(List.range len).map fun i => (y i).1, some a, cap, by rw [hlen], by rw [hlen]; exact hl, rfl, by rw [hlen]; omega, fun _ => ⟨a, rfl, fun j p hj => ?_⟩⟩
    have hjl : j < len := by have := (List.getElem?_eq_some_iff.1 hj).1; omega
    have hp : p = (y j).1 := by
      rw [List.getElem?_map, List.getElem?_range hjl] at hj
      simpa using hj.symm
    subst hp
    obtain ⟨h1, h2, h3⟩ := hy j hjl
    exact ⟨(y j).2, h1, h2, h3⟩
theorem opensF_one {α : Type} {k : Kd α} {f : Field} {off : Nat} (ho : f.offset = off) (hs : Tryz.prog.cellsOf f.type = k.sz) (h : Opens enc w k f.type) : OpensF enc w k [f] off := fun fuel cs hf => by
  obtain ⟨x, hx⟩ := hf f (List.mem_singleton.2 rfl)
  rw [ho, hs] at hx
  exact h _ _ _ hx
theorem opensF_cons {α β : Type} {a : Kd α} {b : Kd β} {f : Field} {fs : List Field} {off : Nat} (ho : f.offset = off) (hs : Tryz.prog.cellsOf f.type = a.sz) (h : Opens enc w a f.type) (hr : OpensF enc w b fs (off + a.sz)) : OpensF enc w (Kd.pair a b) (f :: fs) off := fun fuel cs hf => by
  obtain ⟨x, hx⟩ := hf f (List.mem_cons_self ..)
  rw [ho, hs] at hx
  obtain ⟨p, hp⟩ := h _ _ _ hx
  obtain ⟨q, hq⟩ := hr fuel cs fun g hg => hf g (List.mem_cons_of_mem _ hg)
  refine ⟨(p, q), _, _, ?_, hp, hq⟩
  show (cs.drop off).take (a.sz + b.sz) = _
  rw [List.take_add, List.drop_drop]
theorem opens_struct {α : Type} {k : Kd α} {t : TypeId} {fs : Array Field} (ht : Tryz.prog.underlying t = some (.struct fs)) (hc : Tryz.prog.cellsOf t = k.sz) (h : OpensF enc w k fs.toList 0) : Opens enc w k t := fun fuel cs x hx => by
  obtain ⟨xs, n, _, _, hl, hxl, hf⟩ := DataW.trod_struct ht hx
  obtain ⟨p, hp⟩ := h n cs fun f hm => by
    obtain ⟨i, hi, he⟩ := List.getElem_of_mem hm
    have hi' : i < fs.size := by simpa using hi
    have := hf i f (by rw [Array.getElem?_eq_getElem hi']; simpa using he)
    have hxi : i < xs.length := by omega
    exact ⟨xs[i], by rw [this, List.getElem?_eq_getElem hxi]⟩
  rw [List.drop_zero, List.take_of_length_le (by omega)] at hp
  exact ⟨p, hp⟩
instance : Inhabited S62 := ⟨⟨0, false⟩⟩
instance : Inhabited S81 := ⟨⟨ByteArray.empty, 0, 0, 0⟩⟩
instance : Inhabited S70 := ⟨⟨ByteArray.empty, []⟩⟩
instance : Inhabited S79 := ⟨⟨0, []⟩⟩
instance : Inhabited S83 := ⟨⟨[], 0, default⟩⟩
instance : Inhabited ByteArray := ⟨ByteArray.empty⟩
set_option maxRecDepth 100000
theorem open62 : Opens enc w k62 73 := opens_iso (opens_struct Tryz.underlying73 (by kernel_rfl) (opensF_cons rfl (by kernel_rfl) (opens_int Tryz.underlying3) (opensF_one rfl (by kernel_rfl) (opens_bool Tryz.underlying4)))) (fun x => ⟨x.1, x.2⟩) (fun _ => rfl)
theorem open62s : Opens enc w (Kd.slice 73 k62) 38 := opens_slice 73 Tryz.underlying38 (by kernel_rfl) open62
theorem open81 : Opens enc w k81 84 := opens_iso (opens_struct Tryz.underlying84 (by kernel_rfl) (opensF_cons rfl (by kernel_rfl) (opens_string Tryz.underlying9) (opensF_cons rfl (by kernel_rfl) (opens_int Tryz.underlying3) (opensF_cons rfl (by kernel_rfl) (opens_int Tryz.underlying3) (opensF_one rfl (by kernel_rfl) (opens_int Tryz.underlying3)))))) (fun x => ⟨x.1, x.2.1, x.2.2.1, x.2.2.2⟩) (fun _ => rfl)
theorem open70 : Opens enc w k70 40 := opens_iso (opens_struct Tryz.underlying40 (by kernel_rfl) (opensF_cons rfl (by kernel_rfl) (opens_string Tryz.underlying9) (opensF_one rfl (by kernel_rfl) open62s))) (fun x => ⟨x.1, x.2⟩) (fun _ => rfl)
theorem open79 : Opens enc w k79 80 := opens_iso (opens_struct Tryz.underlying80 (by kernel_rfl) (opensF_cons rfl (by kernel_rfl) (opens_int Tryz.underlying3) (opensF_one rfl (by kernel_rfl) open62s))) (fun x => ⟨x.1, x.2⟩) (fun _ => rfl)
theorem open83 : Opens enc w k83 86 := opens_iso (opens_struct Tryz.underlying86 (by kernel_rfl) (opensF_cons rfl (by kernel_rfl) open62s (opensF_cons rfl (by kernel_rfl) (opens_int Tryz.underlying3) (opensF_one rfl (by kernel_rfl) open81)))) (fun x => ⟨x.1, x.2.1, x.2.2⟩) (fun _ => rfl)
theorem slice_any {t e : TypeId} {fuel : Nat} {v : Value} {x : DataW H × List MemPlace} (ht : Tryz.prog.underlying t = some (.slice e)) (h : DataW.trod enc Tryz.prog w 0 (fun _ => true) true fuel t [v] = some x) : ∃ A n c, v = .slice A n c ∧ n ≤ c := by
  rcases Go.Deep.open_slice ht h with ⟨hc, _⟩ | ⟨a, len, cap, m, n, D, Pl, hc, _, hl, _⟩
  · simp only [List.cons.injEq, and_true] at hc
    exact ⟨none, 0, 0, hc, Nat.le_refl _⟩
  · simp only [List.cons.injEq, and_true] at hc
    exact ⟨some a, len, cap, hc, hl⟩
theorem slice_open {α : Type} [Inhabited α] {k : Kd α} {t e : TypeId} {fuel : Nat} {v : Value} {x : DataW H × List MemPlace} (ht : Tryz.prog.underlying t = some (.slice e)) (he : Tryz.prog.cellsOf e = k.sz) (ho : Opens enc w k e) (h : DataW.trod enc Tryz.prog w 0 (fun _ => true) true fuel t [v] = some x) : ∃ A l c, v = .slice A l.length c ∧ l.length ≤ c ∧ Kd.C k w A l.length l := by
  obtain ⟨l, A, c, hc, hl, hr⟩ := opens_slice 0 ht he ho _ _ _ h
  simp only [List.cons.injEq, and_true] at hc
  exact ⟨A, l, c, hc, hl, hr⟩
theorem fields_of {t : TypeId} {fs : Array Field} {fuel : Nat} {cs : List Value} {x : DataW H × List MemPlace} (ht : Tryz.prog.underlying t = some (.struct fs)) (h : DataW.trod enc Tryz.prog w 0 (fun _ => true) true fuel t cs = some x) :
    ∃ n, cs.length = Tryz.prog.cellsOf t ∧ ∀ (i : Nat) (f : Field), fs[i]? = some f → ∃ y : DataW H × List MemPlace, DataW.trod enc Tryz.prog w 0 (fun _ => true) true n f.type ((cs.drop f.offset).take (Tryz.prog.cellsOf f.type)) = some y := by
  obtain ⟨xs, n, _, _, hl, hxl, hf⟩ := DataW.trod_struct ht h
  refine ⟨n, hl, fun i f hi => ?_⟩
  have hi' : i < fs.size := (Array.getElem?_eq_some_iff.1 hi).1
  have hxi : i < xs.length := by omega
  exact ⟨xs[i], by rw [hf i f hi, List.getElem?_eq_getElem hxi]⟩
def e129 : S129 := ⟨ByteArray.empty, 0, []⟩
def e105 : S105 := ⟨ByteArray.empty, ByteArray.empty, ⟨⟨0, 0, 0, 0⟩, ⟨ByteArray.empty, ByteArray.empty, ByteArray.empty⟩⟩⟩
def e158 : S158 := ⟨ByteArray.empty, ⟨ByteArray.empty, []⟩⟩
def e165 : S165 := ⟨ByteArray.empty, ⟨0, ⟨ByteArray.empty, []⟩, ByteArray.empty, []⟩, ByteArray.empty, ByteArray.empty⟩
theorem ten {l : List Value} (h : l.length = 10) : ∃ a b c d e f g i j k, l = [a, b, c, d, e, f, g, i, j, k] := by
  match l, h with
  | [a, b, c, d, e, f, g, i, j, k], _ => exact ⟨a, b, c, d, e, f, g, i, j, k, rfl⟩
theorem fam_open {base : Nat} {v : Value} {d : DataW H} {p : List MemPlace} (hv : Value.okWide Tryz.prog w .any base 36 v) (h : DataW.Trod enc Tryz.prog w 0 (fun _ => true) true 36 v d p) : ∃ D Hh, v = fv D Hh ∧ FamAt w D Hh := by
  obtain ⟨cs, rfl, hsz⟩ := okWide_struct Tryz.underlying36 hv
  obtain ⟨fuel, hf⟩ := h
  obtain ⟨n, hl, hg⟩ := fields_of Tryz.underlying36 hf
  have hc36 : Tryz.prog.cellsOf 36 = 10 := by kernel_rfl
  rw [hc36] at hl
  obtain ⟨l⟩ := cs
  have hl' : l.length = 10 := by simpa [Value.cells] using hl
  obtain ⟨a0, a1, a2, a3, a4, a5, a6, a7, a8, a9, rfl⟩ := ten hl'
  have hc30 : Tryz.prog.cellsOf 30 = 6 := by kernel_rfl
  have hc31 : Tryz.prog.cellsOf 31 = 1 := by kernel_rfl
  have hc32 : Tryz.prog.cellsOf 32 = 1 := by kernel_rfl
  have hc33 : Tryz.prog.cellsOf 33 = 1 := by kernel_rfl
  have hc34 : Tryz.prog.cellsOf 34 = 1 := by kernel_rfl
  have hc25 : Tryz.prog.cellsOf 25 = 2 := by kernel_rfl
  have hc26 : Tryz.prog.cellsOf 26 = 1 := by kernel_rfl
  have hc27 : Tryz.prog.cellsOf 27 = 1 := by kernel_rfl
  have hc28 : Tryz.prog.cellsOf 28 = 1 := by kernel_rfl
  have hc22 : Tryz.prog.cellsOf 22 = 1 := by kernel_rfl
  have hc23 : Tryz.prog.cellsOf 23 = 1 := by kernel_rfl
  have hc9 : Tryz.prog.cellsOf 9 = 1 := by kernel_rfl
  obtain ⟨y0, g0⟩ := hg 0 _ rfl
  obtain ⟨y1, g1⟩ := hg 1 _ rfl
  obtain ⟨y2, g2⟩ := hg 2 _ rfl
  obtain ⟨y3, g3⟩ := hg 3 _ rfl
  obtain ⟨y4, g4⟩ := hg 4 _ rfl
  simp [Value.cells, hc30, hc31, hc32, hc33, hc34] at g0 g1 g2 g3 g4
  obtain ⟨n2, _, hg2⟩ := fields_of Tryz.underlying30 g0
  obtain ⟨z0, b0⟩ := hg2 0 _ rfl
  obtain ⟨z1, b1⟩ := hg2 1 _ rfl
  obtain ⟨z2, b2⟩ := hg2 2 _ rfl
  obtain ⟨z3, b3⟩ := hg2 3 _ rfl
  obtain ⟨z4, b4⟩ := hg2 4 _ rfl
  simp [hc9, hc25, hc26, hc27, hc28] at b0 b1 b2 b3 b4
  obtain ⟨n3, _, hg3⟩ := fields_of Tryz.underlying25 b1
  obtain ⟨u0, d0⟩ := hg3 0 _ rfl
  obtain ⟨u1, d1⟩ := hg3 1 _ rfl
  simp [hc22, hc23] at d0 d1
  obtain ⟨nm, hnm, _, _⟩ := DataW.trod_string Tryz.underlying9 b0
  simp only [List.cons.injEq, and_true] at hnm
  subst hnm
  obtain ⟨A1, m1, c1, rfl, l1⟩ := slice_any Tryz.underlying22 d0
  obtain ⟨A2, m2, c2, rfl, l2⟩ := slice_any Tryz.underlying23 d1
  obtain ⟨A3, k3, c3, rfl, l3, r3⟩ := slice_open Tryz.underlying26 (by kernel_rfl) open81 b2
  obtain ⟨A4, m4, c4, rfl, l4⟩ := slice_any Tryz.underlying27 b3
  obtain ⟨A5, m5, c5, rfl, l5⟩ := slice_any Tryz.underlying28 b4
  obtain ⟨A6, k6, c6, rfl, l6, r6⟩ := slice_open Tryz.underlying31 (by kernel_rfl) (opens_string Tryz.underlying9) g1
  obtain ⟨A7, k7, c7, rfl, l7, r7⟩ := slice_open Tryz.underlying32 (by kernel_rfl) open70 g2
  obtain ⟨A8, k8, c8, rfl, l8, r8⟩ := slice_open Tryz.underlying33 (by kernel_rfl) open79 g3
  obtain ⟨A9, k9, c9, rfl, l9, r9⟩ := slice_open Tryz.underlying34 (by kernel_rfl) open83 g4
  refine ⟨⟨nm, List.replicate m1 e129, List.replicate m2 e105, k3, List.replicate m4 e158, List.replicate m5 e165, k6, k7, k8, k9⟩, ⟨A1, A2, A3, A4, A5, A6, A7, A8, A9, c1, c2, c3, c4, c5, c6, c7, c8, c9⟩, ?_, ?_⟩
  · unfold fv
    simp only [List.length_replicate]
  · exact ⟨trivial, by simpa using l1, trivial, by simpa using l2, r3, l3, trivial, by simpa using l4, trivial, by simpa using l5, r6, l6, r7, l7, r8, l8, r9, l9⟩
end
end Go.Proofs.YtcilmcoaondbmaaGreatDoor.PX
