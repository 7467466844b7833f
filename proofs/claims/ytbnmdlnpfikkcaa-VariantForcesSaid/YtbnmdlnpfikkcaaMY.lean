/- VariantForces returns true for every input, and its arguments read behind the call as they read before: no condition. -/
import Derived.Test.YtbnmdlnpfikkcaaMA
import Derived.Test.YtbnmdlnpfikkcaaM4
import Derived.Deep.RegionWith
import Derived.Test.YtbnmdlnpfikkcaaRows
import Derived.WalkKit
import Derived.ProofKit
import Derived.OpenShut
import Derived.ChangeOld
import Derived.SizedLaws
import Derived.Deep.Matrix
import Derived.Deep.SlicePairs
import Derived.Lib.SmallJoins
import Derived.Test.YtbnmdlnpfikkcaaM5
/- What all laws' walks want: a description in a world; the reference's functions by their contracts. -/
namespace Go.Proofs.Ytbnmdlnpfikkcaa.PX
open Go.RowKit Go.Proofs.YtbnmdlnpfikkcaaW.PrintWords Go.Proofs.YtbnmdlnpfikkcaaW.PrintLast Go.Proofs.YtbnmdlnpfikkcaaW.PrintMore
set_option linter.unusedVariables false
set_option linter.unusedSimpArgs false
/-- A description, in a world. -/
structure KinAt (w : World) (R G O : List (List Int)) (B1 B2 B3 : Option Addr) (d1 d2 d3 : Nat) : Prop where
  r1 : Kd.C (Kd.slice 95 (Kd.int .i8)) w B1 R.length R
  l1 : R.length ≤ d1
  r2 : Kd.C (Kd.slice 95 (Kd.int .i8)) w B2 G.length G
  l2 : G.length ≤ d2
  r3 : Kd.C (Kd.slice 95 (Kd.int .i8)) w B3 O.length O
  l3 : O.length ≤ d3
  a1 : All8 R
  a2 : All8 G
  a3 : All8 O
theorem KinAt.below {w w1 : World} {R G O : List (List Int)} {B1 B2 B3 : Option Addr} {d1 d2 d3 : Nat} (h : KinAt w R G O B1 B2 B3 d1 d2 d3) (hb : Below w.heap.size w w1) : KinAt w1 R G O B1 B2 B3 d1 d2 d3 :=
  ⟨Kd.C_below h.r1 hb, h.l1, Kd.C_below h.r2 hb, h.l2, Kd.C_below h.r3 hb, h.l3, h.a1, h.a2, h.a3⟩
def kinV (a : Int) (R G O : List (List Int)) (B1 B2 B3 : Option Addr) (d1 d2 d3 : Nat) : Value := .agg #[.int .u8 a, .slice B1 R.length d1, .slice B2 G.length d2, .slice B3 O.length d3]
theorem kfam_calls {a : Int} {R G O : List (List Int)} {B1 B2 B3 : Option Addr} {d1 d2 d3 : Nat} {A1 A2 A3 A4 A5 : Option Addr} {c1 c2 c3 c4 c5 : Nat} {w : World} (h0 : 0 ≤ a) (h255 : a ≤ 255) (hk : KinAt w R G O B1 B2 B3 d1 d2 d3) (hb : BaseAt w A1 A2 A3 A4 A5 c1 c2 c3 c4 c5) :
    Calls Try.prog 12 #[kinV a R G O B1 B2 B3 d1 d2 d3, baseV A1 A2 A3 A4 A5 c1 c2 c3 c4 c5] w fun e w' => ∃ H : Hd, e = .returned (fv (famK a R G O) H) ∧ FamAt w' (famK a R G O) H ∧ Below w.heap.size w w' :=
  fam_calls a R G O B1 B2 B3 d1 d2 d3 A1 A2 A3 A4 A5 c1 c2 c3 c4 c5 w h0 h255 hk.a1 hk.a2 hk.a3 hk.r1 hk.l1 hk.r2 hk.l2 hk.r3 hk.l3 hb
def kinC (a : Int) (R G O : List (List Int)) (B1 B2 B3 : Option Addr) (d1 d2 d3 : Nat) : Array Value := #[.int .u8 a, .slice B1 R.length d1, .slice B2 G.length d2, .slice B3 O.length d3]
theorem kin_cells {w : World} {g : Nat} {a : Int} {R G O : List (List Int)} {B1 B2 B3 : Option Addr} {d1 d2 d3 : Nat} (h : w.heap[g]? = some (.cells (kinC a R G O B1 B2 B3 d1 d2 d3) 24 (0, 0))) :
    w.cell? ⟨g, 0, none⟩ = some (.int .u8 a) ∧ w.cell? ⟨g, 1, none⟩ = some (.slice B1 R.length d1) ∧ w.cell? ⟨g, 2, none⟩ = some (.slice B2 G.length d2) ∧ w.cell? ⟨g, 3, none⟩ = some (.slice B3 O.length d3) :=
  ⟨(blk_cell h 0).trans rfl, (blk_cell h 1).trans rfl, (blk_cell h 2).trans rfl, (blk_cell h 3).trans rfl⟩
theorem ref_none (D : Fam) (H : Hd) (w : World) (h : FamAt w D H) (hl : D.rules.length < 50) :
    Calls Try.prog 18 #[fv D H] w fun e w' => ∃ A cp, e = .returned (.slice A D.rules.length cp) ∧ D.rules.length ≤ cp ∧ Kd.C Kd.bool w' A D.rules.length (List.replicate D.rules.length false) ∧ Below w.heap.size w w' :=
  (dowellaw48_none.calls D.nm H.A1 H.c1 D.parts H.A2 H.c2 D.insts H.A3 H.c3 D.dims H.A4 H.c4 D.cons H.A5 H.c5 D.reqs H.A6 H.c6 D.opts H.A7 H.c7 D.rules H.A8 H.c8 D.guards H.A9 H.c9 D.overs (List.replicate D.rules.length false) w h.r1 h.l1 h.r2 h.l2 h.r3 h.l3 h.r4 h.l4 h.r5 h.l5 h.r6 h.l6 h.r7 h.l7 h.r8 h.l8 h.r9 h.l9
    (by unfold dowellaw48_none.f; rw [if_pos (by omega), if_pos (by omega), Int.toNat_natCast])).mono fun e w' ⟨v, he, hR, hb⟩ => by
      obtain ⟨A, cp, hv, hc, hC⟩ := Kd.R_reads hR
      subst hv
      rw [List.length_replicate] at he hc hC
      exact ⟨A, cp, he, hc, hC, hb⟩
/-- The allowed sets, as the reference lists them. -/
def allowedL (D : Fam) (o : List Bool) (ch : List S62) : List Int := (ks D.opts.length ch (kept D.rules o)).map fun k => ((setOf D.opts.length k : Nat) : Int)
theorem ref_allowed (D : Fam) (H : Hd) (A : Option Addr) (c : Nat) (m : Nat) (o : List Bool) (hm : o.length = m) (A2 : Option Addr) (c2 : Nat) (ch : List S62) (w : World) (h : FamAt w D H) (hs : Small D) (h1 : 1 ≤ D.opts.length) (h6 : D.opts.length ≤ 6) (ho : D.rules.length ≤ o.length) (hch : LitsIn D.opts.length ch) (hcl : ch.length < 100) (hrs : ∀ r ∈ D.rules, LitsIn D.opts.length r.f1)
    (hr : Kd.C Kd.bool w A m o) (hc : m ≤ c) (hr2 : Kd.C k62 w A2 ch.length ch) (hc2 : ch.length ≤ c2) :
    Calls Try.prog 17 #[fv D H, .slice A m c, .slice A2 ch.length c2] w fun e w' => ∃ A cp, e = .returned (.slice A (allowedL D o ch).length cp) ∧ (allowedL D o ch).length ≤ cp ∧ Kd.C (Kd.int .i64) w' A (allowedL D o ch).length (allowedL D o ch) ∧ Below w.heap.size w w' := by
  subst hm
  exact (dowellaw48_allowed.calls 4000 D.nm H.A1 H.c1 D.parts H.A2 H.c2 D.insts H.A3 H.c3 D.dims H.A4 H.c4 D.cons H.A5 H.c5 D.reqs H.A6 H.c6 D.opts H.A7 H.c7 D.rules H.A8 H.c8 D.guards H.A9 H.c9 D.overs A c o A2 c2 ch (allowedL D o ch) w h.r1 h.l1 h.r2 h.l2 h.r3 h.l3 h.r4 h.l4 h.r5 h.l5 h.r6 h.l6 h.r7 h.l7 h.r8 h.l8 h.r9 h.l9
    hr hc hr2 hc2 (allowed_f hs rfl h1 h6 ho hch hcl hrs)).mono fun e w' ⟨v, he, hR, hb⟩ => by
      obtain ⟨A, cp, hv, hc, hC⟩ := Kd.R_reads hR
      subst hv
      exact ⟨A, cp, he, hc, hC, hb⟩
theorem ref_names (D : Fam) (H : Hd) (k : Nat) (w : World) (h : FamAt w D H) (h6 : D.opts.length ≤ 6) (hk : k < 2 ^ D.opts.length) :
    Calls Try.prog 20 #[fv D H, .int .i64 ((setOf D.opts.length k : Nat) : Int)] w fun e w' => ∃ A cp, e = .returned (.slice A (cnames (cfg D.opts.length k) D.opts).length cp) ∧ (cnames (cfg D.opts.length k) D.opts).length ≤ cp ∧ Kd.C Kd.string w' A (cnames (cfg D.opts.length k) D.opts).length (cnames (cfg D.opts.length k) D.opts) ∧ Below w.heap.size w w' :=
  (dowellaw48_names.calls 4000 D.nm H.A1 H.c1 D.parts H.A2 H.c2 D.insts H.A3 H.c3 D.dims H.A4 H.c4 D.cons H.A5 H.c5 D.reqs H.A6 H.c6 D.opts H.A7 H.c7 D.rules H.A8 H.c8 D.guards H.A9 H.c9 D.overs _ (cnames (cfg D.opts.length k) D.opts) w h.r1 h.l1 h.r2 h.l2 h.r3 h.l3 h.r4 h.l4 h.r5 h.l5 h.r6 h.l6 h.r7 h.l7 h.r8 h.l8 h.r9 h.l9
    (refnames_f rfl h6 hk)).mono fun e w' ⟨v, he, hR, hb⟩ => by
      obtain ⟨A, cp, hv, hc, hC⟩ := Kd.R_reads hR
      subst hv
      exact ⟨A, cp, he, hc, hC, hb⟩
end Go.Proofs.Ytbnmdlnpfikkcaa.PX
/- The laws' arguments, opened: a description, a choice, a list of small numbers. -/
namespace Go.Proofs.Ytbnmdlnpfikkcaa.PX
open Go.ChangeShapes Go.WideShapes Go.RowKit Go.Proofs.YtbnmdlnpfikkcaaW.PrintWords Go.Proofs.YtbnmdlnpfikkcaaW.PrintLast Go.Proofs.YtbnmdlnpfikkcaaW.PrintMore
set_option linter.unusedVariables false
set_option linter.unusedSimpArgs false
theorem wf_i8 {n : Int} (h : (Lit.int .i8 n).wf = true) : -128 ≤ n ∧ n ≤ 127 := by
  simp [Lit.wf, IntKind.min, IntKind.max, IntKind.bits, IntKind.signed] at h
  omega
theorem wf_u8 {n : Int} (h : (Lit.int .u8 n).wf = true) : 0 ≤ n ∧ n ≤ 255 := by
  simp [Lit.wf, IntKind.min, IntKind.max, IntKind.bits, IntKind.signed] at h
  omega
theorem i8s_of {l : List Int} (h : ∀ n ∈ l, (Lit.int .i8 n).wf = true) : i8s l = true := by
  unfold i8s
  rw [List.all_eq_true]
  intro x hx
  simpa using wf_i8 (h x hx)
section
variable {H : Type} {enc : TypeId × Value → H} {w : World} {fuel : Nat} {v : Value} {x : DataW H × List MemPlace}
theorem rows_open (h : DataW.trod enc Try.prog w 0 (fun _ => true) true fuel 22 [v] = some x) : ∃ A R c, v = .slice A R.length c ∧ R.length ≤ c ∧ Kd.C (Kd.slice 95 (Kd.int .i8)) w A R.length R ∧ All8 R := by
  rcases Go.Deep.open_int_rows Try.underlying22 Try.underlying57 Try.underlying95 (by kernel_rfl) (by kernel_rfl) h with ⟨hcs, _⟩ | ⟨a, len, cap, A, L, C, Z, hcs, _, hl, hm, _, hr⟩
  · simp only [List.cons.injEq, and_true] at hcs
    exact ⟨none, [], 0, hcs, Nat.le_refl _, C_zero _ _ _, fun r hr => by cases hr⟩
  · simp only [List.cons.injEq, and_true] at hcs
    have hlen : ((List.range len).map fun r => (Z r).take (L r)).length = len := by simp
    refine ⟨some a, (List.range len).map fun r => (Z r).take (L r), cap, by rw [hlen]; exact hcs, by rw [hlen]; exact hl, ?_, ?_⟩
    · refine ⟨rfl, by rw [hlen]; exact Nat.le_trans hl hm, fun _ => ⟨a, rfl, fun j p hj => ?_⟩⟩
      have hjl : j < len := by have := (List.getElem?_eq_some_iff.1 hj).1; omega
      have hp : p = (Z j).take (L j) := by
        rw [List.getElem?_map, List.getElem?_range hjl] at hj
        simpa using hj.symm
      obtain ⟨h1, h2, h3, h4, h5, h6, h7⟩ := hr j (by omega)
      have hpl : p.length = L j := by rw [hp, List.length_take]; omega
      have hmx : maxLen = 9223372036854775807 := rfl
      refine ⟨[.slice (A j) (L j) (C j)], rfl, ⟨A j, C j, by rw [hpl], by rw [hpl]; exact h2, rfl, by omega, fun hpos => ?_⟩, fun i u hu => ?_⟩
      · cases hA : A j with
        | none => have := h6 hA; omega
        | some a' =>
          obtain ⟨_, hc⟩ := h7 a' hA
          refine ⟨a', rfl, fun i n hn => ⟨[.int .i8 n], rfl, rfl, fun q u hu => ?_⟩⟩
          have hil : i < p.length := (List.getElem?_eq_some_iff.1 hn).1
          rcases q with _ | q
          · simp only [List.getElem?_cons_zero, Option.some.injEq] at hu
            have e : (Kd.int .i8).sz = 1 := rfl
            rw [e, Nat.mul_one, Nat.add_zero, hc i (by omega), ← hu]
            congr 2
            rw [hp, List.getElem?_take, if_pos (by omega)] at hn
            rw [List.getD_eq_getElem?_getD, hn]
            rfl
          · simp at hu
      · rcases i with _ | i
        · simp only [List.getElem?_cons_zero, Option.some.injEq] at hu
          have e : (Kd.slice 95 (Kd.int .i8)).sz = 1 := rfl
          rw [e, Nat.mul_one, Nat.add_zero, h1, hu]
        · simp at hu
    · intro r hrm
      obtain ⟨j, hj, rfl⟩ := List.mem_map.1 hrm
      obtain ⟨_, _, _, _, h5, _, _⟩ := hr j (by have := List.mem_range.1 hj; omega)
      exact i8s_of fun n hn => h5 n (List.mem_of_mem_take hn)
theorem lits_open (h : DataW.trod enc Try.prog w 0 (fun _ => true) true fuel 25 [v] = some x) : ∃ A ch c, v = .slice A ch.length c ∧ ch.length ≤ c ∧ Kd.C k62 w A ch.length ch := by
  rcases Go.Deep.open_slice_pairs Try.underlying25 Try.underlying62 (by kernel_rfl) rfl rfl (by kernel_rfl) (by kernel_rfl) h with ⟨hcs, _⟩ | ⟨a, len, cap, m, n, V0, V1, D0, D1, P0, P1, hcs, _, hl, hm, hmm, _, hr⟩
  · simp only [List.cons.injEq, and_true] at hcs
    exact ⟨none, [], 0, hcs, Nat.le_refl _, C_zero _ _ _⟩
  · simp only [List.cons.injEq, and_true] at hcs
    have hlm : len ≤ m := by rw [hmm]; split <;> omega
    have each : ∀ i, i < len → ∃ q : Int × Bool, w.cell? (a.add (i * 2)) = some (.int .i64 q.1) ∧ w.cell? (a.add (i * 2 + 1)) = some (.bool q.2) := by
      intro i hi
      obtain ⟨h1, h2, h3, h4⟩ := hr i (by omega)
      obtain ⟨z, hz, _, _⟩ := DataW.trod_int Try.underlying3 h3
      obtain ⟨b, hb, _⟩ := DataW.trod_bool Try.underlying4 h4
      simp only [List.cons.injEq, and_true] at hz hb
      exact ⟨(z, b), by rw [h1, hz], by rw [h2, hb]⟩
    obtain ⟨q, hq⟩ := Go.Deep.choose_lt each
    have hlen : ((List.range len).map fun i => (⟨(q i).1, (q i).2⟩ : S62)).length = len := by simp
    refine ⟨some a, (List.range len).map fun i => ⟨(q i).1, (q i).2⟩, cap, by rw [hlen]; exact hcs, by rw [hlen]; exact hl, rfl, by rw [hlen]; exact Nat.le_trans hl hm, fun _ => ⟨a, rfl, fun j p hj => ?_⟩⟩
    have hjl : j < len := by have := (List.getElem?_eq_some_iff.1 hj).1; omega
    have hp : p = ⟨(q j).1, (q j).2⟩ := by
      rw [List.getElem?_map, List.getElem?_range hjl] at hj
      simpa using hj.symm
    obtain ⟨h1, h2⟩ := hq j hjl
    subst hp
    refine ⟨_, rfl, k62_mk w _, fun i u hu => ?_⟩
    have e : k62.sz = 2 := rfl
    rw [e]
    rcases i with _ | _ | i
    · simp only [List.getElem?_cons_zero, Option.some.injEq] at hu
      rw [← hu]
      exact h1
    · simp only [List.getElem?_cons_succ, List.getElem?_cons_zero, Option.some.injEq] at hu
      rw [← hu]
      exact h2
    · simp at hu
theorem i8s_open (h : DataW.trod enc Try.prog w 0 (fun _ => true) true fuel 57 [v] = some x) : ∃ A l c, v = .slice A l.length c ∧ l.length ≤ c ∧ Kd.C (Kd.int .i8) w A l.length l ∧ i8s l = true := by
  rcases open_ints Try.underlying57 Try.underlying95 (by kernel_rfl) h with ⟨hcs, _⟩ | ⟨a, len, cap, zs, hcs, _, hl, hm, hz, _, hcell, hwz⟩
  · simp only [List.cons.injEq, and_true] at hcs
    exact ⟨none, [], 0, hcs, Nat.le_refl _, C_zero _ _ _, rfl⟩
  · simp only [List.cons.injEq, and_true] at hcs
    simp only [if_true] at hz
    have hlen : (zs.take len).length = len := by rw [List.length_take]; omega
    have hmx : maxLen = 9223372036854775807 := rfl
    refine ⟨some a, zs.take len, cap, by rw [hlen]; exact hcs, by rw [hlen]; exact hl, ⟨rfl, by omega, fun _ => ⟨a, rfl, fun i n hn => ⟨[.int .i8 n], rfl, rfl, fun q u hu => ?_⟩⟩⟩, i8s_of fun n hn => hwz n (List.mem_of_mem_take hn)⟩
    have hil : i < len := by have := (List.getElem?_eq_some_iff.1 hn).1; omega
    rcases q with _ | q
    · simp only [List.getElem?_cons_zero, Option.some.injEq] at hu
      have e : (Kd.int .i8).sz = 1 := rfl
      rw [e, Nat.mul_one, Nat.add_zero, hcell i (by omega), ← hu]
      congr 2
      rw [List.getElem?_take, if_pos hil] at hn
      rw [List.getD_eq_getElem?_getD, hn]
      rfl
    · simp at hu
set_option maxRecDepth 100000 in
theorem kin_open {base : Nat} {d : DataW H} {p : List MemPlace} (hv : Value.okWide Try.prog w .any base 24 v) (h : DataW.Trod enc Try.prog w 0 (fun _ => true) true 24 v d p) :
    ∃ a R G O B1 B2 B3 d1 d2 d3, v = kinV a R G O B1 B2 B3 d1 d2 d3 ∧ 0 ≤ a ∧ a ≤ 255 ∧ KinAt w R G O B1 B2 B3 d1 d2 d3 := by
  obtain ⟨v0, v1, v2, v3, y0, y1, y2, y3, n, rfl, _, _, t0, t1, t2, t3⟩ := Go.Joins.open_agg4 Try.underlying24 (by kernel_rfl) (by kernel_rfl) hv h
  obtain ⟨a, h0, _, hw⟩ := DataW.trod_int Try.underlying5 t0
  simp only [List.cons.injEq, and_true] at h0
  subst h0
  obtain ⟨B1, R, d1, rfl, l1, c1, r1⟩ := rows_open t1
  obtain ⟨B2, G, d2, rfl, l2, c2, r2⟩ := rows_open t2
  obtain ⟨B3, O, d3, rfl, l3, c3, r3⟩ := rows_open t3
  obtain ⟨g0, g1⟩ := wf_u8 hw
  exact ⟨a, R, G, O, B1, B2, B3, d1, d2, d3, rfl, g0, g1, ⟨c1, l1, c2, l2, c3, l3, r1, r2, r3⟩⟩
end
end Go.Proofs.Ytbnmdlnpfikkcaa.PX
/- VariantForces: the walk. -/
namespace Go.Proofs.Ytbnmdlnpfikkcaa.PX
open Go.RowKit Go.Proofs.YtbnmdlnpfikkcaaW.PrintWords Go.Proofs.YtbnmdlnpfikkcaaW.PrintLast Go.Proofs.YtbnmdlnpfikkcaaW.PrintMore
set_option linter.unusedVariables false
set_option linter.unusedSimpArgs false
theorem bit_off : ∀ n, n < 7 → ∀ k, k < 2 ^ n → ∀ i, i < n → ((Go.bits .and .i64 (shr .i64 ((setOf n k : Nat) : Int) (i : Nat)) 1) == 0) = !onI (cfg n k) (i : Nat) := by decide +kernel
/-- The literals that hold in all of some configurations. -/
def wantL (cs : List Nat) : Nat → List S62
  | 0 => []
  | i + 1 => if cs.all (fun c => onI c i) || cs.all (fun c => !onI c i) then wantL cs i ++ [⟨i, cs.all (fun c => onI c i)⟩] else wantL cs i
theorem runV_some (l : List Nat) (i : Nat) (hi : i < 12) : ∀ s : FState, onI (runV fstep (fun _ _ => true) s l).some i = (onI s.some i || l.any (fun c => onI c i)) := by
  induction l with
  | nil => intro s; simp [runV]
  | cons c l ih =>
    intro s
    simp only [runV, if_true]
    rw [ih, List.any_cons, ← Bool.or_assoc]
    congr 1
    show onI (s.some ||| c) i = _
    unfold onI
    exact Nat.testBit_or ..
theorem runV_every (l : List Nat) (i : Nat) (hi : i < 12) : ∀ s : FState, onI (runV fstep (fun _ _ => true) s l).every i = (onI s.every i && l.all (fun c => onI c i)) := by
  induction l with
  | nil => intro s; simp [runV]
  | cons c l ih =>
    intro s
    simp only [runV, if_true]
    rw [ih, List.all_cons, ← Bool.and_assoc]
    congr 1
    show onI (s.every &&& c) i = _
    unfold onI
    exact Nat.testBit_and ..
theorem allOn_on : ∀ i, i < 12 → onI allOn (i : Nat) = true := by decide +kernel
theorem none_on : ∀ i, i < 12 → onI 0 (i : Nat) = false := by decide +kernel
theorem any_not_all (l : List Nat) (p : Nat → Bool) (h : l ≠ []) : (l.any p == l.all p) = (l.all p || l.all (fun c => !p c)) := by
  cases ha : l.all p with
  | true =>
    have : l.any p = true := by
      cases l with
      | nil => exact absurd rfl h
      | cons c l =>
        rw [List.all_cons, Bool.and_eq_true] at ha
        rw [List.any_cons, ha.1, Bool.true_or]
    rw [this]; rfl
  | false =>
    rw [Bool.false_or]
    cases hb : l.any p with
    | true =>
      symm
      show _ = false
      rw [Bool.eq_false_iff]
      intro hc
      obtain ⟨x, hx, hp⟩ := List.any_eq_true.1 hb
      have := List.all_eq_true.1 hc x hx
      rw [hp] at this
      cases this
    | false =>
      symm
      show _ = true
      rw [List.all_eq_true]
      intro x hx
      have := List.any_eq_false.1 hb x hx
      simpa using this
theorem fl_wantL (cs : List Nat) (h : cs ≠ []) (D : Fam) : ∀ i, i ≤ 12 → fl (fstate D cs) i = wantL cs i
  | 0, _ => rfl
  | i + 1, hi => by
    have ih := fl_wantL cs h D i (by omega)
    have h1 : onI (fstate D cs).some i = cs.any (fun c => onI c i) := by
      unfold fstate
      rw [runV_some cs i (by omega)]
      show (onI 0 i || _) = _
      rw [none_on i (by omega), Bool.false_or]
    have h2 : onI (fstate D cs).every i = cs.all (fun c => onI c i) := by
      unfold fstate
      rw [runV_every cs i (by omega)]
      show (onI allOn i && _) = _
      rw [allOn_on i (by omega), Bool.true_and]
    unfold fl wantL
    rw [h1, h2, ih, any_not_all cs (fun c => onI c i) h]
theorem wantL_length (cs : List Nat) : ∀ i, (wantL cs i).length ≤ i
  | 0 => Nat.le_refl _
  | i + 1 => by
    have := wantL_length cs i
    unfold wantL
    split
    · simp; omega
    · omega
theorem ks_length (n : Nat) (ch : List S62) (rs : List S70) (h : n ≤ 6) : (ks n ch rs).length ≤ 64 := by
  have h1 : (ks n ch rs).length ≤ (List.range (2 ^ n)).reverse.length := List.length_filter_le _ _
  have h2 : 2 ^ n ≤ 2 ^ 6 := Nat.pow_le_pow_right (by decide) h
  rw [List.length_reverse, List.length_range] at h1
  omega
theorem shr_div (s : Int) (i : Nat) (h : i ≤ 63) : shr .i64 s (i : Int) = s / 2 ^ i := by
  unfold shr
  have e : min i IntKind.i64.bits = i := Nat.min_eq_left (show i ≤ 64 by omega)
  rw [Int.toNat_natCast, e]
theorem all_next {p : Nat → Bool} {l : List Nat} {j : Nat} (h : j < l.length) : (l.take (j + 1)).all p = ((l.take j).all p && p l[j]) := by
  rw [List.take_succ_eq_append_getElem h, List.all_append]
  simp
theorem rd_map {f : Nat → Int} {l : List Nat} {j : Nat} (h : j < l.length) : rd (l.map f) (j : Int) = f l[j] := by
  unfold rd
  rw [Int.toNat_natCast, List.getD_eq_getElem?_getD, List.getElem?_map, List.getElem?_eq_getElem h]
  rfl
set_option maxRecDepth 100000 in
set_option maxHeartbeats 16000000 in
theorem law4 (a : Int) (R G O : List (List Int)) (B1 B2 B3 : Option Addr) (d1 d2 d3 : Nat) (A : Option Addr) (c : Nat) (l : List Int) (w : World) (h0 : 0 ≤ a) (h255 : a ≤ 255) (hk : KinAt w R G O B1 B2 B3 d1 d2 d3)
    (hr : Kd.C (Kd.int .i8) w A l.length l) (hc : l.length ≤ c) (h8 : i8s l = true) :
    Calls Try.prog 4 #[kinV a R G O B1 B2 B3 d1 d2 d3, .slice A l.length c] w fun e w' => e = .returned (.bool true) ∧ Below w.heap.size w w' := by
  have hu41 := Try.underlying41
  unfold kinV
  have HK := Aside0.mk hk
  have HR := Aside0.mk hr
  have HC := Aside0.mk hc
  have H8 := Aside0.mk h8
  have HB0 := Aside0.mk ((Below.refl _ w).alloc (Nat.le_refl _) (.cells (kinC a R G O B1 B2 B3 d1 d2 d3) 24))
  have HK0 := Aside0.mk (heap_alloc_new w (.cells (kinC a R G O B1 B2 B3 d1 d2 d3) 24))
  clear hr hc hk h8
  go_enter Try.func4, Try.ntmps4
  go_wp2_with fail
  refine (known_calls _).mono ?_
  rintro e w2 ⟨rfl, hb⟩
  have HB2 := Aside0.mk (below_step HB0.out hb)
  have HK2 := Aside0.mk (blk_below HK0.out hb)
  clear hb
  go_upto_region 3 with (fail)
  go_cut [5] (fun v5 wc => ∃ g H, v5 = .pointer (some ⟨g, 0, none⟩) ∧ Aside0 (Laid w wc (famK a R G O) g H))
  case first =>
    obtain ⟨k0, k1, k2, k3⟩ := kin_cells HK2.out
    obtain ⟨a0, a1, a2, a3⟩ := kin_cells (blk_alloc HK2.out (.cells zeroC 41))
    unfold zeroC at a0 a1 a2 a3
    go_region_with (first
      | (go_at_call 13; refine (plain_ft _).mono ?_; rintro e w3 ⟨A1, A2, A3, A4, A5, c1, c2, c3, c4, c5, rfl, hbase, hb⟩; have hb2 := below_step (show Below w2.heap.size w2 _ from (by first | exact below_drew (Below.refl _ _) | exact below_alloc (below_drew (Below.refl _ _)) _)) hb; have HB3 := Aside0.mk (below_step HB2.out hb2); have HK3 := Aside0.mk (blk_below HK2.out hb2); obtain ⟨m0, m1, m2, m3⟩ := kin_cells HK3.out; obtain ⟨n0, n1, n2, n3⟩ := kin_cells (blk_alloc HK3.out (.cells zeroC 41)); unfold zeroC at n0 n1 n2 n3; have HBase := Aside0.mk hbase; have hs3 := hb.size; (try have HG3 := Aside0.mk (blk_below (show (w2.drew.alloc (.cells zeroC 41)).heap[w2.heap.size]? = _ from heap_alloc_new w2.drew (.cells zeroC 41)) hb)); clear hbase hb hb2)
      | (go_at_call 12; refine (fam_ft h0 h255 HK.out.a1 HK.out.a2 HK.out.a3 (HK.out.below (below_step HB3.out ?b1)).r1 HK.out.l1 (HK.out.below (below_step HB3.out ?b2)).r2 HK.out.l2 (HK.out.below (below_step HB3.out ?b3)).r3 HK.out.l3 (HBase.out.below ?b4)).mono ?_; (case b1 => first | exact Below.refl _ _ | exact below_alloc (Below.refl _ _) _); (case b2 => first | exact Below.refl _ _ | exact below_alloc (Below.refl _ _) _); (case b3 => first | exact Below.refl _ _ | exact below_alloc (Below.refl _ _) _); (case b4 => first | exact Below.refl _ _ | exact below_alloc (Below.refl _ _) _); rintro e w4 ⟨H, rfl, hF, hb⟩; unfold fv; have HB4 := Aside0.mk (below_step HB3.out (below_step (show Below w3.heap.size w3 _ from (by first | exact Below.refl _ _ | exact below_alloc (Below.refl _ _) _)) hb)); have HF4 := Aside0.mk hF; (first | (have HG4 := Aside0.mk (blk_below HG3.out hb); obtain ⟨z0, z1, z2, z3, z4, z5, z6, z7, z8, z9⟩ := zero_cells HG4.out; obtain ⟨y0, y1, y2, y3, y4, y5, y6, y7, y8, y9⟩ := zero_frozen HG4.out) | (have HG4 := Aside0.mk (blk_below (heap_alloc_new w3 (.cells zeroC 41)) hb); obtain ⟨z0, z1, z2, z3, z4, z5, z6, z7, z8, z9⟩ := zero_cells HG4.out; obtain ⟨y0, y1, y2, y3, y4, y5, y6, y7, y8, y9⟩ := zero_frozen HG4.out) | skip)))
    all_goals
      go_wp2_with fail
      go_meet
      case rel => first
        | (refine ⟨_, H, rfl, ⟨?_⟩⟩; (with_reducible exact laid_allocX HB4.out HF4.out))
        | (refine ⟨_, H, rfl, ⟨?_⟩⟩; (with_reducible refine laid_setX HB4.out HF4.out HB2.out.size HG4.out ?_); intro h; simp at h hs3; omega)
        | (refine ⟨_, H, rfl, ⟨?_⟩⟩; (with_reducible refine laid_setX HB4.out HF4.out HB3.out.size HG4.out ?_); intro h; simp at h hs3; omega)
  case rest =>
    obtain ⟨g, H, rfl, HL⟩ := hcut
    obtain ⟨hn1, hn6, _⟩ := nOf_ok h0 h255
    obtain ⟨D, hD⟩ : ∃ D, D = famK a R G O := ⟨_, rfl⟩
    have hDo : D.opts.length = nOf a := by rw [hD]; exact famK_opts a R G O
    have hDc : chk D = 0 := by rw [hD]; exact famK_chk R G O h0 h255
    have hDr : ∀ r ∈ D.rules, LitsIn D.opts.length r.f1 := by rw [hDo, hD]; exact famK_rules R G O
    have hDs : Small D := by rw [hD]; exact famK_small R G O h0 h255
    rw [← hD] at HL
    rw [← hDo] at hn1 hn6
    have HDc := Aside0.mk hDc
    have HDr := Aside0.mk hDr
    have HDs := Aside0.mk hDs
    clear hD hDo hDc hDr hDs
    have HKc := Aside0.mk HL.out.box
    have HFc := Aside0.mk HL.out.fam
    have HBc := Aside0.mk HL.out.low
    clear HL
    obtain ⟨k0, k1, k2, k3, k4, k5, k6, k7, k8, k9⟩ := box_cells HKc.out
    go_wp2_with fail
    refine (decode_calls D.opts.length A c l wc (Kd.C_below HR.out HBc.out) HC.out hn1 hn6 H8.out).mono ?_
    rintro e w5 ⟨vc, rfl, hRc, hb⟩
    obtain ⟨Ac, cc, hvc, hcc, hCc⟩ := Kd.R_reads hRc
    subst hvc
    obtain ⟨ch, hch⟩ : ∃ ch, ch = decL D.opts.length l := ⟨_, rfl⟩
    have hlit : LitsIn D.opts.length ch := by rw [hch]; exact decL_in _ _
    have hchl : ch.length ≤ 6 := by have := decL_len D.opts.length l; rw [hch]; omega
    have hE : litsE D.opts.length ch = 0 := by rw [hch]; exact decL_E _ _
    rw [← hch] at hcc hCc ⊢
    have hask : askE D ch = 0 := by unfold askE; rw [if_neg (by rw [HDc.out]; simp)]; exact hE
    have HASK := Aside0.mk hask
    have HLI := Aside0.mk hlit
    have HCC := Aside0.mk hCc
    have HLcc := Aside0.mk hcc
    have HB5 := Aside0.mk (below_step HBc.out hb)
    have HK5 := Aside0.mk (blk_below HKc.out hb)
    have HF5 := Aside0.mk (HFc.out.below hb)
    clear hb hRc hCc hcc hch hlit hE hask k0 k1 k2 k3 k4 k5 k6 k7 k8 k9
    obtain ⟨k0, k1, k2, k3, k4, k5, k6, k7, k8, k9⟩ := box_cells HK5.out
    go_upto_region 6 with (fail)
    go_cut [8] (fun v8 wq => ∃ Al cl, v8 = .slice Al (allowedL D (List.replicate D.rules.length false) ch).length cl ∧ Aside0 ((allowedL D (List.replicate D.rules.length false) ch).length ≤ cl) ∧ Aside0 (Kd.C (Kd.int .i64) wq Al (allowedL D (List.replicate D.rules.length false) ch).length (allowedL D (List.replicate D.rules.length false) ch)) ∧ Aside0 (Below w5.heap.size w5 wq))
    case first =>
      go_region_with (first
        | (go_at_call 18; refine (ref_none D H _ (HF5.out.below ?b1) HDs.out.rules).mono ?_; (case b1 => exact below_drew (Below.refl _ _)); rintro e w8 ⟨Ao, co, rfl, hco, hCo, hb⟩; have HB8 := Aside0.mk (below_step (show Below w5.heap.size w5 _ from below_drew (Below.refl _ _)) hb); have HCo := Aside0.mk hCo; have HLco := Aside0.mk hco; obtain ⟨m0, m1, m2, m3, m4, m5, m6, m7, m8, m9⟩ := box_cells (blk_below HK5.out HB8.out); clear hb hCo hco)
        | (go_at_call 17; refine (ref_allowed D H Ao co D.rules.length (List.replicate D.rules.length false) List.length_replicate Ac cc ch _ (HF5.out.below HB8.out) HDs.out hn1 hn6 (by rw [List.length_replicate]; exact Nat.le_refl _) HLI.out (by omega) HDr.out HCo.out HLco.out (Kd.C_below HCC.out HB8.out) HLcc.out).mono ?_; rintro e w9 ⟨Al, cl, rfl, hcl, hCl, hb⟩; have HB9 := Aside0.mk (below_step HB8.out hb); have HCl := Aside0.mk hCl; have HLcl := Aside0.mk hcl; clear hb hCl hcl))
      all_goals
        go_wp2_with fail
        go_meet
        case rel => exact ⟨Al, cl, rfl, HLcl, HCl, HB9⟩
    case rest =>
      obtain ⟨Al, cl, rfl, HLcl, HCl, HB9⟩ := hcut
      clear k0 k1 k2 k3 k4 k5 k6 k7 k8 k9
      have hal : allowedL D (List.replicate D.rules.length false) ch = (ks D.opts.length ch D.rules).map fun k => ((setOf D.opts.length k : Nat) : Int) := by unfold allowedL; rw [kept_none]
      have hcf : confs D ch D.rules = (ks D.opts.length ch D.rules).map (cfg D.opts.length) := confs_ks D ch D.rules
      rw [hal] at HCl HLcl ⊢
      have hks : ∀ k ∈ ks D.opts.length ch D.rules, k < 2 ^ D.opts.length := ks_lt _ _ _
      have hkl64 := ks_length D.opts.length ch D.rules hn6
      obtain ⟨K, hK⟩ : ∃ K, K = ks D.opts.length ch D.rules := ⟨_, rfl⟩
      rw [← hK] at HCl HLcl hcf hks hkl64 ⊢
      have HKS := Aside0.mk hks
      have HCF := Aside0.mk hcf
      have HF9 := Aside0.mk (HF5.out.below HB9.out)
      have HB9w := Aside0.mk (below_step HB5.out HB9.out)
      obtain ⟨k0, k1, k2, k3, k4, k5, k6, k7, k8, k9⟩ := box_cells (blk_below HK5.out HB9.out)
      clear hal hK hks hcf
      go_wp2_with fail
      refine (forced_calls D H Ac cc ch wc HF9.out (Kd.C_below HCC.out HB9.out) HLcc.out).mono ?_
      rintro e w10 ⟨Af, cf, fs, rfl, hfs, hcf2, hCf, hb⟩
      have HB10 := Aside0.mk (below_step HB9w.out hb)
      have HCl10 := Aside0.mk (Kd.C_below HCl.out hb)
      have HCf := Aside0.mk hCf
      have HLf := Aside0.mk hcf2
      clear hb hCf hcf2 k0 k1 k2 k3 k4 k5 k6 k7 k8 k9
      by_cases hKn : K = []
      · subst hKn
        have hfe : forcedE D ch = 21 := by unfold forcedE; rw [if_neg (by rw [HASK.out]; simp), HCF.out]; rfl
        rw [hfe] at hfs ⊢
        rw [if_neg (by decide)] at hfs
        subst hfs
        go_wp2_with fail
        go_ret
        exact ⟨rfl, HB10.out⟩
      · have hne : K.map (cfg D.opts.length) ≠ [] := by simpa using hKn
        have hfe : forcedE D ch = 0 := by
          unfold forcedE
          rw [if_neg (by rw [HASK.out]; simp), HCF.out, if_neg]
          rw [List.isEmpty_iff]
          exact hne
        rw [hfe] at hfs ⊢
        rw [if_pos rfl] at hfs
        have hfs2 : fs = wantL (K.map (cfg D.opts.length)) D.opts.length := by
          rw [hfs]
          unfold forcedL
          rw [HCF.out]
          exact fl_wantL _ hne D _ (by omega)
        have HFS := Aside0.mk hfs2
        have hkl : 0 < K.length := List.length_pos_iff.2 hKn
        have z1 : ((K.length : Int) == 0) = false := by simp; omega
        have z2 : (K.length == 0) = false := by simp; omega
        have HKL := Aside0.mk hkl
        have hK64 : K.length ≤ 64 := hkl64
        have hlen : (List.map (fun k => ((setOf D.opts.length k : Nat) : Int)) K).length = K.length := List.length_map _
        rw [hlen]
        have hCl := HCl10.out
        rw [hlen] at hCl
        have HCL := Aside0.mk hCl
        clear hne hfe hfs hfs2 hkl hCl hKn HCl10 HCl HLcl
        go_wp2_with fail
        obtain ⟨CS, hCS⟩ : ∃ CS, CS = K.map (cfg D.opts.length) := ⟨_, rfl⟩
        have HCS := Aside0.mk hCS
        have hCSl : CS.length = K.length := by rw [hCS]; exact List.length_map _
        have HCSL := Aside0.mk hCSl
        clear hCS hCSl
        go_loopg [12, 11] D.opts.length (fun gk v12 v11 w' => ∃ i : Nat, v12 = .int .i64 i ∧ Aside0 (i ≤ D.opts.length) ∧ Aside0 (D.opts.length - i ≤ gk) ∧ Aside0 (Below w10.heap.size w10 w') ∧ Aside0 (Kd.R k62 62 w' w10.heap.size (fun _ => True) v11 (wantL CS i)))
        case atStart => exact ⟨0, rfl, ⟨Nat.zero_le _⟩, ⟨Nat.sub_le _ _⟩, ⟨Below.refl _ _⟩, ⟨Kd.R_nil _ _ _ _ _⟩⟩
        case round =>
          obtain ⟨i, rfl, HL, HG, HB, HR2⟩ := hrel
          by_cases hi : i < D.opts.length
          · have q0 : decide ((i : Int) < (D.opts.length : Int)) = true := by simpa using hi
            have q1 : decide (i < D.opts.length) = true := by simpa using hi
            have p0 : 0 ≤ (i : Int) := by omega
            have hi7 : i ≤ 63 := by omega
            go_wp2_with fail
            obtain ⟨wo, hwo⟩ : ∃ W, W = wr := ⟨_, rfl⟩
            rw [← hwo] at HB HR2 ⊢
            clear hwo
            go_loopg [15, 13, 14] K.length (fun gk v15 v13 v14 w' => ∃ j : Nat, v15 = .int .i64 j ∧ v13 = .bool ((CS.take j).all fun c => onI c i) ∧ v14 = .bool ((CS.take j).all fun c => !onI c i) ∧ Aside0 (j ≤ K.length) ∧ Aside0 (K.length - j ≤ gk) ∧ w' = wo)
            case atStart => exact ⟨0, rfl, rfl, rfl, ⟨Nat.zero_le _⟩, ⟨Nat.sub_le _ _⟩, rfl⟩
            case round =>
              obtain ⟨j, rfl, rfl, rfl, HJ, HGJ, rfl⟩ := hrel
              by_cases hj : j < K.length
              · have q2 : decide ((j : Int) < (K.length : Int)) = true := by simpa using hj
                have q3 : decide (j < K.length) = true := by simpa using hj
                have p2 : 0 ≤ (j : Int) := by omega
                have p3 : (j : Int) < (K.length : Int) := by omega
                obtain ⟨ad, hA, hx⟩ := Kd.at_int (Kd.C_below HCL.out HB.out) (j : Int) p2 p3
                rw [Int.toNat_natCast, rd_map hj] at hx
                subst hA
                have hkj : K[j] < 2 ^ D.opts.length := HKS.out _ (List.getElem_mem hj)
                have hcj : j < CS.length := by rw [HCSL.out]; exact hj
                have hCj : CS[j] = cfg D.opts.length K[j] := by
                  have e := HCS.out
                  subst e
                  exact List.getElem_map _
                have hon := bit_all D.opts.length (by omega) K[j] hkj i hi
                have hoff := bit_off D.opts.length (by omega) K[j] hkj i hi
                unfold refOn at hon
                have hn1' := all_next (p := fun c => onI c i) hcj
                have hn2' := all_next (p := fun c => !onI c i) hcj
                rw [hCj, ← hon] at hn1'
                rw [hCj, ← hoff] at hn2'
                have HN1 := Aside0.mk hn1'
                have HN2 := Aside0.mk hn2'
                generalize ((setOf D.opts.length K[j] : Nat) : Int) = sv at hx HN1 HN2
                clear hn1' hn2' hon hoff hkj hCj
                cases h1 : (CS.take j).all (fun c => onI c i) <;> cases h2 : (CS.take j).all (fun c => !onI c i)
                all_goals
                  rw [h1] at HN1
                  rw [h2] at HN2
                  go_wp2_with fail
                  go_roundg (K.length - (j + 1))
                  case measure => have := HGJ.out; omega
                  case rel => exact ⟨j + 1, by go_num, by rw [HN1.out]; first | rfl | (rw [Bool.true_and, shr_div _ _ hi7]), by rw [HN2.out]; first | rfl | (rw [Bool.true_and, shr_div _ _ hi7]), ⟨hj⟩, ⟨Nat.le_refl _⟩, rfl⟩
              · have q2 : decide ((j : Int) < (K.length : Int)) = false := by simpa using hj
                have q3 : decide (j < K.length) = false := by simpa using hj
                have hjk : CS.take j = CS := List.take_of_length_le (by rw [HCSL.out]; omega)
                rw [hjk]
                have hwl := wantL_length CS i
                cases h1 : CS.all (fun c => onI c i) <;> cases h2 : CS.all (fun c => !onI c i)
                · have E1 : Aside0 (wantL CS (i + 1) = wantL CS i) := ⟨by simp only [wantL]; rw [h1, h2]; rfl⟩
                  go_wp2_with fail
                  go_roundg (D.opts.length - (i + 1))
                  case measure => have := HG.out; omega
                  case rel => exact ⟨i + 1, by go_num, ⟨hi⟩, ⟨Nat.le_refl _⟩, HB, ⟨by rw [E1.out]; exact HR2.out⟩⟩
                · have E1 : Aside0 (wantL CS (i + 1) = wantL CS i ++ [⟨i, false⟩]) := ⟨by simp only [wantL]; rw [h1, h2]; rfl⟩
                  go_wp2_with ((with_reducible refine gate_builtin (b := .append) (xs := #[.tmp 85, .tmp 89]) rfl ?_); at_builtin; refine Kd.R_append k62 (w0 := w10) w10.heap.size rfl (.tmp 85) (.tmp 89) 25 62 (.agg #[.int .i64 0, .bool false]) 16 rfl Try.underlying25 info62 rfl (by decide) (by decide) u11 (wantL CS i) ⟨i, false⟩ [.int .i64 i, .bool false] (fun _ => True) (fun _ => False) rfl rfl ?aP (fun _ hk => hk.elim) ?aF ?aO ?aB ?aS ?aL ?_; (case aP => exact ⟨_, _, rfl, rfl, rfl⟩); (case aB => exact HB.out); (case aF => exact (fun _ _ => trivial)); (case aO => exact HR2.out); (case aS => exact HB.out.size); (case aL => omega); intro v1 w5 ho hb hg hat)
                  go_roundg (D.opts.length - (i + 1))
                  case measure => have := HG.out; omega
                  case rel => exact ⟨i + 1, by go_num, ⟨hi⟩, ⟨Nat.le_refl _⟩, ⟨hb⟩, ⟨by rw [E1.out]; exact ho⟩⟩
                · have E1 : Aside0 (wantL CS (i + 1) = wantL CS i ++ [⟨i, true⟩]) := ⟨by simp only [wantL]; rw [h1, h2]; rfl⟩
                  go_wp2_with ((with_reducible refine gate_builtin (b := .append) (xs := #[.tmp 85, .tmp 89]) rfl ?_); at_builtin; refine Kd.R_append k62 (w0 := w10) w10.heap.size rfl (.tmp 85) (.tmp 89) 25 62 (.agg #[.int .i64 0, .bool false]) 16 rfl Try.underlying25 info62 rfl (by decide) (by decide) u11 (wantL CS i) ⟨i, true⟩ [.int .i64 i, .bool true] (fun _ => True) (fun _ => False) rfl rfl ?aP (fun _ hk => hk.elim) ?aF ?aO ?aB ?aS ?aL ?_; (case aP => exact ⟨_, _, rfl, rfl, rfl⟩); (case aB => exact HB.out); (case aF => exact (fun _ _ => trivial)); (case aO => exact HR2.out); (case aS => exact HB.out.size); (case aL => omega); intro v1 w5 ho hb hg hat)
                  go_roundg (D.opts.length - (i + 1))
                  case measure => have := HG.out; omega
                  case rel => exact ⟨i + 1, by go_num, ⟨hi⟩, ⟨Nat.le_refl _⟩, ⟨hb⟩, ⟨by rw [E1.out]; exact ho⟩⟩
                · have E1 : Aside0 (wantL CS (i + 1) = wantL CS i ++ [⟨i, true⟩]) := ⟨by simp only [wantL]; rw [h1, h2]; rfl⟩
                  go_wp2_with ((with_reducible refine gate_builtin (b := .append) (xs := #[.tmp 85, .tmp 89]) rfl ?_); at_builtin; refine Kd.R_append k62 (w0 := w10) w10.heap.size rfl (.tmp 85) (.tmp 89) 25 62 (.agg #[.int .i64 0, .bool false]) 16 rfl Try.underlying25 info62 rfl (by decide) (by decide) u11 (wantL CS i) ⟨i, true⟩ [.int .i64 i, .bool true] (fun _ => True) (fun _ => False) rfl rfl ?aP (fun _ hk => hk.elim) ?aF ?aO ?aB ?aS ?aL ?_; (case aP => exact ⟨_, _, rfl, rfl, rfl⟩); (case aB => exact HB.out); (case aF => exact (fun _ _ => trivial)); (case aO => exact HR2.out); (case aS => exact HB.out.size); (case aL => omega); intro v1 w5 ho hb hg hat)
                  go_roundg (D.opts.length - (i + 1))
                  case measure => have := HG.out; omega
                  case rel => exact ⟨i + 1, by go_num, ⟨hi⟩, ⟨Nat.le_refl _⟩, ⟨hb⟩, ⟨by rw [E1.out]; exact ho⟩⟩
          · have q0 : decide ((i : Int) < (D.opts.length : Int)) = false := by simpa using hi
            have q1 : decide (i < D.opts.length) = false := by simpa using hi
            have hin : i = D.opts.length := by have := HL.out; omega
            subst hin
            have HRR := HR2.out
            obtain ⟨A', cp, hv, hcp, hCC⟩ := Kd.R_reads HRR
            subst hv
            have hfw : wantL CS D.opts.length = fs := by rw [HFS.out, HCS.out]
            rw [hfw] at hcp hCC ⊢
            have hfl : fs.length < 3000 := by rw [← hfw]; have := wantL_length CS D.opts.length; omega
            go_wp2_with fail
            refine (dowellaw48_sameLiterals.calls 4000 Af cf fs A' cp fs true wr (Kd.C_below HCf.out HB.out) HLf.out hCC hcp (sameLits_f hfl)).mono ?_
            rintro e w11 ⟨rfl, ⟨nd2, rfl⟩⟩
            go_wp2_with fail
            go_ret
            exact ⟨rfl, pw_below_drewN (below_step HB10.out HB.out) nd2⟩
end Go.Proofs.Ytbnmdlnpfikkcaa.PX
/- The row of the law VariantForces: for every input it returns true, and its arguments read behind the call as they read before. -/
namespace Go.Proofs.Ytbnmdlnpfikkcaa.variantForces
open Go.ChangeShapes Go.WideShapes Go.ChangeAt Go.RowKit
set_option linter.unusedVariables false
theorem own : ownKnob Try.prog.godebug = none := by kernel_rfl
theorem laidOut : laidOutB Try.prog = true := by kernel_rfl
set_option maxRecDepth 100000 in
theorem lifted (os : Os) (started : os.Started) (H : Type) (enc : TypeId × Value → H) :
    ReturnsInHanded {} Try.checked os 4 .any (Rows.variantForcesSpec.pre6 enc Try.prog Try.f4 Rows.variantForcesRow.domain false) (Rows.variantForcesSpec.post enc Try.prog Try.f4 false true false false) := by
  refine returnsInHanded_of_change_sized (C := Try.checked) own started (by kernel_rfl) Try.func4
    (ChangeSpec.witness6 (enc := enc) (C := Try.checked) false ⟨#[], #[.agg #[.int .u8 0, .slice none 0 0, .slice none 0 0, .slice none 0 0], .slice none 0 0], []⟩ 8 (by kernel_rfl) (by kernel_rfl) (by kernel_rfl) (by kernel_rfl)) ?_
  intro W base args ds gs before hval0 hW hcnd hsz0 _
  have hval : ∀ (j : Nat) t v, Try.f4.params[j]? = some t → args[j]? = some v → Value.okWide Try.prog W .any base t v := hval0
  have hW' := hW
  obtain ⟨p, q, hA0, hV, rfl, hfz, hnd⟩ := hW
  have hA : DataW.TrodAll enc Try.prog W 0 (fun _ => true) true Try.f4.params.toList args.toList ds p := hA0
  rw [Try.params4] at hA hval
  obtain ⟨v0, vs0, d0, ds0, p0, q0, hargs, rfl, rfl, h0, r0⟩ := trodAll_cons hA
  obtain ⟨v1, vs1, d1, ds1, p1, q1, rfl, rfl, rfl, h1, r1⟩ := trodAll_cons r0
  obtain ⟨rfl, rfl, rfl⟩ := trodAll_nil r1
  obtain rfl : args = #[v0, v1] := by cases args; simp_all
  obtain ⟨rfl, rfl⟩ := trodVars_none hV
  have k0 := h0
  have lt0 : ∀ x ∈ p0, x.block < W.heap.size := by obtain ⟨m, hm⟩ := k0; exact DataW.trod_lt m _ _ _ hm
  obtain ⟨a, R, G, O, B1, B2, B3, e1, e2, e3, rfl, g0, g1, hk⟩ := PX.kin_open (hval 0 24 v0 rfl rfl) h0
  have k1 := h1
  have lt1 : ∀ x ∈ p1, x.block < W.heap.size := by obtain ⟨m, hm⟩ := k1; exact DataW.trod_lt m _ _ _ hm
  obtain ⟨a1, len1, cap1, rfl⟩ := okWide_slice Try.underlying57 (hval 1 57 v1 rfl rfl)
  obtain ⟨m1, hm1⟩ := h1
  obtain ⟨A1, ch1, c1, hv1, hl1, hc1, hz1⟩ := PX.i8s_open hm1
  injection hv1 with ea1 el1 ec1
  subst ea1; subst el1; subst ec1
  clear hA0 hval0 hsz0
  refine (PX.law4 a R G O B1 B2 B3 e1 e2 e3 a1 cap1 ch1 W g0 g1 hk hc1 hl1 hz1).mono fun e W' ⟨he, bel⟩ => ?_
  subst he
  exact ⟨_, rfl, _, _, _, [], _, [], hW', trodAll_mk1 (shut_bool Try.underlying4 _), (trodAll_cons_mk (Below.trod laidOut (by kernel_rfl) (of_decide_eq_true (by kernel_rfl)) k0 bel lt0) (trodAll_cons_mk (Below.trod laidOut (by kernel_rfl) (of_decide_eq_true (by kernel_rfl)) k1 bel lt1) trodAll_mk0)), rfl, bel.frame _, fun h => by cases h⟩
theorem over : Rows.variantForcesRow.holds Try.pinned (OpenSpec.ofChange Rows.variantForcesSpec) :=
  OpenClaim.holds_of_wide 4 Try.f4 rfl rfl rfl rfl rfl rfl rfl ⟨rfl, rfl, rfl, rfl, rfl⟩ rfl rfl rfl rfl rfl (by kernel_rfl) Try.func4 (by kernel_rfl)
    (of_decide_eq_true (by kernel_rfl)) (by unfold Func.isWrapper; first | (rw [if_pos (by decide +kernel)]; kernel_rfl) | (rw [if_neg (by decide +kernel)]; exact ⟨rfl, rfl⟩))
    (fun os started H enc _ => lifted os started H enc)
theorem proved : Rows.VariantForcesSaid := over
#print axioms proved
end Go.Proofs.Ytbnmdlnpfikkcaa.variantForces
namespace Go.Proofs.Ytbnmdlnpfikkcaa
theorem variantForces_holds : Rows.VariantForcesSaid := variantForces.proved
end Go.Proofs.Ytbnmdlnpfikkcaa
