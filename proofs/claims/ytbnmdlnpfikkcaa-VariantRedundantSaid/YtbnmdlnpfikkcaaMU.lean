/- VariantRedundant returns true for every input, and its arguments read behind the call as they read before: no condition. -/
import Derived.Test.YtbnmdlnpfikkcaaMA
import Derived.Test.YtbnmdlnpfikkcaaM4
import Derived.Deep.RegionWith
import Derived.Test.YtbnmdlnpfikkcaaK0
import Derived.Test.YtbnmdlnpfikkcaaM6
import Derived.Test.YtbnmdlnpfikkcaaRows
import Derived.WalkKit
import Derived.ProofKit
import Derived.OpenShut
import Derived.ChangeOld
import Derived.SizedLaws
import Derived.Deep.Matrix
import Derived.Deep.SlicePairs
import Derived.Lib.SmallJoins
/- What all laws' walks want: a description in a world; the reference's functions by their contracts. -/
namespace Go.Proofs.Ytbnmdlnpfikkcaa.PX
open Go.RowKit Go.Proofs.YtbnmdlnpfikkcaaW.PrintWords Go.Proofs.YtbnmdlnpfikkcaaW.PrintLast Go.Proofs.YtbnmdlnpfikkcaaW.PrintMore
set_option linter.unusedVariables false
set_option linter.unusedSimpArgs false
/-- A description, in a world. -/
structure KinAt (w : World) (R G O : List (List Int)) (B1 B2 B3 : Option Addr) (d1 d2 d3 : Nat) : Prop where
  r1 : Kd.C (Kd.slice 95 (Kd.int .i8)) w B1 R.length R
  l1 : R.length ≤ d1
  r2 : Kd.C (Kd.slice 95 (Kd.int .i8)) w B2 G.length G
  l2 : G.length ≤ d2
  r3 : Kd.C (Kd.slice 95 (Kd.int .i8)) w B3 O.length O
  l3 : O.length ≤ d3
  a1 : All8 R
  a2 : All8 G
  a3 : All8 O
theorem KinAt.below {w w1 : World} {R G O : List (List Int)} {B1 B2 B3 : Option Addr} {d1 d2 d3 : Nat} (h : KinAt w R G O B1 B2 B3 d1 d2 d3) (hb : Below w.heap.size w w1) : KinAt w1 R G O B1 B2 B3 d1 d2 d3 :=
  ⟨Kd.C_below h.r1 hb, h.l1, Kd.C_below h.r2 hb, h.l2, Kd.C_below h.r3 hb, h.l3, h.a1, h.a2, h.a3⟩
def kinV (a : Int) (R G O : List (List Int)) (B1 B2 B3 : Option Addr) (d1 d2 d3 : Nat) : Value := .agg #[.int .u8 a, .slice B1 R.length d1, .slice B2 G.length d2, .slice B3 O.length d3]
theorem kfam_calls {a : Int} {R G O : List (List Int)} {B1 B2 B3 : Option Addr} {d1 d2 d3 : Nat} {A1 A2 A3 A4 A5 : Option Addr} {c1 c2 c3 c4 c5 : Nat} {w : World} (h0 : 0 ≤ a) (h255 : a ≤ 255) (hk : KinAt w R G O B1 B2 B3 d1 d2 d3) (hb : BaseAt w A1 A2 A3 A4 A5 c1 c2 c3 c4 c5) :
    Calls Try.prog 12 #[kinV a R G O B1 B2 B3 d1 d2 d3, baseV A1 A2 A3 A4 A5 c1 c2 c3 c4 c5] w fun e w' => ∃ H : Hd, e = .returned (fv (famK a R G O) H) ∧ FamAt w' (famK a R G O) H ∧ Below w.heap.size w w' :=
  fam_calls a R G O B1 B2 B3 d1 d2 d3 A1 A2 A3 A4 A5 c1 c2 c3 c4 c5 w h0 h255 hk.a1 hk.a2 hk.a3 hk.r1 hk.l1 hk.r2 hk.l2 hk.r3 hk.l3 hb
def kinC (a : Int) (R G O : List (List Int)) (B1 B2 B3 : Option Addr) (d1 d2 d3 : Nat) : Array Value := #[.int .u8 a, .slice B1 R.length d1, .slice B2 G.length d2, .slice B3 O.length d3]
theorem kin_cells {w : World} {g : Nat} {a : Int} {R G O : List (List Int)} {B1 B2 B3 : Option Addr} {d1 d2 d3 : Nat} (h : w.heap[g]? = some (.cells (kinC a R G O B1 B2 B3 d1 d2 d3) 24 (0, 0))) :
    w.cell? ⟨g, 0, none⟩ = some (.int .u8 a) ∧ w.cell? ⟨g, 1, none⟩ = some (.slice B1 R.length d1) ∧ w.cell? ⟨g, 2, none⟩ = some (.slice B2 G.length d2) ∧ w.cell? ⟨g, 3, none⟩ = some (.slice B3 O.length d3) :=
  ⟨(blk_cell h 0).trans rfl, (blk_cell h 1).trans rfl, (blk_cell h 2).trans rfl, (blk_cell h 3).trans rfl⟩
theorem ref_none (D : Fam) (H : Hd) (w : World) (h : FamAt w D H) (hl : D.rules.length < 50) :
    Calls Try.prog 18 #[fv D H] w fun e w' => ∃ A cp, e = .returned (.slice A D.rules.length cp) ∧ D.rules.length ≤ cp ∧ Kd.C Kd.bool w' A D.rules.length (List.replicate D.rules.length false) ∧ Below w.heap.size w w' :=
  (dowellaw48_none.calls D.nm H.A1 H.c1 D.parts H.A2 H.c2 D.insts H.A3 H.c3 D.dims H.A4 H.c4 D.cons H.A5 H.c5 D.reqs H.A6 H.c6 D.opts H.A7 H.c7 D.rules H.A8 H.c8 D.guards H.A9 H.c9 D.overs (List.replicate D.rules.length false) w h.r1 h.l1 h.r2 h.l2 h.r3 h.l3 h.r4 h.l4 h.r5 h.l5 h.r6 h.l6 h.r7 h.l7 h.r8 h.l8 h.r9 h.l9
    (by unfold dowellaw48_none.f; rw [if_pos (by omega), if_pos (by omega), Int.toNat_natCast])).mono fun e w' ⟨v, he, hR, hb⟩ => by
      obtain ⟨A, cp, hv, hc, hC⟩ := Kd.R_reads hR
      subst hv
      rw [List.length_replicate] at he hc hC
      exact ⟨A, cp, he, hc, hC, hb⟩
/-- The allowed sets, as the reference lists them. -/
def allowedL (D : Fam) (o : List Bool) (ch : List S62) : List Int := (ks D.opts.length ch (kept D.rules o)).map fun k => ((setOf D.opts.length k : Nat) : Int)
theorem ref_allowed (D : Fam) (H : Hd) (A : Option Addr) (c : Nat) (m : Nat) (o : List Bool) (hm : o.length = m) (A2 : Option Addr) (c2 : Nat) (ch : List S62) (w : World) (h : FamAt w D H) (hs : Small D) (h1 : 1 ≤ D.opts.length) (h6 : D.opts.length ≤ 6) (ho : D.rules.length ≤ o.length) (hch : LitsIn D.opts.length ch) (hcl : ch.length < 100) (hrs : ∀ r ∈ D.rules, LitsIn D.opts.length r.f1)
    (hr : Kd.C Kd.bool w A m o) (hc : m ≤ c) (hr2 : Kd.C k62 w A2 ch.length ch) (hc2 : ch.length ≤ c2) :
    Calls Try.prog 17 #[fv D H, .slice A m c, .slice A2 ch.length c2] w fun e w' => ∃ A cp, e = .returned (.slice A (allowedL D o ch).length cp) ∧ (allowedL D o ch).length ≤ cp ∧ Kd.C (Kd.int .i64) w' A (allowedL D o ch).length (allowedL D o ch) ∧ Below w.heap.size w w' := by
  subst hm
  exact (dowellaw48_allowed.calls 4000 D.nm H.A1 H.c1 D.parts H.A2 H.c2 D.insts H.A3 H.c3 D.dims H.A4 H.c4 D.cons H.A5 H.c5 D.reqs H.A6 H.c6 D.opts H.A7 H.c7 D.rules H.A8 H.c8 D.guards H.A9 H.c9 D.overs A c o A2 c2 ch (allowedL D o ch) w h.r1 h.l1 h.r2 h.l2 h.r3 h.l3 h.r4 h.l4 h.r5 h.l5 h.r6 h.l6 h.r7 h.l7 h.r8 h.l8 h.r9 h.l9
    hr hc hr2 hc2 (allowed_f hs rfl h1 h6 ho hch hcl hrs)).mono fun e w' ⟨v, he, hR, hb⟩ => by
      obtain ⟨A, cp, hv, hc, hC⟩ := Kd.R_reads hR
      subst hv
      exact ⟨A, cp, he, hc, hC, hb⟩
theorem ref_names (D : Fam) (H : Hd) (k : Nat) (w : World) (h : FamAt w D H) (h6 : D.opts.length ≤ 6) (hk : k < 2 ^ D.opts.length) :
    Calls Try.prog 20 #[fv D H, .int .i64 ((setOf D.opts.length k : Nat) : Int)] w fun e w' => ∃ A cp, e = .returned (.slice A (cnames (cfg D.opts.length k) D.opts).length cp) ∧ (cnames (cfg D.opts.length k) D.opts).length ≤ cp ∧ Kd.C Kd.string w' A (cnames (cfg D.opts.length k) D.opts).length (cnames (cfg D.opts.length k) D.opts) ∧ Below w.heap.size w w' :=
  (dowellaw48_names.calls 4000 D.nm H.A1 H.c1 D.parts H.A2 H.c2 D.insts H.A3 H.c3 D.dims H.A4 H.c4 D.cons H.A5 H.c5 D.reqs H.A6 H.c6 D.opts H.A7 H.c7 D.rules H.A8 H.c8 D.guards H.A9 H.c9 D.overs _ (cnames (cfg D.opts.length k) D.opts) w h.r1 h.l1 h.r2 h.l2 h.r3 h.l3 h.r4 h.l4 h.r5 h.l5 h.r6 h.l6 h.r7 h.l7 h.r8 h.l8 h.r9 h.l9
    (refnames_f rfl h6 hk)).mono fun e w' ⟨v, he, hR, hb⟩ => by
      obtain ⟨A, cp, hv, hc, hC⟩ := Kd.R_reads hR
      subst hv
      exact ⟨A, cp, he, hc, hC, hb⟩
end Go.Proofs.Ytbnmdlnpfikkcaa.PX
namespace Go.Proofs.Ytbnmdlnpfikkcaa.PX
open Go.RowKit Go.Proofs.YtbnmdlnpfikkcaaW.PrintWords Go.Proofs.YtbnmdlnpfikkcaaW.PrintLast Go.Proofs.YtbnmdlnpfikkcaaW.PrintMore
attribute [local go_sem] max2_int min2_int max_two min_two max_three min_three max_four min_four   -- for this text's walks alone
set_option linter.unusedVariables false
set_option linter.unusedSimpArgs false

/-! ### dowellaw48_conflict: function 26 -/
def dowellaw48_conflict.l0 : Nat → List (S62) → List Bool → List Int → Int → ByteArray → List (S129) → List (S105) → List (S81) → List (S158) → List (S165) → List ByteArray → List (S70) → List (S79) → List (S83) → Option (List Int)
 | 0, _, _, _, _, _, _, _, _, _, _, _, _, _, _ => none
 | k + 1, x1, x5, x6, x7, x296000, x296001, x296002, x296003, x296004, x296005, x296006, x296007, x296008, x296009 => if x7 < (x296007.length : Int) then (if 0 ≤ x7 then (if x7 < (x5.length : Int) then ((some (x5.set (x7 : Int).toNat true : List Bool)).bind fun y299 => ((dowellaw48_allowed.f k x296000 x296001 x296002 x296003 x296004 x296005 x296006 x296007 x296008 x296009 y299 x1).bind fun t300 => (if (t300.length : Int) > 0 then (if x6.length < 17592186044416 then (dowellaw48_conflict.l0 k x1 (y299.set (x7 : Int).toNat false) (x6 ++ [x7]) (wrap64 (x7 + 1)) x296000 x296001 x296002 x296003 x296004 x296005 x296006 x296007 x296008 x296009) else (none)) else (dowellaw48_conflict.l0 k x1 y299 x6 (wrap64 (x7 + 1)) x296000 x296001 x296002 x296003 x296004 x296005 x296006 x296007 x296008 x296009)))) else (none)) else (none)) else (some x6)
def dowellaw48_conflict.f (k : Nat) (a0_0 : ByteArray) (l0_1 : List (S129)) (l0_2 : List (S105)) (l0_3 : List (S81)) (l0_4 : List (S158)) (l0_5 : List (S165)) (l0_6 : List ByteArray) (l0_7 : List (S70)) (l0_8 : List (S79)) (l0_9 : List (S83)) (l1 : List (S62)) : Option (List Int) := (dowellaw48_none.f a0_0 l0_1 l0_2 l0_3 l0_4 l0_5 l0_6 l0_7 l0_8 l0_9).bind fun t296 => (dowellaw48_conflict.l0 k l1 t296 ([] : List Int) 0 a0_0 l0_1 l0_2 l0_3 l0_4 l0_5 l0_6 l0_7 l0_8 l0_9)
theorem dowellaw48_conflict.mono_l : ∀ k, (∀ y0 y1 y2 y3 y4 y5 y6 y7 y8 y9 y10 y11 y12 y13, LeO (dowellaw48_conflict.l0 k y0 y1 y2 y3 y4 y5 y6 y7 y8 y9 y10 y11 y12 y13) (dowellaw48_conflict.l0 (k + 1) y0 y1 y2 y3 y4 y5 y6 y7 y8 y9 y10 y11 y12 y13))
 | 0 => fun _ _ _ _ _ _ _ _ _ _ _ _ _ _ r h => by simp [dowellaw48_conflict.l0] at h
 | k + 1 => by
  have ih0 := dowellaw48_conflict.mono_l k
  ·intro y0 y1 y2 y3 y4 y5 y6 y7 y8 y9 y10 y11 y12 y13
   unfold dowellaw48_conflict.l0
   repeat' first
   | (with_reducible exact ih0 _ _ _ _ _ _ _ _ _ _ _ _ _ _)
   | (with_reducible exact dowellaw48_allowed.mono _ _ _ _ _ _ _ _ _ _ _ _ _)
   | (with_reducible exact LeO.refl _)
   | (with_reducible exact LeO.none _)
   | (with_reducible refine LeO.ite ?_ ?_)
   | (with_reducible refine LeO.bind ?_ (fun _ => ?_))
   | exact ih0 _ _ _ _ _ _ _ _ _ _ _ _ _ _
   | exact dowellaw48_allowed.mono _ _ _ _ _ _ _ _ _ _ _ _ _
   | exact LeO.none _
   | refine LeO.ite ?_ ?_
   | refine LeO.bind ?_ (fun _ => ?_)
theorem dowellaw48_conflict.mono : ∀ a0 a1 a2 a3 a4 a5 a6 a7 a8 a9 a10 k, LeO (dowellaw48_conflict.f k a0 a1 a2 a3 a4 a5 a6 a7 a8 a9 a10) (dowellaw48_conflict.f (k + 1) a0 a1 a2 a3 a4 a5 a6 a7 a8 a9 a10) := by
 intro a0 a1 a2 a3 a4 a5 a6 a7 a8 a9 a10 k
 have ih0 := dowellaw48_conflict.mono_l k
 unfold dowellaw48_conflict.f
 repeat' first
   | (with_reducible exact ih0 _ _ _ _ _ _ _ _ _ _ _ _ _ _)
   | (with_reducible exact dowellaw48_allowed.mono _ _ _ _ _ _ _ _ _ _ _ _ _)
   | (with_reducible exact LeO.refl _)
   | (with_reducible exact LeO.none _)
   | (with_reducible refine LeO.ite ?_ ?_)
   | (with_reducible refine LeO.bind ?_ (fun _ => ?_))
   | exact ih0 _ _ _ _ _ _ _ _ _ _ _ _ _ _
   | exact dowellaw48_allowed.mono _ _ _ _ _ _ _ _ _ _ _ _ _
   | exact LeO.none _
   | refine LeO.ite ?_ ?_
   | refine LeO.bind ?_ (fun _ => ?_)
set_option maxHeartbeats 8000000 in
set_option maxRecDepth 100000 in
theorem dowellaw48_conflict.calls (k : Nat) (a0_0 : ByteArray) (A0_1 : Option Addr) (c0_1 : Nat) (l0_1 : List (S129)) (A0_2 : Option Addr) (c0_2 : Nat) (l0_2 : List (S105)) (A0_3 : Option Addr) (c0_3 : Nat) (l0_3 : List (S81)) (A0_4 : Option Addr) (c0_4 : Nat) (l0_4 : List (S158)) (A0_5 : Option Addr) (c0_5 : Nat) (l0_5 : List (S165)) (A0_6 : Option Addr) (c0_6 : Nat) (l0_6 : List ByteArray) (A0_7 : Option Addr) (c0_7 : Nat) (l0_7 : List (S70)) (A0_8 : Option Addr) (c0_8 : Nat) (l0_8 : List (S79)) (A0_9 : Option Addr) (c0_9 : Nat) (l0_9 : List (S83)) (A1 : Option Addr) (c1 : Nat) (l1 : List (S62)) (r : List Int) (w : World) (hr0_1 : Kd.C k129 w A0_1 l0_1.length l0_1) (hc0_1 : l0_1.length ≤ c0_1) (hr0_2 : Kd.C k105 w A0_2 l0_2.length l0_2) (hc0_2 : l0_2.length ≤ c0_2) (hr0_3 : Kd.C k81 w A0_3 l0_3.length l0_3) (hc0_3 : l0_3.length ≤ c0_3) (hr0_4 : Kd.C k158 w A0_4 l0_4.length l0_4) (hc0_4 : l0_4.length ≤ c0_4) (hr0_5 : Kd.C k165 w A0_5 l0_5.length l0_5) (hc0_5 : l0_5.length ≤ c0_5) (hr0_6 : Kd.C Kd.string w A0_6 l0_6.length l0_6) (hc0_6 : l0_6.length ≤ c0_6) (hr0_7 : Kd.C k70 w A0_7 l0_7.length l0_7) (hc0_7 : l0_7.length ≤ c0_7) (hr0_8 : Kd.C k79 w A0_8 l0_8.length l0_8) (hc0_8 : l0_8.length ≤ c0_8) (hr0_9 : Kd.C k83 w A0_9 l0_9.length l0_9) (hc0_9 : l0_9.length ≤ c0_9) (hr1 : Kd.C k62 w A1 l1.length l1) (hc1 : l1.length ≤ c1) (h : dowellaw48_conflict.f k a0_0 l0_1 l0_2 l0_3 l0_4 l0_5 l0_6 l0_7 l0_8 l0_9 l1 = some r) :
  Calls Try.prog 26 #[.agg #[.string a0_0, .slice A0_1 l0_1.length c0_1, .slice A0_2 l0_2.length c0_2, .slice A0_3 l0_3.length c0_3, .slice A0_4 l0_4.length c0_4, .slice A0_5 l0_5.length c0_5, .slice A0_6 l0_6.length c0_6, .slice A0_7 l0_7.length c0_7, .slice A0_8 l0_8.length c0_8, .slice A0_9 l0_9.length c0_9], .slice A1 l1.length c1] w fun e w' => ∃ v0_ : Value, e = .returned (v0_) ∧ Kd.R (Kd.int .i64) 3 w' w.heap.size (fun _ => True) v0_ r ∧ Below w.heap.size w w' := by
 have hu41 := Try.underlying41
 have HR0_1 := Aside0.mk hr0_1
 have HC0_1 := Aside0.mk hc0_1
 clear hr0_1 hc0_1
 have HR0_2 := Aside0.mk hr0_2
 have HC0_2 := Aside0.mk hc0_2
 clear hr0_2 hc0_2
 have HR0_3 := Aside0.mk hr0_3
 have HC0_3 := Aside0.mk hc0_3
 clear hr0_3 hc0_3
 have HR0_4 := Aside0.mk hr0_4
 have HC0_4 := Aside0.mk hc0_4
 clear hr0_4 hc0_4
 have HR0_5 := Aside0.mk hr0_5
 have HC0_5 := Aside0.mk hc0_5
 clear hr0_5 hc0_5
 have HR0_6 := Aside0.mk hr0_6
 have HC0_6 := Aside0.mk hc0_6
 clear hr0_6 hc0_6
 have HR0_7 := Aside0.mk hr0_7
 have HC0_7 := Aside0.mk hc0_7
 clear hr0_7 hc0_7
 have HR0_8 := Aside0.mk hr0_8
 have HC0_8 := Aside0.mk hc0_8
 clear hr0_8 hc0_8
 have HR0_9 := Aside0.mk hr0_9
 have HC0_9 := Aside0.mk hc0_9
 clear hr0_9 hc0_9
 have HR1 := Aside0.mk hr1
 have HC1 := Aside0.mk hc1
 clear hr1 hc1
 have HB := Aside0.mk (Below.refl w.heap.size w)
 have H : ((dowellaw48_none.f a0_0 l0_1 l0_2 l0_3 l0_4 l0_5 l0_6 l0_7 l0_8 l0_9).bind fun t296 => (dowellaw48_conflict.l0 k l1 t296 ([] : List Int) 0 a0_0 l0_1 l0_2 l0_3 l0_4 l0_5 l0_6 l0_7 l0_8 l0_9)) = some r := h
 clear h
 replace H := Option.bind_eq_some_iff.mp H
 obtain ⟨t296, A30, H⟩ := H
 replace H : (dowellaw48_conflict.l0 k l1 t296 ([] : List Int) 0 a0_0 l0_1 l0_2 l0_3 l0_4 l0_5 l0_6 l0_7 l0_8 l0_9) = some r := H
 have A3 := Aside0.mk A30
 clear A30
 have H' := Aside0.mk H
 clear H
 go_enter Try.func26, Try.ntmps26
 go_wp2_with (first | ((with_reducible refine gate_dst (N := 2) rfl ?_); refine box_event ?hg (N := 2) ?hd (cs := #[.string a0_0, .slice A0_1 l0_1.length c0_1, .slice A0_2 l0_2.length c0_2, .slice A0_3 l0_3.length c0_3, .slice A0_4 l0_4.length c0_4, .slice A0_5 l0_5.length c0_5, .slice A0_6 l0_6.length c0_6, .slice A0_7 l0_7.length c0_7, .slice A0_8 l0_8.length c0_8, .slice A0_9 l0_9.length c0_9]) (t := 41) ?hr ?_; (case hd => rfl); (case hg => rfl); (case hr => first | (go_simp; done) | (go_simp; rfl)); intro gb295 hg w4 hbox hb; have n0_ := Aside0.mk (below_step (by repeat (first | (with_reducible first | exact HB.out | apply below_alloc | apply pw_below_drewN | apply below_drew1) | exact HB.out)) hb); have n1_ := Aside0.mk (hbox); have n2_ := Aside0.mk ((by rw [hg]; exact (below_size (by repeat (first | (with_reducible first | exact HB.out | apply below_alloc | apply pw_below_drewN | apply below_drew1) | exact HB.out))) : w.heap.size ≤ gb295)); have n3_ := Aside0.mk ((by rw [hg]; exact (below_size (by repeat (first | (with_reducible first | exact HB.out | apply below_alloc | apply pw_below_drewN | apply below_drew1) | exact HB.out))) : w.heap.size ≤ gb295)); clear HB; have HB := n0_; have BK295 := n1_; have GW295 := n2_; have GE295 := n3_; clear n0_ n1_ n2_ n3_; clear hb hbox hg; have hcz5_0 : w4.cell? ⟨gb295, 0, none⟩ = some (.string a0_0) := (blk_cell BK295.out 0).trans rfl; have hcz5_1 : w4.cell? ⟨gb295, 1, none⟩ = some (.slice A0_1 l0_1.length c0_1) := (blk_cell BK295.out 1).trans rfl; have hcz5_2 : w4.cell? ⟨gb295, 2, none⟩ = some (.slice A0_2 l0_2.length c0_2) := (blk_cell BK295.out 2).trans rfl; have hcz5_3 : w4.cell? ⟨gb295, 3, none⟩ = some (.slice A0_3 l0_3.length c0_3) := (blk_cell BK295.out 3).trans rfl; have hcz5_4 : w4.cell? ⟨gb295, 4, none⟩ = some (.slice A0_4 l0_4.length c0_4) := (blk_cell BK295.out 4).trans rfl; have hcz5_5 : w4.cell? ⟨gb295, 5, none⟩ = some (.slice A0_5 l0_5.length c0_5) := (blk_cell BK295.out 5).trans rfl; have hcz5_6 : w4.cell? ⟨gb295, 6, none⟩ = some (.slice A0_6 l0_6.length c0_6) := (blk_cell BK295.out 6).trans rfl; have hcz5_7 : w4.cell? ⟨gb295, 7, none⟩ = some (.slice A0_7 l0_7.length c0_7) := (blk_cell BK295.out 7).trans rfl; have hcz5_8 : w4.cell? ⟨gb295, 8, none⟩ = some (.slice A0_8 l0_8.length c0_8) := (blk_cell BK295.out 8).trans rfl; have hcz5_9 : w4.cell? ⟨gb295, 9, none⟩ = some (.slice A0_9 l0_9.length c0_9) := (blk_cell BK295.out 9).trans rfl; have hfz5_0 := blk_frozen BK295.out 0; have hfz5_1 := blk_frozen BK295.out 1; have hfz5_2 := blk_frozen BK295.out 2; have hfz5_3 := blk_frozen BK295.out 3; have hfz5_4 := blk_frozen BK295.out 4; have hfz5_5 := blk_frozen BK295.out 5; have hfz5_6 := blk_frozen BK295.out 6; have hfz5_7 := blk_frozen BK295.out 7; have hfz5_8 := blk_frozen BK295.out 8; have hfz5_9 := blk_frozen BK295.out 9) | ((with_reducible refine gate_callee (f := 18) rfl ?_); refine goesL_ (some 9) rfl rfl Try.func18 (by kernel_rfl) rfl #[.agg #[.string a0_0, .slice A0_1 l0_1.length c0_1, .slice A0_2 l0_2.length c0_2, .slice A0_3 l0_3.length c0_3, .slice A0_4 l0_4.length c0_4, .slice A0_5 l0_5.length c0_5, .slice A0_6 l0_6.length c0_6, .slice A0_7 l0_7.length c0_7, .slice A0_8 l0_8.length c0_8, .slice A0_9 l0_9.length c0_9]] rfl (by (try simp only [List.map_toArray, List.map_cons, List.map_nil]); first | done | rfl | (simp only [List.length_drop, List.length_take]; rfl)) ?_; (with_reducible refine (dowellaw48_none.calls a0_0 _ _ l0_1 _ _ l0_2 _ _ l0_3 _ _ l0_4 _ _ l0_5 _ _ l0_6 _ _ l0_7 _ _ l0_8 _ _ l0_9 t296 _ ?side1 ?side2 ?side3 ?side4 ?side5 ?side6 ?side7 ?side8 ?side9 ?side10 ?side11 ?side12 ?side13 ?side14 ?side15 ?side16 ?side17 ?side18 A3.out).mono ?_); (case side1 => repeat (first | exact (Kd.C_below HR0_1.out HB.out) | (with_reducible refine Kd.C_alloc ?_ _) | (with_reducible refine Kd.C_drewN ?_ _) | (with_reducible refine Kd.C_drew ?_))); (case side2 => exact HC0_1.out); (case side3 => repeat (first | exact (Kd.C_below HR0_2.out HB.out) | (with_reducible refine Kd.C_alloc ?_ _) | (with_reducible refine Kd.C_drewN ?_ _) | (with_reducible refine Kd.C_drew ?_))); (case side4 => exact HC0_2.out); (case side5 => repeat (first | exact (Kd.C_below HR0_3.out HB.out) | (with_reducible refine Kd.C_alloc ?_ _) | (with_reducible refine Kd.C_drewN ?_ _) | (with_reducible refine Kd.C_drew ?_))); (case side6 => exact HC0_3.out); (case side7 => repeat (first | exact (Kd.C_below HR0_4.out HB.out) | (with_reducible refine Kd.C_alloc ?_ _) | (with_reducible refine Kd.C_drewN ?_ _) | (with_reducible refine Kd.C_drew ?_))); (case side8 => exact HC0_4.out); (case side9 => repeat (first | exact (Kd.C_below HR0_5.out HB.out) | (with_reducible refine Kd.C_alloc ?_ _) | (with_reducible refine Kd.C_drewN ?_ _) | (with_reducible refine Kd.C_drew ?_))); (case side10 => exact HC0_5.out); (case side11 => repeat (first | exact (Kd.C_below HR0_6.out HB.out) | (with_reducible refine Kd.C_alloc ?_ _) | (with_reducible refine Kd.C_drewN ?_ _) | (with_reducible refine Kd.C_drew ?_))); (case side12 => exact HC0_6.out); (case side13 => repeat (first | exact (Kd.C_below HR0_7.out HB.out) | (with_reducible refine Kd.C_alloc ?_ _) | (with_reducible refine Kd.C_drewN ?_ _) | (with_reducible refine Kd.C_drew ?_))); (case side14 => exact HC0_7.out); (case side15 => repeat (first | exact (Kd.C_below HR0_8.out HB.out) | (with_reducible refine Kd.C_alloc ?_ _) | (with_reducible refine Kd.C_drewN ?_ _) | (with_reducible refine Kd.C_drew ?_))); (case side16 => exact HC0_8.out); (case side17 => repeat (first | exact (Kd.C_below HR0_9.out HB.out) | (with_reducible refine Kd.C_alloc ?_ _) | (with_reducible refine Kd.C_drewN ?_ _) | (with_reducible refine Kd.C_drew ?_))); (case side18 => exact HC0_9.out); rintro e w6 ⟨v297, rfl, ho0, hb⟩; refine ⟨_, rfl, ?_⟩; have n0_ := Aside0.mk (Kd.R_lower ho0 (below_size (by repeat (first | (with_reducible first | exact HB.out | apply below_alloc | apply pw_below_drewN | apply below_drew1 | refine below_set ?_ GE295.out) | exact HB.out)))); have n1_ := Aside0.mk (blk_below (g := gb295) (o := .cells #[.string a0_0, .slice A0_1 l0_1.length c0_1, .slice A0_2 l0_2.length c0_2, .slice A0_3 l0_3.length c0_3, .slice A0_4 l0_4.length c0_4, .slice A0_5 l0_5.length c0_5, .slice A0_6 l0_6.length c0_6, .slice A0_7 l0_7.length c0_7, .slice A0_8 l0_8.length c0_8, .slice A0_9 l0_9.length c0_9] 41 (0, 0)) (by (with_reducible repeat (first | refine blk_drewN ?_ _ | refine blk_drew ?_ | refine blk_alloc ?_ _)); exact BK295.out) hb); have n2_ := Aside0.mk (below_step (by repeat (first | (with_reducible first | exact HB.out | apply below_alloc | apply pw_below_drewN | apply below_drew1 | refine below_set ?_ GE295.out) | exact HB.out)) hb); clear BK295; clear HB; have HO298 := n0_; have BK295 := n1_; have HB := n2_; clear n0_ n1_ n2_; (try clear hb); (try clear hb2); (try clear hk); (try clear hi); (try clear ho0)))
 go_loopg [6, 7] k (fun kq v6 v7 w' => ∃ (x5_1 : List Bool) (x6_1 : List Int) (x7_1 : Int), v7 = .int .i64 x7_1 ∧ Aside0 (dowellaw48_conflict.l0 kq l1 x5_1 x6_1 x7_1 a0_0 l0_1 l0_2 l0_3 l0_4 l0_5 l0_6 l0_7 l0_8 l0_9 = some r) ∧ Aside0 (kq ≤ k) ∧ Aside0 (Kd.R Kd.bool 4 w' w.heap.size (fun _ => True) v297 x5_1) ∧ Aside0 (Kd.R (Kd.int .i64) 3 w' w.heap.size (fun _ => True) v6 x6_1) ∧ Aside0 (w'.heap[gb295]? = some (.cells #[.string a0_0, (.slice A0_1 l0_1.length c0_1), (.slice A0_2 l0_2.length c0_2), (.slice A0_3 l0_3.length c0_3), (.slice A0_4 l0_4.length c0_4), (.slice A0_5 l0_5.length c0_5), (.slice A0_6 l0_6.length c0_6), (.slice A0_7 l0_7.length c0_7), (.slice A0_8 l0_8.length c0_8), (.slice A0_9 l0_9.length c0_9)] 41 (0, 0))) ∧ Aside0 (Below w.heap.size w w'))
 case atStart => exact ⟨(t296), (([] : List Int)), (0), (by first | rfl | (simp; done) | (simp [*]; done)), H', ⟨Nat.le_refl _⟩, ⟨by (with_reducible repeat (first | apply Kd.R_alloc | apply Kd.R_drewN | apply Kd.R_drew)); exact HO298.out⟩, ⟨by first | exact Kd.R_nil _ _ _ _ _ | exact Kd.N_nil _ _ _ _ _ | exact Kd.V_nil _ _ _ _ _ | exact Kd.Q_nil _ _ _ _ _ | exact Kd.S_nil _ _ _ _ _⟩, ⟨by (with_reducible repeat (first | refine blk_drewN ?_ _ | refine blk_drew ?_ | refine blk_alloc ?_ _)); exact BK295.out⟩, ⟨by repeat (first | (with_reducible first | exact HB.out | apply below_alloc | apply pw_below_drewN | apply below_drew1 | refine below_set ?_ GE295.out) | exact HB.out)⟩⟩
 case round =>
  clear H'
  try clear c1
  try clear c2
  try clear p2
  try clear hcz5_0
  try clear hcz5_1
  try clear hcz5_2
  try clear hcz5_3
  try clear hcz5_4
  try clear hcz5_5
  try clear hcz5_6
  try clear hcz5_7
  try clear hcz5_8
  try clear hcz5_9
  try clear hfz5_0
  try clear hfz5_1
  try clear hfz5_2
  try clear hfz5_3
  try clear hfz5_4
  try clear hfz5_5
  try clear hfz5_6
  try clear hfz5_7
  try clear hfz5_8
  try clear hfz5_9
  obtain ⟨x5_1, x6_1, x7_1, rfl, HA, HK1, HO_5, HO_6, BK295, HB⟩ := hrel
  cases gk with
  | zero => exact absurd HA.out (by simp [dowellaw48_conflict.l0])
  | succ k1 =>
   have H := HA.out
   clear HA
   simp only [dowellaw48_conflict.l0] at H
   by_cases c7 : x7_1 < (l0_7.length : Int)
   ·rw [if_pos c7] at H
    have c7b0 : decide (x7_1 < (l0_7.length : Int)) = true := decide_eq_true c7
    clear c7
    by_cases c8 : 0 ≤ x7_1
    ·rw [if_pos c8] at H
     have c8b0 : decide (0 ≤ x7_1) = true := decide_eq_true c8
     clear c8
     by_cases c9 : x7_1 < (x5_1.length : Int)
     ·rw [if_pos c9] at H
      have c9b0 : decide (x7_1 < (x5_1.length : Int)) = true := decide_eq_true c9
      clear c9
      obtain ⟨y299, hy299⟩ : ∃ y_ : List Bool, y_ = (x5_1.set (x7_1 : Int).toNat true) := ⟨_, rfl⟩
      replace H : ((dowellaw48_allowed.f k1 a0_0 l0_1 l0_2 l0_3 l0_4 l0_5 l0_6 l0_7 l0_8 l0_9 y299 l1).bind fun t300 => (if (t300.length : Int) > 0 then (if x6_1.length < 17592186044416 then (dowellaw48_conflict.l0 k1 l1 (y299.set (x7_1 : Int).toNat false) (x6_1 ++ [x7_1]) (wrap64 (x7_1 + 1)) a0_0 l0_1 l0_2 l0_3 l0_4 l0_5 l0_6 l0_7 l0_8 l0_9) else (none)) else (dowellaw48_conflict.l0 k1 l1 y299 x6_1 (wrap64 (x7_1 + 1)) a0_0 l0_1 l0_2 l0_3 l0_4 l0_5 l0_6 l0_7 l0_8 l0_9))) = some r := by first | (rw [hy299]; with_reducible exact H) | (have H2_ := (Option.bind_some _ _).symm.trans H; rw [hy299]; with_reducible exact H2_) | (have H2_ := (Option.bind_some _ _).symm.trans H; with_reducible exact H2_) | with_reducible exact H | (rw [hy299]; exact H) | exact H
      have Ny299 := Aside0.mk hy299
      clear hy299
      replace H := Option.bind_eq_some_iff.mp H
      obtain ⟨t300, A110, H⟩ := H
      replace H : (if (t300.length : Int) > 0 then (if x6_1.length < 17592186044416 then (dowellaw48_conflict.l0 k1 l1 (y299.set (x7_1 : Int).toNat false) (x6_1 ++ [x7_1]) (wrap64 (x7_1 + 1)) a0_0 l0_1 l0_2 l0_3 l0_4 l0_5 l0_6 l0_7 l0_8 l0_9) else (none)) else (dowellaw48_conflict.l0 k1 l1 y299 x6_1 (wrap64 (x7_1 + 1)) a0_0 l0_1 l0_2 l0_3 l0_4 l0_5 l0_6 l0_7 l0_8 l0_9)) = some r := H
      have A11 := Aside0.mk A110
      clear A110
      by_cases c12 : (t300.length : Int) > 0
      ·rw [if_pos c12] at H
       have c12b0 : decide (0 < (t300.length : Int)) = true := decide_eq_true c12
       have c12b1 : decide (0 < t300.length) = true := decide_eq_true (by omega)
       clear c12
       obtain ⟨y303, hy303⟩ : ∃ y_ : List Bool, y_ = (y299.set (x7_1 : Int).toNat false) := ⟨_, rfl⟩
       replace H : (if x6_1.length < 17592186044416 then (dowellaw48_conflict.l0 k1 l1 y303 (x6_1 ++ [x7_1]) (wrap64 (x7_1 + 1)) a0_0 l0_1 l0_2 l0_3 l0_4 l0_5 l0_6 l0_7 l0_8 l0_9) else (none)) = some r := by first | (rw [hy303]; with_reducible exact H) | (have H2_ := (Option.bind_some _ _).symm.trans H; rw [hy303]; with_reducible exact H2_) | (have H2_ := (Option.bind_some _ _).symm.trans H; with_reducible exact H2_) | with_reducible exact H | (rw [hy303]; exact H) | exact H
       have Ny303 := Aside0.mk hy303
       clear hy303
       by_cases c14 : x6_1.length < 17592186044416
       ·rw [if_pos c14] at H
        have LMc14 := Aside0.mk c14
        clear c14
        obtain ⟨y304, hy304⟩ : ∃ y_ : List Int, y_ = (x6_1 ++ [x7_1]) := ⟨_, rfl⟩
        replace H : (dowellaw48_conflict.l0 k1 l1 y303 y304 (wrap64 (x7_1 + 1)) a0_0 l0_1 l0_2 l0_3 l0_4 l0_5 l0_6 l0_7 l0_8 l0_9) = some r := by first | (rw [hy304]; with_reducible exact H) | (have H2_ := (Option.bind_some _ _).symm.trans H; rw [hy304]; with_reducible exact H2_) | (have H2_ := (Option.bind_some _ _).symm.trans H; with_reducible exact H2_) | with_reducible exact H | (rw [hy304]; exact H) | exact H
        have Ny304 := Aside0.mk hy304
        clear hy304
        have H' := Aside0.mk H
        clear H
        have hcz15_0 : wr.cell? ⟨gb295, 0, none⟩ = some (.string a0_0) := (blk_cell BK295.out 0).trans rfl
        have hcz15_1 : wr.cell? ⟨gb295, 1, none⟩ = some (.slice A0_1 l0_1.length c0_1) := (blk_cell BK295.out 1).trans rfl
        have hcz15_2 : wr.cell? ⟨gb295, 2, none⟩ = some (.slice A0_2 l0_2.length c0_2) := (blk_cell BK295.out 2).trans rfl
        have hcz15_3 : wr.cell? ⟨gb295, 3, none⟩ = some (.slice A0_3 l0_3.length c0_3) := (blk_cell BK295.out 3).trans rfl
        have hcz15_4 : wr.cell? ⟨gb295, 4, none⟩ = some (.slice A0_4 l0_4.length c0_4) := (blk_cell BK295.out 4).trans rfl
        have hcz15_5 : wr.cell? ⟨gb295, 5, none⟩ = some (.slice A0_5 l0_5.length c0_5) := (blk_cell BK295.out 5).trans rfl
        have hcz15_6 : wr.cell? ⟨gb295, 6, none⟩ = some (.slice A0_6 l0_6.length c0_6) := (blk_cell BK295.out 6).trans rfl
        have hcz15_7 : wr.cell? ⟨gb295, 7, none⟩ = some (.slice A0_7 l0_7.length c0_7) := (blk_cell BK295.out 7).trans rfl
        have hcz15_8 : wr.cell? ⟨gb295, 8, none⟩ = some (.slice A0_8 l0_8.length c0_8) := (blk_cell BK295.out 8).trans rfl
        have hcz15_9 : wr.cell? ⟨gb295, 9, none⟩ = some (.slice A0_9 l0_9.length c0_9) := (blk_cell BK295.out 9).trans rfl
        have hfz15_0 := blk_frozen BK295.out 0
        have hfz15_1 := blk_frozen BK295.out 1
        have hfz15_2 := blk_frozen BK295.out 2
        have hfz15_3 := blk_frozen BK295.out 3
        have hfz15_4 := blk_frozen BK295.out 4
        have hfz15_5 := blk_frozen BK295.out 5
        have hfz15_6 := blk_frozen BK295.out 6
        have hfz15_7 := blk_frozen BK295.out 7
        have hfz15_8 := blk_frozen BK295.out 8
        have hfz15_9 := blk_frozen BK295.out 9
        have p10 : 0 ≤ (x7_1 : Int) := of_decide_eq_true (by first | (with_reducible assumption) | assumption)
        have q10 : (x7_1 : Int) < ((x5_1.length : Int) : Int) := of_decide_eq_true (by first | (with_reducible assumption) | assumption)
        obtain ⟨go10, co10, eo10, gb10, gl10, cl10, HG10⟩ := Kd.R_form HO_5.out (by omega)
        (first | cases eo10 | (injection eo10 with ea_ en_ ec_; (first | subst ea_ | (injection ea_ with ea_; subst ea_)); subst ec_; clear en_))
        have GB10 := Aside0.mk gb10
        have GG10 := Aside0.mk HG10
        clear gb10 gl10 HG10
        obtain ⟨hx10_0, hf10_0⟩ := Kd.R_celln false HO_5.out (x7_1 : Int) p10 q10
        replace p10 := eq_true p10
        replace q10 := eq_true q10
        have HP16 := Kd.R_putg HO_5.out (x7_1 : Int) true
        go_wp2_with (first | ((with_reducible refine gate_store (t := 4) (p := 19) rfl ?_); refine store_event (t := 4) (p := 19) (v := ?vo_w17) (w1 := (wr.setCell ⟨go10, (x7_1 : Int).toNat, none⟩ (.bool true))) ?hg ?ho ?hn ?hr ?_; (case ho => rfl); (case hg => rfl); (case hn => rfl); (case hr => first | (go_simp; done) | (go_simp; rfl)); intro w17 hw; have hg : wr.grownBy w17 (some go10) := (by rw [hw]; exact HP16.2); have hp_ : Kd.R Kd.bool 4 w17 w.heap.size (fun _ => True) (.slice (some ⟨go10, 0, none⟩) x5_1.length co10) y299 := (by rw [hw, Ny299.out]; exact HP16.1); clear HP16; have n0_ := Aside0.mk (hp_); have n1_ := Aside0.mk (Kd.R_over' (v := (.slice (some ⟨go10, 0, none⟩) x5_1.length co10)) (by (with_reducible repeat (first | apply Kd.R_alloc | apply Kd.R_drewN | apply Kd.R_drew)); exact HO_6.out) (Kd.R_typed HO_5.out) (by decide) hg); have n2_ := Aside0.mk (blk_grown (g := gb295) (o := .cells #[.string a0_0, .slice A0_1 l0_1.length c0_1, .slice A0_2 l0_2.length c0_2, .slice A0_3 l0_3.length c0_3, .slice A0_4 l0_4.length c0_4, .slice A0_5 l0_5.length c0_5, .slice A0_6 l0_6.length c0_6, .slice A0_7 l0_7.length c0_7, .slice A0_8 l0_8.length c0_8, .slice A0_9 l0_9.length c0_9] 41 (0, 0)) (by (with_reducible repeat (first | refine blk_drewN ?_ _ | refine blk_drew ?_ | refine blk_alloc ?_ _)); exact BK295.out) hg (Kd.R_ne HO_5.out BK295.out (by decide))); have n3_ := Aside0.mk ((by rw [hw]; exact below_set (HB.out) GB10.out : Below w.heap.size w w17)); clear HO_5; clear HO_6; clear BK295; clear HB; have HO_5 := n0_; have HO_6 := n1_; have BK295 := n2_; have HB := n3_; clear n0_ n1_ n2_ n3_; clear hg hw hp_; have hcz18_0 : w17.cell? ⟨gb295, 0, none⟩ = some (.string a0_0) := (blk_cell BK295.out 0).trans rfl; have hcz18_1 : w17.cell? ⟨gb295, 1, none⟩ = some (.slice A0_1 l0_1.length c0_1) := (blk_cell BK295.out 1).trans rfl; have hcz18_2 : w17.cell? ⟨gb295, 2, none⟩ = some (.slice A0_2 l0_2.length c0_2) := (blk_cell BK295.out 2).trans rfl; have hcz18_3 : w17.cell? ⟨gb295, 3, none⟩ = some (.slice A0_3 l0_3.length c0_3) := (blk_cell BK295.out 3).trans rfl; have hcz18_4 : w17.cell? ⟨gb295, 4, none⟩ = some (.slice A0_4 l0_4.length c0_4) := (blk_cell BK295.out 4).trans rfl; have hcz18_5 : w17.cell? ⟨gb295, 5, none⟩ = some (.slice A0_5 l0_5.length c0_5) := (blk_cell BK295.out 5).trans rfl; have hcz18_6 : w17.cell? ⟨gb295, 6, none⟩ = some (.slice A0_6 l0_6.length c0_6) := (blk_cell BK295.out 6).trans rfl; have hcz18_7 : w17.cell? ⟨gb295, 7, none⟩ = some (.slice A0_7 l0_7.length c0_7) := (blk_cell BK295.out 7).trans rfl; have hcz18_8 : w17.cell? ⟨gb295, 8, none⟩ = some (.slice A0_8 l0_8.length c0_8) := (blk_cell BK295.out 8).trans rfl; have hcz18_9 : w17.cell? ⟨gb295, 9, none⟩ = some (.slice A0_9 l0_9.length c0_9) := (blk_cell BK295.out 9).trans rfl; have hfz18_0 := blk_frozen BK295.out 0; have hfz18_1 := blk_frozen BK295.out 1; have hfz18_2 := blk_frozen BK295.out 2; have hfz18_3 := blk_frozen BK295.out 3; have hfz18_4 := blk_frozen BK295.out 4; have hfz18_5 := blk_frozen BK295.out 5; have hfz18_6 := blk_frozen BK295.out 6; have hfz18_7 := blk_frozen BK295.out 7; have hfz18_8 := blk_frozen BK295.out 8; have hfz18_9 := blk_frozen BK295.out 9) | ((with_reducible refine gate_callee (f := 17) rfl ?_); refine goesL_ (some 23) rfl rfl Try.func17 (by kernel_rfl) rfl #[.agg #[.string a0_0, .slice A0_1 l0_1.length c0_1, .slice A0_2 l0_2.length c0_2, .slice A0_3 l0_3.length c0_3, .slice A0_4 l0_4.length c0_4, .slice A0_5 l0_5.length c0_5, .slice A0_6 l0_6.length c0_6, .slice A0_7 l0_7.length c0_7, .slice A0_8 l0_8.length c0_8, .slice A0_9 l0_9.length c0_9], .slice (some ⟨go10, 0, none⟩) y299.length co10, .slice A1 l1.length c1] rfl (by (try simp only [List.map_toArray, List.map_cons, List.map_nil]); first | done | (rw [show y299.length = x5_1.length from (Kd.R_reads' HO_5.out).1.symm] <;> rfl) | rfl | (simp only [List.length_drop, List.length_take]; rfl)) ?_; (with_reducible refine (dowellaw48_allowed.calls k1 a0_0 _ _ l0_1 _ _ l0_2 _ _ l0_3 _ _ l0_4 _ _ l0_5 _ _ l0_6 _ _ l0_7 _ _ l0_8 _ _ l0_9 _ _ y299 _ _ l1 t300 _ ?side1 ?side2 ?side3 ?side4 ?side5 ?side6 ?side7 ?side8 ?side9 ?side10 ?side11 ?side12 ?side13 ?side14 ?side15 ?side16 ?side17 ?side18 ?side19 ?side20 ?side21 ?side22 A11.out).mono ?_); (case side1 => repeat (first | exact (Kd.C_below HR0_1.out HB.out) | (with_reducible refine Kd.C_alloc ?_ _) | (with_reducible refine Kd.C_drewN ?_ _) | (with_reducible refine Kd.C_drew ?_))); (case side2 => exact HC0_1.out); (case side3 => repeat (first | exact (Kd.C_below HR0_2.out HB.out) | (with_reducible refine Kd.C_alloc ?_ _) | (with_reducible refine Kd.C_drewN ?_ _) | (with_reducible refine Kd.C_drew ?_))); (case side4 => exact HC0_2.out); (case side5 => repeat (first | exact (Kd.C_below HR0_3.out HB.out) | (with_reducible refine Kd.C_alloc ?_ _) | (with_reducible refine Kd.C_drewN ?_ _) | (with_reducible refine Kd.C_drew ?_))); (case side6 => exact HC0_3.out); (case side7 => repeat (first | exact (Kd.C_below HR0_4.out HB.out) | (with_reducible refine Kd.C_alloc ?_ _) | (with_reducible refine Kd.C_drewN ?_ _) | (with_reducible refine Kd.C_drew ?_))); (case side8 => exact HC0_4.out); (case side9 => repeat (first | exact (Kd.C_below HR0_5.out HB.out) | (with_reducible refine Kd.C_alloc ?_ _) | (with_reducible refine Kd.C_drewN ?_ _) | (with_reducible refine Kd.C_drew ?_))); (case side10 => exact HC0_5.out); (case side11 => repeat (first | exact (Kd.C_below HR0_6.out HB.out) | (with_reducible refine Kd.C_alloc ?_ _) | (with_reducible refine Kd.C_drewN ?_ _) | (with_reducible refine Kd.C_drew ?_))); (case side12 => exact HC0_6.out); (case side13 => repeat (first | exact (Kd.C_below HR0_7.out HB.out) | (with_reducible refine Kd.C_alloc ?_ _) | (with_reducible refine Kd.C_drewN ?_ _) | (with_reducible refine Kd.C_drew ?_))); (case side14 => exact HC0_7.out); (case side15 => repeat (first | exact (Kd.C_below HR0_8.out HB.out) | (with_reducible refine Kd.C_alloc ?_ _) | (with_reducible refine Kd.C_drewN ?_ _) | (with_reducible refine Kd.C_drew ?_))); (case side16 => exact HC0_8.out); (case side17 => repeat (first | exact (Kd.C_below HR0_9.out HB.out) | (with_reducible refine Kd.C_alloc ?_ _) | (with_reducible refine Kd.C_drewN ?_ _) | (with_reducible refine Kd.C_drew ?_))); (case side18 => exact HC0_9.out); (case side19 => repeat (first | exact (Kd.R_reads' HO_5.out).2.2 | (with_reducible refine Kd.C_alloc ?_ _) | (with_reducible refine Kd.C_drewN ?_ _) | (with_reducible refine Kd.C_drew ?_))); (case side20 => rw [show y299.length = x5_1.length from (Kd.R_reads' HO_5.out).1.symm]; exact (Kd.R_reads' HO_5.out).2.1); (case side21 => repeat (first | exact (Kd.C_below HR1.out HB.out) | (with_reducible refine Kd.C_alloc ?_ _) | (with_reducible refine Kd.C_drewN ?_ _) | (with_reducible refine Kd.C_drew ?_))); (case side22 => exact HC1.out); rintro e w19 ⟨v301, rfl, ho0, hb⟩; refine ⟨_, rfl, ?_⟩; have n0_ := Aside0.mk (Kd.R_below (by (with_reducible repeat (first | apply Kd.R_alloc | apply Kd.R_drewN | apply Kd.R_drew)); exact HO_5.out) hb); have n1_ := Aside0.mk (Kd.R_elder' (by (with_reducible repeat (first | apply Kd.R_alloc | apply Kd.R_drewN | apply Kd.R_drew)); exact HO_6.out) (Kd.R_base ho0) hb); have n2_ := Aside0.mk (Kd.R_lower (Kd.R_new' ho0 (Kd.R_lt (by (with_reducible repeat (first | apply Kd.R_alloc | apply Kd.R_drewN | apply Kd.R_drew)); exact HO_6.out))) (below_size (by repeat (first | (with_reducible first | exact HB.out | apply below_alloc | apply pw_below_drewN | apply below_drew1 | refine below_set ?_ GE295.out) | exact HB.out)))); have n3_ := Aside0.mk (blk_below (g := gb295) (o := .cells #[.string a0_0, .slice A0_1 l0_1.length c0_1, .slice A0_2 l0_2.length c0_2, .slice A0_3 l0_3.length c0_3, .slice A0_4 l0_4.length c0_4, .slice A0_5 l0_5.length c0_5, .slice A0_6 l0_6.length c0_6, .slice A0_7 l0_7.length c0_7, .slice A0_8 l0_8.length c0_8, .slice A0_9 l0_9.length c0_9] 41 (0, 0)) (by (with_reducible repeat (first | refine blk_drewN ?_ _ | refine blk_drew ?_ | refine blk_alloc ?_ _)); exact BK295.out) hb); have n4_ := Aside0.mk (below_step (by repeat (first | (with_reducible first | exact HB.out | apply below_alloc | apply pw_below_drewN | apply below_drew1 | refine below_set ?_ GE295.out) | exact HB.out)) hb); clear HO_5; clear HO_6; clear BK295; clear HB; have HO_5 := n0_; have HO_6 := n1_; have HO302 := n2_; have BK295 := n3_; have HB := n4_; clear n0_ n1_ n2_ n3_ n4_; (try clear hb); (try clear hb2); (try clear hk); (try clear hi); (try clear ho0); obtain ⟨Ao20, co20, eo20⟩ := Kd.R_slice HO302.out; subst eo20; have p13 : 0 ≤ (x7_1 : Int) := of_decide_eq_true (by first | (with_reducible assumption) | assumption); have q13 : (x7_1 : Int) < ((x5_1.length : Int) : Int) := of_decide_eq_true (by first | (with_reducible assumption) | assumption); obtain ⟨hx13_0, hf13_0⟩ := Kd.R_celln false HO_5.out (x7_1 : Int) p13 q13; replace p13 := eq_true p13; replace q13 := eq_true q13; obtain ⟨hy21_, hz21_⟩ := Kd.R_celln false HO_5.out (x7_1 : Int) (of_decide_eq_true (by first | (with_reducible assumption) | assumption)) (of_decide_eq_true (by first | (with_reducible assumption) | assumption)); have HP21 := Kd.R_putg HO_5.out (x7_1 : Int) false) | ((with_reducible refine gate_store (t := 4) (p := 28) rfl ?_); refine store_event (t := 4) (p := 28) (v := ?vo_w22) (w1 := (w19.setCell ⟨go10, (x7_1 : Int).toNat, none⟩ (.bool false))) ?hg ?ho ?hn ?hr ?_; (case ho => rfl); (case hg => rfl); (case hn => rfl); (case hr => first | (go_simp; done) | (go_simp; rfl)); intro w22 hw; have hg : w19.grownBy w22 (some go10) := (by rw [hw]; exact HP21.2); have hp_ : Kd.R Kd.bool 4 w22 w.heap.size (fun _ => True) (.slice (some ⟨go10, 0, none⟩) x5_1.length co10) y303 := (by rw [hw, Ny303.out]; exact HP21.1); clear HP21; have n0_ := Aside0.mk (hp_); have n1_ := Aside0.mk (Kd.R_over' (v := (.slice (some ⟨go10, 0, none⟩) x5_1.length co10)) (by (with_reducible repeat (first | apply Kd.R_alloc | apply Kd.R_drewN | apply Kd.R_drew)); exact HO_6.out) (Kd.R_typed HO_5.out) (by decide) hg); have n2_ := Aside0.mk (blk_grown (g := gb295) (o := .cells #[.string a0_0, .slice A0_1 l0_1.length c0_1, .slice A0_2 l0_2.length c0_2, .slice A0_3 l0_3.length c0_3, .slice A0_4 l0_4.length c0_4, .slice A0_5 l0_5.length c0_5, .slice A0_6 l0_6.length c0_6, .slice A0_7 l0_7.length c0_7, .slice A0_8 l0_8.length c0_8, .slice A0_9 l0_9.length c0_9] 41 (0, 0)) (by (with_reducible repeat (first | refine blk_drewN ?_ _ | refine blk_drew ?_ | refine blk_alloc ?_ _)); exact BK295.out) hg (Kd.R_ne HO_5.out BK295.out (by decide))); have n3_ := Aside0.mk (Kd.R_over' (v := (.slice (some ⟨go10, 0, none⟩) x5_1.length co10)) (by (with_reducible repeat (first | apply Kd.R_alloc | apply Kd.R_drewN | apply Kd.R_drew)); exact HO302.out) (Kd.R_typed HO_5.out) (by decide) hg); have n4_ := Aside0.mk ((by rw [hw]; exact below_set (HB.out) GB10.out : Below w.heap.size w w22)); clear HO_5; clear HO_6; clear BK295; clear HO302; clear HB; have HO_5 := n0_; have HO_6 := n1_; have BK295 := n2_; have HO302 := n3_; have HB := n4_; clear n0_ n1_ n2_ n3_ n4_; clear hg hw hp_) | ((with_reducible refine gate_builtin (b := .append) (xs := #[.tmp 29, .tmp 31]) rfl ?_); at_builtin; refine Kd.R_append (Kd.int .i64) (w0 := w) w.heap.size rfl (.tmp 29) (.tmp 31) 50 3 (.int .i64 0) 8 rfl Try.underlying50 info3 rfl (by decide) (by omega) u6 x6_1 x7_1 [.int .i64 x7_1] (fun k_ => some k_ ≠ (.slice Ao20 t300.length co20 : Value).ownBlock) (fun _ => False) rfl rfl ?aP (fun _ hk => hk.elim) ?aF ?aO ?aB ?aS ?aL ?_; (case aP => exact rfl); (case aB => exact (by repeat (first | (with_reducible first | exact HB.out | apply below_alloc | apply pw_below_drewN | apply below_drew1 | refine below_set ?_ GE295.out) | exact HB.out))); (case aF => exact (fun k_ hk => Kd.fresh' (Kd.R_lt (by (with_reducible repeat (first | apply Kd.R_alloc | apply Kd.R_drewN | apply Kd.R_drew)); exact HO302.out)) k_ hk)); (case aO => exact (by (with_reducible repeat (first | apply Kd.R_alloc | apply Kd.R_drewN | apply Kd.R_drew)); exact Kd.R_mono HO_6.out (fun _ hk => hk.2))); (case aS => exact (below_size (by repeat (first | (with_reducible first | exact HB.out | apply below_alloc | apply pw_below_drewN | apply below_drew1 | refine below_set ?_ GE295.out) | exact HB.out)))); (case aL => have := LMc14.out; omega); intro v305 w23 ho hb hg hat; rw [← Ny304.out] at ho; have n0_ := Aside0.mk (Kd.R_over' (by (with_reducible repeat (first | apply Kd.R_alloc | apply Kd.R_drewN | apply Kd.R_drew)); exact HO_5.out) (Kd.R_typed (by (with_reducible repeat (first | apply Kd.R_alloc | apply Kd.R_drewN | apply Kd.R_drew)); exact HO_6.out)) (by decide) hg); have n1_ := Aside0.mk (blk_grown (g := gb295) (o := .cells #[.string a0_0, .slice A0_1 l0_1.length c0_1, .slice A0_2 l0_2.length c0_2, .slice A0_3 l0_3.length c0_3, .slice A0_4 l0_4.length c0_4, .slice A0_5 l0_5.length c0_5, .slice A0_6 l0_6.length c0_6, .slice A0_7 l0_7.length c0_7, .slice A0_8 l0_8.length c0_8, .slice A0_9 l0_9.length c0_9] 41 (0, 0)) (by (with_reducible repeat (first | refine blk_drewN ?_ _ | refine blk_drew ?_ | refine blk_alloc ?_ _)); exact BK295.out) hg (Kd.R_ne HO_6.out BK295.out (by decide))); have n2_ := Aside0.mk (Kd.R_after (ok := (fun _ => True)) (by (with_reducible repeat (first | apply Kd.R_alloc | apply Kd.R_drewN | apply Kd.R_drew)); exact HO302.out) hg hat); have n3_ := Aside0.mk (hb); have n4_ := Aside0.mk (ho); clear HO_5; clear BK295; clear HO302; clear HB; clear HO_6; have HO_5 := n0_; have BK295 := n1_; have HO302 := n2_; have HB := n3_; have HO306 := n4_; clear n0_ n1_ n2_ n3_ n4_; clear ho hb hg hat))
        go_roundg k1
        case measure => have := HK1.out; omega
        case rel => exact ⟨(y303), (y304), (wrap64 (x7_1 + 1)), (by first | rfl | (simp; done) | (simp [*]; done)), H', ⟨by have := HK1.out; omega⟩, ⟨by (with_reducible repeat (first | apply Kd.R_alloc | apply Kd.R_drewN | apply Kd.R_drew)); exact HO_5.out⟩, ⟨by (with_reducible repeat (first | apply Kd.R_alloc | apply Kd.R_drewN | apply Kd.R_drew)); exact Kd.R_mono HO306.out (fun _ hk => trivial)⟩, ⟨by (with_reducible repeat (first | refine blk_drewN ?_ _ | refine blk_drew ?_ | refine blk_alloc ?_ _)); exact BK295.out⟩, ⟨by repeat (first | (with_reducible first | exact HB.out | apply below_alloc | apply pw_below_drewN | apply below_drew1 | refine below_set ?_ GE295.out) | exact HB.out)⟩⟩
       ·rw [if_neg c14] at H
        exact absurd H (by simp)
      ·rw [if_neg c12] at H
       have c12b0 : decide (0 < (t300.length : Int)) = false := decide_eq_false c12
       have c12b1 : decide (0 < t300.length) = false := decide_eq_false (by omega)
       clear c12
       have H' := Aside0.mk H
       clear H
       have hcz24_0 : wr.cell? ⟨gb295, 0, none⟩ = some (.string a0_0) := (blk_cell BK295.out 0).trans rfl
       have hcz24_1 : wr.cell? ⟨gb295, 1, none⟩ = some (.slice A0_1 l0_1.length c0_1) := (blk_cell BK295.out 1).trans rfl
       have hcz24_2 : wr.cell? ⟨gb295, 2, none⟩ = some (.slice A0_2 l0_2.length c0_2) := (blk_cell BK295.out 2).trans rfl
       have hcz24_3 : wr.cell? ⟨gb295, 3, none⟩ = some (.slice A0_3 l0_3.length c0_3) := (blk_cell BK295.out 3).trans rfl
       have hcz24_4 : wr.cell? ⟨gb295, 4, none⟩ = some (.slice A0_4 l0_4.length c0_4) := (blk_cell BK295.out 4).trans rfl
       have hcz24_5 : wr.cell? ⟨gb295, 5, none⟩ = some (.slice A0_5 l0_5.length c0_5) := (blk_cell BK295.out 5).trans rfl
       have hcz24_6 : wr.cell? ⟨gb295, 6, none⟩ = some (.slice A0_6 l0_6.length c0_6) := (blk_cell BK295.out 6).trans rfl
       have hcz24_7 : wr.cell? ⟨gb295, 7, none⟩ = some (.slice A0_7 l0_7.length c0_7) := (blk_cell BK295.out 7).trans rfl
       have hcz24_8 : wr.cell? ⟨gb295, 8, none⟩ = some (.slice A0_8 l0_8.length c0_8) := (blk_cell BK295.out 8).trans rfl
       have hcz24_9 : wr.cell? ⟨gb295, 9, none⟩ = some (.slice A0_9 l0_9.length c0_9) := (blk_cell BK295.out 9).trans rfl
       have hfz24_0 := blk_frozen BK295.out 0
       have hfz24_1 := blk_frozen BK295.out 1
       have hfz24_2 := blk_frozen BK295.out 2
       have hfz24_3 := blk_frozen BK295.out 3
       have hfz24_4 := blk_frozen BK295.out 4
       have hfz24_5 := blk_frozen BK295.out 5
       have hfz24_6 := blk_frozen BK295.out 6
       have hfz24_7 := blk_frozen BK295.out 7
       have hfz24_8 := blk_frozen BK295.out 8
       have hfz24_9 := blk_frozen BK295.out 9
       have p10 : 0 ≤ (x7_1 : Int) := of_decide_eq_true (by first | (with_reducible assumption) | assumption)
       have q10 : (x7_1 : Int) < ((x5_1.length : Int) : Int) := of_decide_eq_true (by first | (with_reducible assumption) | assumption)
       obtain ⟨go10, co10, eo10, gb10, gl10, cl10, HG10⟩ := Kd.R_form HO_5.out (by omega)
       (first | cases eo10 | (injection eo10 with ea_ en_ ec_; (first | subst ea_ | (injection ea_ with ea_; subst ea_)); subst ec_; clear en_))
       have GB10 := Aside0.mk gb10
       have GG10 := Aside0.mk HG10
       clear gb10 gl10 HG10
       obtain ⟨hx10_0, hf10_0⟩ := Kd.R_celln false HO_5.out (x7_1 : Int) p10 q10
       replace p10 := eq_true p10
       replace q10 := eq_true q10
       have HP25 := Kd.R_putg HO_5.out (x7_1 : Int) true
       go_wp2_with (first | ((with_reducible refine gate_store (t := 4) (p := 19) rfl ?_); refine store_event (t := 4) (p := 19) (v := ?vo_w26) (w1 := (wr.setCell ⟨go10, (x7_1 : Int).toNat, none⟩ (.bool true))) ?hg ?ho ?hn ?hr ?_; (case ho => rfl); (case hg => rfl); (case hn => rfl); (case hr => first | (go_simp; done) | (go_simp; rfl)); intro w26 hw; have hg : wr.grownBy w26 (some go10) := (by rw [hw]; exact HP25.2); have hp_ : Kd.R Kd.bool 4 w26 w.heap.size (fun _ => True) (.slice (some ⟨go10, 0, none⟩) x5_1.length co10) y299 := (by rw [hw, Ny299.out]; exact HP25.1); clear HP25; have n0_ := Aside0.mk (hp_); have n1_ := Aside0.mk (Kd.R_over' (v := (.slice (some ⟨go10, 0, none⟩) x5_1.length co10)) (by (with_reducible repeat (first | apply Kd.R_alloc | apply Kd.R_drewN | apply Kd.R_drew)); exact HO_6.out) (Kd.R_typed HO_5.out) (by decide) hg); have n2_ := Aside0.mk (blk_grown (g := gb295) (o := .cells #[.string a0_0, .slice A0_1 l0_1.length c0_1, .slice A0_2 l0_2.length c0_2, .slice A0_3 l0_3.length c0_3, .slice A0_4 l0_4.length c0_4, .slice A0_5 l0_5.length c0_5, .slice A0_6 l0_6.length c0_6, .slice A0_7 l0_7.length c0_7, .slice A0_8 l0_8.length c0_8, .slice A0_9 l0_9.length c0_9] 41 (0, 0)) (by (with_reducible repeat (first | refine blk_drewN ?_ _ | refine blk_drew ?_ | refine blk_alloc ?_ _)); exact BK295.out) hg (Kd.R_ne HO_5.out BK295.out (by decide))); have n3_ := Aside0.mk ((by rw [hw]; exact below_set (HB.out) GB10.out : Below w.heap.size w w26)); clear HO_5; clear HO_6; clear BK295; clear HB; have HO_5 := n0_; have HO_6 := n1_; have BK295 := n2_; have HB := n3_; clear n0_ n1_ n2_ n3_; clear hg hw hp_; have hcz27_0 : w26.cell? ⟨gb295, 0, none⟩ = some (.string a0_0) := (blk_cell BK295.out 0).trans rfl; have hcz27_1 : w26.cell? ⟨gb295, 1, none⟩ = some (.slice A0_1 l0_1.length c0_1) := (blk_cell BK295.out 1).trans rfl; have hcz27_2 : w26.cell? ⟨gb295, 2, none⟩ = some (.slice A0_2 l0_2.length c0_2) := (blk_cell BK295.out 2).trans rfl; have hcz27_3 : w26.cell? ⟨gb295, 3, none⟩ = some (.slice A0_3 l0_3.length c0_3) := (blk_cell BK295.out 3).trans rfl; have hcz27_4 : w26.cell? ⟨gb295, 4, none⟩ = some (.slice A0_4 l0_4.length c0_4) := (blk_cell BK295.out 4).trans rfl; have hcz27_5 : w26.cell? ⟨gb295, 5, none⟩ = some (.slice A0_5 l0_5.length c0_5) := (blk_cell BK295.out 5).trans rfl; have hcz27_6 : w26.cell? ⟨gb295, 6, none⟩ = some (.slice A0_6 l0_6.length c0_6) := (blk_cell BK295.out 6).trans rfl; have hcz27_7 : w26.cell? ⟨gb295, 7, none⟩ = some (.slice A0_7 l0_7.length c0_7) := (blk_cell BK295.out 7).trans rfl; have hcz27_8 : w26.cell? ⟨gb295, 8, none⟩ = some (.slice A0_8 l0_8.length c0_8) := (blk_cell BK295.out 8).trans rfl; have hcz27_9 : w26.cell? ⟨gb295, 9, none⟩ = some (.slice A0_9 l0_9.length c0_9) := (blk_cell BK295.out 9).trans rfl; have hfz27_0 := blk_frozen BK295.out 0; have hfz27_1 := blk_frozen BK295.out 1; have hfz27_2 := blk_frozen BK295.out 2; have hfz27_3 := blk_frozen BK295.out 3; have hfz27_4 := blk_frozen BK295.out 4; have hfz27_5 := blk_frozen BK295.out 5; have hfz27_6 := blk_frozen BK295.out 6; have hfz27_7 := blk_frozen BK295.out 7; have hfz27_8 := blk_frozen BK295.out 8; have hfz27_9 := blk_frozen BK295.out 9) | ((with_reducible refine gate_callee (f := 17) rfl ?_); refine goesL_ (some 23) rfl rfl Try.func17 (by kernel_rfl) rfl #[.agg #[.string a0_0, .slice A0_1 l0_1.length c0_1, .slice A0_2 l0_2.length c0_2, .slice A0_3 l0_3.length c0_3, .slice A0_4 l0_4.length c0_4, .slice A0_5 l0_5.length c0_5, .slice A0_6 l0_6.length c0_6, .slice A0_7 l0_7.length c0_7, .slice A0_8 l0_8.length c0_8, .slice A0_9 l0_9.length c0_9], .slice (some ⟨go10, 0, none⟩) y299.length co10, .slice A1 l1.length c1] rfl (by (try simp only [List.map_toArray, List.map_cons, List.map_nil]); first | done | (rw [show y299.length = x5_1.length from (Kd.R_reads' HO_5.out).1.symm] <;> rfl) | rfl | (simp only [List.length_drop, List.length_take]; rfl)) ?_; (with_reducible refine (dowellaw48_allowed.calls k1 a0_0 _ _ l0_1 _ _ l0_2 _ _ l0_3 _ _ l0_4 _ _ l0_5 _ _ l0_6 _ _ l0_7 _ _ l0_8 _ _ l0_9 _ _ y299 _ _ l1 t300 _ ?side1 ?side2 ?side3 ?side4 ?side5 ?side6 ?side7 ?side8 ?side9 ?side10 ?side11 ?side12 ?side13 ?side14 ?side15 ?side16 ?side17 ?side18 ?side19 ?side20 ?side21 ?side22 A11.out).mono ?_); (case side1 => repeat (first | exact (Kd.C_below HR0_1.out HB.out) | (with_reducible refine Kd.C_alloc ?_ _) | (with_reducible refine Kd.C_drewN ?_ _) | (with_reducible refine Kd.C_drew ?_))); (case side2 => exact HC0_1.out); (case side3 => repeat (first | exact (Kd.C_below HR0_2.out HB.out) | (with_reducible refine Kd.C_alloc ?_ _) | (with_reducible refine Kd.C_drewN ?_ _) | (with_reducible refine Kd.C_drew ?_))); (case side4 => exact HC0_2.out); (case side5 => repeat (first | exact (Kd.C_below HR0_3.out HB.out) | (with_reducible refine Kd.C_alloc ?_ _) | (with_reducible refine Kd.C_drewN ?_ _) | (with_reducible refine Kd.C_drew ?_))); (case side6 => exact HC0_3.out); (case side7 => repeat (first | exact (Kd.C_below HR0_4.out HB.out) | (with_reducible refine Kd.C_alloc ?_ _) | (with_reducible refine Kd.C_drewN ?_ _) | (with_reducible refine Kd.C_drew ?_))); (case side8 => exact HC0_4.out); (case side9 => repeat (first | exact (Kd.C_below HR0_5.out HB.out) | (with_reducible refine Kd.C_alloc ?_ _) | (with_reducible refine Kd.C_drewN ?_ _) | (with_reducible refine Kd.C_drew ?_))); (case side10 => exact HC0_5.out); (case side11 => repeat (first | exact (Kd.C_below HR0_6.out HB.out) | (with_reducible refine Kd.C_alloc ?_ _) | (with_reducible refine Kd.C_drewN ?_ _) | (with_reducible refine Kd.C_drew ?_))); (case side12 => exact HC0_6.out); (case side13 => repeat (first | exact (Kd.C_below HR0_7.out HB.out) | (with_reducible refine Kd.C_alloc ?_ _) | (with_reducible refine Kd.C_drewN ?_ _) | (with_reducible refine Kd.C_drew ?_))); (case side14 => exact HC0_7.out); (case side15 => repeat (first | exact (Kd.C_below HR0_8.out HB.out) | (with_reducible refine Kd.C_alloc ?_ _) | (with_reducible refine Kd.C_drewN ?_ _) | (with_reducible refine Kd.C_drew ?_))); (case side16 => exact HC0_8.out); (case side17 => repeat (first | exact (Kd.C_below HR0_9.out HB.out) | (with_reducible refine Kd.C_alloc ?_ _) | (with_reducible refine Kd.C_drewN ?_ _) | (with_reducible refine Kd.C_drew ?_))); (case side18 => exact HC0_9.out); (case side19 => repeat (first | exact (Kd.R_reads' HO_5.out).2.2 | (with_reducible refine Kd.C_alloc ?_ _) | (with_reducible refine Kd.C_drewN ?_ _) | (with_reducible refine Kd.C_drew ?_))); (case side20 => rw [show y299.length = x5_1.length from (Kd.R_reads' HO_5.out).1.symm]; exact (Kd.R_reads' HO_5.out).2.1); (case side21 => repeat (first | exact (Kd.C_below HR1.out HB.out) | (with_reducible refine Kd.C_alloc ?_ _) | (with_reducible refine Kd.C_drewN ?_ _) | (with_reducible refine Kd.C_drew ?_))); (case side22 => exact HC1.out); rintro e w28 ⟨v301, rfl, ho0, hb⟩; refine ⟨_, rfl, ?_⟩; have n0_ := Aside0.mk (Kd.R_below (by (with_reducible repeat (first | apply Kd.R_alloc | apply Kd.R_drewN | apply Kd.R_drew)); exact HO_5.out) hb); have n1_ := Aside0.mk (Kd.R_elder' (by (with_reducible repeat (first | apply Kd.R_alloc | apply Kd.R_drewN | apply Kd.R_drew)); exact HO_6.out) (Kd.R_base ho0) hb); have n2_ := Aside0.mk (Kd.R_lower (Kd.R_new' ho0 (Kd.R_lt (by (with_reducible repeat (first | apply Kd.R_alloc | apply Kd.R_drewN | apply Kd.R_drew)); exact HO_6.out))) (below_size (by repeat (first | (with_reducible first | exact HB.out | apply below_alloc | apply pw_below_drewN | apply below_drew1 | refine below_set ?_ GE295.out) | exact HB.out)))); have n3_ := Aside0.mk (blk_below (g := gb295) (o := .cells #[.string a0_0, .slice A0_1 l0_1.length c0_1, .slice A0_2 l0_2.length c0_2, .slice A0_3 l0_3.length c0_3, .slice A0_4 l0_4.length c0_4, .slice A0_5 l0_5.length c0_5, .slice A0_6 l0_6.length c0_6, .slice A0_7 l0_7.length c0_7, .slice A0_8 l0_8.length c0_8, .slice A0_9 l0_9.length c0_9] 41 (0, 0)) (by (with_reducible repeat (first | refine blk_drewN ?_ _ | refine blk_drew ?_ | refine blk_alloc ?_ _)); exact BK295.out) hb); have n4_ := Aside0.mk (below_step (by repeat (first | (with_reducible first | exact HB.out | apply below_alloc | apply pw_below_drewN | apply below_drew1 | refine below_set ?_ GE295.out) | exact HB.out)) hb); clear HO_5; clear HO_6; clear BK295; clear HB; have HO_5 := n0_; have HO_6 := n1_; have HO302 := n2_; have BK295 := n3_; have HB := n4_; clear n0_ n1_ n2_ n3_ n4_; (try clear hb); (try clear hb2); (try clear hk); (try clear hi); (try clear ho0); obtain ⟨Ao29, co29, eo29⟩ := Kd.R_slice HO302.out; subst eo29))
       go_roundg k1
       case measure => have := HK1.out; omega
       case rel => exact ⟨(y299), (x6_1), (wrap64 (x7_1 + 1)), (by first | rfl | (simp; done) | (simp [*]; done)), H', ⟨by have := HK1.out; omega⟩, ⟨by (with_reducible repeat (first | apply Kd.R_alloc | apply Kd.R_drewN | apply Kd.R_drew)); exact HO_5.out⟩, ⟨by (with_reducible repeat (first | apply Kd.R_alloc | apply Kd.R_drewN | apply Kd.R_drew)); exact Kd.R_mono HO_6.out (fun _ hk => trivial)⟩, ⟨by (with_reducible repeat (first | refine blk_drewN ?_ _ | refine blk_drew ?_ | refine blk_alloc ?_ _)); exact BK295.out⟩, ⟨by repeat (first | (with_reducible first | exact HB.out | apply below_alloc | apply pw_below_drewN | apply below_drew1 | refine below_set ?_ GE295.out) | exact HB.out)⟩⟩
     ·rw [if_neg c9] at H
      exact absurd H (by simp)
    ·rw [if_neg c8] at H
     exact absurd H (by simp)
   ·rw [if_neg c7] at H
    have c7b0 : decide (x7_1 < (l0_7.length : Int)) = false := decide_eq_false c7
    clear c7
    obtain rfl := Option.some.inj H
    have hcz30_0 : wr.cell? ⟨gb295, 0, none⟩ = some (.string a0_0) := (blk_cell BK295.out 0).trans rfl
    have hcz30_1 : wr.cell? ⟨gb295, 1, none⟩ = some (.slice A0_1 l0_1.length c0_1) := (blk_cell BK295.out 1).trans rfl
    have hcz30_2 : wr.cell? ⟨gb295, 2, none⟩ = some (.slice A0_2 l0_2.length c0_2) := (blk_cell BK295.out 2).trans rfl
    have hcz30_3 : wr.cell? ⟨gb295, 3, none⟩ = some (.slice A0_3 l0_3.length c0_3) := (blk_cell BK295.out 3).trans rfl
    have hcz30_4 : wr.cell? ⟨gb295, 4, none⟩ = some (.slice A0_4 l0_4.length c0_4) := (blk_cell BK295.out 4).trans rfl
    have hcz30_5 : wr.cell? ⟨gb295, 5, none⟩ = some (.slice A0_5 l0_5.length c0_5) := (blk_cell BK295.out 5).trans rfl
    have hcz30_6 : wr.cell? ⟨gb295, 6, none⟩ = some (.slice A0_6 l0_6.length c0_6) := (blk_cell BK295.out 6).trans rfl
    have hcz30_7 : wr.cell? ⟨gb295, 7, none⟩ = some (.slice A0_7 l0_7.length c0_7) := (blk_cell BK295.out 7).trans rfl
    have hcz30_8 : wr.cell? ⟨gb295, 8, none⟩ = some (.slice A0_8 l0_8.length c0_8) := (blk_cell BK295.out 8).trans rfl
    have hcz30_9 : wr.cell? ⟨gb295, 9, none⟩ = some (.slice A0_9 l0_9.length c0_9) := (blk_cell BK295.out 9).trans rfl
    have hfz30_0 := blk_frozen BK295.out 0
    have hfz30_1 := blk_frozen BK295.out 1
    have hfz30_2 := blk_frozen BK295.out 2
    have hfz30_3 := blk_frozen BK295.out 3
    have hfz30_4 := blk_frozen BK295.out 4
    have hfz30_5 := blk_frozen BK295.out 5
    have hfz30_6 := blk_frozen BK295.out 6
    have hfz30_7 := blk_frozen BK295.out 7
    have hfz30_8 := blk_frozen BK295.out 8
    have hfz30_9 := blk_frozen BK295.out 9
    go_wp2
    go_ret
    exact ⟨_, by first | rfl | (simp [errW_none, errW_some] <;> rfl) | (simp [*, errW_none, errW_some] <;> rfl), by (with_reducible repeat (first | apply Kd.R_alloc | apply Kd.R_drewN | apply Kd.R_drew)); exact HO_6.out, by repeat (first | (with_reducible first | exact HB.out | apply below_alloc | apply pw_below_drewN | apply below_drew1 | refine below_set ?_ GE295.out) | exact HB.out)⟩

end Go.Proofs.Ytbnmdlnpfikkcaa.PX
/- Conflict: the reference's list is the program's; together the rules leave nothing, without any one of them something. -/
namespace Go.Proofs.Ytbnmdlnpfikkcaa.PX
open Go.RowKit Go.Proofs.YtbnmdlnpfikkcaaW.PrintWords Go.Proofs.YtbnmdlnpfikkcaaW.PrintLast Go.Proofs.YtbnmdlnpfikkcaaW.PrintMore
set_option linter.unusedVariables false
set_option linter.unusedSimpArgs false
theorem ks_len64 (n : Nat) (ch : List S62) (rs : List S70) (h : n ≤ 6) : (ks n ch rs).length ≤ 64 := by
  have h1 : (ks n ch rs).length ≤ (List.range (2 ^ n)).reverse.length := List.length_filter_le _ _
  have h2 : 2 ^ n ≤ 2 ^ 6 := Nat.pow_le_pow_right (by decide) h
  rw [List.length_reverse, List.length_range] at h1
  omega
theorem allowed_up {a0 a1 a2 a3 a4 a5 a6 a7 a8 a9 o ch r} {k : Nat} (h : dowellaw48_allowed.f k a0 a1 a2 a3 a4 a5 a6 a7 a8 a9 o ch = some r) : ∀ d : Nat, dowellaw48_allowed.f (k + d) a0 a1 a2 a3 a4 a5 a6 a7 a8 a9 o ch = some r
  | 0 => h
  | d + 1 => dowellaw48_allowed.mono _ _ _ _ _ _ _ _ _ _ _ _ _ _ (allowed_up h d)
theorem kept_app : ∀ (a b : List S70) (p q : List Bool), p.length = a.length → kept (a ++ b) (p ++ q) = kept a p ++ kept b q
  | [], b, [], q, _ => rfl
  | [], b, _ :: _, q, h => by simp at h
  | r :: a, b, [], q, h => by simp at h
  | r :: a, b, c :: p, q, h => by
    have ih := kept_app a b p q (by simpa using h)
    show (if c = true then kept (a ++ b) (p ++ q) else r :: kept (a ++ b) (p ++ q)) = (if c = true then kept a p else r :: kept a p) ++ kept b q
    rw [ih]
    cases c <;> rfl
theorem confs_isEmpty (D : Fam) (ch : List S62) (rs : List S70) : (confs D ch rs).isEmpty = decide ((ks D.opts.length ch rs).length = 0) := by
  rw [confs_ks]
  cases ks D.opts.length ch rs <;> rfl
theorem conflict_from {D : Fam} (hs : Small D) (h1 : 1 ≤ D.opts.length) (h6 : D.opts.length ≤ 6) {ch : List S62} (hch : LitsIn D.opts.length ch) (hc : ch.length < 100) (hrs : ∀ r ∈ D.rules, LitsIn D.opts.length r.f1) (d : Nat) :
    ∀ (K i : Nat) (p : List Bool), i + d = D.rules.length → 4000 + d < K → p.length = i → kept (D.rules.take i) p = (cst D ch i).1 →
    dowellaw48_conflict.l0 K ch (p ++ List.replicate d false) (cst D ch i).2 i D.nm D.parts D.insts D.dims D.cons D.reqs D.opts D.rules D.guards D.overs = some (cst D ch D.rules.length).2 := by
  induction d with
  | zero =>
    intro K i p hi hK hp hk
    obtain ⟨K, rfl⟩ : ∃ m, K = m + 1 := ⟨K - 1, by omega⟩
    simp only [dowellaw48_conflict.l0]
    rw [if_neg (by omega), show i = D.rules.length by omega]
  | succ d ih =>
    intro K i p hi hK hp hk
    obtain ⟨K, rfl⟩ : ∃ m, K = m + 1 := ⟨K - 1, by omega⟩
    have hlt : i < D.rules.length := by omega
    have hs50 := hs.rules
    have hset : (p ++ List.replicate (d + 1) false).set i true = p ++ true :: List.replicate d false := by
      rw [List.replicate_succ, List.set_append_right _ _ (by omega), hp, Nat.sub_self]; rfl
    have hset2 : (p ++ true :: List.replicate d false).set i false = (p ++ [false]) ++ List.replicate d false := by
      rw [List.set_append_right _ _ (by omega), hp, Nat.sub_self, List.append_assoc]; rfl
    have hkk : kept D.rules (p ++ true :: List.replicate d false) = (cst D ch i).1 ++ D.rules.drop (i + 1) := by
      have e := kept_app (D.rules.take i) (D.rules.drop i) p (true :: List.replicate d false) (by rw [hp, List.length_take]; omega)
      rw [List.take_append_drop] at e
      rw [e, hk, rd_drop hlt]
      congr 1
      show (if true = true then kept (D.rules.drop (i + 1)) (List.replicate d false) else _) = _
      rw [if_pos rfl, kept_none]
    have ha := allowed_f hs rfl h1 h6 (o := p ++ true :: List.replicate d false) (ch := ch) (by simp [hp]; omega) hch hc hrs
    have ha2 := allowed_up ha (K - 4000)
    rw [show 4000 + (K - 4000) = K by omega, hkk] at ha2
    have htk : D.rules.take (i + 1) = D.rules.take i ++ [rd_T70 D.rules i] := by
      rw [List.take_succ_eq_append_getElem hlt]
      congr 2
      unfold rd_T70
      rw [Int.toNat_natCast, List.getD_eq_getElem?_getD, List.getElem?_eq_getElem hlt]
      rfl
    have htl : (D.rules.take i).length = p.length := by rw [hp, List.length_take]; omega
    have hcl := cst_length D ch i
    have hce := confs_isEmpty D ch ((cst D ch i).1 ++ D.rules.drop (i + 1))
    simp only [dowellaw48_conflict.l0]
    rw [if_pos (by omega), if_pos (by omega), if_pos (by simp [hp]; omega), Option.bind_some, Int.toNat_natCast, hset, ha2, Option.bind_some, wrap_succ i (by omega), List.length_map]
    by_cases hz : (ks D.opts.length ch ((cst D ch i).1 ++ D.rules.drop (i + 1))).length = 0
    · have hy : cst D ch (i + 1) = cst D ch i := by
        rw [decide_eq_true hz] at hce
        simp only [cst]; rw [if_pos hce]
      rw [if_neg (by omega)]
      have := ih K (i + 1) (p ++ [true]) (by omega) (by omega) (by simp [hp]) (by
        rw [htk, kept_app _ _ _ _ htl.symm, hk, hy]
        show _ ++ (if true = true then ([] : List S70) else _) = _
        rw [if_pos rfl, List.append_nil])
      rw [hy, List.append_assoc] at this
      exact this
    · have hy : cst D ch (i + 1) = ((cst D ch i).1 ++ [rd_T70 D.rules i], (cst D ch i).2 ++ [(i : Int)]) := by
        rw [decide_eq_false hz] at hce
        simp only [cst]; rw [if_neg (by rw [hce]; decide)]
      rw [if_pos (by omega), if_pos (by omega), hset2]
      have := ih K (i + 1) (p ++ [false]) (by omega) (by omega) (by simp [hp]) (by
        rw [htk, kept_app _ _ _ _ htl.symm, hk, hy]
        show _ ++ (if false = true then ([] : List S70) else _) = _
        rw [if_neg (by decide)]
        rfl)
      rw [hy] at this
      exact this
theorem conflict_f {D : Fam} (hs : Small D) (h1 : 1 ≤ D.opts.length) (h6 : D.opts.length ≤ 6) {ch : List S62} (hch : LitsIn D.opts.length ch) (hc : ch.length < 100) (hrs : ∀ r ∈ D.rules, LitsIn D.opts.length r.f1) :
    dowellaw48_conflict.f 5000 D.nm D.parts D.insts D.dims D.cons D.reqs D.opts D.rules D.guards D.overs ch = some (cst D ch D.rules.length).2 := by
  have := conflict_from hs h1 h6 hch hc hrs D.rules.length 5000 0 [] (by omega) (by have := hs.rules; omega) rfl rfl
  unfold dowellaw48_conflict.f dowellaw48_none.f
  have := hs.rules
  rw [if_pos (by omega), if_pos (by omega), Option.bind_some, Int.toNat_natCast]
  assumption
theorem cst_nums (D : Fam) (ch : List S62) : ∀ i, (cst D ch i).1 = (cst D ch i).2.map (rd_T70 D.rules)
  | 0 => rfl
  | i + 1 => by
    have ih := cst_nums D ch i
    unfold cst
    split
    · exact ih
    · simp [ih]
theorem cst_num_lt (D : Fam) (ch : List S62) : ∀ i, ∀ x ∈ (cst D ch i).2, 0 ≤ x ∧ x < (i : Int)
  | 0 => by simp [cst]
  | i + 1 => by
    have ih := cst_num_lt D ch i
    intro x hx
    unfold cst at hx
    split at hx
    · have := ih x hx; omega
    · simp only [List.mem_append, List.mem_singleton] at hx
      rcases hx with hx | hx
      · have := ih x hx; omega
      · omega
theorem cst_sublist (D : Fam) (ch : List S62) : ∀ i, i ≤ D.rules.length → List.Sublist (cst D ch i).1 (D.rules.take i)
  | 0, _ => List.nil_sublist _
  | i + 1, h => by
    have ih := cst_sublist D ch i (by omega)
    have htk : D.rules.take (i + 1) = D.rules.take i ++ [rd_T70 D.rules i] := by
      rw [List.take_succ_eq_append_getElem (by omega)]
      congr 2
      unfold rd_T70
      rw [Int.toNat_natCast, List.getD_eq_getElem?_getD, List.getElem?_eq_getElem (by omega)]
      rfl
    rw [htk]
    unfold cst
    split
    · exact ih.trans (List.sublist_append_left _ _)
    · exact ih.append (List.Sublist.refl _)
theorem okC_mono {ch : List S62} {c : Nat} {a b : List S70} (h : List.Sublist a b) (hb : okC ch b c = true) : okC ch a c = true := by
  unfold okC at hb ⊢
  rw [Bool.and_eq_true] at hb ⊢
  refine ⟨hb.1, ?_⟩
  have hb := of_decide_eq_true hb.2
  apply decide_eq_true
  have key : ∀ l : List S70, idxP (fun x => !satR c x) l < 0 ↔ l.any (fun x => !satR c x) = false := by
    intro l
    have h := idxP_nonneg (fun x => !satR c x) l
    constructor
    · intro h1; rw [← h]; exact decide_eq_false (by omega)
    · intro h1; rw [← h] at h1; have := of_decide_eq_false h1; omega
  rw [key] at hb ⊢
  rw [List.any_eq_false] at hb ⊢
  exact fun x hx => hb x (h.subset hx)
theorem confs_mono {D : Fam} {ch : List S62} {a b : List S70} (h : List.Sublist a b) (hb : (confs D ch b).isEmpty = false) : (confs D ch a).isEmpty = false := by
  rw [confs_isEmpty, decide_eq_false_iff_not] at hb ⊢
  intro h0
  apply hb
  have ha : ks D.opts.length ch a = [] := List.length_eq_zero_iff.1 h0
  rw [List.length_eq_zero_iff]
  unfold ks at ha ⊢
  rw [List.filter_eq_nil_iff] at ha ⊢
  exact fun x hx h1 => ha x hx (okC_mono h h1)
theorem cst_none {D : Fam} {ch : List S62} (h : (confs D ch D.rules).isEmpty = true) : ∀ i, i ≤ D.rules.length → (confs D ch ((cst D ch i).1 ++ D.rules.drop i)).isEmpty = true
  | 0, _ => h
  | i + 1, hi => by
    have ih := cst_none h i (by omega)
    cases he : (confs D ch ((cst D ch i).1 ++ D.rules.drop (i + 1))).isEmpty with
    | true => unfold cst; rw [if_pos he]; exact he
    | false =>
      unfold cst
      rw [if_neg (by rw [he]; decide)]
      rw [rd_drop (show i < D.rules.length by omega)] at ih
      simpa using ih
theorem cst_some {D : Fam} {ch : List S62} : ∀ i, i ≤ D.rules.length → ∀ q, q < (cst D ch i).1.length → (confs D ch ((cst D ch i).1.eraseIdx q ++ D.rules.drop i)).isEmpty = false
  | 0, _, q, hq => by simp [cst] at hq
  | i + 1, hi, q, hq => by
    have ih := cst_some (D := D) (ch := ch) i (by omega)
    have hd := rd_drop (show i < D.rules.length by omega)
    cases he : (confs D ch ((cst D ch i).1 ++ D.rules.drop (i + 1))).isEmpty with
    | true =>
      have hy : cst D ch (i + 1) = cst D ch i := by simp only [cst]; rw [if_pos he]
      rw [hy] at hq ⊢
      refine confs_mono ?_ (ih q hq)
      refine (List.Sublist.refl _).append ?_
      rw [hd]
      exact List.sublist_cons_self _ _
    | false =>
      have hy : (cst D ch (i + 1)).1 = (cst D ch i).1 ++ [rd_T70 D.rules i] := by simp only [cst]; rw [if_neg (by rw [he]; decide)]
      rw [hy] at hq ⊢
      by_cases hq2 : q < (cst D ch i).1.length
      · rw [List.eraseIdx_append_of_lt_length hq2, List.append_assoc, List.singleton_append, ← hd]
        exact ih q hq2
      · have hq3 : q = (cst D ch i).1.length := by simp at hq; omega
        rw [List.eraseIdx_append_of_length_le (by omega), hq3, Nat.sub_self]
        simpa using he
/-- The rules that the law's inner loop builds. -/
def bld (rs : List S70) (skip : Int) : Nat → List S70
  | 0 => []
  | j + 1 => if (j : Int) ≠ skip then bld rs skip j ++ [rd_T70 rs j] else bld rs skip j
theorem take_rd {rs : List S70} {j : Nat} (h : j < rs.length) : rs.take (j + 1) = rs.take j ++ [rd_T70 rs j] := by
  rw [List.take_succ_eq_append_getElem h]
  congr 2
  unfold rd_T70
  rw [Int.toNat_natCast, List.getD_eq_getElem?_getD, List.getElem?_eq_getElem h]
  rfl
theorem bld_neg (rs : List S70) (skip : Int) (h : skip < 0) : ∀ j, j ≤ rs.length → bld rs skip j = rs.take j
  | 0, _ => rfl
  | j + 1, hj => by
    unfold bld
    rw [if_pos (by omega), bld_neg rs skip h j (by omega), take_rd (by omega)]
theorem bld_skip (rs : List S70) (q : Nat) : ∀ j, j ≤ rs.length → bld rs q j = (rs.take j).eraseIdx q
  | 0, _ => rfl
  | j + 1, hj => by
    have ih := bld_skip rs q j (by omega)
    unfold bld
    rw [take_rd (by omega)]
    have hl : (rs.take j).length = j := by rw [List.length_take]; omega
    by_cases h : j = q
    · subst h
      rw [if_neg (by omega), ih, List.eraseIdx_append_of_length_le (by omega), hl, Nat.sub_self, List.eraseIdx_of_length_le (by omega)]
      simp
    · rw [if_pos (by omega), ih]
      by_cases h2 : q < j
      · rw [List.eraseIdx_append_of_lt_length (by omega)]
      · rw [List.eraseIdx_of_length_le (by omega), List.eraseIdx_of_length_le (by simp; omega)]
theorem bld_sub (rs : List S70) (skip : Int) : ∀ j, j ≤ rs.length → List.Sublist (bld rs skip j) rs := by
  intro j hj
  by_cases h : skip < 0
  · rw [bld_neg rs skip h j hj]; exact List.take_sublist _ _
  · obtain ⟨q, rfl⟩ : ∃ q : Nat, skip = q := ⟨skip.toNat, by omega⟩
    rw [bld_skip rs q j hj]
    exact (List.eraseIdx_sublist _ _).trans (List.take_sublist _ _)
theorem bld_length (rs : List S70) (skip : Int) : ∀ j, (bld rs skip j).length ≤ j
  | 0 => Nat.le_refl _
  | j + 1 => by
    have := bld_length rs skip j
    unfold bld
    split
    · simp; omega
    · omega
theorem rd70_in {l : List S70} {i : Nat} (h : i < l.length) : rd_T70 l i = l[i] := by
  unfold rd_T70
  rw [Int.toNat_natCast, List.getD_eq_getElem?_getD, List.getElem?_eq_getElem h]
  rfl
theorem fE_of (e : Nat → Int) (n : Nat) (h : ∀ j, j < n → e j = 0) : fE e n = 0 := fE_none e n h
theorem sub_split {α : Type} {a b : List α} (h : List.Sublist a b) {i : Nat} (hi : i < a.length) : ∃ j, ∃ hj : j < b.length, b[j] = a[i] ∧ List.Sublist (a.take i) (b.take j) := by
  induction h generalizing i with
  | slnil => simp at hi
  | cons x h ih =>
    obtain ⟨j, hj, h1, h2⟩ := ih hi
    exact ⟨j + 1, by simp; omega, by simpa using h1, by simpa using h2.cons x⟩
  | cons_cons x h ih =>
    cases i with
    | zero => exact ⟨0, by simp, rfl, by simp⟩
    | succ i =>
      obtain ⟨j, hj, h1, h2⟩ := ih (i := i) (by simpa using hi)
      exact ⟨j + 1, by simp; omega, by simpa using h1, by simpa using h2⟩
theorem chk_less {D : Fam} (h : chk D = 0) {rs : List S70} (hs : List.Sublist rs D.rules) : chk { D with rules := rs } = 0 := by
  unfold chk at h ⊢
  have hl := hs.length_le
  split at h
  · exact absurd h (by decide)
  · rename_i hn
    rw [if_neg (by dsimp only; omega)]
    split at h
    · rename_i h1; exact absurd h h1
    · rename_i h1
      rw [if_neg h1]
      split at h
      · rename_i h2; exact absurd h h2
      · rename_i h2
        have hr : fE (ruleE D.opts.length D.rules) D.rules.length = 0 := Classical.byContradiction h2
        have hr2 : fE (ruleE D.opts.length rs) rs.length = 0 := by
          refine fE_of _ _ fun i hi => ?_
          obtain ⟨j, hj, h3, h4⟩ := sub_split hs hi
          have h5 := fE_zero hr j hj
          unfold ruleE at h5 ⊢
          rw [rd70_in hj, h3] at h5
          rw [rd70_in hi]
          split at h5
          · exact absurd h5 (by decide)
          · rename_i h6
            rw [if_neg h6]
            split at h5
            · exact absurd h5 (by decide)
            · rename_i h7
              rw [if_neg]
              · exact h5
              · intro h8
                apply h7
                unfold memB at h8 ⊢
                rw [List.any_eq_true] at h8 ⊢
                obtain ⟨x, hx, hy⟩ := h8
                exact ⟨x, (h4.map _).subset hx, hy⟩
        show (if fE (ruleE D.opts.length rs) rs.length ≠ 0 then _ else _) = _
        rw [if_neg (by rw [hr2]; simp)]
        exact h
/-- The reference's conflict. -/
theorem ref_conflict (D : Fam) (H : Hd) (A2 : Option Addr) (c2 : Nat) (ch : List S62) (w : World) (h : FamAt w D H) (hs : Small D) (h1 : 1 ≤ D.opts.length) (h6 : D.opts.length ≤ 6) (hch : LitsIn D.opts.length ch) (hcl : ch.length < 100) (hrs : ∀ r ∈ D.rules, LitsIn D.opts.length r.f1) (hr2 : Kd.C k62 w A2 ch.length ch) (hc2 : ch.length ≤ c2) :
    Calls Try.prog 26 #[fv D H, .slice A2 ch.length c2] w fun e w' => ∃ A cp, e = .returned (.slice A (cst D ch D.rules.length).2.length cp) ∧ (cst D ch D.rules.length).2.length ≤ cp ∧ Kd.C (Kd.int .i64) w' A (cst D ch D.rules.length).2.length (cst D ch D.rules.length).2 ∧ Below w.heap.size w w' :=
  (dowellaw48_conflict.calls 5000 D.nm H.A1 H.c1 D.parts H.A2 H.c2 D.insts H.A3 H.c3 D.dims H.A4 H.c4 D.cons H.A5 H.c5 D.reqs H.A6 H.c6 D.opts H.A7 H.c7 D.rules H.A8 H.c8 D.guards H.A9 H.c9 D.overs A2 c2 ch (cst D ch D.rules.length).2 w h.r1 h.l1 h.r2 h.l2 h.r3 h.l3 h.r4 h.l4 h.r5 h.l5 h.r6 h.l6 h.r7 h.l7 h.r8 h.l8 h.r9 h.l9
    hr2 hc2 (conflict_f hs h1 h6 hch hcl hrs)).mono fun e w' ⟨v, he, hR, hb⟩ => by
      obtain ⟨A, cp, hv, hc, hC⟩ := Kd.R_reads hR
      subst hv
      exact ⟨A, cp, he, hc, hC, hb⟩
/-- A rule of a row that is read: its cells, and what they lead to. -/
theorem rule_at {W : World} {ok : Nat → Prop} {A : Option Addr} {n : Nat} {xs : List S70} (h : Kd.F k70 W ok A n xs) (i : Int) (h0 : 0 ≤ i) (h1 : i < n) : ∃ ad A1 c1, A = some ad ∧ W.cell? (ad.add (i.toNat * 2)) = some (.string (rd_T70 xs i).f0) ∧ W.cell? ⟨(ad.add (i.toNat * 2)).block, (ad.add (i.toNat * 2)).off + 1, none⟩ = some (.slice A1 (rd_T70 xs i).f1.length c1) ∧ Kd.FK k70 W ok (rd_T70 xs i) [.string (rd_T70 xs i).f0, .slice A1 (rd_T70 xs i).f1.length c1] := by
  obtain ⟨ad, c, e, _, hK, hc0, _⟩ := Kd.F_get h z70 i h0 h1
  have hc : ∀ j u, c[j]? = some u → W.cell? (ad.add (i.toNat * 2 + j)) = some u := hc0
  obtain ⟨A1, c1, rfl, l1, g1⟩ := k70_open (Kd.FK_now hK)
  exact ⟨ad, A1, c1, e, hc 0 _ rfl, by rw [← add_field _ _ 1 (by omega)]; exact hc 1 _ rfl, hK⟩
/-- A family's cells, with other rules. -/
def gcells (D : Fam) (H : Hd) (v : Value) : Array Value := #[.string D.nm, .slice H.A1 D.parts.length H.c1, .slice H.A2 D.insts.length H.c2, .slice H.A3 D.dims.length H.c3, .slice H.A4 D.cons.length H.c4, .slice H.A5 D.reqs.length H.c5, .slice H.A6 D.opts.length H.c6, v, .slice H.A8 D.guards.length H.c8, .slice H.A9 D.overs.length H.c9]
theorem g_set {w : World} {g : Nat} {D : Fam} {H : Hd} {v : Value} (h : w.heap[g]? = some (.cells (gcells D H v) 41 (0, 0))) (u : Value) : (w.setCell ⟨g, 7, none⟩ u).heap[g]? = some (.cells (gcells D H u) 41 (0, 0)) := blk_put h 7 u rfl
theorem g_cells {w : World} {g : Nat} {D : Fam} {H : Hd} {v : Value} (h : w.heap[g]? = some (.cells (gcells D H v) 41 (0, 0))) :
    w.cell? ⟨g, 0, none⟩ = some (.string D.nm) ∧ w.cell? ⟨g, 1, none⟩ = some (.slice H.A1 D.parts.length H.c1) ∧ w.cell? ⟨g, 2, none⟩ = some (.slice H.A2 D.insts.length H.c2) ∧ w.cell? ⟨g, 3, none⟩ = some (.slice H.A3 D.dims.length H.c3) ∧ w.cell? ⟨g, 4, none⟩ = some (.slice H.A4 D.cons.length H.c4) ∧ w.cell? ⟨g, 5, none⟩ = some (.slice H.A5 D.reqs.length H.c5) ∧ w.cell? ⟨g, 6, none⟩ = some (.slice H.A6 D.opts.length H.c6) ∧ w.cell? ⟨g, 7, none⟩ = some v ∧ w.cell? ⟨g, 8, none⟩ = some (.slice H.A8 D.guards.length H.c8) ∧ w.cell? ⟨g, 9, none⟩ = some (.slice H.A9 D.overs.length H.c9) :=
  ⟨(blk_cell h 0).trans rfl, (blk_cell h 1).trans rfl, (blk_cell h 2).trans rfl, (blk_cell h 3).trans rfl, (blk_cell h 4).trans rfl, (blk_cell h 5).trans rfl, (blk_cell h 6).trans rfl, (blk_cell h 7).trans rfl, (blk_cell h 8).trans rfl, (blk_cell h 9).trans rfl⟩
/-- Less rules, in the same world. -/
theorem FamAt.less {w : World} {D : Fam} {H : Hd} (h : FamAt w D H) {A : Option Addr} {c : Nat} {rs : List S70} (hl : rs.length ≤ c) (hr : Kd.C k70 w A rs.length rs) : FamAt w { D with rules := rs } { H with A7 := A, c7 := c } :=
  ⟨h.r1, h.l1, h.r2, h.l2, h.r3, h.l3, h.r4, h.l4, h.r5, h.l5, h.r6, h.l6, hr, hl, h.r8, h.l8, h.r9, h.l9⟩
theorem cell_keep {w W : World} (hb : Below w.heap.size w W) {a : Addr} {v : Value} (hc : w.cell? a = some v) : W.cell? a = some v := (hb.cell (World.block_lt_of_cell? w a hc)).trans hc
theorem rd_get {l : List Int} {i : Nat} (h : i < l.length) : rd l (i : Int) = l[i] := by
  unfold rd
  rw [Int.toNat_natCast, List.getD_eq_getElem?_getD, List.getElem?_eq_getElem h]
  rfl
theorem num_in {l : List Int} {m : Nat} (h : ∀ x ∈ l, 0 ≤ x ∧ x < (m : Int)) {i : Nat} (hi : i < l.length) : 0 ≤ rd l (i : Int) ∧ rd l (i : Int) < (m : Int) := by
  rw [rd_get hi]
  exact h _ (List.getElem_mem hi)
theorem rd_nums {l : List Int} {rs : List S70} {i : Nat} (hi : i < l.length) : rd_T70 rs (rd l (i : Int)) = rd_T70 (l.map (rd_T70 rs)) (i : Int) := by
  rw [rd_get hi, rd70_in (by simpa using hi)]
  simp
theorem bld_law {D : Fam} {ch : List S62} (h : (confs D ch D.rules).isEmpty = true) {RS : List S70} {n s : Nat} (hR : RS = (cst D ch D.rules.length).1) (hn : RS.length = n) (hs : s ≤ n) : (confs D ch (bld RS ((s : Int) - 1) n)).isEmpty = decide ((s : Int) - 1 < 0) := by
  cases s with
  | zero =>
    rw [bld_neg RS _ (by omega) n (by omega), ← hn, List.take_length, hR]
    have := cst_none h D.rules.length (Nat.le_refl _)
    rw [List.drop_length, List.append_nil] at this
    rw [this]
    rfl
  | succ s =>
    have e : ((s + 1 : Nat) : Int) - 1 = (s : Int) := by omega
    rw [e, bld_skip RS s n (by omega), ← hn, List.take_length, hR]
    have := cst_some (D := D) (ch := ch) D.rules.length (Nat.le_refl _) s (by rw [← hR]; omega)
    rw [List.drop_length, List.append_nil] at this
    rw [this]
    simp
end Go.Proofs.Ytbnmdlnpfikkcaa.PX
/- Redundant: the rules that follow from those before them. -/
namespace Go.Proofs.Ytbnmdlnpfikkcaa.PX
open Go.RowKit Go.Proofs.YtbnmdlnpfikkcaaW.PrintWords Go.Proofs.YtbnmdlnpfikkcaaW.PrintLast Go.Proofs.YtbnmdlnpfikkcaaW.PrintMore
set_option linter.unusedVariables false
set_option linter.unusedSimpArgs false
theorem enters52 : Enters Try.prog 52 := enters_of Try.func52 (by kernel_rfl) rfl
set_option maxHeartbeats 2000000 in
theorem red1 (B1 B2 : Nat) (c : Nat) (x : S70) (A1 : Option Addr) (c1 : Nat) (u : Value) (w : World) (hc : c < 4096) (hb1 : w.heap[B1]? = some (.cells #[.string x.f0, .slice A1 x.f1.length c1] 70 (0, 0))) (hb2 : w.heap[B2]? = some (.cells #[u] 4 (0, 0)))
    (hr : Kd.C k62 w A1 x.f1.length x.f1) (hl : x.f1.length ≤ c1) (hok : LitsOk x.f1) :
    Calls Try.prog 52 #[.int .u64 c, .pointer (some ⟨B1, 0, none⟩), .pointer (some ⟨B2, 0, none⟩)] w fun e w' => e = .returned (.bool (satR c x)) ∧ ∃ w1, Below w.heap.size w w1 ∧ w' = w1.setCell ⟨B2, 0, none⟩ (.bool (satR c x)) := by
  have hu70 := Try.underlying70
  have q1 : w.cell? ⟨B1, 0, none⟩ = some (.string x.f0) := (blk_cell hb1 0).trans rfl
  have q2 : w.cell? ⟨B1, 1, none⟩ = some (.slice A1 x.f1.length c1) := (blk_cell hb1 1).trans rfl
  have HC := Lib.hid (sat_calls c x A1 c1 w (by omega) hr hl hok)
  have HB2 := Aside0.mk hb2
  clear hb1 hr hl hok hc
  go_enter Try.func52, Try.ntmps52
  go_wp2_with fail
  refine HC.out.mono ?_
  rintro e w1 ⟨rfl, hb⟩
  have HB3 := Aside0.mk (blk_below HB2.out hb)
  have q3 : w1.cell? ⟨B2, 0, none⟩ = some u := (blk_cell HB3.out 0).trans rfl
  have f3 := blk_frozen HB3.out 0
  have q4 : (w1.setCell ⟨B2, 0, none⟩ (.bool (satR c x))).cell? ⟨B2, 0, none⟩ = some (.bool (satR c x)) := (blk_cell (blk_set HB3.out 0 (.bool (satR c x))) 0).trans rfl
  clear q1 q2
  go_wp2_with fail
  go_ret
  exact ⟨rfl, w1, hb, rfl⟩
theorem runV_follow (p : Nat → Bool) : ∀ l : List Nat, runV (fun (_ : Bool) c => p c) (fun _ c => p c) true l = l.all p
  | [] => rfl
  | c :: l => by
    show (if p c = true then runV (fun (_ : Bool) c => p c) (fun _ c => p c) (p c) l else p c) = _
    rw [List.all_cons]
    cases h : p c with
    | true => rw [if_pos rfl, runV_follow p l, Bool.true_and]
    | false => rw [if_neg (by decide), Bool.false_and]
/-- Rule i follows from those before it. -/
def fol (D : Fam) (i : Nat) : Bool := (confs D [] (D.rules.take i)).all fun c => satR c (rd_T70 D.rules (i : Int))
/-- The redundant rules of the first i; those that are not. -/
def redL (D : Fam) : Nat → List Int
  | 0 => []
  | i + 1 => if fol D i then redL D i ++ [(i : Int)] else redL D i
def lessL (D : Fam) : Nat → List S70
  | 0 => []
  | i + 1 => if fol D i then lessL D i else lessL D i ++ [rd_T70 D.rules (i : Int)]
theorem redL_length (D : Fam) : ∀ i, (redL D i).length ≤ i
  | 0 => Nat.le_refl _
  | i + 1 => by
    have := redL_length D i
    unfold redL
    split
    · simp; omega
    · omega
theorem lessL_length (D : Fam) : ∀ i, (lessL D i).length ≤ i
  | 0 => Nat.le_refl _
  | i + 1 => by
    have := lessL_length D i
    unfold lessL
    split
    · omega
    · simp; omega
theorem okC_snoc (ch : List S62) (rs : List S70) (r : S70) (c : Nat) : okC ch (rs ++ [r]) c = (okC ch rs c && satR c r) := by
  have key : ∀ l : List S70, decide (idxP (fun x => !satR c x) l < 0) = !l.any (fun x => !satR c x) := by
    intro l
    have h := idxP_nonneg (fun x => !satR c x) l
    rw [← h]
    by_cases h1 : idxP (fun x => !satR c x) l < 0
    · rw [decide_eq_true h1, decide_eq_false (by omega)]; rfl
    · rw [decide_eq_false h1, decide_eq_true (by omega)]; rfl
  unfold okC
  rw [key, key, List.any_append]
  cases ch.any (nlit c) <;> cases rs.any (fun x => !satR c x) <;> cases h : satR c r <;> simp [h]
theorem ks_snoc (n : Nat) (ch : List S62) (rs : List S70) (r : S70) : ks n ch (rs ++ [r]) = (ks n ch rs).filter fun k => satR (cfg n k) r := by
  unfold ks
  rw [List.filter_filter]
  apply List.filter_congr
  intro k _
  rw [okC_snoc, Bool.and_comm]
theorem fol_ks (D : Fam) (i : Nat) : fol D i = (ks D.opts.length [] (D.rules.take i)).all fun k => satR (cfg D.opts.length k) (rd_T70 D.rules (i : Int)) := by
  unfold fol
  rw [confs_ks, List.all_map]
  rfl
theorem take_r {D : Fam} {i : Nat} (h : i < D.rules.length) : D.rules.take (i + 1) = D.rules.take i ++ [rd_T70 D.rules (i : Int)] := take_rd h
/-- As many configurations as before, exactly if the rule follows. -/
theorem fol_count {D : Fam} {i : Nat} (h : i < D.rules.length) : (confs D [] (D.rules.take (i + 1))).length ≤ (confs D [] (D.rules.take i)).length ∧ ((confs D [] (D.rules.take (i + 1))).length = (confs D [] (D.rules.take i)).length ↔ fol D i = true) := by
  rw [confs_ks, confs_ks, List.length_map, List.length_map, take_r h, ks_snoc, fol_ks]
  refine ⟨List.length_filter_le _ _, ?_⟩
  rw [List.length_filter_eq_length_iff, List.all_eq_true]
theorem less_ks {D : Fam} : ∀ i, i ≤ D.rules.length → ks D.opts.length [] (lessL D i) = ks D.opts.length [] (D.rules.take i)
  | 0, _ => rfl
  | i + 1, h => by
    have ih := less_ks (D := D) i (by omega)
    rw [take_r (show i < D.rules.length by omega), ks_snoc]
    unfold lessL
    cases hf : fol D i with
    | true =>
      rw [if_pos rfl, ih]
      rw [fol_ks, List.all_eq_true] at hf
      symm
      rw [List.filter_eq_self]
      exact hf
    | false =>
      rw [if_neg (by decide), ks_snoc, ih]
theorem lessL_sub (D : Fam) : ∀ i, i ≤ D.rules.length → List.Sublist (lessL D i) (D.rules.take i)
  | 0, _ => List.nil_sublist _
  | i + 1, h => by
    have ih := lessL_sub D i (by omega)
    rw [take_r (show i < D.rules.length by omega)]
    unfold lessL
    split
    · exact ih.trans (List.sublist_append_left _ _)
    · exact ih.append (List.Sublist.refl _)
/-- What stands at the law's place: the next redundant rule. -/
theorem redL_at {D : Fam} (n : Nat) : ∀ d i, i + d = n → ∃ t, redL D n = redL D i ++ t ∧ ∀ x ∈ t, (i : Int) ≤ x
  | 0, i, h => ⟨[], by rw [List.append_nil, show i = n by omega], fun x hx => by simp at hx⟩
  | d + 1, i, h => by
    obtain ⟨t, h1, h2⟩ := redL_at (D := D) n d (i + 1) (by omega)
    rw [h1]
    simp only [redL]
    split
    · exact ⟨(i : Int) :: t, by simp, fun x hx => by
        rcases List.mem_cons.1 hx with hx | hx
        · omega
        · have := h2 x hx; omega⟩
    · exact ⟨t, rfl, fun x hx => by have := h2 x hx; omega⟩
theorem redL_is {D : Fam} {n i : Nat} (h : i < n) : (decide ((redL D i).length < (redL D n).length) && (rd (redL D n) ((redL D i).length : Nat) == (i : Int))) = fol D i := by
  obtain ⟨t, h1, h2⟩ := redL_at (D := D) n (n - (i + 1)) (i + 1) (by omega)
  cases hf : fol D i with
  | true =>
    have e : redL D (i + 1) = redL D i ++ [(i : Int)] := by simp only [redL]; rw [if_pos hf]
    rw [h1, e]
    have hlt : (redL D i).length < (redL D i ++ [(i : Int)] ++ t).length := by simp
    rw [decide_eq_true hlt, Bool.true_and, rd_get hlt]
    simp
  | false =>
    have e : redL D (i + 1) = redL D i := by simp only [redL]; rw [if_neg (by rw [hf]; decide)]
    rw [h1, e]
    cases t with
    | nil => simp
    | cons x t =>
      have hlt : (redL D i).length < (redL D i ++ x :: t).length := by simp
      rw [decide_eq_true hlt, Bool.true_and, rd_get hlt]
      have hx := h2 x (List.mem_cons_self)
      simp
      omega
end Go.Proofs.Ytbnmdlnpfikkcaa.PX
/- Redundant: what it returns. -/
namespace Go.Proofs.Ytbnmdlnpfikkcaa.PX
open Go.RowKit Go.Proofs.YtbnmdlnpfikkcaaW.PrintWords Go.Proofs.YtbnmdlnpfikkcaaW.PrintLast Go.Proofs.YtbnmdlnpfikkcaaW.PrintMore
set_option linter.unusedVariables false
set_option linter.unusedSimpArgs false
theorem c_take {α : Type} {k : Kd α} {w : World} {A : Option Addr} {xs : List α} {m : Nat} (h : k.C w A xs.length xs) (hm : m ≤ xs.length) : k.C w A (xs.take m).length (xs.take m) := by
  have hl : (xs.take m).length = m := by rw [List.length_take]; omega
  refine ⟨rfl, by rw [hl]; have := h.2.1; omega, fun hp => ?_⟩
  obtain ⟨ad, e, hc⟩ := h.2.2 (by omega)
  refine ⟨ad, e, fun j p hj => hc j p ?_⟩
  rw [List.getElem?_take] at hj
  split at hj
  · exact hj
  · cases hj
set_option maxHeartbeats 1000000 in
set_option maxRecDepth 100000 in
theorem red_calls (D : Fam) (H : Hd) (w : World) (HF : FamAt w D H) (hck : chk D = 0) :
    Calls Try.prog 28 #[fv D H] w fun e w' => ∃ A c L, e = .returned (.tuple #[.slice A L.length c, .int .i64 0]) ∧ L = redL D D.rules.length ∧ L.length ≤ c ∧ Kd.C (Kd.int .i64) w' A L.length L ∧ Below w.heap.size w w' := by
  have hu41 := Try.underlying41
  have hu70 := Try.underlying70
  unfold fv
  have hok := chk_ok hck
  have hdist := chk_dist hck
  have HOK := Aside0.mk hok
  have H48 := Aside0.mk hdist.2
  have HB0 : Aside0 (Below w.heap.size w (w.alloc (.cells (fcells D H) 41))) := ⟨below_alloc (Below.refl _ _) _⟩
  have HK0 := Aside0.mk (heap_alloc_new w (.cells (fcells D H) 41))
  have CK := Lib.hid (fun W (hW : Below w.heap.size w W) => (check_calls D H W (HF.below hW)).mono (fun e w' h => (⟨by rw [h.1, hck], h.2⟩ : e = .returned (.int .i64 0) ∧ Below W.heap.size W w')))
  have HFA := Aside0.mk HF
  clear HF hok hdist hck
  unfold fcells at HB0 HK0
  go_enter Try.func28, Try.ntmps28
  go_wp2_with fail
  refine (CK.out _ HB0.out).mono ?_
  rintro e w2 ⟨rfl, hb⟩
  have HB2 := Aside0.mk (below_step HB0.out hb)
  have HK2 := Aside0.mk (blk_below HK0.out hb)
  clear hb CK HB0 HK0
  obtain ⟨k0, k1, k2, k3, k4, k5, k6, k7, k8, k9⟩ := box_cells HK2.out
  go_wp2_with fail
  clear k0 k1 k2 k3 k4 k5 k6 k7 k8 k9
  go_loopg [17, 5] D.rules.length (fun gk v17 v5 w' => ∃ i : Nat, v17 = .int .i64 (i : Int) ∧ Aside0 (i ≤ D.rules.length) ∧ Aside0 (D.rules.length - i ≤ gk) ∧ Aside0 (Below w2.heap.size w2 w') ∧ Aside0 (Kd.R (Kd.int .i64) 3 w' w2.heap.size (fun _ => True) v5 (redL D i)))
  case atStart => exact ⟨0, rfl, ⟨Nat.zero_le _⟩, ⟨Nat.sub_le _ _⟩, ⟨Below.refl _ _⟩, ⟨Kd.R_nil _ _ _ _ _⟩⟩
  case round =>
    obtain ⟨i, rfl, HI, HG, HB, HR⟩ := hrel
    by_cases hi : i < D.rules.length
    · have q0 : decide ((i : Int) < (D.rules.length : Int)) = true := by simpa using hi
      have q1 : decide (i < D.rules.length) = true := by simpa using hi
      have p0 : 0 ≤ (i : Int) := by omega
      have p1 : (i : Int) < (D.rules.length : Int) := by omega
      have hi48 : i < 48 := by have := H48.out; omega
      obtain ⟨ad, A1, c1, hA, hx0, hx1, hl1, hc1⟩ := at_T70 (Kd.C_below HFA.out.r7 (below_step HB2.out HB.out)) (i : Int) p0 p1
      rw [Int.toNat_natCast] at hx0 hx1
      have hC7 := c_take (Kd.C_below HFA.out.r7 (below_step HB2.out HB.out)) (show i ≤ D.rules.length by omega)
      have hlk : (D.rules.take i).length = i := by rw [List.length_take]; omega
      have hlc := HFA.out.l7
      have hun := redL_length D i
      have hlok : LitsOk (rd_T70 D.rules (i : Int)).f1 := by rw [rd70_in hi]; exact HOK.out.rules _ (List.getElem_mem hi)
      obtain ⟨r, hr⟩ : ∃ r, r = rd_T70 D.rules (i : Int) := ⟨_, rfl⟩
      rw [← hr] at hx0 hx1 hl1 hc1 hlok
      have HRR := Aside0.mk hr
      clear hr
      go_upto_region 9 with (fail)
      have HAA := Aside0.mk hA
      clear hA
      obtain ⟨wa, hwa⟩ : ∃ wa, wa = wr.alloc (.cells #[.string r.f0, .slice A1 r.f1.length c1] 70) := ⟨_, rfl⟩
      have hsz : wa.heap.size = wr.heap.size + 1 := by rw [hwa]; simp
      have hra : wa.heap[wr.heap.size]? = some (.cells #[.string r.f0, .slice A1 r.f1.length c1] 70 (0, 0)) := by rw [hwa]; exact heap_alloc_new _ _
      have hba : Below wr.heap.size wr wa := by rw [hwa]; exact below_alloc (Below.refl _ _) _
      rw [← hwa]
      have HC7 := Aside0.mk (Kd.C_below hC7 hba)
      have HRA := Aside0.mk hra
      have HBA := Aside0.mk hba
      have HCR := Aside0.mk (Kd.C_below hc1 hba)
      have HLR := Aside0.mk hl1
      have HLO := Aside0.mk hlok
      have HSZ := Aside0.mk hsz
      have HKA := Aside0.mk (blk_alloc (blk_below HK2.out (below_step HB.out hba)) (.cells #[.bool true] 4))
      have HFE : Aside0 (runV (fun (_ : Bool) c => satR c r) (fun _ c => satR c r) true (down D.opts.length [] (D.rules.take i) (2 ^ D.opts.length)) = fol D i) := ⟨by rw [runV_follow, HRR.out]; rfl⟩
      have HRT : Aside0 (RulesOk (D.rules.take i)) := ⟨fun x hx => HOK.out.rules x (List.mem_of_mem_take hx)⟩
      have HBw := Aside0.mk (below_step HB.out hba)
      have HRw := Aside0.mk (Kd.R_below HR.out hba)
      have hcap : i ≤ H.c7 := by omega
      have hcap2 : (i : Int) ≤ (H.c7 : Int) := by omega
      rw [hlk] at HC7
      clear hwa hsz hra hba hC7 hx0 hx1 hl1 hc1 hlok hlc
      have hlt7 : (D.rules.take i).length ≤ H.c7 := by rw [hlk]; exact hcap
      have HC7r : Aside0 (Kd.C k70 wa H.A7 (D.rules.take i).length (D.rules.take i)) := ⟨by rw [hlk]; exact HC7.out⟩
      have HINI : Aside0 (((wa.alloc (.cells #[.bool true] 4)).drew).heap[wr.heap.size + 1]? = some (.cells #[.bool true] 4 (0, 0))) := ⟨by rw [← HSZ.out]; exact heap_alloc_new wa _⟩
      have HST : Aside0 (∀ (s : Bool) (c : Nat) (W : World), c < 4096 → Below wa.heap.size wa W → W.heap[wr.heap.size + 1]? = some (.cells #[.bool s] 4 (0, 0)) → Calls Try.prog 52 (#[.int .u64 (c : Int)] ++ #[.pointer (some ⟨wr.heap.size, 0, none⟩), .pointer (some ⟨wr.heap.size + 1, 0, none⟩)]) W fun e W' => e = .returned (.bool (satR c r)) ∧ Below wa.heap.size wa W' ∧ W'.heap[wr.heap.size + 1]? = some (.cells #[.bool (satR c r)] 4 (0, 0))) := ⟨fun s c W hc hbW hInv =>
        (red1 wr.heap.size (wr.heap.size + 1) c r A1 c1 (.bool s) W hc (blk_below HRA.out hbW) hInv (Kd.C_below HCR.out hbW) HLR.out HLO.out).mono (fun e W' h => by
          obtain ⟨he, w1, hb1, hw⟩ := h
          subst hw
          exact ⟨he, (below_step hbW hb1).setCell (by rw [HSZ.out]; exact Nat.le_refl _) _, (blk_set (blk_below hInv hb1) 0 _).trans rfl⟩)⟩
      have CV : Aside0 (Calls Try.prog 39 #[.agg #[.string D.nm, .slice H.A1 D.parts.length H.c1, .slice H.A2 D.insts.length H.c2, .slice H.A3 D.dims.length H.c3, .slice H.A4 D.cons.length H.c4, .slice H.A5 D.reqs.length H.c5, .slice H.A6 D.opts.length H.c6, .slice H.A7 D.rules.length H.c7, .slice H.A8 D.guards.length H.c8, .slice H.A9 D.overs.length H.c9], .slice none 0 0, .slice H.A7 i H.c7, .func (.func 52) #[] #[.pointer (some ⟨wr.heap.size, 0, none⟩), .pointer (some ⟨wr.heap.size + 1, 0, none⟩)]] ((wa.alloc (.cells #[.bool true] 4)).drew) (fun e W' => e = .returned (.tuple #[]) ∧ Below wa.heap.size wa W' ∧ W'.heap[wr.heap.size + 1]? = some (.cells #[.bool (fol D i)] 4 (0, 0)))) := ⟨by
        have h := visit_calls (fun (_ : Bool) c => satR c r) (fun _ c => satR c r) (fun s W => W.heap[wr.heap.size + 1]? = some (.cells #[.bool s] 4 (0, 0))) 52 #[.pointer (some ⟨wr.heap.size, 0, none⟩), .pointer (some ⟨wr.heap.size + 1, 0, none⟩)] enters52 D H none 0 [] H.A7 H.c7 (D.rules.take i) wa ((wa.alloc (.cells #[.bool true] 4)).drew) true HOK.out.opts (Kd.C_nil _ _) (Nat.le_refl _) HC7r.out hlt7 (fun x hx => absurd hx (by simp)) HRT.out (below_drew (below_alloc (Below.refl _ _) _)) HINI.out (fun s W W' _ h1 h2 => blk_below h1 h2) HST.out
        rw [hlk, HFE.out] at h
        exact h⟩
      clear hlk
      go_cut [] (fun wq => Aside0 (Below wa.heap.size wa wq) ∧ Aside0 (wq.heap[wr.heap.size + 1]? = some (.cells #[.bool (fol D i)] 4 (0, 0))))
      case first =>
        obtain ⟨k0, k1, k2, k3, k4, k5, k6, k7, k8, k9⟩ := box_cells HKA.out
        go_region_with (go_at_call 39; refine CV.out.mono ?_; rintro e w3 ⟨rfl, hb3, hi3⟩; have HB3 := Aside0.mk hb3; have HI3 := Aside0.mk hi3; clear hb3 hi3)
        all_goals
          go_wp2_with fail
          go_meet
          case rel => exact ⟨HB3, HI3⟩
      case rest =>
        obtain ⟨HBq, HIq⟩ := hcut
        have kq : wc.cell? ⟨wr.heap.size + 1, 0, none⟩ = some (.bool (fol D i)) := (blk_cell HIq.out 0).trans rfl
        have HBz := Aside0.mk (below_step HBw.out HBq.out)
        have HRz := Aside0.mk (Kd.R_below HRw.out HBq.out)
        cases hf : fol D i with
        | true =>
          have HY : Aside0 (redL D (i + 1) = redL D i ++ [(i : Int)]) := ⟨by simp only [redL]; rw [if_pos hf]⟩
          rw [hf] at kq
          clear hf
          go_wp2_with ((with_reducible refine gate_builtin (b := .append) (xs := #[.tmp 30, .tmp 32]) rfl ?_); at_builtin; refine Kd.R_append (Kd.int .i64) (w0 := w2) w2.heap.size rfl (.tmp 30) (.tmp 32) 50 3 (.int .i64 0) 8 rfl Try.underlying50 info3 rfl (by decide) (by decide) u5 (redL D i) (i : Int) [.int .i64 (i : Int)] (fun _ => True) (fun _ => False) rfl rfl ?aP (fun _ hk => hk.elim) ?aF ?aO ?aB ?aS ?aL ?_; (case aP => exact rfl); (case aB => exact HBz.out); (case aF => exact (fun _ _ => trivial)); (case aO => exact HRz.out); (case aS => exact HBz.out.size); (case aL => omega); intro v1 w7 ho hb hg hat)
          go_roundg (D.rules.length - (i + 1))
          case measure => have := HG.out; omega
          case rel => exact ⟨i + 1, by go_num, ⟨hi⟩, ⟨Nat.le_refl _⟩, ⟨hb⟩, ⟨by rw [HY.out]; exact ho⟩⟩
        | false =>
          have HY : Aside0 (redL D (i + 1) = redL D i) := ⟨by simp only [redL]; rw [if_neg (by rw [hf]; decide)]⟩
          rw [hf] at kq
          clear hf
          go_wp2_with fail
          go_roundg (D.rules.length - (i + 1))
          case measure => have := HG.out; omega
          case rel => exact ⟨i + 1, by go_num, ⟨hi⟩, ⟨Nat.le_refl _⟩, HBz, ⟨by rw [HY.out]; exact HRz.out⟩⟩
    · have q0 : decide ((i : Int) < (D.rules.length : Int)) = false := by simpa using hi
      have q1 : decide (i < D.rules.length) = false := by simpa using hi
      have hin : i = D.rules.length := by have := HI.out; omega
      rw [hin] at HR
      obtain ⟨A1, c1, hv1, hc1, hC1⟩ := Kd.R_reads HR.out
      subst hv1
      go_wp2_with fail
      go_ret2
      exact ⟨A1, c1, redL D D.rules.length, rfl, rfl, hc1, hC1, below_step HB2.out HB.out⟩
end Go.Proofs.Ytbnmdlnpfikkcaa.PX
/- Redundant's law: what its regions want. -/
namespace Go.Proofs.Ytbnmdlnpfikkcaa.PX
open Go.RowKit Go.Proofs.YtbnmdlnpfikkcaaW.PrintWords Go.Proofs.YtbnmdlnpfikkcaaW.PrintLast Go.Proofs.YtbnmdlnpfikkcaaW.PrintMore
set_option linter.unusedVariables false
set_option linter.unusedSimpArgs false
/-- A family stored over a zero one. -/
theorem put_fam {w0 w : World} {D : Fam} {H : Hd} {g : Nat} (hb : Below w0.heap.size w0 w) (hg : w0.heap.size ≤ g) (hz : w.heap[g]? = some (.cells zeroC 41 (0, 0))) :
    (((((((((((w.setCell ⟨g, 0, none⟩ (.string D.nm)).setCell ⟨g, 1, none⟩ (.slice H.A1 D.parts.length H.c1)).setCell ⟨g, 2, none⟩ (.slice H.A2 D.insts.length H.c2)).setCell ⟨g, 3, none⟩ (.slice H.A3 D.dims.length H.c3)).setCell ⟨g, 4, none⟩ (.slice H.A4 D.cons.length H.c4)).setCell ⟨g, 5, none⟩ (.slice H.A5 D.reqs.length H.c5)).setCell ⟨g, 6, none⟩ (.slice H.A6 D.opts.length H.c6)).setCell ⟨g, 7, none⟩ (.slice H.A7 D.rules.length H.c7)).setCell ⟨g, 8, none⟩ (.slice H.A8 D.guards.length H.c8)).setCell ⟨g, 9, none⟩ (.slice H.A9 D.overs.length H.c9))).heap[g]? = some (.cells (gcells D H (.slice H.A7 D.rules.length H.c7)) 41 (0, 0)) ∧ Below w0.heap.size w0 (((((((((((w.setCell ⟨g, 0, none⟩ (.string D.nm)).setCell ⟨g, 1, none⟩ (.slice H.A1 D.parts.length H.c1)).setCell ⟨g, 2, none⟩ (.slice H.A2 D.insts.length H.c2)).setCell ⟨g, 3, none⟩ (.slice H.A3 D.dims.length H.c3)).setCell ⟨g, 4, none⟩ (.slice H.A4 D.cons.length H.c4)).setCell ⟨g, 5, none⟩ (.slice H.A5 D.reqs.length H.c5)).setCell ⟨g, 6, none⟩ (.slice H.A6 D.opts.length H.c6)).setCell ⟨g, 7, none⟩ (.slice H.A7 D.rules.length H.c7)).setCell ⟨g, 8, none⟩ (.slice H.A8 D.guards.length H.c8)).setCell ⟨g, 9, none⟩ (.slice H.A9 D.overs.length H.c9))) ∧ ∀ k, k ≠ g → (((((((((((w.setCell ⟨g, 0, none⟩ (.string D.nm)).setCell ⟨g, 1, none⟩ (.slice H.A1 D.parts.length H.c1)).setCell ⟨g, 2, none⟩ (.slice H.A2 D.insts.length H.c2)).setCell ⟨g, 3, none⟩ (.slice H.A3 D.dims.length H.c3)).setCell ⟨g, 4, none⟩ (.slice H.A4 D.cons.length H.c4)).setCell ⟨g, 5, none⟩ (.slice H.A5 D.reqs.length H.c5)).setCell ⟨g, 6, none⟩ (.slice H.A6 D.opts.length H.c6)).setCell ⟨g, 7, none⟩ (.slice H.A7 D.rules.length H.c7)).setCell ⟨g, 8, none⟩ (.slice H.A8 D.guards.length H.c8)).setCell ⟨g, 9, none⟩ (.slice H.A9 D.overs.length H.c9))).heap[k]? = w.heap[k]? := by
  have h1 : (w.setCells g 0 (fcells D H).toList).heap[g]? = _ := laid_block (cs := fcells D H) hz rfl
  obtain ⟨s1, s2, s3, s4⟩ := setCells_same g (fcells D H).toList 0 w
  have hfar : ∀ k, k ≠ g → (w.setCells g 0 (fcells D H).toList).heap[k]? = w.heap[k]? := fun k hk => setCells_far _ 0 k hk
  exact ⟨h1, ⟨s1.trans hb.os, s2.trans hb.tape, s3.trans hb.output, Nat.le_trans hb.size (Nat.le_of_eq s4.symm), fun k hk => (hfar k (by omega)).trans (hb.block k hk)⟩, hfar⟩
section
open Go.Proofs.YtbnmdlnpfikkcaaW.PrintWords.Kd
variable {P : Program} {ops : Array Oper} {o : Oper} {a : Act} {Q : Exit → Act → World → Prop} {Kc : Act → World → Prop} {α : Type}
theorem r_append_rows_step (d : Kd α) {Rr : α → List Value → Prop} {w0 W : World} (base : Nat) (hw : Region.wanted o (yielded ops a.tmps) = true) (s x : Operand) (t e : TypeId) (z : Value) (bytes : Nat)
    (ho : o.op = .call { callee := .builtin .append, args := #[s, x], argTypes := #[t, t] })
    (ht : P.underlying t = some (.slice e)) (hinfo : (P.info? e).map (fun i => (i.zero, i.size, i.bytes)) = some (some z, d.sz, bytes)) (hz : z.cells.size = d.sz) (hs0 : 0 < d.sz) (hb0 : 0 < bytes)
    (v : Value) (xs ys : List α) (A : Option Addr) (m c : Nat) (ok okp : Nat → Prop) (hs : a.eval s = v) (hx : a.eval x = .slice A m c)
    (HO : d.R e W base ok v xs) (HR : ReadsRow Rr d.sz W A m ys) (hKM : ∀ x cs, Rr x cs → d.M W base okp x cs) (hokp : ∀ k, okp k → ok k ∧ some k ≠ v.ownBlock) (hfresh : ∀ k, W.heap.size ≤ k → ok k)
    (HB : Below base w0 W) (hbase : base ≤ W.heap.size) (hl : (xs.length + m) * bytes ≤ 140737488355328)
    (h : ∀ v1 w1, d.R e w1 base ok v1 (xs ++ ys) → Below base w0 w1 → W.grownBy w1 v.ownBlock → (v1.ownBlock = v.ownBlock ∨ ∃ b, v1.ownBlock = some b ∧ W.heap.size ≤ b) → Kc (a.put o.dst v1) w1) :
    if Region.wanted o (yielded ops a.tmps) = true then Oper.wp P o a W Kc Q else Kc (a.put o.dst undef) W := by
  obtain ⟨i0, hi, hzz⟩ := Option.map_eq_some_iff.1 hinfo
  simp only [Prod.mk.injEq] at hzz
  obtain ⟨hz0, hz1, hz2⟩ := hzz
  have hm : ys.length = m := HR.1
  have hlen : xs.length + m ≤ 140737488355328 := Nat.le_trans (Nat.le_mul_of_pos_right _ hb0) hl
  obtain ⟨hok, inner, hown, hr⟩ := HO
  have hrun : ∃ v1 w1, (Builtin.append_ #[t, t] o.type #[v, .slice A m c]).run P W = .ok v1 w1 ∧ d.R e w1 base ok v1 (xs ++ ys) ∧ W.grownBy w1 v.ownBlock ∧ (v1.ownBlock = v.ownBlock ∨ ∃ b, v1.ownBlock = some b ∧ W.heap.size ≤ b) := by
    rcases A with _ | ad
    · have h0 : m = 0 := by
        rcases Nat.eq_zero_or_pos m with h0 | h0
        · exact h0
        · obtain ⟨ad, h, _⟩ := HR.2.2 h0
          cases h
      subst h0
      obtain rfl : ys = [] := List.eq_nil_of_length_eq_zero hm
      refine ⟨v, W, ?_, by rw [List.append_nil]; exact ⟨hok, inner, hown, hr⟩, World.grownBy.refl W _, .inl rfl⟩
      rcases hown.2 with ⟨rfl, hn⟩ | ⟨g, cap, cur, rfl, _, _, hnc, _⟩
      · simp [Builtin.append_, run_underlying ht, sizeOf, typeInfo, hi, Builtin.lenOf, Builtin.firstCells]
      · simp [Builtin.append_, run_underlying ht, sizeOf, typeInfo, hi, Builtin.lenOf, Builtin.firstCells, hnc, storeCells]
    · obtain ⟨news, hnr, hnc⟩ := ReadsRow.inner_ HR
      have hnM : Reps (d.M W base okp) d.sz ys news := hnr.imp_ (fun p c hp => hKM p c hp)
      have hone : ∀ u ∈ news, u.oneCell' = true := by
        intro u hu
        obtain ⟨q, hq, rfl⟩ := List.mem_iff_getElem.1 hu
        have hql : q / d.sz < ys.length := by
          rw [Nat.div_lt_iff_lt_mul hs0]
          rw [← hnM.1]
          exact hq
        have hc := hnM.2 (q / d.sz) _ (List.getElem?_eq_getElem hql)
        refine d.K_one (d.K_of_M hc) _ ?_
        rw [List.mem_iff_getElem?]
        refine ⟨q % d.sz, ?_⟩
        rw [List.getElem?_take, if_pos (Nat.mod_lt _ hs0), List.getElem?_drop, Nat.mul_comm, Nat.div_add_mod, List.getElem?_eq_getElem hq]
      obtain ⟨v1, w1, hrun, h2, hg, _, hat⟩ := run_append_own_at (P := P) W base t o.type e i0 z d.sz bytes ht hi hz0 hz1 hz2 hz hs0 v xs.length inner hown ad m c news (by rw [hnM.1, hm]) hnc hone (by simp only [maxLen]; omega) hl hbase
      have hat' : v1.ownBlock = v.ownBlock ∨ ∃ b, v1.ownBlock = some b ∧ W.heap.size ≤ b := by
        rcases hat with hat | hat
        · exact .inl hat
        · exact .inr ⟨_, hat, Nat.le_refl _⟩
      have hne : ∀ k, some k ≠ v.ownBlock → k < W.heap.size → some k ≠ v1.ownBlock := by
        intro k hk hlt
        rcases hat' with hat | ⟨b, hb, hle⟩
        · rw [hat]; exact hk
        · rw [hb]
          intro he
          injection he with he
          omega
      have step : ∀ {q : α} {c : List Value} {o : Nat → Prop}, d.M W base o q c → (∀ k, o k → ok k ∧ some k ≠ v.ownBlock) → d.M w1 base (fun k => ok k ∧ some k ≠ v1.ownBlock) q c := by
        intro q c o hq ho
        have h1 := d.M_move (w1 := w1) (fun k hk => hg.block k hk.2.2.1 (ho k hk.1).2) (d.M_bound hq)
        exact d.M_mono (fun k hk => ⟨(ho k hk.1).1, hne k (ho k hk.1).2 hk.2.2.1⟩) h1
      refine ⟨v1, w1, hrun, ⟨fun k hk => ?_, inner ++ news, by rw [List.length_append, hm]; exact h2, reps_append (hr.imp_ (fun _ _ hq => step hq (fun _ hk => hk))) (hnM.imp_ (fun _ _ hq => step hq hokp))⟩, hg, hat'⟩
      rcases hat' with hat | ⟨b, hb, hle⟩
      · exact hok k (hat ▸ hk)
      · rw [hb] at hk
        injection hk with hk
        exact hfresh k (by omega)
  obtain ⟨v1, w1, hr1, h1, hg, hat⟩ := hrun
  rw [if_pos hw]
  unfold Oper.wp execOp
  simp only [ho, resolve, invoke, builtin, Sem.run_bind, Sem.run_pure, Result.andThen_ok, List.map_toArray, List.map_cons, List.map_nil, hs, hx, hr1]
  exact h v1 w1 h1 (HB.grown hg hbase (own_base hown)) hg hat
theorem n_append_rows_step (d : Kd α) {w0 W : World} (base : Nat) (hw : Region.wanted o (yielded ops a.tmps) = true) (s x : Operand) (t e : TypeId) (z : Value) (bytes : Nat)
    (ho : o.op = .call { callee := .builtin .append, args := #[s, x], argTypes := #[t, t] })
    (ht : P.underlying t = some (.slice e)) (hinfo : (P.info? e).map (fun i => (i.zero, i.size, i.bytes)) = some (some z, d.sz, bytes)) (hz : z.cells.size = d.sz) (hs0 : 0 < d.sz) (hb0 : 0 < bytes)
    (v : Value) (xs ys : List α) (A : Option Addr) (m c : Nat) (ok okp : Nat → Prop) (hs : a.eval s = v) (hx : a.eval x = .slice A m c)
    (HO : N d e W base ok v xs) (HR : F d W okp A m ys) (hokp : ∀ k, okp k → ok k ∧ some k ≠ v.ownBlock) (hfresh : ∀ k, W.heap.size ≤ k → ok k)
    (HB : Below base w0 W) (hbase : base ≤ W.heap.size) (hl : (xs.length + m) * bytes ≤ 140737488355328)
    (h : ∀ v1 w1, N d e w1 base ok v1 (xs ++ ys) → Below base w0 w1 → W.grownBy w1 v.ownBlock → (v1.ownBlock = v.ownBlock ∨ ∃ b, v1.ownBlock = some b ∧ W.heap.size ≤ b) → Kc (a.put o.dst v1) w1) :
    if Region.wanted o (yielded ops a.tmps) = true then Oper.wp P o a W Kc Q else Kc (a.put o.dst undef) W := by
  obtain ⟨h0, rows, hlr, hR, hf⟩ := HO
  obtain ⟨news, hnl, hnr, hnf⟩ := reads_raw (F_rows HR) (fun y c hk => ⟨d.K_len (FK_now hk), d.K_one (FK_now hk)⟩)
  refine r_append_rows_step (raw d.sz) base hw s x t e z bytes ho ht hinfo hz hs0 hb0 v rows news A m c (fun _ => True) (fun _ => False) hs hx (raw_any hR) hnr (fun _ _ hk => hk) (fun _ hk => hk.elim) (fun _ _ => trivial) HB hbase (by rw [hlr]; exact hl) ?_
  intro v1 w1 hr hb hg hat
  exact h v1 w1 (N_appended h0 hlr hf hnl hnf hokp hfresh hr hg hat) hb hg hat
end
theorem rule_row {W : World} {g base : Nat} {r : S70} {A1 : Option Addr} {c1 : Nat} (hf : Kd.FK k70 W (fun k => k < base) r [.string r.f0, .slice A1 r.f1.length c1]) (hg : W.heap[g]? = some (.cells #[.string r.f0, .slice A1 r.f1.length c1] 70 (0, 0))) : Kd.F k70 W (fun k => k < base ∨ k = g) (some ⟨g, 0, none⟩) 1 [r] := by
  intro W' hW
  have h1 : W'.heap[g]? = some (.cells #[.string r.f0, .slice A1 r.f1.length c1] 70 (0, 0)) := (hW g (Or.inr rfl) (blk_lt hg)).trans hg
  have h2 : k70.K W' r [.string r.f0, .slice A1 r.f1.length c1] := hf W' (fun k hk hl => hW k (Or.inl hk) hl)
  exact row_cells k70 h1 (show 1 ≤ 9223372036854775807 by decide) fun j p hj => by
    cases j with
    | zero =>
      simp only [List.getElem?_cons_zero, Option.some.injEq] at hj
      subst hj
      exact ⟨_, rfl, h2, fun i u hu => by simpa using hu⟩
    | succ j => simp at hj
theorem small_less {D : Fam} (h : Small D) {rs : List S70} (hs : List.Sublist rs D.rules) : Small { D with rules := rs } := ⟨fun r hr => h.pos r (hs.subset hr), Nat.lt_of_le_of_lt hs.length_le h.rules⟩
theorem allowed_less (D : Fam) (a b : Nat) : allowedL { D with rules := lessL D D.rules.length } (List.replicate a false) [] = allowedL D (List.replicate b false) [] := by
  unfold allowedL
  rw [kept_none, kept_none]
  show (ks D.opts.length [] (lessL D D.rules.length)).map _ = _
  rw [less_ks _ (Nat.le_refl _), List.take_length]
theorem allowedL_len (D : Fam) (a : Nat) (h6 : D.opts.length ≤ 6) : (allowedL D (List.replicate a false) []).length < 3000 := by
  unfold allowedL
  rw [List.length_map]
  have := ks_len64 D.opts.length [] (kept D.rules (List.replicate a false)) h6
  omega
end Go.Proofs.Ytbnmdlnpfikkcaa.PX
/- The laws' arguments, opened: a description, a choice, a list of small numbers. -/
namespace Go.Proofs.Ytbnmdlnpfikkcaa.PX
open Go.ChangeShapes Go.WideShapes Go.RowKit Go.Proofs.YtbnmdlnpfikkcaaW.PrintWords Go.Proofs.YtbnmdlnpfikkcaaW.PrintLast Go.Proofs.YtbnmdlnpfikkcaaW.PrintMore
set_option linter.unusedVariables false
set_option linter.unusedSimpArgs false
theorem wf_i8 {n : Int} (h : (Lit.int .i8 n).wf = true) : -128 ≤ n ∧ n ≤ 127 := by
  simp [Lit.wf, IntKind.min, IntKind.max, IntKind.bits, IntKind.signed] at h
  omega
theorem wf_u8 {n : Int} (h : (Lit.int .u8 n).wf = true) : 0 ≤ n ∧ n ≤ 255 := by
  simp [Lit.wf, IntKind.min, IntKind.max, IntKind.bits, IntKind.signed] at h
  omega
theorem i8s_of {l : List Int} (h : ∀ n ∈ l, (Lit.int .i8 n).wf = true) : i8s l = true := by
  unfold i8s
  rw [List.all_eq_true]
  intro x hx
  simpa using wf_i8 (h x hx)
section
variable {H : Type} {enc : TypeId × Value → H} {w : World} {fuel : Nat} {v : Value} {x : DataW H × List MemPlace}
theorem rows_open (h : DataW.trod enc Try.prog w 0 (fun _ => true) true fuel 22 [v] = some x) : ∃ A R c, v = .slice A R.length c ∧ R.length ≤ c ∧ Kd.C (Kd.slice 95 (Kd.int .i8)) w A R.length R ∧ All8 R := by
  rcases Go.Deep.open_int_rows Try.underlying22 Try.underlying57 Try.underlying95 (by kernel_rfl) (by kernel_rfl) h with ⟨hcs, _⟩ | ⟨a, len, cap, A, L, C, Z, hcs, _, hl, hm, _, hr⟩
  · simp only [List.cons.injEq, and_true] at hcs
    exact ⟨none, [], 0, hcs, Nat.le_refl _, C_zero _ _ _, fun r hr => by cases hr⟩
  · simp only [List.cons.injEq, and_true] at hcs
    have hlen : ((List.range len).map fun r => (Z r).take (L r)).length = len := by simp
    refine ⟨some a, (List.range len).map fun r => (Z r).take (L r), cap, by rw [hlen]; exact hcs, by rw [hlen]; exact hl, ?_, ?_⟩
    · refine ⟨rfl, by rw [hlen]; exact Nat.le_trans hl hm, fun _ => ⟨a, rfl, fun j p hj => ?_⟩⟩
      have hjl : j < len := by have := (List.getElem?_eq_some_iff.1 hj).1; omega
      have hp : p = (Z j).take (L j) := by
        rw [List.getElem?_map, List.getElem?_range hjl] at hj
        simpa using hj.symm
      obtain ⟨h1, h2, h3, h4, h5, h6, h7⟩ := hr j (by omega)
      have hpl : p.length = L j := by rw [hp, List.length_take]; omega
      have hmx : maxLen = 9223372036854775807 := rfl
      refine ⟨[.slice (A j) (L j) (C j)], rfl, ⟨A j, C j, by rw [hpl], by rw [hpl]; exact h2, rfl, by omega, fun hpos => ?_⟩, fun i u hu => ?_⟩
      · cases hA : A j with
        | none => have := h6 hA; omega
        | some a' =>
          obtain ⟨_, hc⟩ := h7 a' hA
          refine ⟨a', rfl, fun i n hn => ⟨[.int .i8 n], rfl, rfl, fun q u hu => ?_⟩⟩
          have hil : i < p.length := (List.getElem?_eq_some_iff.1 hn).1
          rcases q with _ | q
          · simp only [List.getElem?_cons_zero, Option.some.injEq] at hu
            have e : (Kd.int .i8).sz = 1 := rfl
            rw [e, Nat.mul_one, Nat.add_zero, hc i (by omega), ← hu]
            congr 2
            rw [hp, List.getElem?_take, if_pos (by omega)] at hn
            rw [List.getD_eq_getElem?_getD, hn]
            rfl
          · simp at hu
      · rcases i with _ | i
        · simp only [List.getElem?_cons_zero, Option.some.injEq] at hu
          have e : (Kd.slice 95 (Kd.int .i8)).sz = 1 := rfl
          rw [e, Nat.mul_one, Nat.add_zero, h1, hu]
        · simp at hu
    · intro r hrm
      obtain ⟨j, hj, rfl⟩ := List.mem_map.1 hrm
      obtain ⟨_, _, _, _, h5, _, _⟩ := hr j (by have := List.mem_range.1 hj; omega)
      exact i8s_of fun n hn => h5 n (List.mem_of_mem_take hn)
theorem lits_open (h : DataW.trod enc Try.prog w 0 (fun _ => true) true fuel 25 [v] = some x) : ∃ A ch c, v = .slice A ch.length c ∧ ch.length ≤ c ∧ Kd.C k62 w A ch.length ch := by
  rcases Go.Deep.open_slice_pairs Try.underlying25 Try.underlying62 (by kernel_rfl) rfl rfl (by kernel_rfl) (by kernel_rfl) h with ⟨hcs, _⟩ | ⟨a, len, cap, m, n, V0, V1, D0, D1, P0, P1, hcs, _, hl, hm, hmm, _, hr⟩
  · simp only [List.cons.injEq, and_true] at hcs
    exact ⟨none, [], 0, hcs, Nat.le_refl _, C_zero _ _ _⟩
  · simp only [List.cons.injEq, and_true] at hcs
    have hlm : len ≤ m := by rw [hmm]; split <;> omega
    have each : ∀ i, i < len → ∃ q : Int × Bool, w.cell? (a.add (i * 2)) = some (.int .i64 q.1) ∧ w.cell? (a.add (i * 2 + 1)) = some (.bool q.2) := by
      intro i hi
      obtain ⟨h1, h2, h3, h4⟩ := hr i (by omega)
      obtain ⟨z, hz, _, _⟩ := DataW.trod_int Try.underlying3 h3
      obtain ⟨b, hb, _⟩ := DataW.trod_bool Try.underlying4 h4
      simp only [List.cons.injEq, and_true] at hz hb
      exact ⟨(z, b), by rw [h1, hz], by rw [h2, hb]⟩
    obtain ⟨q, hq⟩ := Go.Deep.choose_lt each
    have hlen : ((List.range len).map fun i => (⟨(q i).1, (q i).2⟩ : S62)).length = len := by simp
    refine ⟨some a, (List.range len).map fun i => ⟨(q i).1, (q i).2⟩, cap, by rw [hlen]; exact hcs, by rw [hlen]; exact hl, rfl, by rw [hlen]; exact Nat.le_trans hl hm, fun _ => ⟨a, rfl, fun j p hj => ?_⟩⟩
    have hjl : j < len := by have := (List.getElem?_eq_some_iff.1 hj).1; omega
    have hp : p = ⟨(q j).1, (q j).2⟩ := by
      rw [List.getElem?_map, List.getElem?_range hjl] at hj
      simpa using hj.symm
    obtain ⟨h1, h2⟩ := hq j hjl
    subst hp
    refine ⟨_, rfl, k62_mk w _, fun i u hu => ?_⟩
    have e : k62.sz = 2 := rfl
    rw [e]
    rcases i with _ | _ | i
    · simp only [List.getElem?_cons_zero, Option.some.injEq] at hu
      rw [← hu]
      exact h1
    · simp only [List.getElem?_cons_succ, List.getElem?_cons_zero, Option.some.injEq] at hu
      rw [← hu]
      exact h2
    · simp at hu
theorem i8s_open (h : DataW.trod enc Try.prog w 0 (fun _ => true) true fuel 57 [v] = some x) : ∃ A l c, v = .slice A l.length c ∧ l.length ≤ c ∧ Kd.C (Kd.int .i8) w A l.length l ∧ i8s l = true := by
  rcases open_ints Try.underlying57 Try.underlying95 (by kernel_rfl) h with ⟨hcs, _⟩ | ⟨a, len, cap, zs, hcs, _, hl, hm, hz, _, hcell, hwz⟩
  · simp only [List.cons.injEq, and_true] at hcs
    exact ⟨none, [], 0, hcs, Nat.le_refl _, C_zero _ _ _, rfl⟩
  · simp only [List.cons.injEq, and_true] at hcs
    simp only [if_true] at hz
    have hlen : (zs.take len).length = len := by rw [List.length_take]; omega
    have hmx : maxLen = 9223372036854775807 := rfl
    refine ⟨some a, zs.take len, cap, by rw [hlen]; exact hcs, by rw [hlen]; exact hl, ⟨rfl, by omega, fun _ => ⟨a, rfl, fun i n hn => ⟨[.int .i8 n], rfl, rfl, fun q u hu => ?_⟩⟩⟩, i8s_of fun n hn => hwz n (List.mem_of_mem_take hn)⟩
    have hil : i < len := by have := (List.getElem?_eq_some_iff.1 hn).1; omega
    rcases q with _ | q
    · simp only [List.getElem?_cons_zero, Option.some.injEq] at hu
      have e : (Kd.int .i8).sz = 1 := rfl
      rw [e, Nat.mul_one, Nat.add_zero, hcell i (by omega), ← hu]
      congr 2
      rw [List.getElem?_take, if_pos hil] at hn
      rw [List.getD_eq_getElem?_getD, hn]
      rfl
    · simp at hu
set_option maxRecDepth 100000 in
theorem kin_open {base : Nat} {d : DataW H} {p : List MemPlace} (hv : Value.okWide Try.prog w .any base 24 v) (h : DataW.Trod enc Try.prog w 0 (fun _ => true) true 24 v d p) :
    ∃ a R G O B1 B2 B3 d1 d2 d3, v = kinV a R G O B1 B2 B3 d1 d2 d3 ∧ 0 ≤ a ∧ a ≤ 255 ∧ KinAt w R G O B1 B2 B3 d1 d2 d3 := by
  obtain ⟨v0, v1, v2, v3, y0, y1, y2, y3, n, rfl, _, _, t0, t1, t2, t3⟩ := Go.Joins.open_agg4 Try.underlying24 (by kernel_rfl) (by kernel_rfl) hv h
  obtain ⟨a, h0, _, hw⟩ := DataW.trod_int Try.underlying5 t0
  simp only [List.cons.injEq, and_true] at h0
  subst h0
  obtain ⟨B1, R, d1, rfl, l1, c1, r1⟩ := rows_open t1
  obtain ⟨B2, G, d2, rfl, l2, c2, r2⟩ := rows_open t2
  obtain ⟨B3, O, d3, rfl, l3, c3, r3⟩ := rows_open t3
  obtain ⟨g0, g1⟩ := wf_u8 hw
  exact ⟨a, R, G, O, B1, B2, B3, d1, d2, d3, rfl, g0, g1, ⟨c1, l1, c2, l2, c3, l3, r1, r2, r3⟩⟩
end
end Go.Proofs.Ytbnmdlnpfikkcaa.PX
/- VariantRedundant: the walk. -/
namespace Go.Proofs.Ytbnmdlnpfikkcaa.PX
open Go.RowKit Go.Proofs.YtbnmdlnpfikkcaaW.PrintWords Go.Proofs.YtbnmdlnpfikkcaaW.PrintLast Go.Proofs.YtbnmdlnpfikkcaaW.PrintMore
set_option linter.unusedVariables false
set_option linter.unusedSimpArgs false
set_option maxRecDepth 100000 in
set_option maxHeartbeats 16000000 in
theorem law7 (a : Int) (R G O : List (List Int)) (B1 B2 B3 : Option Addr) (d1 d2 d3 : Nat) (w : World) (h0 : 0 ≤ a) (h255 : a ≤ 255) (hk : KinAt w R G O B1 B2 B3 d1 d2 d3) :
    Calls Try.prog 7 #[kinV a R G O B1 B2 B3 d1 d2 d3] w fun e w' => e = .returned (.bool true) ∧ Below w.heap.size w w' := by
  have hu41 := Try.underlying41
  unfold kinV
  have HK := Aside0.mk hk
  have HB0 := Aside0.mk ((Below.refl _ w).alloc (Nat.le_refl _) (.cells (kinC a R G O B1 B2 B3 d1 d2 d3) 24))
  have HK0 := Aside0.mk (heap_alloc_new w (.cells (kinC a R G O B1 B2 B3 d1 d2 d3) 24))
  clear hk
  go_enter Try.func7, Try.ntmps7
  go_wp2_with fail
  refine (known_calls _).mono ?_
  rintro e w2 ⟨rfl, hb⟩
  have HB2 := Aside0.mk (below_step HB0.out hb)
  have HK2 := Aside0.mk (blk_below HK0.out hb)
  clear hb
  go_upto_region 3 with (fail)
  go_cut [3] (fun v3 wc => ∃ g H, v3 = .pointer (some ⟨g, 0, none⟩) ∧ Aside0 (Laid w wc (famK a R G O) g H))
  case first =>
    obtain ⟨k0, k1, k2, k3⟩ := kin_cells HK2.out
    obtain ⟨a0, a1, a2, a3⟩ := kin_cells (blk_alloc HK2.out (.cells zeroC 41))
    unfold zeroC at a0 a1 a2 a3
    go_region_with (first
      | (go_at_call 13; refine (plain_ft _).mono ?_; rintro e w3 ⟨A1, A2, A3, A4, A5, c1, c2, c3, c4, c5, rfl, hbase, hb⟩; have hb2 := below_step (show Below w2.heap.size w2 _ from (by first | exact below_drew (Below.refl _ _) | exact below_alloc (below_drew (Below.refl _ _)) _)) hb; have HB3 := Aside0.mk (below_step HB2.out hb2); have HK3 := Aside0.mk (blk_below HK2.out hb2); obtain ⟨m0, m1, m2, m3⟩ := kin_cells HK3.out; obtain ⟨n0, n1, n2, n3⟩ := kin_cells (blk_alloc HK3.out (.cells zeroC 41)); unfold zeroC at n0 n1 n2 n3; have HBase := Aside0.mk hbase; have hs3 := hb.size; (try have HG3 := Aside0.mk (blk_below (show (w2.drew.alloc (.cells zeroC 41)).heap[w2.heap.size]? = _ from heap_alloc_new w2.drew (.cells zeroC 41)) hb)); clear hbase hb hb2)
      | (go_at_call 12; refine (fam_ft h0 h255 HK.out.a1 HK.out.a2 HK.out.a3 (HK.out.below (below_step HB3.out ?b1)).r1 HK.out.l1 (HK.out.below (below_step HB3.out ?b2)).r2 HK.out.l2 (HK.out.below (below_step HB3.out ?b3)).r3 HK.out.l3 (HBase.out.below ?b4)).mono ?_; (case b1 => first | exact Below.refl _ _ | exact below_alloc (Below.refl _ _) _); (case b2 => first | exact Below.refl _ _ | exact below_alloc (Below.refl _ _) _); (case b3 => first | exact Below.refl _ _ | exact below_alloc (Below.refl _ _) _); (case b4 => first | exact Below.refl _ _ | exact below_alloc (Below.refl _ _) _); rintro e w4 ⟨H, rfl, hF, hb⟩; unfold fv; have HB4 := Aside0.mk (below_step HB3.out (below_step (show Below w3.heap.size w3 _ from (by first | exact Below.refl _ _ | exact below_alloc (Below.refl _ _) _)) hb)); have HF4 := Aside0.mk hF; (first | (have HG4 := Aside0.mk (blk_below HG3.out hb); obtain ⟨z0, z1, z2, z3, z4, z5, z6, z7, z8, z9⟩ := zero_cells HG4.out; obtain ⟨y0, y1, y2, y3, y4, y5, y6, y7, y8, y9⟩ := zero_frozen HG4.out) | (have HG4 := Aside0.mk (blk_below (heap_alloc_new w3 (.cells zeroC 41)) hb); obtain ⟨z0, z1, z2, z3, z4, z5, z6, z7, z8, z9⟩ := zero_cells HG4.out; obtain ⟨y0, y1, y2, y3, y4, y5, y6, y7, y8, y9⟩ := zero_frozen HG4.out) | skip)))
    all_goals
      go_wp2_with fail
      go_meet
      case rel => first
        | (refine ⟨_, H, rfl, ⟨?_⟩⟩; (with_reducible exact laid_allocX HB4.out HF4.out))
        | (refine ⟨_, H, rfl, ⟨?_⟩⟩; (with_reducible refine laid_setX HB4.out HF4.out HB2.out.size HG4.out ?_); intro h; simp at h hs3; omega)
        | (refine ⟨_, H, rfl, ⟨?_⟩⟩; (with_reducible refine laid_setX HB4.out HF4.out HB3.out.size HG4.out ?_); intro h; simp at h hs3; omega)
  case rest =>
    obtain ⟨g, H, rfl, HL⟩ := hcut
    obtain ⟨hn1, hn6, _⟩ := nOf_ok h0 h255
    obtain ⟨D, hD⟩ : ∃ D, D = famK a R G O := ⟨_, rfl⟩
    have hDo : D.opts.length = nOf a := by rw [hD]; exact famK_opts a R G O
    have hDc : chk D = 0 := by rw [hD]; exact famK_chk R G O h0 h255
    have hDr : ∀ r ∈ D.rules, LitsIn D.opts.length r.f1 := by rw [hDo, hD]; exact famK_rules R G O
    have hDs : Small D := by rw [hD]; exact famK_small R G O h0 h255
    rw [← hD] at HL
    rw [← hDo] at hn1 hn6
    have HDc := Aside0.mk hDc
    have HDr := Aside0.mk hDr
    have HDs := Aside0.mk hDs
    clear hD hDo hDc hDr hDs
    have HKc := Aside0.mk HL.out.box
    have HFc := Aside0.mk HL.out.fam
    have HBc := Aside0.mk HL.out.low
    clear HL
    obtain ⟨k0, k1, k2, k3, k4, k5, k6, k7, k8, k9⟩ := box_cells HKc.out
    go_wp2_with fail
    refine (red_calls D H wc HFc.out HDc.out).mono ?_
    rintro e w5 ⟨Al, cl, L, rfl, hL, hcl, hCl, hb⟩
    have HB5 := Aside0.mk (below_step HBc.out hb)
    have HK5 := Aside0.mk (blk_below HKc.out hb)
    have HF5 := Aside0.mk (HFc.out.below hb)
    have HCL := Aside0.mk hCl
    have HLC := Aside0.mk hcl
    have HL := Aside0.mk hL
    clear hb hCl hcl hL k0 k1 k2 k3 k4 k5 k6 k7 k8 k9
    obtain ⟨k0, k1, k2, k3, k4, k5, k6, k7, k8, k9⟩ := box_cells HK5.out
    go_wp2_with fail
    go_cut [6, 7] (fun v6 v7 wq => ∃ b6 b7, v6 = .pointer (some ⟨b6, 0, none⟩) ∧ v7 = .pointer (some ⟨b7, 0, none⟩) ∧ Aside0 (b6 ≠ b7) ∧ Aside0 (w5.heap.size ≤ b6) ∧ Aside0 (w5.heap.size ≤ b7) ∧ Aside0 (Below w5.heap.size w5 wq) ∧ Aside0 (wq.heap[b6]? = some (.cells (gcells D H (.slice H.A7 D.rules.length H.c7)) 41 (0, 0))) ∧ Aside0 (wq.heap[b7]? = some (.cells (gcells D H (.slice H.A7 D.rules.length H.c7)) 41 (0, 0))))
    case first =>
      clear k0 k1 k2 k3 k4 k5 k6 k7 k8 k9
      refine start_ (n := 6) (S := fun w' => Below w5.heap.size w5 w') (ds := []) #[false, false, false, false, false, false] (by kernel_rfl) rfl rfl (below_drew (Below.refl _ _)) (fun hHeld => ?_)
      generalize w5.drew = w19 at hHeld ⊢
      refine take_ (i := 0) (N := some 27) (v := ?_) (a' := ?_) #[true, false, false, false, false, false] rfl rfl (by kernel_rfl) (fun _ _ _ h => h) (Or.inl ⟨by rfl, ?_⟩) hHeld ?_ ?_
      rotate_left
      · intro w' hS
        obtain ⟨k0, k1, k2, k3, k4, k5, k6, k7, k8, k9⟩ := box_cells (blk_below HK5.out hS)
        go_simp
        with_reducible rfl
      rotate_left
      · simp only [Act.put, List.setIfInBounds_toArray, List.set_cons_zero, List.set_cons_succ, i64_w, i32_w]
        rfl
      refine take_ (i := 1) (N := some 28) (v := ?_) (a' := ?_) #[true, true, false, false, false, false] rfl rfl (by kernel_rfl) (fun _ _ _ h => h) (Or.inl ⟨by rfl, ?_⟩) hHeld ?_ ?_
      rotate_left
      · intro w' hS
        obtain ⟨k0, k1, k2, k3, k4, k5, k6, k7, k8, k9⟩ := box_cells (blk_below HK5.out hS)
        go_simp
        with_reducible rfl
      rotate_left
      · simp only [Act.put, List.setIfInBounds_toArray, List.set_cons_zero, List.set_cons_succ, i64_w, i32_w]
        rfl
      refine two_ (i := 2) (j := 3) (Ni := some 6) (Nj := some 7) #[true, true, true, false, false, false] #[true, true, false, true, false, false] rfl rfl rfl rfl (by kernel_rfl) (by decide) (by decide) (fun K hK => ?_) (fun K hK => ?_)
      · refine value_ (w1 := ?_) (v := ?_) (by rfl) rfl ?_ ?_
        rotate_left 2
        · go_simp
          constructor
          · rfl
          · rfl
        have hbwA : Below w5.heap.size w5 (w19.alloc (.cells zeroC 41)) := below_alloc hHeld _
        have hz6 : (w19.alloc (.cells zeroC 41)).heap[w19.heap.size]? = some (.cells zeroC 41 (0, 0)) := heap_alloc_new _ _
        have hl6 : w5.heap.size ≤ w19.heap.size := hHeld.size
        unfold zeroC at hbwA hz6
        refine hK.out _ _ hbwA (fun hwA => ?_)
        clear hK K
        generalize w19.alloc (.cells #[.string ⟨#[]⟩, .slice none 0 0, .slice none 0 0, .slice none 0 0, .slice none 0 0, .slice none 0 0, .slice none 0 0, .slice none 0 0, .slice none 0 0, .slice none 0 0] 41) = wA at hbwA hz6 hwA ⊢
        have hz6x := hz6
        refine norm_ (a' := ?_) ?_ ?_
        rotate_left
        · show Act.put _ (some 6) _ = _
          simp only [Act.put, List.setIfInBounds_toArray, List.set_cons_zero, List.set_cons_succ, i64_w, i32_w]
          rfl
        refine one_ (i := 3) (N := some 7) #[true, true, true, true, false, false] rfl rfl (by kernel_rfl) (by decide) (fun K hK => ?_)
        refine value_ (w1 := ?_) (v := ?_) (by rfl) rfl ?_ ?_
        rotate_left 2
        · go_simp
          constructor
          · rfl
          · rfl
        have hbwB : Below w5.heap.size w5 (wA.alloc (.cells zeroC 41)) := below_alloc hwA _
        have hz7 : (wA.alloc (.cells zeroC 41)).heap[wA.heap.size]? = some (.cells zeroC 41 (0, 0)) := heap_alloc_new _ _
        have hl7 : w5.heap.size ≤ wA.heap.size := hwA.size
        have hz6 := blk_alloc hz6 (.cells zeroC 41)
        have hne : wA.heap.size ≠ w19.heap.size := fun he => by have := blk_lt hz6x; omega
        unfold zeroC at hbwB hz7 hz6
        refine hK.out _ _ hbwB (fun hwB => ?_)
        clear hK K
        generalize wA.alloc (.cells #[.string ⟨#[]⟩, .slice none 0 0, .slice none 0 0, .slice none 0 0, .slice none 0 0, .slice none 0 0, .slice none 0 0, .slice none 0 0, .slice none 0 0, .slice none 0 0] 41) = wB at hbwB hz7 hz6 hwB ⊢
        refine norm_ (a' := ?_) ?_ ?_
        rotate_left
        · show Act.put _ (some 7) _ = _
          simp only [Act.put, List.setIfInBounds_toArray, List.set_cons_zero, List.set_cons_succ, i64_w, i32_w]
          rfl
        refine one_ (i := 4) (N := none) #[true, true, true, true, true, false] rfl rfl (by kernel_rfl) (by decide) (fun K hK => ?_)
        obtain ⟨z0, z1, z2, z3, z4, z5, z6, z7, z8, z9⟩ := zero_cells (show wB.heap[w19.heap.size]? = some (.cells zeroC 41 (0, 0)) from hz6)
        obtain ⟨y0, y1, y2, y3, y4, y5, y6, y7, y8, y9⟩ := zero_frozen (show wB.heap[w19.heap.size]? = some (.cells zeroC 41 (0, 0)) from hz6)
        refine skip_ (w1 := ?_) (by rfl) rfl ?_ ?_
        rotate_left
        · go_simp
          rfl
        obtain ⟨hp6, hpb, hfar⟩ := put_fam (D := D) (H := H) hwB hl6 (show wB.heap[w19.heap.size]? = some (.cells zeroC 41 (0, 0)) from hz6)
        refine hK.out _ _ hpb (fun hwC => ?_)
        clear hK K hpb z0 z1 z2 z3 z4 z5 z6 z7 z8 z9 y0 y1 y2 y3 y4 y5 y6 y7 y8 y9
        have hz7 := (hfar _ hne).trans hz7
        clear hfar
        generalize ((((((((((wB.setCell ⟨w19.heap.size, 0, none⟩ (.string D.nm)).setCell ⟨w19.heap.size, 1, none⟩ (.slice H.A1 D.parts.length H.c1)).setCell ⟨w19.heap.size, 2, none⟩ (.slice H.A2 D.insts.length H.c2)).setCell ⟨w19.heap.size, 3, none⟩ (.slice H.A3 D.dims.length H.c3)).setCell ⟨w19.heap.size, 4, none⟩ (.slice H.A4 D.cons.length H.c4)).setCell ⟨w19.heap.size, 5, none⟩ (.slice H.A5 D.reqs.length H.c5)).setCell ⟨w19.heap.size, 6, none⟩ (.slice H.A6 D.opts.length H.c6)).setCell ⟨w19.heap.size, 7, none⟩ (.slice H.A7 D.rules.length H.c7)).setCell ⟨w19.heap.size, 8, none⟩ (.slice H.A8 D.guards.length H.c8)).setCell ⟨w19.heap.size, 9, none⟩ (.slice H.A9 D.overs.length H.c9)) = wC at hp6 hz7 hwC ⊢
        refine one_ (i := 5) (N := none) #[true, true, true, true, true, true] rfl rfl (by kernel_rfl) (by decide) (fun K hK => ?_)
        obtain ⟨z0, z1, z2, z3, z4, z5, z6, z7, z8, z9⟩ := zero_cells (show wC.heap[wA.heap.size]? = some (.cells zeroC 41 (0, 0)) from hz7)
        obtain ⟨y0, y1, y2, y3, y4, y5, y6, y7, y8, y9⟩ := zero_frozen (show wC.heap[wA.heap.size]? = some (.cells zeroC 41 (0, 0)) from hz7)
        refine skip_ (w1 := ?_) (by rfl) rfl ?_ ?_
        rotate_left
        · go_simp
          rfl
        obtain ⟨hp7, hpb, hfar⟩ := put_fam (D := D) (H := H) hwC hl7 (show wC.heap[wA.heap.size]? = some (.cells zeroC 41 (0, 0)) from hz7)
        refine hK.out _ _ hpb (fun hwD => ?_)
        clear hK K hpb z0 z1 z2 z3 z4 z5 z6 z7 z8 z9 y0 y1 y2 y3 y4 y5 y6 y7 y8 y9
        have hp6 := (hfar _ hne.symm).trans hp6
        clear hfar
        generalize ((((((((((wC.setCell ⟨wA.heap.size, 0, none⟩ (.string D.nm)).setCell ⟨wA.heap.size, 1, none⟩ (.slice H.A1 D.parts.length H.c1)).setCell ⟨wA.heap.size, 2, none⟩ (.slice H.A2 D.insts.length H.c2)).setCell ⟨wA.heap.size, 3, none⟩ (.slice H.A3 D.dims.length H.c3)).setCell ⟨wA.heap.size, 4, none⟩ (.slice H.A4 D.cons.length H.c4)).setCell ⟨wA.heap.size, 5, none⟩ (.slice H.A5 D.reqs.length H.c5)).setCell ⟨wA.heap.size, 6, none⟩ (.slice H.A6 D.opts.length H.c6)).setCell ⟨wA.heap.size, 7, none⟩ (.slice H.A7 D.rules.length H.c7)).setCell ⟨wA.heap.size, 8, none⟩ (.slice H.A8 D.guards.length H.c8)).setCell ⟨wA.heap.size, 9, none⟩ (.slice H.A9 D.overs.length H.c9)) = wD at hp6 hp7 hwD ⊢
        refine done_ (by kernel_rfl) ?_
        go_wp2_with fail
        go_meet
        case rel => exact ⟨_, _, rfl, rfl, ⟨fun he => hne he.symm⟩, ⟨hl6⟩, ⟨hl7⟩, ⟨hwD⟩, ⟨hp6⟩, ⟨hp7⟩⟩
      · refine value_ (w1 := ?_) (v := ?_) (by rfl) rfl ?_ ?_
        rotate_left 2
        · go_simp
          constructor
          · rfl
          · rfl
        have hbwA : Below w5.heap.size w5 (w19.alloc (.cells zeroC 41)) := below_alloc hHeld _
        have hz7 : (w19.alloc (.cells zeroC 41)).heap[w19.heap.size]? = some (.cells zeroC 41 (0, 0)) := heap_alloc_new _ _
        have hl7 : w5.heap.size ≤ w19.heap.size := hHeld.size
        unfold zeroC at hbwA hz7
        refine hK.out _ _ hbwA (fun hwA => ?_)
        clear hK K
        generalize w19.alloc (.cells #[.string ⟨#[]⟩, .slice none 0 0, .slice none 0 0, .slice none 0 0, .slice none 0 0, .slice none 0 0, .slice none 0 0, .slice none 0 0, .slice none 0 0, .slice none 0 0] 41) = wA at hbwA hz7 hwA ⊢
        have hz7x := hz7
        refine norm_ (a' := ?_) ?_ ?_
        rotate_left
        · show Act.put _ (some 7) _ = _
          simp only [Act.put, List.setIfInBounds_toArray, List.set_cons_zero, List.set_cons_succ, i64_w, i32_w]
          rfl
        refine one_ (i := 2) (N := some 6) #[true, true, true, true, false, false] rfl rfl (by kernel_rfl) (by decide) (fun K hK => ?_)
        refine value_ (w1 := ?_) (v := ?_) (by rfl) rfl ?_ ?_
        rotate_left 2
        · go_simp
          constructor
          · rfl
          · rfl
        have hbwB : Below w5.heap.size w5 (wA.alloc (.cells zeroC 41)) := below_alloc hwA _
        have hz6 : (wA.alloc (.cells zeroC 41)).heap[wA.heap.size]? = some (.cells zeroC 41 (0, 0)) := heap_alloc_new _ _
        have hl6 : w5.heap.size ≤ wA.heap.size := hwA.size
        have hz7 := blk_alloc hz7 (.cells zeroC 41)
        have hne : wA.heap.size ≠ w19.heap.size := fun he => by have := blk_lt hz7x; omega
        unfold zeroC at hbwB hz6 hz7
        refine hK.out _ _ hbwB (fun hwB => ?_)
        clear hK K
        generalize wA.alloc (.cells #[.string ⟨#[]⟩, .slice none 0 0, .slice none 0 0, .slice none 0 0, .slice none 0 0, .slice none 0 0, .slice none 0 0, .slice none 0 0, .slice none 0 0, .slice none 0 0] 41) = wB at hbwB hz6 hz7 hwB ⊢
        refine norm_ (a' := ?_) ?_ ?_
        rotate_left
        · show Act.put _ (some 6) _ = _
          simp only [Act.put, List.setIfInBounds_toArray, List.set_cons_zero, List.set_cons_succ, i64_w, i32_w]
          rfl
        refine one_ (i := 4) (N := none) #[true, true, true, true, true, false] rfl rfl (by kernel_rfl) (by decide) (fun K hK => ?_)
        obtain ⟨z0, z1, z2, z3, z4, z5, z6, z7, z8, z9⟩ := zero_cells (show wB.heap[wA.heap.size]? = some (.cells zeroC 41 (0, 0)) from hz6)
        obtain ⟨y0, y1, y2, y3, y4, y5, y6, y7, y8, y9⟩ := zero_frozen (show wB.heap[wA.heap.size]? = some (.cells zeroC 41 (0, 0)) from hz6)
        refine skip_ (w1 := ?_) (by rfl) rfl ?_ ?_
        rotate_left
        · go_simp
          rfl
        obtain ⟨hp6, hpb, hfar⟩ := put_fam (D := D) (H := H) hwB hl6 (show wB.heap[wA.heap.size]? = some (.cells zeroC 41 (0, 0)) from hz6)
        refine hK.out _ _ hpb (fun hwC => ?_)
        clear hK K hpb z0 z1 z2 z3 z4 z5 z6 z7 z8 z9 y0 y1 y2 y3 y4 y5 y6 y7 y8 y9
        have hz7 := (hfar _ hne.symm).trans hz7
        clear hfar
        generalize ((((((((((wB.setCell ⟨wA.heap.size, 0, none⟩ (.string D.nm)).setCell ⟨wA.heap.size, 1, none⟩ (.slice H.A1 D.parts.length H.c1)).setCell ⟨wA.heap.size, 2, none⟩ (.slice H.A2 D.insts.length H.c2)).setCell ⟨wA.heap.size, 3, none⟩ (.slice H.A3 D.dims.length H.c3)).setCell ⟨wA.heap.size, 4, none⟩ (.slice H.A4 D.cons.length H.c4)).setCell ⟨wA.heap.size, 5, none⟩ (.slice H.A5 D.reqs.length H.c5)).setCell ⟨wA.heap.size, 6, none⟩ (.slice H.A6 D.opts.length H.c6)).setCell ⟨wA.heap.size, 7, none⟩ (.slice H.A7 D.rules.length H.c7)).setCell ⟨wA.heap.size, 8, none⟩ (.slice H.A8 D.guards.length H.c8)).setCell ⟨wA.heap.size, 9, none⟩ (.slice H.A9 D.overs.length H.c9)) = wC at hp6 hz7 hwC ⊢
        refine one_ (i := 5) (N := none) #[true, true, true, true, true, true] rfl rfl (by kernel_rfl) (by decide) (fun K hK => ?_)
        obtain ⟨z0, z1, z2, z3, z4, z5, z6, z7, z8, z9⟩ := zero_cells (show wC.heap[w19.heap.size]? = some (.cells zeroC 41 (0, 0)) from hz7)
        obtain ⟨y0, y1, y2, y3, y4, y5, y6, y7, y8, y9⟩ := zero_frozen (show wC.heap[w19.heap.size]? = some (.cells zeroC 41 (0, 0)) from hz7)
        refine skip_ (w1 := ?_) (by rfl) rfl ?_ ?_
        rotate_left
        · go_simp
          rfl
        obtain ⟨hp7, hpb, hfar⟩ := put_fam (D := D) (H := H) hwC hl7 (show wC.heap[w19.heap.size]? = some (.cells zeroC 41 (0, 0)) from hz7)
        refine hK.out _ _ hpb (fun hwD => ?_)
        clear hK K hpb z0 z1 z2 z3 z4 z5 z6 z7 z8 z9 y0 y1 y2 y3 y4 y5 y6 y7 y8 y9
        have hp6 := (hfar _ hne).trans hp6
        clear hfar
        generalize ((((((((((wC.setCell ⟨w19.heap.size, 0, none⟩ (.string D.nm)).setCell ⟨w19.heap.size, 1, none⟩ (.slice H.A1 D.parts.length H.c1)).setCell ⟨w19.heap.size, 2, none⟩ (.slice H.A2 D.insts.length H.c2)).setCell ⟨w19.heap.size, 3, none⟩ (.slice H.A3 D.dims.length H.c3)).setCell ⟨w19.heap.size, 4, none⟩ (.slice H.A4 D.cons.length H.c4)).setCell ⟨w19.heap.size, 5, none⟩ (.slice H.A5 D.reqs.length H.c5)).setCell ⟨w19.heap.size, 6, none⟩ (.slice H.A6 D.opts.length H.c6)).setCell ⟨w19.heap.size, 7, none⟩ (.slice H.A7 D.rules.length H.c7)).setCell ⟨w19.heap.size, 8, none⟩ (.slice H.A8 D.guards.length H.c8)).setCell ⟨w19.heap.size, 9, none⟩ (.slice H.A9 D.overs.length H.c9)) = wD at hp6 hp7 hwD ⊢
        refine done_ (by kernel_rfl) ?_
        go_wp2_with fail
        go_meet
        case rel => exact ⟨_, _, rfl, rfl, ⟨fun he => hne he⟩, ⟨hl6⟩, ⟨hl7⟩, ⟨hwD⟩, ⟨hp6⟩, ⟨hp7⟩⟩
    case rest =>
      obtain ⟨b6, b7, rfl, rfl, HNE, HL6, HL7, HBq, HP6, HP7⟩ := hcut
      have c6 := (g_cells HP6.out).2.2.2.2.2.2.2.1
      have f6 := blk_frozen HP6.out 7
      have hq7 : (wc.setCell ⟨b6, 7, none⟩ (.slice none 0 0)).heap[b7]? = some (.cells (gcells D H (.slice H.A7 D.rules.length H.c7)) 41 (0, 0)) := blk_far (p := ⟨b6, 7, none⟩) HP7.out HNE.out.symm _
      have c7 := (g_cells hq7).2.2.2.2.2.2.2.1
      have f7 := blk_frozen hq7 7
      have HQ7 := Aside0.mk hq7
      clear hq7 k0 k1 k2 k3 k4 k5 k6 k7 k8 k9
      go_wp2_with fail
      clear c6 f6 c7 f7
      obtain ⟨wo, hwo⟩ : ∃ wo, wo = (wc.setCell ⟨b6, 7, none⟩ (.slice none 0 0)).setCell ⟨b7, 7, none⟩ (.slice none 0 0) := ⟨_, rfl⟩
      have HG6 : Aside0 (wo.heap[b6]? = some (.cells (gcells D H (.slice none 0 0)) 41 (0, 0))) := ⟨by rw [hwo]; exact blk_far (p := ⟨b7, 7, none⟩) (g_set HP6.out _) HNE.out _⟩
      have HG7 : Aside0 (wo.heap[b7]? = some (.cells (gcells D H (.slice none 0 0)) 41 (0, 0))) := ⟨by rw [hwo]; exact g_set HQ7.out _⟩
      have HBo : Aside0 (Below w5.heap.size w5 wo) := ⟨by rw [hwo]; exact below_set (below_set HBq.out HL6.out) HL7.out⟩
      rw [← hwo]
      clear hwo HQ7 HP6 HP7 HBq
      obtain ⟨n, hn⟩ : ∃ n, n = D.rules.length := ⟨_, rfl⟩
      have HN := Aside0.mk hn
      have HR48 := Aside0.mk (chk_dist HDc.out).2
      have HFF : Aside0 (Kd.F k70 w5 (fun k => k < w5.heap.size) H.A7 D.rules.length D.rules) := ⟨k70_foot HF5.out.r7⟩
      clear hn
      go_loopg [9, 8] D.rules.length (fun gk v9 v8 w' => ∃ i : Nat, v9 = .int .i64 (i : Int) ∧ v8 = .int .i64 ((redL D i).length : Nat) ∧ Aside0 (i ≤ D.rules.length) ∧ Aside0 (D.rules.length - i ≤ gk) ∧ Aside0 (Below w5.heap.size w5 w') ∧ ∃ u v, Aside0 (w'.heap[b6]? = some (.cells (gcells D H u) 41 (0, 0))) ∧ Aside0 (w'.heap[b7]? = some (.cells (gcells D H v) 41 (0, 0))) ∧ Aside0 (Kd.N k70 70 w' w5.heap.size (fun k => k ≠ b6 ∧ k ≠ b7) u (lessL D i)) ∧ Aside0 (Kd.N k70 70 w' w5.heap.size (fun k => (k ≠ b6 ∧ k ≠ b7) ∧ some k ≠ u.ownBlock) v (D.rules.take i)))
      case atStart => exact ⟨0, rfl, rfl, ⟨Nat.zero_le _⟩, ⟨Nat.sub_le _ _⟩, HBo, _, _, HG6, HG7, ⟨Kd.N_nil _ _ _ _ _⟩, ⟨Kd.N_nil _ _ _ _ _⟩⟩
      case round =>
        obtain ⟨i, rfl, rfl, HI, HGK, HB, u, v, HG6, HG7, HNu, HNv⟩ := hrel
        obtain ⟨k0, k1, k2, k3, k4, k5, k6, k7, k8, k9⟩ := box_cells (blk_below HK5.out HB.out)
        by_cases hi : i < D.rules.length
        · have q0 : decide ((i : Int) < (D.rules.length : Int)) = true := by simpa using hi
          have q1 : decide (i < D.rules.length) = true := by simpa using hi
          have p0 : 0 ≤ (i : Int) := by omega
          have p1 : (i : Int) < (D.rules.length : Int) := by omega
          have hi48 : i < 48 := by have := HR48.out; omega
          obtain ⟨T, hT⟩ : ∃ T, T = D.rules.take i := ⟨_, rfl⟩
          obtain ⟨T2, hT2⟩ : ∃ T, T = D.rules.take (i + 1) := ⟨_, rfl⟩
          have HTL : Aside0 (T.length = i) := ⟨by rw [hT, List.length_take]; omega⟩
          have HT1 : Aside0 (T2 = T ++ [rd_T70 D.rules (i : Int)]) := ⟨by rw [hT, hT2]; exact take_r hi⟩
          have hask1 : askE { D with rules := T } [] = 0 := by rw [hT]; unfold askE; rw [if_neg (by rw [chk_less HDc.out (List.take_sublist _ _)]; simp)]; rfl
          have hask2 : askE { D with rules := T2 } [] = 0 := by rw [hT2]; unfold askE; rw [if_neg (by rw [chk_less HDc.out (List.take_sublist _ _)]; simp)]; rfl
          rw [← hT] at HNv
          obtain ⟨Av, cv, hv, hcv, hCv⟩ := Kd.N_reads HNv.out
          subst hv
          obtain ⟨y0, y1, y2, y3, y4, y5, y6, y7, y8, y9⟩ := g_cells HG7.out
          have HCV := Aside0.mk hCv
          have HLV := Aside0.mk hcv
          have HASK2 := Aside0.mk hask2
          obtain ⟨N1, hN1⟩ : ∃ N, N = (confs D [] T).length := ⟨_, rfl⟩
          obtain ⟨N2, hN2⟩ : ∃ N, N = (confs D [] T2).length := ⟨_, rfl⟩
          have hfc := fol_count hi
          rw [← hT, ← hT2, ← hN1, ← hN2] at hfc
          have HFC := Aside0.mk hfc
          have HC1 : Aside0 (Calls Try.prog 15 #[.agg #[.string D.nm, .slice H.A1 D.parts.length H.c1, .slice H.A2 D.insts.length H.c2, .slice H.A3 D.dims.length H.c3, .slice H.A4 D.cons.length H.c4, .slice H.A5 D.reqs.length H.c5, .slice H.A6 D.opts.length H.c6, .slice Av T.length cv, .slice H.A8 D.guards.length H.c8, .slice H.A9 D.overs.length H.c9], .slice none 0 0] wr (fun e w' => e = .returned (.tuple #[.int .i64 (N1 : Int), .int .i64 0]) ∧ Below wr.heap.size wr w')) :=
            ⟨(count_calls { D with rules := T } { H with A7 := Av, c7 := cv } none 0 [] wr (FamAt.less (HF5.out.below HB.out) HLV.out HCV.out) (Kd.C_nil _ _) (Nat.le_refl _)).mono (fun e w' ⟨he, hb⟩ => ⟨by rw [he, hask1, if_neg (by simp), hN1]; rfl, hb⟩)⟩
          have HN1 := Aside0.mk hN1
          have HN2 := Aside0.mk hN2
          have HT := Aside0.mk hT
          have HT2 := Aside0.mk hT2
          clear hcv hCv hask1 hask2 hfc hN1 hN2 p0 p1 hT hT2
          go_wp2_with fail
          refine HC1.out.mono ?_
          rintro e w6 ⟨rfl, hb⟩
          have HBn := Aside0.mk (below_step HB.out hb)
          have HG6n := Aside0.mk (blk_below HG6.out hb)
          have HG7n := Aside0.mk (blk_below HG7.out hb)
          have HNun := Aside0.mk (Kd.N_below HNu.out hb)
          have HNvn := Aside0.mk (Kd.N_below HNv.out hb)
          clear hb HB HG6 HG7 HNu HNv HCV HLV HC1 y0 y1 y2 y3 y4 y5 y6 y7 y8 y9 k0 k1 k2 k3 k4 k5 k6 k7 k8 k9
          have HB := HBn
          have HG6 := HG6n
          have HG7 := HG7n
          have HNu := HNun
          have HNv := HNvn
          clear HBn HG6n HG7n HNun HNvn
          go_upto_region 14 with (fail)
          go_cut [] (fun wq => ∃ v2, Aside0 (Below w5.heap.size w5 wq) ∧ Aside0 (wq.heap[b6]? = some (.cells (gcells D H u) 41 (0, 0))) ∧ Aside0 (wq.heap[b7]? = some (.cells (gcells D H v2) 41 (0, 0))) ∧ Aside0 (Kd.N k70 70 wq w5.heap.size (fun k => k ≠ b6 ∧ k ≠ b7) u (lessL D i)) ∧ Aside0 (Kd.N k70 70 wq w5.heap.size (fun k => (k ≠ b6 ∧ k ≠ b7) ∧ some k ≠ u.ownBlock) v2 T2))
          case first =>
            have p0 : 0 ≤ (i : Int) := by omega
            have p1 : (i : Int) < (D.rules.length : Int) := by omega
            obtain ⟨adr, A1, c1, hA7, hc0, hc1, hFK⟩ := rule_at HFF.out (i : Int) p0 p1
            rw [Int.toNat_natCast] at hc0 hc1
            have HC0 := Aside0.mk hc0
            have HC1 := Aside0.mk hc1
            have HFK := Aside0.mk hFK
            have HA7 := Aside0.mk hA7
            have HVF := Aside0.mk (Kd.F_bound (Kd.N_F HNv.out))
            have hws := HB.out.size
            have hb6 := blk_lt HG6.out
            have hb7 := blk_lt HG7.out
            have hl6 := HL6.out
            have hl7 := HL7.out
            have HFR : Aside0 (∀ W : World, Below w6.heap.size w6 W → ∀ k, W.heap.size ≤ k → (k ≠ b6 ∧ k ≠ b7) ∧ some k ≠ u.ownBlock) := ⟨fun W hW k hk => by
              have h1 := hW.size
              exact ⟨by omega, fun he => by have := Kd.N_lt HNu.out k he.symm; omega⟩⟩
            have HOKX : Aside0 (∀ q, (q < w5.heap.size ∨ w6.heap.size ≤ q) → (q ≠ b6 ∧ q ≠ b7) ∧ some q ≠ u.ownBlock) := ⟨fun q hq => ⟨by omega, fun he => by
              have h1 := Kd.N_lt HNu.out q he.symm
              have h2 := Kd.N_base HNu.out q he.symm
              omega⟩⟩
            clear hc0 hc1 hFK hA7
            refine start_ (n := 13) (S := fun w' => Below w6.heap.size w6 w') (ds := [12]) #[false, false, false, false, false, false, false, false, false, false, false, false, false] (by kernel_rfl) rfl rfl (below_drew (Below.refl _ _)) (fun hHeld => ?_)
            generalize w6.drew = w19 at hHeld ⊢
            refine pure_ (i := 1) (N := some 44) (v := ?_) (a' := ?_) #[false, true, false, false, false, false, false, false, false, false, false, false, false] rfl rfl (by kernel_rfl) (fun _ _ _ h => h) (Or.inl ⟨by rfl, ?_⟩) ?_ ?_
            rotate_left
            · intro w'
              go_simp
              with_reducible rfl
            rotate_left
            · simp only [Act.put, List.setIfInBounds_toArray, List.set_cons_zero, List.set_cons_succ, i64_w, i32_w]
              rfl
            refine take_ (i := 2) (N := some 45) (v := ?_) (a' := ?_) #[false, true, true, false, false, false, false, false, false, false, false, false, false] rfl rfl (by kernel_rfl) (fun _ _ _ h => h) (Or.inl ⟨by rfl, ?_⟩) hHeld ?_ ?_
            rotate_left
            · intro w' hS
              have s7 := (g_cells (blk_below HG7.out hS)).2.2.2.2.2.2.2.1
              go_simp
              with_reducible rfl
            rotate_left
            · simp only [Act.put, List.setIfInBounds_toArray, List.set_cons_zero, List.set_cons_succ, i64_w, i32_w]
              rfl
            refine pure_ (i := 4) (N := some 47) (v := ?_) (a' := ?_) #[false, true, true, false, true, false, false, false, false, false, false, false, false] rfl rfl (by kernel_rfl) (fun _ _ _ h => h) (Or.inl ⟨by rfl, ?_⟩) ?_ ?_
            rotate_left
            · intro w'
              go_simp
              with_reducible rfl
            rotate_left
            · simp only [Act.put, List.setIfInBounds_toArray, List.set_cons_zero, List.set_cons_succ, i64_w, i32_w]
              rfl
            refine take_ (i := 5) (N := some 48) (v := ?_) (a' := ?_) #[false, true, true, false, true, true, false, false, false, false, false, false, false] rfl rfl (by kernel_rfl) (fun _ _ _ h => h) (Or.inl ⟨by rfl, ?_⟩) hHeld ?_ ?_
            rotate_left
            · intro w' hS
              obtain ⟨k0, k1, k2, k3, k4, k5, k6, k7, k8, k9⟩ := box_cells (blk_below HK5.out (below_step HB.out hS))
              rw [HA7.out] at k7
              go_simp
              with_reducible rfl
            rotate_left
            · simp only [Act.put, List.setIfInBounds_toArray, List.set_cons_zero, List.set_cons_succ, i64_w, i32_w]
              rfl
            refine pure_ (i := 6) (N := some 49) (v := ?_) (a' := ?_) #[false, true, true, false, true, true, true, false, false, false, false, false, false] rfl rfl (by kernel_rfl) (fun _ _ _ h => h) (Or.inl ⟨by rfl, ?_⟩) ?_ ?_
            rotate_left
            · intro w'
              go_simp
              with_reducible rfl
            rotate_left
            · simp only [Act.put, List.setIfInBounds_toArray, List.set_cons_zero, List.set_cons_succ, i64_w, i32_w]
              rfl
            refine pure_ (i := 7) (N := some 50) (v := ?_) (a' := ?_) #[false, true, true, false, true, true, true, true, false, false, false, false, false] rfl rfl (by kernel_rfl) (fun _ _ _ h => h) (Or.inl ⟨by rfl, ?_⟩) ?_ ?_
            rotate_left
            · intro w'
              go_simp
              with_reducible rfl
            rotate_left
            · simp only [Act.put, List.setIfInBounds_toArray, List.set_cons_zero, List.set_cons_succ, i64_w, i32_w]
              rfl
            refine take_ (i := 8) (N := some 51) (v := ?_) (a' := ?_) #[false, true, true, false, true, true, true, true, true, false, false, false, false] rfl rfl (by kernel_rfl) (fun _ _ _ h => h) (Or.inl ⟨by rfl, ?_⟩) hHeld ?_ ?_
            rotate_left
            · intro w' hS
              have hc0 := cell_keep (below_step HB.out hS) HC0.out
              have hc1 := cell_keep (below_step HB.out hS) HC1.out
              go_simp
              with_reducible rfl
            rotate_left
            · simp only [Act.put, List.setIfInBounds_toArray, List.set_cons_zero, List.set_cons_succ, i64_w, i32_w]
              rfl
            refine two_ (i := 0) (j := 9) (Ni := some 43) (Nj := some 52) #[true, true, true, false, true, true, true, true, true, false, false, false, false] #[false, true, true, false, true, true, true, true, true, true, false, false, false] rfl rfl rfl rfl (by kernel_rfl) (by decide) (by decide) (fun K hK => ?_) (fun K hK => ?_)
            · refine value_ (w1 := ?_) (v := ?_) (by rfl) rfl ?_ ?_
              rotate_left 2
              · go_simp
                constructor
                · rfl
                · rfl
              have hsz1 : Aside0 ((w19.alloc (.cells #[] 70)).heap.size = w19.heap.size + 1) := ⟨by simp⟩
              have hge1 : w6.heap.size ≤ w19.heap.size := hHeld.size
              have HN1 := Aside0.mk (Kd.N_lower (N_fresh w19 (fun k => (k ≠ b6 ∧ k ≠ b7) ∧ some k ≠ u.ownBlock) (HFR.out _ hHeld)) hHeld.size)
              have hv1 : Aside0 (∀ q, (Value.slice (some ⟨w19.heap.size, 0, none⟩) 0 0).ownBlock = some q → q = w19.heap.size) := ⟨fun q hq => by simp [Value.ownBlock] at hq; omega⟩
              refine hK.out _ _ (below_alloc hHeld _) (fun hH1 => ?_)
              clear hK K
              generalize w19.alloc (.cells #[] 70) = wv1 at hsz1 HN1 hH1 ⊢
              refine norm_ (a' := ?_) ?_ ?_
              rotate_left
              · show Act.put _ (some 43) _ = _
                simp only [Act.put, List.setIfInBounds_toArray, List.set_cons_zero, List.set_cons_succ, i64_w, i32_w]
                rfl
              refine two_ (i := 3) (j := 9) (Ni := some 46) (Nj := some 52) #[true, true, true, true, true, true, true, true, true, false, false, false, false] #[true, true, true, false, true, true, true, true, true, true, false, false, false] rfl rfl rfl rfl (by kernel_rfl) (by decide) (by decide) (fun K hK => ?_) (fun K hK => ?_)
              · refine n_append_rows_step k70 (w0 := w6) w6.heap.size (by rfl) (.tmp 43) (.tmp 45) 37 70 (.agg #[(.string ⟨#[]⟩), (.slice none 0 0)]) 40 rfl Try.underlying37 info70 rfl (by decide) (by decide) (.slice (some ⟨w19.heap.size, 0, none⟩) 0 0) [] T Av T.length cv (fun k => (k ≠ b6 ∧ k ≠ b7) ∧ some k ≠ u.ownBlock) (fun k => (fun k => (k ≠ b6 ∧ k ≠ b7) ∧ some k ≠ u.ownBlock) k ∧ k < w6.heap.size) rfl rfl HN1.out (Kd.F_below HVF.out hH1) ?aK (HFR.out _ hH1) hH1 hH1.size (by rw [HTL.out]; simp only [List.length_nil]; omega) ?_
                (case aK => exact fun q hq => ⟨hq.1, fun he => by have := hv1.out q he.symm; have := hq.2; omega⟩)
                intro v2 wv2 ho hb hg hat
                rw [List.nil_append] at ho
                have HN2 := Aside0.mk ho
                clear ho hg hat
                refine hK.out _ _ hb (fun hH2 => ?_)
                clear hK K hb
                refine norm_ (a' := ?_) ?_ ?_
                rotate_left
                · show Act.put _ (some 46) _ = _
                  simp only [Act.put, List.setIfInBounds_toArray, List.set_cons_zero, List.set_cons_succ, i64_w, i32_w]
                  rfl
                refine one_ (i := 9) (N := some 52) #[true, true, true, true, true, true, true, true, true, true, false, false, false] rfl rfl (by kernel_rfl) (by decide) (fun K hK => ?_)
                refine value_ (w1 := ?_) (v := ?_) (by rfl) rfl ?_ ?_
                rotate_left 2
                · go_simp
                  constructor
                  · rfl
                  · rfl
                have hsz3 : Aside0 ((wv2.alloc (.cells #[.string (rd_T70 D.rules (i : Int)).f0, .slice A1 (rd_T70 D.rules (i : Int)).f1.length c1] 70)).heap.size = wv2.heap.size + 1) := ⟨by simp⟩
                have hge3 : w6.heap.size ≤ wv2.heap.size := hH2.size
                have HX3 : Aside0 ((wv2.alloc (.cells #[.string (rd_T70 D.rules (i : Int)).f0, .slice A1 (rd_T70 D.rules (i : Int)).f1.length c1] 70)).heap[wv2.heap.size]? = some (.cells #[.string (rd_T70 D.rules (i : Int)).f0, .slice A1 (rd_T70 D.rules (i : Int)).f1.length c1] 70 (0, 0))) := ⟨heap_alloc_new _ _⟩
                have hvx := Aside0.mk (Kd.N_lt HN2.out)
                have HN3 := Aside0.mk (Kd.N_below HN2.out (below_alloc (Below.refl _ _) (.cells #[.string (rd_T70 D.rules (i : Int)).f0, .slice A1 (rd_T70 D.rules (i : Int)).f1.length c1] 70)))
                refine hK.out _ _ (below_alloc hH2 _) (fun hH3 => ?_)
                clear hK K
                generalize wv2.alloc (.cells #[.string (rd_T70 D.rules (i : Int)).f0, .slice A1 (rd_T70 D.rules (i : Int)).f1.length c1] 70) = wv3 at hsz3 HX3 HN3 hH3 ⊢
                refine norm_ (a' := ?_) ?_ ?_
                rotate_left
                · show Act.put _ (some 52) _ = _
                  simp only [Act.put, List.setIfInBounds_toArray, List.set_cons_zero, List.set_cons_succ, i64_w, i32_w]
                  rfl
                refine one_ (i := 10) (N := some 53) #[true, true, true, true, true, true, true, true, true, true, true, false, false] rfl rfl (by kernel_rfl) (by decide) (fun K hK => ?_)
                have hvz : ∀ q, v2.ownBlock = some q → q ≠ wv2.heap.size := fun q hq => by have := hvx.out q hq; have e1 := hsz1.out; have e3 := hsz3.out; omega
                refine n_append_rows_step k70 (w0 := w6) w6.heap.size (by rfl) (.tmp 46) (.tmp 52) 37 70 (.agg #[(.string ⟨#[]⟩), (.slice none 0 0)]) 40 rfl Try.underlying37 info70 rfl (by decide) (by decide) v2 T [rd_T70 D.rules (i : Int)] (some ⟨wv2.heap.size, 0, none⟩) 1 1 (fun k => (k ≠ b6 ∧ k ≠ b7) ∧ some k ≠ u.ownBlock) (fun k => k < w5.heap.size ∨ k = wv2.heap.size) rfl rfl HN3.out (rule_row (Kd.FK_below HFK.out (below_step HB.out hH3)) HX3.out) ?aK (HFR.out _ hH3) hH3 hH3.size (by rw [HTL.out]; omega) ?_
                (case aK => exact fun q hq => ⟨HOKX.out q (by omega), fun he => by have h1 := Kd.N_base HN3.out q he.symm; have h2 := hvz q he.symm; omega⟩)
                intro v4 wv4 ho hb hg hat
                rw [← HT1.out] at ho
                obtain ⟨Aw, cw, hvv⟩ := Kd.N_slice ho
                obtain ⟨Lw, hLw⟩ : ∃ m, m = T2.length := ⟨_, rfl⟩
                rw [← hLw] at hvv
                subst hvv
                clear hLw
                refine hK.out _ _ hb (fun hH4 => ?_)
                clear hK K hb
                refine norm_ (a' := ?_) ?_ ?_
                rotate_left
                · show Act.put _ (some 53) _ = _
                  simp only [Act.put, List.setIfInBounds_toArray, List.set_cons_zero, List.set_cons_succ, i64_w, i32_w]
                  rfl
                refine pure_ (i := 11) (N := some 54) (v := ?_) (a' := ?_) #[true, true, true, true, true, true, true, true, true, true, true, true, false] rfl rfl (by kernel_rfl) (fun _ _ _ h => h) (Or.inl ⟨by rfl, ?_⟩) ?_ ?_
                rotate_left
                · intro w'
                  go_simp
                  with_reducible rfl
                rotate_left
                · simp only [Act.put, List.setIfInBounds_toArray, List.set_cons_zero, List.set_cons_succ, i64_w, i32_w]
                  rfl
                refine last_ (i := 12) (N := none) #[true, true, true, true, true, true, true, true, true, true, true, true, true] rfl rfl (by kernel_rfl) (by decide) (fun K hK => ?_)
                have hg7 := blk_below HG7.out hH4
                have s7 := (g_cells hg7).2.2.2.2.2.2.2.1
                have f7 := blk_frozen hg7 7
                refine skip_ (w1 := ?_) (by rfl) rfl ?_ ?_
                rotate_left
                · go_simp
                  rfl
                refine hK.out _ _ ?_
                clear hK K
                refine done_ (by kernel_rfl) ?_
                go_wp2_with fail
                go_meet
                case rel => exact ⟨_, ⟨below_set (below_step HB.out hH4) HL7.out⟩, ⟨blk_far (blk_below HG6.out hH4) HNE.out _⟩, ⟨g_set hg7 _⟩, ⟨Kd.N_far (p := ⟨b7, 7, none⟩) (Kd.N_below HNu.out hH4) (fun _ hk => hk.2) _⟩, ⟨Kd.N_far (p := ⟨b7, 7, none⟩) (Kd.N_lower ho HB.out.size) (fun _ hk => hk.1.2) _⟩⟩
              · refine value_ (w1 := ?_) (v := ?_) (by rfl) rfl ?_ ?_
                rotate_left 2
                · go_simp
                  constructor
                  · rfl
                  · rfl
                have hsz2 : Aside0 ((wv1.alloc (.cells #[.string (rd_T70 D.rules (i : Int)).f0, .slice A1 (rd_T70 D.rules (i : Int)).f1.length c1] 70)).heap.size = wv1.heap.size + 1) := ⟨by simp⟩
                have hge2 : w6.heap.size ≤ wv1.heap.size := hH1.size
                have HX2 : Aside0 ((wv1.alloc (.cells #[.string (rd_T70 D.rules (i : Int)).f0, .slice A1 (rd_T70 D.rules (i : Int)).f1.length c1] 70)).heap[wv1.heap.size]? = some (.cells #[.string (rd_T70 D.rules (i : Int)).f0, .slice A1 (rd_T70 D.rules (i : Int)).f1.length c1] 70 (0, 0))) := ⟨heap_alloc_new _ _⟩
                have hvx := Aside0.mk (Kd.N_lt HN1.out)
                have HN2 := Aside0.mk (Kd.N_below HN1.out (below_alloc (Below.refl _ _) (.cells #[.string (rd_T70 D.rules (i : Int)).f0, .slice A1 (rd_T70 D.rules (i : Int)).f1.length c1] 70)))
                refine hK.out _ _ (below_alloc hH1 _) (fun hH2 => ?_)
                clear hK K
                generalize wv1.alloc (.cells #[.string (rd_T70 D.rules (i : Int)).f0, .slice A1 (rd_T70 D.rules (i : Int)).f1.length c1] 70) = wv2 at hsz2 HX2 HN2 hH2 ⊢
                refine norm_ (a' := ?_) ?_ ?_
                rotate_left
                · show Act.put _ (some 52) _ = _
                  simp only [Act.put, List.setIfInBounds_toArray, List.set_cons_zero, List.set_cons_succ, i64_w, i32_w]
                  rfl
                refine one_ (i := 3) (N := some 46) #[true, true, true, true, true, true, true, true, true, true, false, false, false] rfl rfl (by kernel_rfl) (by decide) (fun K hK => ?_)
                refine n_append_rows_step k70 (w0 := w6) w6.heap.size (by rfl) (.tmp 43) (.tmp 45) 37 70 (.agg #[(.string ⟨#[]⟩), (.slice none 0 0)]) 40 rfl Try.underlying37 info70 rfl (by decide) (by decide) (.slice (some ⟨w19.heap.size, 0, none⟩) 0 0) [] T Av T.length cv (fun k => (k ≠ b6 ∧ k ≠ b7) ∧ some k ≠ u.ownBlock) (fun k => (fun k => (k ≠ b6 ∧ k ≠ b7) ∧ some k ≠ u.ownBlock) k ∧ k < w6.heap.size) rfl rfl HN2.out (Kd.F_below HVF.out hH2) ?aK (HFR.out _ hH2) hH2 hH2.size (by rw [HTL.out]; simp only [List.length_nil]; omega) ?_
                (case aK => exact fun q hq => ⟨hq.1, fun he => by have := hv1.out q he.symm; have := hq.2; omega⟩)
                intro v3 wv3 ho hb hg hat
                rw [List.nil_append] at ho
                have HN3 := Aside0.mk ho
                have hvx : Aside0 (∀ q, v3.ownBlock = some q → q ≠ wv1.heap.size) := ⟨fun q hq he => by
                  have hlx := blk_lt HX2.out
                  rcases hat with hat | ⟨b, hb1, hle⟩
                  · rw [hat] at hq; have := hv1.out q hq; have e1 := hsz1.out; have e2 := hsz2.out; omega
                  · rw [hb1] at hq; injection hq with hq; omega⟩
                have HX3 := Aside0.mk (blk_grown HX2.out hg (fun he => by have := hv1.out _ he.symm; have e1 := hsz1.out; have e2 := hsz2.out; omega))
                clear ho hg hat
                refine hK.out _ _ hb (fun hH3 => ?_)
                clear hK K hb
                refine norm_ (a' := ?_) ?_ ?_
                rotate_left
                · show Act.put _ (some 46) _ = _
                  simp only [Act.put, List.setIfInBounds_toArray, List.set_cons_zero, List.set_cons_succ, i64_w, i32_w]
                  rfl
                refine one_ (i := 10) (N := some 53) #[true, true, true, true, true, true, true, true, true, true, true, false, false] rfl rfl (by kernel_rfl) (by decide) (fun K hK => ?_)
                have hvz : ∀ q, v3.ownBlock = some q → q ≠ wv1.heap.size := fun q hq => by have := hvx.out q hq; have e1 := hsz1.out; have e2 := hsz2.out; omega
                refine n_append_rows_step k70 (w0 := w6) w6.heap.size (by rfl) (.tmp 46) (.tmp 52) 37 70 (.agg #[(.string ⟨#[]⟩), (.slice none 0 0)]) 40 rfl Try.underlying37 info70 rfl (by decide) (by decide) v3 T [rd_T70 D.rules (i : Int)] (some ⟨wv1.heap.size, 0, none⟩) 1 1 (fun k => (k ≠ b6 ∧ k ≠ b7) ∧ some k ≠ u.ownBlock) (fun k => k < w5.heap.size ∨ k = wv1.heap.size) rfl rfl HN3.out (rule_row (Kd.FK_below HFK.out (below_step HB.out hH3)) HX3.out) ?aK (HFR.out _ hH3) hH3 hH3.size (by rw [HTL.out]; omega) ?_
                (case aK => exact fun q hq => ⟨HOKX.out q (by omega), fun he => by have h1 := Kd.N_base HN3.out q he.symm; have h2 := hvz q he.symm; omega⟩)
                intro v4 wv4 ho hb hg hat
                rw [← HT1.out] at ho
                obtain ⟨Aw, cw, hvv⟩ := Kd.N_slice ho
                obtain ⟨Lw, hLw⟩ : ∃ m, m = T2.length := ⟨_, rfl⟩
                rw [← hLw] at hvv
                subst hvv
                clear hLw
                refine hK.out _ _ hb (fun hH4 => ?_)
                clear hK K hb
                refine norm_ (a' := ?_) ?_ ?_
                rotate_left
                · show Act.put _ (some 53) _ = _
                  simp only [Act.put, List.setIfInBounds_toArray, List.set_cons_zero, List.set_cons_succ, i64_w, i32_w]
                  rfl
                refine pure_ (i := 11) (N := some 54) (v := ?_) (a' := ?_) #[true, true, true, true, true, true, true, true, true, true, true, true, false] rfl rfl (by kernel_rfl) (fun _ _ _ h => h) (Or.inl ⟨by rfl, ?_⟩) ?_ ?_
                rotate_left
                · intro w'
                  go_simp
                  with_reducible rfl
                rotate_left
                · simp only [Act.put, List.setIfInBounds_toArray, List.set_cons_zero, List.set_cons_succ, i64_w, i32_w]
                  rfl
                refine last_ (i := 12) (N := none) #[true, true, true, true, true, true, true, true, true, true, true, true, true] rfl rfl (by kernel_rfl) (by decide) (fun K hK => ?_)
                have hg7 := blk_below HG7.out hH4
                have s7 := (g_cells hg7).2.2.2.2.2.2.2.1
                have f7 := blk_frozen hg7 7
                refine skip_ (w1 := ?_) (by rfl) rfl ?_ ?_
                rotate_left
                · go_simp
                  rfl
                refine hK.out _ _ ?_
                clear hK K
                refine done_ (by kernel_rfl) ?_
                go_wp2_with fail
                go_meet
                case rel => exact ⟨_, ⟨below_set (below_step HB.out hH4) HL7.out⟩, ⟨blk_far (blk_below HG6.out hH4) HNE.out _⟩, ⟨g_set hg7 _⟩, ⟨Kd.N_far (p := ⟨b7, 7, none⟩) (Kd.N_below HNu.out hH4) (fun _ hk => hk.2) _⟩, ⟨Kd.N_far (p := ⟨b7, 7, none⟩) (Kd.N_lower ho HB.out.size) (fun _ hk => hk.1.2) _⟩⟩
            · refine value_ (w1 := ?_) (v := ?_) (by rfl) rfl ?_ ?_
              rotate_left 2
              · go_simp
                constructor
                · rfl
                · rfl
              have hsz1 : Aside0 ((w19.alloc (.cells #[.string (rd_T70 D.rules (i : Int)).f0, .slice A1 (rd_T70 D.rules (i : Int)).f1.length c1] 70)).heap.size = w19.heap.size + 1) := ⟨by simp⟩
              have hge1 : w6.heap.size ≤ w19.heap.size := hHeld.size
              have HX1 : Aside0 ((w19.alloc (.cells #[.string (rd_T70 D.rules (i : Int)).f0, .slice A1 (rd_T70 D.rules (i : Int)).f1.length c1] 70)).heap[w19.heap.size]? = some (.cells #[.string (rd_T70 D.rules (i : Int)).f0, .slice A1 (rd_T70 D.rules (i : Int)).f1.length c1] 70 (0, 0))) := ⟨heap_alloc_new _ _⟩
              refine hK.out _ _ (below_alloc hHeld _) (fun hH1 => ?_)
              clear hK K
              generalize w19.alloc (.cells #[.string (rd_T70 D.rules (i : Int)).f0, .slice A1 (rd_T70 D.rules (i : Int)).f1.length c1] 70) = wv1 at hsz1 HX1 hH1 ⊢
              refine norm_ (a' := ?_) ?_ ?_
              rotate_left
              · show Act.put _ (some 52) _ = _
                simp only [Act.put, List.setIfInBounds_toArray, List.set_cons_zero, List.set_cons_succ, i64_w, i32_w]
                rfl
              refine one_ (i := 0) (N := some 43) #[true, true, true, false, true, true, true, true, true, true, false, false, false] rfl rfl (by kernel_rfl) (by decide) (fun K hK => ?_)
              refine value_ (w1 := ?_) (v := ?_) (by rfl) rfl ?_ ?_
              rotate_left 2
              · go_simp
                constructor
                · rfl
                · rfl
              have hsz2 : Aside0 ((wv1.alloc (.cells #[] 70)).heap.size = wv1.heap.size + 1) := ⟨by simp⟩
              have hge2 : w6.heap.size ≤ wv1.heap.size := hH1.size
              have HN2 := Aside0.mk (Kd.N_lower (N_fresh wv1 (fun k => (k ≠ b6 ∧ k ≠ b7) ∧ some k ≠ u.ownBlock) (HFR.out _ hH1)) hH1.size)
              have hv2 : Aside0 (∀ q, (Value.slice (some ⟨wv1.heap.size, 0, none⟩) 0 0).ownBlock = some q → q = wv1.heap.size) := ⟨fun q hq => by simp [Value.ownBlock] at hq; omega⟩
              have HX2 := Aside0.mk (blk_alloc HX1.out (.cells #[] 70))
              refine hK.out _ _ (below_alloc hH1 _) (fun hH2 => ?_)
              clear hK K
              generalize wv1.alloc (.cells #[] 70) = wv2 at hsz2 HN2 HX2 hH2 ⊢
              refine norm_ (a' := ?_) ?_ ?_
              rotate_left
              · show Act.put _ (some 43) _ = _
                simp only [Act.put, List.setIfInBounds_toArray, List.set_cons_zero, List.set_cons_succ, i64_w, i32_w]
                rfl
              refine one_ (i := 3) (N := some 46) #[true, true, true, true, true, true, true, true, true, true, false, false, false] rfl rfl (by kernel_rfl) (by decide) (fun K hK => ?_)
              refine n_append_rows_step k70 (w0 := w6) w6.heap.size (by rfl) (.tmp 43) (.tmp 45) 37 70 (.agg #[(.string ⟨#[]⟩), (.slice none 0 0)]) 40 rfl Try.underlying37 info70 rfl (by decide) (by decide) (.slice (some ⟨wv1.heap.size, 0, none⟩) 0 0) [] T Av T.length cv (fun k => (k ≠ b6 ∧ k ≠ b7) ∧ some k ≠ u.ownBlock) (fun k => (fun k => (k ≠ b6 ∧ k ≠ b7) ∧ some k ≠ u.ownBlock) k ∧ k < w6.heap.size) rfl rfl HN2.out (Kd.F_below HVF.out hH2) ?aK (HFR.out _ hH2) hH2 hH2.size (by rw [HTL.out]; simp only [List.length_nil]; omega) ?_
              (case aK => exact fun q hq => ⟨hq.1, fun he => by have := hv2.out q he.symm; have := hq.2; omega⟩)
              intro v3 wv3 ho hb hg hat
              rw [List.nil_append] at ho
              have HN3 := Aside0.mk ho
              have hvx : Aside0 (∀ q, v3.ownBlock = some q → q ≠ w19.heap.size) := ⟨fun q hq he => by
                have hlx := blk_lt HX2.out
                rcases hat with hat | ⟨b, hb1, hle⟩
                · rw [hat] at hq; have := hv2.out q hq; have e1 := hsz1.out; have e2 := hsz2.out; omega
                · rw [hb1] at hq; injection hq with hq; omega⟩
              have HX3 := Aside0.mk (blk_grown HX2.out hg (fun he => by have := hv2.out _ he.symm; have e1 := hsz1.out; have e2 := hsz2.out; omega))
              clear ho hg hat
              refine hK.out _ _ hb (fun hH3 => ?_)
              clear hK K hb
              refine norm_ (a' := ?_) ?_ ?_
              rotate_left
              · show Act.put _ (some 46) _ = _
                simp only [Act.put, List.setIfInBounds_toArray, List.set_cons_zero, List.set_cons_succ, i64_w, i32_w]
                rfl
              refine one_ (i := 10) (N := some 53) #[true, true, true, true, true, true, true, true, true, true, true, false, false] rfl rfl (by kernel_rfl) (by decide) (fun K hK => ?_)
              have hvz : ∀ q, v3.ownBlock = some q → q ≠ w19.heap.size := fun q hq => by have := hvx.out q hq; have e1 := hsz1.out; have e2 := hsz2.out; omega
              refine n_append_rows_step k70 (w0 := w6) w6.heap.size (by rfl) (.tmp 46) (.tmp 52) 37 70 (.agg #[(.string ⟨#[]⟩), (.slice none 0 0)]) 40 rfl Try.underlying37 info70 rfl (by decide) (by decide) v3 T [rd_T70 D.rules (i : Int)] (some ⟨w19.heap.size, 0, none⟩) 1 1 (fun k => (k ≠ b6 ∧ k ≠ b7) ∧ some k ≠ u.ownBlock) (fun k => k < w5.heap.size ∨ k = w19.heap.size) rfl rfl HN3.out (rule_row (Kd.FK_below HFK.out (below_step HB.out hH3)) HX3.out) ?aK (HFR.out _ hH3) hH3 hH3.size (by rw [HTL.out]; omega) ?_
              (case aK => exact fun q hq => ⟨HOKX.out q (by omega), fun he => by have h1 := Kd.N_base HN3.out q he.symm; have h2 := hvz q he.symm; omega⟩)
              intro v4 wv4 ho hb hg hat
              rw [← HT1.out] at ho
              obtain ⟨Aw, cw, hvv⟩ := Kd.N_slice ho
              obtain ⟨Lw, hLw⟩ : ∃ m, m = T2.length := ⟨_, rfl⟩
              rw [← hLw] at hvv
              subst hvv
              clear hLw
              refine hK.out _ _ hb (fun hH4 => ?_)
              clear hK K hb
              refine norm_ (a' := ?_) ?_ ?_
              rotate_left
              · show Act.put _ (some 53) _ = _
                simp only [Act.put, List.setIfInBounds_toArray, List.set_cons_zero, List.set_cons_succ, i64_w, i32_w]
                rfl
              refine pure_ (i := 11) (N := some 54) (v := ?_) (a' := ?_) #[true, true, true, true, true, true, true, true, true, true, true, true, false] rfl rfl (by kernel_rfl) (fun _ _ _ h => h) (Or.inl ⟨by rfl, ?_⟩) ?_ ?_
              rotate_left
              · intro w'
                go_simp
                with_reducible rfl
              rotate_left
              · simp only [Act.put, List.setIfInBounds_toArray, List.set_cons_zero, List.set_cons_succ, i64_w, i32_w]
                rfl
              refine last_ (i := 12) (N := none) #[true, true, true, true, true, true, true, true, true, true, true, true, true] rfl rfl (by kernel_rfl) (by decide) (fun K hK => ?_)
              have hg7 := blk_below HG7.out hH4
              have s7 := (g_cells hg7).2.2.2.2.2.2.2.1
              have f7 := blk_frozen hg7 7
              refine skip_ (w1 := ?_) (by rfl) rfl ?_ ?_
              rotate_left
              · go_simp
                rfl
              refine hK.out _ _ ?_
              clear hK K
              refine done_ (by kernel_rfl) ?_
              go_wp2_with fail
              go_meet
              case rel => exact ⟨_, ⟨below_set (below_step HB.out hH4) HL7.out⟩, ⟨blk_far (blk_below HG6.out hH4) HNE.out _⟩, ⟨g_set hg7 _⟩, ⟨Kd.N_far (p := ⟨b7, 7, none⟩) (Kd.N_below HNu.out hH4) (fun _ hk => hk.2) _⟩, ⟨Kd.N_far (p := ⟨b7, 7, none⟩) (Kd.N_lower ho HB.out.size) (fun _ hk => hk.1.2) _⟩⟩
          case rest =>
            clear HB HG6 HG7 HNu HNv
            obtain ⟨v2, HB, HG6, HG7, HNu, HNv⟩ := hcut
            obtain ⟨Aw, cw, hv, hcv, hCv⟩ := Kd.N_reads HNv.out
            subst hv
            obtain ⟨y0, y1, y2, y3, y4, y5, y6, y7, y8, y9⟩ := g_cells HG7.out
            have HC2 : Aside0 (Calls Try.prog 15 #[.agg #[.string D.nm, .slice H.A1 D.parts.length H.c1, .slice H.A2 D.insts.length H.c2, .slice H.A3 D.dims.length H.c3, .slice H.A4 D.cons.length H.c4, .slice H.A5 D.reqs.length H.c5, .slice H.A6 D.opts.length H.c6, .slice Aw T2.length cw, .slice H.A8 D.guards.length H.c8, .slice H.A9 D.overs.length H.c9], .slice none 0 0] wc (fun e w' => e = .returned (.tuple #[.int .i64 (N2 : Int), .int .i64 0]) ∧ Below wc.heap.size wc w')) :=
              ⟨(count_calls { D with rules := T2 } { H with A7 := Aw, c7 := cw } none 0 [] wc (FamAt.less (HF5.out.below HB.out) hcv hCv) (Kd.C_nil _ _) (Nat.le_refl _)).mono (fun e w' ⟨he, hb⟩ => ⟨by rw [he, HASK2.out, if_neg (by simp), HN2.out]; rfl, hb⟩)⟩
            clear hcv hCv
            go_wp2_with fail
            refine HC2.out.mono ?_
            rintro e w7 ⟨rfl, hb⟩
            have HBn := Aside0.mk (below_step HB.out hb)
            have HG6n := Aside0.mk (blk_below HG6.out hb)
            have HG7n := Aside0.mk (blk_below HG7.out hb)
            have HNun := Aside0.mk (Kd.N_below HNu.out hb)
            have HNvn := Aside0.mk (Kd.N_below HNv.out hb)
            clear hb HB HG6 HG7 HNu HNv HC2 y0 y1 y2 y3 y4 y5 y6 y7 y8 y9
            have HB := HBn
            have HG6 := HG6n
            have HG7 := HG7n
            have HNu := HNun
            have HNv := HNvn
            clear HBn HG6n HG7n HNun HNvn
            obtain ⟨m, hm⟩ : ∃ m, m = (redL D i).length := ⟨_, rfl⟩
            rw [← hm]
            have HM := Aside0.mk hm
            have hm48 : m ≤ i := by rw [hm]; exact redL_length D i
            have his := redL_is (D := D) hi
            rw [← HL.out, ← hm] at his
            have HIS := Aside0.mk his
            clear hm his
            have g1 : decide ((N1 : Int) < (N2 : Int)) = false := by have := HFC.out.1; simp; omega
            have g2 : decide (N1 < N2) = false := by have := HFC.out.1; simp; omega
            have g3 : decide ((N2 : Int) > (N1 : Int)) = false := g1
            go_upto_region 18 with (fail)
            clear g1 g2 g3
            go_cut [14] (fun v14 wq => v14 = .bool (fol D i) ∧ wq = w7)
            case first =>
              by_cases hlt : m < L.length
              · have qa : decide ((m : Int) < (L.length : Int)) = true := by simpa using hlt
                have qb : decide (m < L.length) = true := by simpa using hlt
                obtain ⟨ad, hA, hx⟩ := Kd.at_int (Kd.C_below HCL.out HB.out) (m : Int) (by omega) (by omega)
                rw [Int.toNat_natCast] at hx
                subst hA
                have hq := HIS.out
                rw [qb, Bool.true_and] at hq
                have HQ := Aside0.mk hq
                clear hq
                generalize rd L (m : Int) = rv at hx HQ
                have pm : 0 ≤ (m : Int) := by omega
                have pl : (m : Int) < (L.length : Int) := by omega
                go_wp2_with fail
                go_meet
                case rel => exact ⟨by rw [← HQ.out], rfl⟩
              · have qa : decide ((m : Int) < (L.length : Int)) = false := by simpa using hlt
                have qb : decide (m < L.length) = false := by simpa using hlt
                have hq := HIS.out
                rw [qb, Bool.false_and] at hq
                have HQ := Aside0.mk hq
                clear hq
                go_wp2_with fail
                go_meet
                case rel => exact ⟨by rw [← HQ.out], rfl⟩
            case rest =>
              obtain ⟨rfl, rfl⟩ := hcut
              cases hf : fol D i with
              | true =>
                have e1 : N2 = N1 := HFC.out.2.2 hf
                have HY : Aside0 ((redL D (i + 1)).length = (redL D i).length + 1) := ⟨by simp only [redL]; rw [if_pos hf]; simp⟩
                have HLS : Aside0 (lessL D (i + 1) = lessL D i) := ⟨by simp only [lessL]; rw [if_pos hf]⟩
                subst e1
                clear hf
                go_wp2_with fail
                go_roundg (D.rules.length - (i + 1))
                case measure => have := HGK.out; omega
                case rel => exact ⟨i + 1, by go_num, by rw [HY.out, ← HM.out]; go_num, ⟨hi⟩, ⟨Nat.le_refl _⟩, HB, _, _, HG6, HG7, ⟨by rw [HLS.out]; exact HNu.out⟩, ⟨by rw [← HT2.out]; exact HNv.out⟩⟩
              | false =>
                have e1 : N2 ≠ N1 := fun h => by rw [HFC.out.2.1 h] at hf; cases hf
                have HY : Aside0 ((redL D (i + 1)).length = (redL D i).length) := ⟨by simp only [redL]; rw [if_neg (by rw [hf]; decide)]⟩
                have HLS : Aside0 (lessL D (i + 1) = lessL D i ++ [rd_T70 D.rules (i : Int)]) := ⟨by simp only [lessL]; rw [if_neg (by rw [hf]; decide)]⟩
                have n1 : ((N2 : Int) == (N1 : Int)) = false := by simp; omega
                have n2 : (N2 == N1) = false := by simpa using e1
                clear hf e1
                have p0 : 0 ≤ (i : Int) := by omega
                have p1 : (i : Int) < (D.rules.length : Int) := by omega
                obtain ⟨adr, A1, c1, hA7, hc0, hc1, hFK⟩ := rule_at HFF.out (i : Int) p0 p1
                rw [Int.toNat_natCast] at hc0 hc1
                have HC0 := Aside0.mk hc0
                have HC1 := Aside0.mk hc1
                have HFK := Aside0.mk hFK
                have HA7 := Aside0.mk hA7
                have HNd := Aside0.mk (Kd.N_drew HNu.out)
                have HNvd := Aside0.mk (Kd.N_drew HNv.out)
                have HG7d := Aside0.mk (blk_drew HG7.out)
                clear hc0 hc1 hFK hA7
                go_upto_region 23 with (fail)
                clear n1 n2
                refine start_ (n := 11) (S := fun w' => Below w5.heap.size w5 w' ∧ w'.heap[b6]? = some (.cells (gcells D H u) 41 (0, 0))) (ds := [10]) #[false, false, false, false, false, false, false, false, false, false, false] (by kernel_rfl) rfl rfl (⟨below_drew HB.out, blk_drew HG6.out⟩) (fun hHeld => ?_)
                generalize wc.drew = w19 at HNd HNvd HG7d hHeld ⊢
                refine pure_ (i := 0) (N := some 91) (v := ?_) (a' := ?_) #[true, false, false, false, false, false, false, false, false, false, false] rfl rfl (by kernel_rfl) (fun _ _ _ h => h) (Or.inl ⟨by rfl, ?_⟩) ?_ ?_
                rotate_left
                · intro w'
                  go_simp
                  with_reducible rfl
                rotate_left
                · simp only [Act.put, List.setIfInBounds_toArray, List.set_cons_zero, List.set_cons_succ, i64_w, i32_w]
                  rfl
                refine take_ (i := 1) (N := some 92) (v := ?_) (a' := ?_) #[true, true, false, false, false, false, false, false, false, false, false] rfl rfl (by kernel_rfl) (fun _ _ _ h => h) (Or.inl ⟨by rfl, ?_⟩) hHeld ?_ ?_
                rotate_left
                · intro w' hS
                  have s7 := (g_cells hS.2).2.2.2.2.2.2.2.1
                  go_simp
                  with_reducible rfl
                rotate_left
                · simp only [Act.put, List.setIfInBounds_toArray, List.set_cons_zero, List.set_cons_succ, i64_w, i32_w]
                  rfl
                refine pure_ (i := 2) (N := some 93) (v := ?_) (a' := ?_) #[true, true, true, false, false, false, false, false, false, false, false] rfl rfl (by kernel_rfl) (fun _ _ _ h => h) (Or.inl ⟨by rfl, ?_⟩) ?_ ?_
                rotate_left
                · intro w'
                  go_simp
                  with_reducible rfl
                rotate_left
                · simp only [Act.put, List.setIfInBounds_toArray, List.set_cons_zero, List.set_cons_succ, i64_w, i32_w]
                  rfl
                refine take_ (i := 3) (N := some 94) (v := ?_) (a' := ?_) #[true, true, true, true, false, false, false, false, false, false, false] rfl rfl (by kernel_rfl) (fun _ _ _ h => h) (Or.inl ⟨by rfl, ?_⟩) hHeld ?_ ?_
                rotate_left
                · intro w' hS
                  obtain ⟨k0, k1, k2, k3, k4, k5, k6, k7, k8, k9⟩ := box_cells (blk_below HK5.out hS.1)
                  rw [HA7.out] at k7
                  go_simp
                  with_reducible rfl
                rotate_left
                · simp only [Act.put, List.setIfInBounds_toArray, List.set_cons_zero, List.set_cons_succ, i64_w, i32_w]
                  rfl
                refine pure_ (i := 4) (N := some 95) (v := ?_) (a' := ?_) #[true, true, true, true, true, false, false, false, false, false, false] rfl rfl (by kernel_rfl) (fun _ _ _ h => h) (Or.inl ⟨by rfl, ?_⟩) ?_ ?_
                rotate_left
                · intro w'
                  go_simp
                  with_reducible rfl
                rotate_left
                · simp only [Act.put, List.setIfInBounds_toArray, List.set_cons_zero, List.set_cons_succ, i64_w, i32_w]
                  rfl
                refine pure_ (i := 5) (N := some 96) (v := ?_) (a' := ?_) #[true, true, true, true, true, true, false, false, false, false, false] rfl rfl (by kernel_rfl) (fun _ _ _ h => h) (Or.inl ⟨by rfl, ?_⟩) ?_ ?_
                rotate_left
                · intro w'
                  go_simp
                  with_reducible rfl
                rotate_left
                · simp only [Act.put, List.setIfInBounds_toArray, List.set_cons_zero, List.set_cons_succ, i64_w, i32_w]
                  rfl
                refine take_ (i := 6) (N := some 97) (v := ?_) (a' := ?_) #[true, true, true, true, true, true, true, false, false, false, false] rfl rfl (by kernel_rfl) (fun _ _ _ h => h) (Or.inl ⟨by rfl, ?_⟩) hHeld ?_ ?_
                rotate_left
                · intro w' hS
                  have hc0 := cell_keep hS.1 HC0.out
                  have hc1 := cell_keep hS.1 HC1.out
                  go_simp
                  with_reducible rfl
                rotate_left
                · simp only [Act.put, List.setIfInBounds_toArray, List.set_cons_zero, List.set_cons_succ, i64_w, i32_w]
                  rfl
                refine one_ (i := 7) (N := some 98) #[true, true, true, true, true, true, true, true, false, false, false] rfl rfl (by kernel_rfl) (by decide) (fun K hK => ?_)
                refine value_ (w1 := ?_) (v := ?_) (by rfl) rfl ?_ ?_
                rotate_left 2
                · go_simp
                  constructor
                  · rfl
                  · rfl
                refine hK.out _ _ ⟨below_alloc hHeld.1 _, blk_alloc hHeld.2 _⟩ (fun hHeld2 => ?_)
                clear hK K
                refine norm_ (a' := ?_) ?_ ?_
                rotate_left
                · show Act.put _ (some 98) _ = _
                  simp only [Act.put, List.setIfInBounds_toArray, List.set_cons_zero, List.set_cons_succ, i64_w, i32_w]
                  rfl
                refine one_ (i := 8) (N := some 99) #[true, true, true, true, true, true, true, true, true, false, false] rfl rfl (by kernel_rfl) (by decide) (fun K hK => ?_)
                refine Kd.N_append_step k70 (w0 := w5) w5.heap.size (by rfl) (.tmp 92) (.tmp 98) 37 70 (.agg #[(.string ⟨#[]⟩), (.slice none 0 0)]) 40 rfl Try.underlying37 info70 rfl (by decide) (by decide) u (lessL D i) (rd_T70 D.rules (i : Int)) [.string (rd_T70 D.rules (i : Int)).f0, .slice A1 (rd_T70 D.rules (i : Int)).f1.length c1] (fun k => k ≠ b6 ∧ k ≠ b7) (fun k => k < w5.heap.size) rfl rfl ?aP ?aK ?aF ?aO ?aB ?aS ?aL ?_
                (case aP => exact Kd.FK_below HFK.out hHeld.1)
                (case aK => exact fun k hk => ⟨⟨fun he => by have := HL6.out; omega, fun he => by have := HL7.out; omega⟩, fun he => Nat.not_lt.2 (Kd.N_base HNd.out k he.symm) hk⟩)
                (case aF => exact fun k hk => ⟨fun he => by have := blk_lt hHeld.2; omega, fun he => by have := blk_lt HG7d.out; omega⟩)
                (case aO => exact HNd.out)
                (case aB => exact hHeld.1)
                (case aS => exact hHeld.1.size)
                (case aL => have := lessL_length D i; omega)
                intro v1 w9 ho hb hg hat
                have HNvw := Aside0.mk (Kd.N_after (ok := fun k => k ≠ b6 ∧ k ≠ b7) HNvd.out hg hat)
                have HG7w := Aside0.mk (blk_grown HG7d.out hg (Kd.N_ne HNd.out HG7d.out (by decide)))
                rw [← HLS.out] at ho
                obtain ⟨Ax, cx, hvv⟩ := Kd.N_slice ho
                obtain ⟨Lx, hLx⟩ : ∃ m, m = (lessL D (i + 1)).length := ⟨_, rfl⟩
                rw [← hLx] at hvv
                subst hvv
                clear hLx
                refine hK.out _ _ ⟨hb, blk_grown hHeld.2 hg (Kd.N_ne HNd.out hHeld.2 (by decide))⟩ (fun hHeld3 => ?_)
                clear hK K
                refine norm_ (a' := ?_) ?_ ?_
                rotate_left
                · show Act.put _ (some 99) _ = _
                  simp only [Act.put, List.setIfInBounds_toArray, List.set_cons_zero, List.set_cons_succ, i64_w, i32_w]
                  rfl
                refine pure_ (i := 9) (N := some 100) (v := ?_) (a' := ?_) #[true, true, true, true, true, true, true, true, true, true, false] rfl rfl (by kernel_rfl) (fun _ _ _ h => h) (Or.inl ⟨by rfl, ?_⟩) ?_ ?_
                rotate_left
                · intro w'
                  go_simp
                  with_reducible rfl
                rotate_left
                · simp only [Act.put, List.setIfInBounds_toArray, List.set_cons_zero, List.set_cons_succ, i64_w, i32_w]
                  rfl
                refine last_ (i := 10) (N := none) #[true, true, true, true, true, true, true, true, true, true, true] rfl rfl (by kernel_rfl) (by decide) (fun K hK => ?_)
                have s7 := (g_cells hHeld3.2).2.2.2.2.2.2.2.1
                have f7 := blk_frozen hHeld3.2 7
                refine skip_ (w1 := ?_) (by rfl) rfl ?_ ?_
                rotate_left
                · go_simp
                  rfl
                refine hK.out _ _ ?_
                clear hK K
                refine done_ (by kernel_rfl) ?_
                go_wp2_with fail
                go_roundg (D.rules.length - (i + 1))
                case measure => have := HGK.out; omega
                case rel => exact ⟨i + 1, by go_num, by rw [HY.out, HM.out], ⟨hi⟩, ⟨Nat.le_refl _⟩, ⟨below_set hHeld3.1 HL6.out⟩, _, _, ⟨g_set hHeld3.2 _⟩, ⟨blk_far (p := ⟨b6, 7, none⟩) HG7w.out HNE.out.symm _⟩, ⟨Kd.N_far (p := ⟨b6, 7, none⟩) ho (fun k hk => hk.1) _⟩, ⟨by rw [← HT2.out]; exact Kd.N_far (p := ⟨b6, 7, none⟩) HNvw.out (fun k hk => hk.1.1) _⟩⟩
        · have q0 : decide ((i : Int) < (D.rules.length : Int)) = false := by simpa using hi
          have q1 : decide (i < D.rules.length) = false := by simpa using hi
          have hin : i = D.rules.length := by have := HI.out; omega
          rw [hin, ← HL.out]
          rw [hin] at HNu q0 q1
          clear hin hi HI HGK HNv
          obtain ⟨LS, hLS⟩ : ∃ l, l = lessL D D.rules.length := ⟨_, rfl⟩
          have hsub : List.Sublist LS D.rules := by
            have h := lessL_sub D D.rules.length (Nat.le_refl _)
            rw [List.take_length] at h
            rw [hLS]
            exact h
          rw [← hLS] at HNu
          obtain ⟨Au, cu, hu, hcu, hCu⟩ := Kd.N_reads HNu.out
          subst hu
          obtain ⟨RR, hRR⟩ : ∃ r, r = allowedL D (List.replicate D.rules.length false) [] := ⟨_, rfl⟩
          have HSM := Aside0.mk (sameInts_f (show RR.length < 3000 by rw [hRR]; exact allowedL_len D _ hn6))
          have hRL : allowedL { D with rules := LS } (List.replicate LS.length false) [] = RR := by rw [hRR, hLS]; exact allowed_less D _ _
          have hFL : FamAt wr { D with rules := LS } { H with A7 := Au, c7 := cu } := FamAt.less (HF5.out.below HB.out) hcu hCu
          have hSL := small_less HDs.out hsub
          have HCn1 : Aside0 (∀ W, Below wr.heap.size wr W → Calls Try.prog 18 #[.agg #[.string D.nm, .slice H.A1 D.parts.length H.c1, .slice H.A2 D.insts.length H.c2, .slice H.A3 D.dims.length H.c3, .slice H.A4 D.cons.length H.c4, .slice H.A5 D.reqs.length H.c5, .slice H.A6 D.opts.length H.c6, .slice Au LS.length cu, .slice H.A8 D.guards.length H.c8, .slice H.A9 D.overs.length H.c9]] W fun e w' => ∃ A cp, e = .returned (.slice A LS.length cp) ∧ LS.length ≤ cp ∧ Kd.C Kd.bool w' A LS.length (List.replicate LS.length false) ∧ Below W.heap.size W w') := ⟨fun W hW => ref_none { D with rules := LS } { H with A7 := Au, c7 := cu } W (hFL.below hW) hSL.rules⟩
          have HCa1 : Aside0 (∀ W A cp, Below wr.heap.size wr W → Kd.C Kd.bool W A LS.length (List.replicate LS.length false) → LS.length ≤ cp → Calls Try.prog 17 #[.agg #[.string D.nm, .slice H.A1 D.parts.length H.c1, .slice H.A2 D.insts.length H.c2, .slice H.A3 D.dims.length H.c3, .slice H.A4 D.cons.length H.c4, .slice H.A5 D.reqs.length H.c5, .slice H.A6 D.opts.length H.c6, .slice Au LS.length cu, .slice H.A8 D.guards.length H.c8, .slice H.A9 D.overs.length H.c9], .slice A LS.length cp, .slice none 0 0] W fun e w' => ∃ A2 c2, e = .returned (.slice A2 RR.length c2) ∧ RR.length ≤ c2 ∧ Kd.C (Kd.int .i64) w' A2 RR.length RR ∧ Below W.heap.size W w') := ⟨fun W A cp hW hC hc => by
            have h := ref_allowed { D with rules := LS } { H with A7 := Au, c7 := cu } A cp LS.length (List.replicate LS.length false) List.length_replicate none 0 [] W (hFL.below hW) hSL hn1 hn6 (by rw [List.length_replicate]; exact Nat.le_refl _) (fun x hx => absurd hx (by simp)) (by decide) (fun r hr => HDr.out r (hsub.subset hr)) hC hc (Kd.C_nil _ _) (Nat.le_refl _)
            rw [hRL] at h
            exact h⟩
          have HCn2 : Aside0 (∀ W, Below wr.heap.size wr W → Calls Try.prog 18 #[.agg #[.string D.nm, .slice H.A1 D.parts.length H.c1, .slice H.A2 D.insts.length H.c2, .slice H.A3 D.dims.length H.c3, .slice H.A4 D.cons.length H.c4, .slice H.A5 D.reqs.length H.c5, .slice H.A6 D.opts.length H.c6, .slice H.A7 D.rules.length H.c7, .slice H.A8 D.guards.length H.c8, .slice H.A9 D.overs.length H.c9]] W fun e w' => ∃ A cp, e = .returned (.slice A D.rules.length cp) ∧ D.rules.length ≤ cp ∧ Kd.C Kd.bool w' A D.rules.length (List.replicate D.rules.length false) ∧ Below W.heap.size W w') := ⟨fun W hW => ref_none D H W (HF5.out.below (below_step HB.out hW)) HDs.out.rules⟩
          have HCa2 : Aside0 (∀ W A cp, Below wr.heap.size wr W → Kd.C Kd.bool W A D.rules.length (List.replicate D.rules.length false) → D.rules.length ≤ cp → Calls Try.prog 17 #[.agg #[.string D.nm, .slice H.A1 D.parts.length H.c1, .slice H.A2 D.insts.length H.c2, .slice H.A3 D.dims.length H.c3, .slice H.A4 D.cons.length H.c4, .slice H.A5 D.reqs.length H.c5, .slice H.A6 D.opts.length H.c6, .slice H.A7 D.rules.length H.c7, .slice H.A8 D.guards.length H.c8, .slice H.A9 D.overs.length H.c9], .slice A D.rules.length cp, .slice none 0 0] W fun e w' => ∃ A2 c2, e = .returned (.slice A2 RR.length c2) ∧ RR.length ≤ c2 ∧ Kd.C (Kd.int .i64) w' A2 RR.length RR ∧ Below W.heap.size W w') := ⟨fun W A cp hW hC hc => by
            have h := ref_allowed D H A cp D.rules.length (List.replicate D.rules.length false) List.length_replicate none 0 [] W (HF5.out.below (below_step HB.out hW)) HDs.out hn1 hn6 (by rw [List.length_replicate]; exact Nat.le_refl _) (fun x hx => absurd hx (by simp)) (by decide) HDr.out hC hc (Kd.C_nil _ _) (Nat.le_refl _)
            rw [← hRR] at h
            exact h⟩
          clear hcu hCu hRL hFL hSL hRR hLS hsub HNu
          go_upto_region 24 with (fail)
          clear k0 k1 k2 k3 k4 k5 k6 k7 k8 k9 q0 q1
          refine start_ (n := 16) (S := fun w' => Below wr.heap.size wr w') (ds := []) #[false, false, false, false, false, false, false, false, false, false, false, false, false, false, false, false] (by kernel_rfl) rfl rfl (below_drew (Below.refl _ _)) (fun hHeld => ?_)
          generalize wr.drew = w19 at hHeld ⊢
          refine pure_ (i := 0) (N := some 101) (v := ?_) (a' := ?_) #[true, false, false, false, false, false, false, false, false, false, false, false, false, false, false, false] rfl rfl (by kernel_rfl) (fun _ _ _ h => h) (Or.inl ⟨by rfl, ?_⟩) ?_ ?_
          rotate_left
          · intro w'
            go_simp
            with_reducible rfl
          rotate_left
          · simp only [Act.put, List.setIfInBounds_toArray, List.set_cons_zero, List.set_cons_succ, i64_w, i32_w]
            rfl
          refine pure_ (i := 1) (N := some 102) (v := ?_) (a' := ?_) #[true, true, false, false, false, false, false, false, false, false, false, false, false, false, false, false] rfl rfl (by kernel_rfl) (fun _ _ _ h => h) (Or.inl ⟨by rfl, ?_⟩) ?_ ?_
          rotate_left
          · intro w'
            go_simp
            with_reducible rfl
          rotate_left
          · simp only [Act.put, List.setIfInBounds_toArray, List.set_cons_zero, List.set_cons_succ, i64_w, i32_w]
            rfl
          refine pure_ (i := 2) (N := some 103) (v := ?_) (a' := ?_) #[true, true, true, false, false, false, false, false, false, false, false, false, false, false, false, false] rfl rfl (by kernel_rfl) (fun _ _ _ h => h) (Or.inl ⟨by rfl, ?_⟩) ?_ ?_
          rotate_left
          · intro w'
            go_simp
            with_reducible rfl
          rotate_left
          · simp only [Act.put, List.setIfInBounds_toArray, List.set_cons_zero, List.set_cons_succ, i64_w, i32_w]
            rfl
          refine pure_ (i := 3) (N := some 104) (v := ?_) (a' := ?_) #[true, true, true, true, false, false, false, false, false, false, false, false, false, false, false, false] rfl rfl (by kernel_rfl) (fun _ _ _ h => h) (Or.inl ⟨by rfl, ?_⟩) ?_ ?_
          rotate_left
          · intro w'
            go_simp
            with_reducible rfl
          rotate_left
          · simp only [Act.put, List.setIfInBounds_toArray, List.set_cons_zero, List.set_cons_succ, i64_w, i32_w]
            rfl
          refine pure_ (i := 4) (N := some 105) (v := ?_) (a' := ?_) #[true, true, true, true, true, false, false, false, false, false, false, false, false, false, false, false] rfl rfl (by kernel_rfl) (fun _ _ _ h => h) (Or.inl ⟨by rfl, ?_⟩) ?_ ?_
          rotate_left
          · intro w'
            go_simp
            with_reducible rfl
          rotate_left
          · simp only [Act.put, List.setIfInBounds_toArray, List.set_cons_zero, List.set_cons_succ, i64_w, i32_w]
            rfl
          refine take_ (i := 5) (N := some 106) (v := ?_) (a' := ?_) #[true, true, true, true, true, true, false, false, false, false, false, false, false, false, false, false] rfl rfl (by kernel_rfl) (fun _ _ _ h => h) (Or.inl ⟨by rfl, ?_⟩) hHeld ?_ ?_
          rotate_left
          · intro w' hS
            obtain ⟨k0, k1, k2, k3, k4, k5, k6, k7, k8, k9⟩ := g_cells (blk_below HG6.out hS)
            go_simp
            with_reducible rfl
          rotate_left
          · simp only [Act.put, List.setIfInBounds_toArray, List.set_cons_zero, List.set_cons_succ, i64_w, i32_w]
            rfl
          refine take_ (i := 6) (N := some 107) (v := ?_) (a' := ?_) #[true, true, true, true, true, true, true, false, false, false, false, false, false, false, false, false] rfl rfl (by kernel_rfl) (fun _ _ _ h => h) (Or.inl ⟨by rfl, ?_⟩) hHeld ?_ ?_
          rotate_left
          · intro w' hS
            obtain ⟨k0, k1, k2, k3, k4, k5, k6, k7, k8, k9⟩ := g_cells (blk_below HG6.out hS)
            go_simp
            with_reducible rfl
          rotate_left
          · simp only [Act.put, List.setIfInBounds_toArray, List.set_cons_zero, List.set_cons_succ, i64_w, i32_w]
            rfl
          refine take_ (i := 9) (N := some 110) (v := ?_) (a' := ?_) #[true, true, true, true, true, true, true, false, false, true, false, false, false, false, false, false] rfl rfl (by kernel_rfl) (fun _ _ _ h => h) (Or.inl ⟨by rfl, ?_⟩) hHeld ?_ ?_
          rotate_left
          · intro w' hS
            obtain ⟨k0, k1, k2, k3, k4, k5, k6, k7, k8, k9⟩ := box_cells (blk_below HK5.out (below_step HB.out hS))
            go_simp
            with_reducible rfl
          rotate_left
          · simp only [Act.put, List.setIfInBounds_toArray, List.set_cons_zero, List.set_cons_succ, i64_w, i32_w]
            rfl
          refine take_ (i := 10) (N := some 111) (v := ?_) (a' := ?_) #[true, true, true, true, true, true, true, false, false, true, true, false, false, false, false, false] rfl rfl (by kernel_rfl) (fun _ _ _ h => h) (Or.inl ⟨by rfl, ?_⟩) hHeld ?_ ?_
          rotate_left
          · intro w' hS
            obtain ⟨k0, k1, k2, k3, k4, k5, k6, k7, k8, k9⟩ := box_cells (blk_below HK5.out (below_step HB.out hS))
            go_simp
            with_reducible rfl
          rotate_left
          · simp only [Act.put, List.setIfInBounds_toArray, List.set_cons_zero, List.set_cons_succ, i64_w, i32_w]
            rfl
          refine one_ (i := 7) (N := some 108) #[true, true, true, true, true, true, true, true, false, true, true, false, false, false, false, false] rfl rfl (by kernel_rfl) (by decide) (fun K hK => ?_)
          refine goes_ Try.func18 (by kernel_rfl) rfl #[.agg #[.string D.nm, .slice H.A1 D.parts.length H.c1, .slice H.A2 D.insts.length H.c2, .slice H.A3 D.dims.length H.c3, .slice H.A4 D.cons.length H.c4, .slice H.A5 D.reqs.length H.c5, .slice H.A6 D.opts.length H.c6, .slice Au LS.length cu, .slice H.A8 D.guards.length H.c8, .slice H.A9 D.overs.length H.c9]] (by rfl) rfl rfl (by (try simp only [List.map_toArray, List.map_cons, List.map_nil]); first | done | rfl) ?_
          refine (HCn1.out w19 hHeld).mono ?_
          rintro e wx1 ⟨A1, c1, rfl, hc1, hC1, hb1⟩
          refine ⟨_, rfl, ?_⟩
          have HX1 := Aside0.mk hC1
          have HY1 := Aside0.mk hc1
          have hS1 := below_step hHeld hb1
          clear hC1 hc1 hb1
          refine hK.out _ _ hS1 (fun hH1 => ?_)
          clear hK K
          refine norm_ (a' := ?_) ?_ ?_
          rotate_left
          · show Act.put _ (some 108) _ = _
            simp only [Act.put, List.setIfInBounds_toArray, List.set_cons_zero, List.set_cons_succ, i64_w, i32_w]
            rfl
          refine one_ (i := 8) (N := some 109) #[true, true, true, true, true, true, true, true, true, true, true, false, false, false, false, false] rfl rfl (by kernel_rfl) (by decide) (fun K hK => ?_)
          refine goes_ Try.func17 (by kernel_rfl) rfl #[.agg #[.string D.nm, .slice H.A1 D.parts.length H.c1, .slice H.A2 D.insts.length H.c2, .slice H.A3 D.dims.length H.c3, .slice H.A4 D.cons.length H.c4, .slice H.A5 D.reqs.length H.c5, .slice H.A6 D.opts.length H.c6, .slice Au LS.length cu, .slice H.A8 D.guards.length H.c8, .slice H.A9 D.overs.length H.c9], .slice A1 LS.length c1, .slice none 0 0] (by rfl) rfl rfl (by (try simp only [List.map_toArray, List.map_cons, List.map_nil]); first | done | rfl) ?_
          refine (HCa1.out wx1 A1 c1 hH1 HX1.out HY1.out).mono ?_
          rintro e wx2 ⟨A2, c2, rfl, hc2, hC2, hb2⟩
          refine ⟨_, rfl, ?_⟩
          have HX2 := Aside0.mk hC2
          have HY2 := Aside0.mk hc2
          have hS2 := below_step hH1 hb2
          clear hC2 hc2 hb2
          refine hK.out _ _ hS2 (fun hH2 => ?_)
          clear hK K
          refine norm_ (a' := ?_) ?_ ?_
          rotate_left
          · show Act.put _ (some 109) _ = _
            simp only [Act.put, List.setIfInBounds_toArray, List.set_cons_zero, List.set_cons_succ, i64_w, i32_w]
            rfl
          refine one_ (i := 11) (N := some 112) #[true, true, true, true, true, true, true, true, true, true, true, true, false, false, false, false] rfl rfl (by kernel_rfl) (by decide) (fun K hK => ?_)
          refine goes_ Try.func18 (by kernel_rfl) rfl #[.agg #[.string D.nm, .slice H.A1 D.parts.length H.c1, .slice H.A2 D.insts.length H.c2, .slice H.A3 D.dims.length H.c3, .slice H.A4 D.cons.length H.c4, .slice H.A5 D.reqs.length H.c5, .slice H.A6 D.opts.length H.c6, .slice H.A7 D.rules.length H.c7, .slice H.A8 D.guards.length H.c8, .slice H.A9 D.overs.length H.c9]] (by rfl) rfl rfl (by (try simp only [List.map_toArray, List.map_cons, List.map_nil]); first | done | rfl) ?_
          refine (HCn2.out wx2 hH2).mono ?_
          rintro e wx3 ⟨A3, c3, rfl, hc3, hC3, hb3⟩
          refine ⟨_, rfl, ?_⟩
          have HX3 := Aside0.mk hC3
          have HY3 := Aside0.mk hc3
          have hS3 := below_step hH2 hb3
          have HX2b := Aside0.mk (Kd.C_below HX2.out hb3)
          clear hC3 hc3 hb3
          refine hK.out _ _ hS3 (fun hH3 => ?_)
          clear hK K
          refine norm_ (a' := ?_) ?_ ?_
          rotate_left
          · show Act.put _ (some 112) _ = _
            simp only [Act.put, List.setIfInBounds_toArray, List.set_cons_zero, List.set_cons_succ, i64_w, i32_w]
            rfl
          refine one_ (i := 12) (N := some 113) #[true, true, true, true, true, true, true, true, true, true, true, true, true, false, false, false] rfl rfl (by kernel_rfl) (by decide) (fun K hK => ?_)
          refine goes_ Try.func17 (by kernel_rfl) rfl #[.agg #[.string D.nm, .slice H.A1 D.parts.length H.c1, .slice H.A2 D.insts.length H.c2, .slice H.A3 D.dims.length H.c3, .slice H.A4 D.cons.length H.c4, .slice H.A5 D.reqs.length H.c5, .slice H.A6 D.opts.length H.c6, .slice H.A7 D.rules.length H.c7, .slice H.A8 D.guards.length H.c8, .slice H.A9 D.overs.length H.c9], .slice A3 D.rules.length c3, .slice none 0 0] (by rfl) rfl rfl (by (try simp only [List.map_toArray, List.map_cons, List.map_nil]); first | done | rfl) ?_
          refine (HCa2.out wx3 A3 c3 hH3 HX3.out HY3.out).mono ?_
          rintro e wx4 ⟨A4, c4, rfl, hc4, hC4, hb4⟩
          refine ⟨_, rfl, ?_⟩
          have HX4 := Aside0.mk hC4
          have HY4 := Aside0.mk hc4
          have hS4 := below_step hH3 hb4
          have HX2c := Aside0.mk (Kd.C_below HX2b.out hb4)
          clear hC4 hc4 hb4
          refine hK.out _ _ hS4 (fun hH4 => ?_)
          clear hK K
          refine norm_ (a' := ?_) ?_ ?_
          rotate_left
          · show Act.put _ (some 113) _ = _
            simp only [Act.put, List.setIfInBounds_toArray, List.set_cons_zero, List.set_cons_succ, i64_w, i32_w]
            rfl
          refine one_ (i := 13) (N := some 114) #[true, true, true, true, true, true, true, true, true, true, true, true, true, true, false, false] rfl rfl (by kernel_rfl) (by decide) (fun K hK => ?_)
          refine goes_ Try.func25 (by kernel_rfl) rfl #[.slice A2 RR.length c2, .slice A4 RR.length c4] (by rfl) rfl rfl (by (try simp only [List.map_toArray, List.map_cons, List.map_nil]); first | done | rfl) ?_
          refine (dowellaw48_sameInts.calls 4000 A2 c2 RR A4 c4 RR true wx4 HX2c.out HY2.out HX4.out HY4.out HSM.out).mono ?_
          rintro e wx5 ⟨rfl, ⟨nd5, rfl⟩⟩
          refine ⟨_, rfl, ?_⟩
          have hS5 : Below wr.heap.size wr (wx4.drewN nd5) := pw_below_drewN hH4 nd5
          refine hK.out _ _ hS5 (fun hH5 => ?_)
          clear hK K
          refine norm_ (a' := ?_) ?_ ?_
          rotate_left
          · show Act.put _ (some 114) _ = _
            simp only [Act.put, List.setIfInBounds_toArray, List.set_cons_zero, List.set_cons_succ, i64_w, i32_w]
            rfl
          refine pure_ (i := 14) (N := some 115) (v := ?_) (a' := ?_) #[true, true, true, true, true, true, true, true, true, true, true, true, true, true, true, false] rfl rfl (by kernel_rfl) (fun _ _ _ h => h) (Or.inl ⟨by rfl, ?_⟩) ?_ ?_
          rotate_left
          · intro w'
            go_simp
            with_reducible rfl
          rotate_left
          · simp only [Act.put, List.setIfInBounds_toArray, List.set_cons_zero, List.set_cons_succ, i64_w, i32_w]
            rfl
          refine pure_ (i := 15) (N := some 2) (v := ?_) (a' := ?_) #[true, true, true, true, true, true, true, true, true, true, true, true, true, true, true, true] rfl rfl (by kernel_rfl) (fun _ _ _ h => h) (Or.inl ⟨by rfl, ?_⟩) ?_ ?_
          rotate_left
          · intro w'
            go_simp
            with_reducible rfl
          rotate_left
          · simp only [Act.put, List.setIfInBounds_toArray, List.set_cons_zero, List.set_cons_succ, i64_w, i32_w]
            rfl
          refine done_ (by kernel_rfl) ?_
          go_wp2_with fail
          go_ret
          exact ⟨rfl, below_step HB5.out (below_step HB.out hH5)⟩
end Go.Proofs.Ytbnmdlnpfikkcaa.PX
/- The row of the law VariantRedundant: for every input it returns true, and its arguments read behind the call as they read before. -/
namespace Go.Proofs.Ytbnmdlnpfikkcaa.variantRedundant
open Go.ChangeShapes Go.WideShapes Go.ChangeAt Go.RowKit
set_option linter.unusedVariables false
theorem own : ownKnob Try.prog.godebug = none := by kernel_rfl
theorem laidOut : laidOutB Try.prog = true := by kernel_rfl
set_option maxRecDepth 100000 in
theorem lifted (os : Os) (started : os.Started) (H : Type) (enc : TypeId × Value → H) :
    ReturnsInHanded {} Try.checked os 7 .any (Rows.variantRedundantSpec.pre6 enc Try.prog Try.f7 Rows.variantRedundantRow.domain false) (Rows.variantRedundantSpec.post enc Try.prog Try.f7 false true false false) := by
  refine returnsInHanded_of_change_sized (C := Try.checked) own started (by kernel_rfl) Try.func7
    (ChangeSpec.witness6 (enc := enc) (C := Try.checked) false ⟨#[], #[.agg #[.int .u8 0, .slice none 0 0, .slice none 0 0, .slice none 0 0]], []⟩ 8 (by kernel_rfl) (by kernel_rfl) (by kernel_rfl) (by kernel_rfl)) ?_
  intro W base args ds gs before hval0 hW hcnd hsz0 _
  have hval : ∀ (j : Nat) t v, Try.f7.params[j]? = some t → args[j]? = some v → Value.okWide Try.prog W .any base t v := hval0
  have hW' := hW
  obtain ⟨p, q, hA0, hV, rfl, hfz, hnd⟩ := hW
  have hA : DataW.TrodAll enc Try.prog W 0 (fun _ => true) true Try.f7.params.toList args.toList ds p := hA0
  rw [Try.params7] at hA hval
  obtain ⟨v0, vs0, d0, ds0, p0, q0, hargs, rfl, rfl, h0, r0⟩ := trodAll_cons hA
  obtain ⟨rfl, rfl, rfl⟩ := trodAll_nil r0
  obtain rfl : args = #[v0] := by cases args; simp_all
  obtain ⟨rfl, rfl⟩ := trodVars_none hV
  have k0 := h0
  have lt0 : ∀ x ∈ p0, x.block < W.heap.size := by obtain ⟨m, hm⟩ := k0; exact DataW.trod_lt m _ _ _ hm
  obtain ⟨a, R, G, O, B1, B2, B3, e1, e2, e3, rfl, g0, g1, hk⟩ := PX.kin_open (hval 0 24 v0 rfl rfl) h0
  clear hA0 hval0 hsz0
  refine (PX.law7 a R G O B1 B2 B3 e1 e2 e3 W g0 g1 hk).mono fun e W' ⟨he, bel⟩ => ?_
  subst he
  exact ⟨_, rfl, _, _, _, [], _, [], hW', trodAll_mk1 (shut_bool Try.underlying4 _), (trodAll_cons_mk (Below.trod laidOut (by kernel_rfl) (of_decide_eq_true (by kernel_rfl)) k0 bel lt0) trodAll_mk0), rfl, bel.frame _, fun h => by cases h⟩
theorem over : Rows.variantRedundantRow.holds Try.pinned (OpenSpec.ofChange Rows.variantRedundantSpec) :=
  OpenClaim.holds_of_wide 7 Try.f7 rfl rfl rfl rfl rfl rfl rfl ⟨rfl, rfl, rfl, rfl, rfl⟩ rfl rfl rfl rfl rfl (by kernel_rfl) Try.func7 (by kernel_rfl)
    (of_decide_eq_true (by kernel_rfl)) (by unfold Func.isWrapper; first | (rw [if_pos (by decide +kernel)]; kernel_rfl) | (rw [if_neg (by decide +kernel)]; exact ⟨rfl, rfl⟩))
    (fun os started H enc _ => lifted os started H enc)
theorem proved : Rows.VariantRedundantSaid := over
#print axioms proved
end Go.Proofs.Ytbnmdlnpfikkcaa.variantRedundant
namespace Go.Proofs.Ytbnmdlnpfikkcaa
theorem variantRedundant_holds : Rows.VariantRedundantSaid := variantRedundant.proved
end Go.Proofs.Ytbnmdlnpfikkcaa
