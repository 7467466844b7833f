/- VariantUses returns true for every input, and its arguments read behind the call as they read before: no condition. -/
import Derived.Test.YtbnmdlnpfikkcaaMA
import Derived.Test.YtbnmdlnpfikkcaaM4
import Derived.Deep.RegionWith
import Derived.Test.YtbnmdlnpfikkcaaK0
import Derived.Test.YtbnmdlnpfikkcaaRows
import Derived.WalkKit
import Derived.ProofKit
import Derived.OpenShut
import Derived.ChangeOld
import Derived.SizedLaws
import Derived.Deep.Matrix
import Derived.Deep.SlicePairs
import Derived.Lib.SmallJoins
import Derived.Test.YtbnmdlnpfikkcaaM6
/- What all laws' walks want: a description in a world; the reference's functions by their contracts. -/
namespace Go.Proofs.Ytbnmdlnpfikkcaa.PX
open Go.RowKit Go.Proofs.YtbnmdlnpfikkcaaW.PrintWords Go.Proofs.YtbnmdlnpfikkcaaW.PrintLast Go.Proofs.YtbnmdlnpfikkcaaW.PrintMore
set_option linter.unusedVariables false
set_option linter.unusedSimpArgs false
/-- A description, in a world. -/
structure KinAt (w : World) (R G O : List (List Int)) (B1 B2 B3 : Option Addr) (d1 d2 d3 : Nat) : Prop where
  r1 : Kd.C (Kd.slice 95 (Kd.int .i8)) w B1 R.length R
  l1 : R.length ≤ d1
  r2 : Kd.C (Kd.slice 95 (Kd.int .i8)) w B2 G.length G
  l2 : G.length ≤ d2
  r3 : Kd.C (Kd.slice 95 (Kd.int .i8)) w B3 O.length O
  l3 : O.length ≤ d3
  a1 : All8 R
  a2 : All8 G
  a3 : All8 O
theorem KinAt.below {w w1 : World} {R G O : List (List Int)} {B1 B2 B3 : Option Addr} {d1 d2 d3 : Nat} (h : KinAt w R G O B1 B2 B3 d1 d2 d3) (hb : Below w.heap.size w w1) : KinAt w1 R G O B1 B2 B3 d1 d2 d3 :=
  ⟨Kd.C_below h.r1 hb, h.l1, Kd.C_below h.r2 hb, h.l2, Kd.C_below h.r3 hb, h.l3, h.a1, h.a2, h.a3⟩
def kinV (a : Int) (R G O : List (List Int)) (B1 B2 B3 : Option Addr) (d1 d2 d3 : Nat) : Value := .agg #[.int .u8 a, .slice B1 R.length d1, .slice B2 G.length d2, .slice B3 O.length d3]
theorem kfam_calls {a : Int} {R G O : List (List Int)} {B1 B2 B3 : Option Addr} {d1 d2 d3 : Nat} {A1 A2 A3 A4 A5 : Option Addr} {c1 c2 c3 c4 c5 : Nat} {w : World} (h0 : 0 ≤ a) (h255 : a ≤ 255) (hk : KinAt w R G O B1 B2 B3 d1 d2 d3) (hb : BaseAt w A1 A2 A3 A4 A5 c1 c2 c3 c4 c5) :
    Calls Try.prog 12 #[kinV a R G O B1 B2 B3 d1 d2 d3, baseV A1 A2 A3 A4 A5 c1 c2 c3 c4 c5] w fun e w' => ∃ H : Hd, e = .returned (fv (famK a R G O) H) ∧ FamAt w' (famK a R G O) H ∧ Below w.heap.size w w' :=
  fam_calls a R G O B1 B2 B3 d1 d2 d3 A1 A2 A3 A4 A5 c1 c2 c3 c4 c5 w h0 h255 hk.a1 hk.a2 hk.a3 hk.r1 hk.l1 hk.r2 hk.l2 hk.r3 hk.l3 hb
def kinC (a : Int) (R G O : List (List Int)) (B1 B2 B3 : Option Addr) (d1 d2 d3 : Nat) : Array Value := #[.int .u8 a, .slice B1 R.length d1, .slice B2 G.length d2, .slice B3 O.length d3]
theorem kin_cells {w : World} {g : Nat} {a : Int} {R G O : List (List Int)} {B1 B2 B3 : Option Addr} {d1 d2 d3 : Nat} (h : w.heap[g]? = some (.cells (kinC a R G O B1 B2 B3 d1 d2 d3) 24 (0, 0))) :
    w.cell? ⟨g, 0, none⟩ = some (.int .u8 a) ∧ w.cell? ⟨g, 1, none⟩ = some (.slice B1 R.length d1) ∧ w.cell? ⟨g, 2, none⟩ = some (.slice B2 G.length d2) ∧ w.cell? ⟨g, 3, none⟩ = some (.slice B3 O.length d3) :=
  ⟨(blk_cell h 0).trans rfl, (blk_cell h 1).trans rfl, (blk_cell h 2).trans rfl, (blk_cell h 3).trans rfl⟩
theorem ref_none (D : Fam) (H : Hd) (w : World) (h : FamAt w D H) (hl : D.rules.length < 50) :
    Calls Try.prog 18 #[fv D H] w fun e w' => ∃ A cp, e = .returned (.slice A D.rules.length cp) ∧ D.rules.length ≤ cp ∧ Kd.C Kd.bool w' A D.rules.length (List.replicate D.rules.length false) ∧ Below w.heap.size w w' :=
  (dowellaw48_none.calls D.nm H.A1 H.c1 D.parts H.A2 H.c2 D.insts H.A3 H.c3 D.dims H.A4 H.c4 D.cons H.A5 H.c5 D.reqs H.A6 H.c6 D.opts H.A7 H.c7 D.rules H.A8 H.c8 D.guards H.A9 H.c9 D.overs (List.replicate D.rules.length false) w h.r1 h.l1 h.r2 h.l2 h.r3 h.l3 h.r4 h.l4 h.r5 h.l5 h.r6 h.l6 h.r7 h.l7 h.r8 h.l8 h.r9 h.l9
    (by unfold dowellaw48_none.f; rw [if_pos (by omega), if_pos (by omega), Int.toNat_natCast])).mono fun e w' ⟨v, he, hR, hb⟩ => by
      obtain ⟨A, cp, hv, hc, hC⟩ := Kd.R_reads hR
      subst hv
      rw [List.length_replicate] at he hc hC
      exact ⟨A, cp, he, hc, hC, hb⟩
/-- The allowed sets, as the reference lists them. -/
def allowedL (D : Fam) (o : List Bool) (ch : List S62) : List Int := (ks D.opts.length ch (kept D.rules o)).map fun k => ((setOf D.opts.length k : Nat) : Int)
theorem ref_allowed (D : Fam) (H : Hd) (A : Option Addr) (c : Nat) (m : Nat) (o : List Bool) (hm : o.length = m) (A2 : Option Addr) (c2 : Nat) (ch : List S62) (w : World) (h : FamAt w D H) (hs : Small D) (h1 : 1 ≤ D.opts.length) (h6 : D.opts.length ≤ 6) (ho : D.rules.length ≤ o.length) (hch : LitsIn D.opts.length ch) (hcl : ch.length < 100) (hrs : ∀ r ∈ D.rules, LitsIn D.opts.length r.f1)
    (hr : Kd.C Kd.bool w A m o) (hc : m ≤ c) (hr2 : Kd.C k62 w A2 ch.length ch) (hc2 : ch.length ≤ c2) :
    Calls Try.prog 17 #[fv D H, .slice A m c, .slice A2 ch.length c2] w fun e w' => ∃ A cp, e = .returned (.slice A (allowedL D o ch).length cp) ∧ (allowedL D o ch).length ≤ cp ∧ Kd.C (Kd.int .i64) w' A (allowedL D o ch).length (allowedL D o ch) ∧ Below w.heap.size w w' := by
  subst hm
  exact (dowellaw48_allowed.calls 4000 D.nm H.A1 H.c1 D.parts H.A2 H.c2 D.insts H.A3 H.c3 D.dims H.A4 H.c4 D.cons H.A5 H.c5 D.reqs H.A6 H.c6 D.opts H.A7 H.c7 D.rules H.A8 H.c8 D.guards H.A9 H.c9 D.overs A c o A2 c2 ch (allowedL D o ch) w h.r1 h.l1 h.r2 h.l2 h.r3 h.l3 h.r4 h.l4 h.r5 h.l5 h.r6 h.l6 h.r7 h.l7 h.r8 h.l8 h.r9 h.l9
    hr hc hr2 hc2 (allowed_f hs rfl h1 h6 ho hch hcl hrs)).mono fun e w' ⟨v, he, hR, hb⟩ => by
      obtain ⟨A, cp, hv, hc, hC⟩ := Kd.R_reads hR
      subst hv
      exact ⟨A, cp, he, hc, hC, hb⟩
theorem ref_names (D : Fam) (H : Hd) (k : Nat) (w : World) (h : FamAt w D H) (h6 : D.opts.length ≤ 6) (hk : k < 2 ^ D.opts.length) :
    Calls Try.prog 20 #[fv D H, .int .i64 ((setOf D.opts.length k : Nat) : Int)] w fun e w' => ∃ A cp, e = .returned (.slice A (cnames (cfg D.opts.length k) D.opts).length cp) ∧ (cnames (cfg D.opts.length k) D.opts).length ≤ cp ∧ Kd.C Kd.string w' A (cnames (cfg D.opts.length k) D.opts).length (cnames (cfg D.opts.length k) D.opts) ∧ Below w.heap.size w w' :=
  (dowellaw48_names.calls 4000 D.nm H.A1 H.c1 D.parts H.A2 H.c2 D.insts H.A3 H.c3 D.dims H.A4 H.c4 D.cons H.A5 H.c5 D.reqs H.A6 H.c6 D.opts H.A7 H.c7 D.rules H.A8 H.c8 D.guards H.A9 H.c9 D.overs _ (cnames (cfg D.opts.length k) D.opts) w h.r1 h.l1 h.r2 h.l2 h.r3 h.l3 h.r4 h.l4 h.r5 h.l5 h.r6 h.l6 h.r7 h.l7 h.r8 h.l8 h.r9 h.l9
    (refnames_f rfl h6 hk)).mono fun e w' ⟨v, he, hR, hb⟩ => by
      obtain ⟨A, cp, hv, hc, hC⟩ := Kd.R_reads hR
      subst hv
      exact ⟨A, cp, he, hc, hC, hb⟩
end Go.Proofs.Ytbnmdlnpfikkcaa.PX
namespace Go.Proofs.Ytbnmdlnpfikkcaa.PX
open Go.RowKit Go.Proofs.YtbnmdlnpfikkcaaW.PrintWords Go.Proofs.YtbnmdlnpfikkcaaW.PrintLast Go.Proofs.YtbnmdlnpfikkcaaW.PrintMore
attribute [local go_sem] max2_int min2_int max_two min_two max_three min_three max_four min_four   -- for this text's walks alone
set_option linter.unusedVariables false
set_option linter.unusedSimpArgs false

/-! ### dowellaw48_mentions: function 27 -/
def dowellaw48_mentions.l0 : Nat → List (S62) → Int → Int → Option (Bool)
 | 0, _, _, _ => none
 | k + 1, x0, x1, x5 => if x5 < (x0.length : Int) then (if 0 ≤ x5 then (if ((rd_T62 x0 x5).f0) = x1 then (some true) else (dowellaw48_mentions.l0 k x0 x1 (wrap64 (x5 + 1)))) else (none)) else (some false)
def dowellaw48_mentions.f (k : Nat) (l0 : List (S62)) (a1 : Int) : Option (Bool) := dowellaw48_mentions.l0 k l0 a1 0
theorem dowellaw48_mentions.mono_l : ∀ k, (∀ y0 y1 y2, LeO (dowellaw48_mentions.l0 k y0 y1 y2) (dowellaw48_mentions.l0 (k + 1) y0 y1 y2))
 | 0 => fun _ _ _ r h => by simp [dowellaw48_mentions.l0] at h
 | k + 1 => by
  have ih0 := dowellaw48_mentions.mono_l k
  ·intro y0 y1 y2
   unfold dowellaw48_mentions.l0
   repeat' first
   | (with_reducible exact ih0 _ _ _)
   | (with_reducible exact LeO.refl _)
   | (with_reducible exact LeO.none _)
   | (with_reducible refine LeO.ite ?_ ?_)
   | (with_reducible refine LeO.bind ?_ (fun _ => ?_))
   | exact ih0 _ _ _
   | exact LeO.none _
   | refine LeO.ite ?_ ?_
   | refine LeO.bind ?_ (fun _ => ?_)
theorem dowellaw48_mentions.mono : ∀ a0 a1 k, LeO (dowellaw48_mentions.f k a0 a1) (dowellaw48_mentions.f (k + 1) a0 a1) := by
 intro a0 a1 k
 have ih0 := dowellaw48_mentions.mono_l k
 unfold dowellaw48_mentions.f
 repeat' first
   | (with_reducible exact ih0 _ _ _)
   | (with_reducible exact LeO.refl _)
   | (with_reducible exact LeO.none _)
   | (with_reducible refine LeO.ite ?_ ?_)
   | (with_reducible refine LeO.bind ?_ (fun _ => ?_))
   | exact ih0 _ _ _
   | exact LeO.none _
   | refine LeO.ite ?_ ?_
   | refine LeO.bind ?_ (fun _ => ?_)
set_option maxHeartbeats 8000000 in
set_option maxRecDepth 100000 in
theorem dowellaw48_mentions.calls (k : Nat) (A0 : Option Addr) (c0 : Nat) (l0 : List (S62)) (a1 : Int) (r : Bool) (w : World) (hr0 : Kd.C k62 w A0 l0.length l0) (hc0 : l0.length ≤ c0) (h : dowellaw48_mentions.f k l0 a1 = some r) :
  Calls Try.prog 27 #[.slice A0 l0.length c0, .int .i64 a1] w fun e w' => e = .returned (.bool r) ∧ Drawn0 w w' := by
 have HR0 := Aside0.mk hr0
 have HC0 := Aside0.mk hc0
 clear hr0 hc0
 have H : (dowellaw48_mentions.l0 k l0 a1 0) = some r := h
 clear h
 have H' := Aside0.mk H
 clear H
 go_enter Try.func27, Try.ntmps27
 go_wp2
 go_loopg [5] k (fun kq v5 w' => ∃ (x5_1 : Int), v5 = .int .i64 x5_1 ∧ Aside0 (dowellaw48_mentions.l0 kq l0 a1 x5_1 = some r) ∧ Aside0 (kq ≤ k) ∧ Drawn0 w w')
 case atStart => exact ⟨(0), (by first | rfl | (simp; done) | (simp [*]; done)), H', ⟨Nat.le_refl _⟩, by repeat (first | exact Drawn0.refl _ | apply Drawn0.step)⟩
 case round =>
  clear H'
  try clear c2
  try clear p2
  obtain ⟨x5_1, rfl, HA, HK1, ⟨m1, rfl⟩⟩ := hrel
  cases gk with
  | zero => exact absurd HA.out (by simp [dowellaw48_mentions.l0])
  | succ k1 =>
   have H := HA.out
   clear HA
   simp only [dowellaw48_mentions.l0] at H
   by_cases c3 : x5_1 < (l0.length : Int)
   ·rw [if_pos c3] at H
    have c3b0 : decide (x5_1 < (l0.length : Int)) = true := decide_eq_true c3
    clear c3
    by_cases c4 : 0 ≤ x5_1
    ·rw [if_pos c4] at H
     have c4b0 : decide (0 ≤ x5_1) = true := decide_eq_true c4
     clear c4
     by_cases c5 : ((rd_T62 l0 x5_1).f0) = a1
     ·rw [if_pos c5] at H
      have c5b0 : (((rd_T62 l0 x5_1).f0) == a1) = true := beq_iff_eq.mpr c5
      have c5b1 : (((rd_T62 l0 x5_1).f0) != a1) = false := bne_eq_false_iff_eq.mpr c5
      clear c5
      obtain rfl := Option.some.inj H
      have p308 : 0 ≤ (x5_1 : Int) := of_decide_eq_true (by first | (with_reducible assumption) | assumption)
      have q308 : x5_1 < (l0.length : Int) := of_decide_eq_true (by first | (with_reducible assumption) | assumption)
      obtain ⟨ad308, e308, hx308_0, hx308_1⟩ := at_T62 HR0.out x5_1 p308 q308
      cases e308
      replace p308 := eq_true p308
      replace q308 := eq_true q308
      go_wp2
      go_ret
      exact ⟨by first | rfl | (simp; done) | (simp [*]; done), by repeat (first | exact Drawn0.refl _ | apply Drawn0.step)⟩
     ·rw [if_neg c5] at H
      have c5b0 : (((rd_T62 l0 x5_1).f0) == a1) = false := beq_eq_false_iff_ne.mpr c5
      have c5b1 : (((rd_T62 l0 x5_1).f0) != a1) = true := bne_iff_ne.mpr c5
      have H' := Aside0.mk H
      clear H
      have p308 : 0 ≤ (x5_1 : Int) := of_decide_eq_true (by first | (with_reducible assumption) | assumption)
      have q308 : x5_1 < (l0.length : Int) := of_decide_eq_true (by first | (with_reducible assumption) | assumption)
      obtain ⟨ad308, e308, hx308_0, hx308_1⟩ := at_T62 HR0.out x5_1 p308 q308
      cases e308
      replace p308 := eq_true p308
      replace q308 := eq_true q308
      go_wp2
      go_roundg k1
      case measure => have := HK1.out; omega
      case rel => exact ⟨(wrap64 (x5_1 + 1)), (by first | rfl | (simp; done) | (simp [*]; done)), H', ⟨by have := HK1.out; omega⟩, by repeat (first | exact Drawn0.refl _ | apply Drawn0.step)⟩
    ·rw [if_neg c4] at H
     exact absurd H (by simp)
   ·rw [if_neg c3] at H
    have c3b0 : decide (x5_1 < (l0.length : Int)) = false := decide_eq_false c3
    clear c3
    obtain rfl := Option.some.inj H
    go_wp2
    go_ret
    exact ⟨by first | rfl | (simp; done) | (simp [*]; done), by repeat (first | exact Drawn0.refl _ | apply Drawn0.step)⟩

end Go.Proofs.Ytbnmdlnpfikkcaa.PX
/- Used: the guards and the overrides that name an option. -/
namespace Go.Proofs.Ytbnmdlnpfikkcaa.PX
open Go.RowKit Go.Proofs.YtbnmdlnpfikkcaaW.PrintWords Go.Proofs.YtbnmdlnpfikkcaaW.PrintLast Go.Proofs.YtbnmdlnpfikkcaaW.PrintMore
set_option linter.unusedVariables false
set_option linter.unusedSimpArgs false
/-- A literal of the option stands in the list. -/
def ment (l : List S62) (o : Int) : Bool := l.any fun x => x.f0 == o
theorem enters56 : Enters Try.prog 56 := enters_of Try.func56 (by kernel_rfl) rfl
theorem enters54 : Enters Try.prog 54 := enters_of Try.func54 (by kernel_rfl) rfl
set_option maxHeartbeats 1000000 in
theorem used1 (B : Nat) (o : Int) (x : S62) (w : World) (hcell : w.cell? ⟨B, 0, none⟩ = some (.int .i64 o)) :
    Calls Try.prog 56 #[.agg #[.int .i64 x.f0, .bool x.f1], .pointer (some ⟨B, 0, none⟩)] w fun e w' => e = .returned (.bool (x.f0 == o)) ∧ Below w.heap.size w w' := by
  have hu62 := Try.underlying62
  have hB : B < w.heap.size := World.block_lt_of_cell? w _ hcell
  obtain ⟨q, b⟩ := x
  go_enter Try.func56, Try.ntmps56
  go_wp2
  go_ret
  exact ⟨rfl, below_alloc (Below.refl _ _) _⟩
set_option maxHeartbeats 1000000 in
theorem named_calls (B : Nat) (o : Int) (A : Option Addr) (c : Nat) (l : List S62) (w : World) (hcell : w.cell? ⟨B, 0, none⟩ = some (.int .i64 o)) (hr : Kd.C k62 w A l.length l) (hc : l.length ≤ c) :
    Calls Try.prog 54 #[.slice A l.length c, .pointer (some ⟨B, 0, none⟩)] w fun e w' => e = .returned (.bool (ment l o)) ∧ Below w.heap.size w w' := by
  have HC := Lib.hid (has55 56 #[.pointer (some ⟨B, 0, none⟩)] (fun x : S62 => x.f0 == o) A c l w enters56 hr hc (fun W1 x hb hx => used1 B o x W1 (pw_cell_below hb hcell)))
  clear hr
  go_enter Try.func54, Try.ntmps54
  go_wp2_with (go_at_call 55; refine HC.out.mono ?_; rintro e w2 ⟨rfl, hb⟩)
  go_ret
  exact ⟨rfl, hb⟩
theorem chk_lens {D : Fam} (h : chk D = 0) : D.guards.length ≤ 48 ∧ D.overs.length ≤ 48 := by
  unfold chk at h
  split at h
  · exact absurd h (by decide)
  · rename_i hn; omega
/-- The numbers of the first lists that name an option. -/
def useL (e : Nat → List S62) (o : Int) : Nat → List Int
  | 0 => []
  | i + 1 => if ment (e i) o then useL e o i ++ [(i : Int)] else useL e o i
theorem useL_length (e : Nat → List S62) (o : Int) : ∀ i, (useL e o i).length ≤ i
  | 0 => Nat.le_refl _
  | i + 1 => by
    have := useL_length e o i
    unfold useL
    split
    · simp; omega
    · omega
def gUse (D : Fam) (i : Nat) : List S62 := (rd_T79 D.guards (i : Int)).f1
def oUse (D : Fam) (i : Nat) : List S62 := (rd_T83 D.overs (i : Int)).f0
set_option maxHeartbeats 4000000 in
set_option maxRecDepth 100000 in
theorem used_calls (D : Fam) (H : Hd) (o : Int) (w : World) (HF : FamAt w D H) (hck : chk D = 0) (h0 : 0 ≤ o) (h1 : o < (D.opts.length : Int)) :
    Calls Try.prog 29 #[fv D H, .int .i64 o] w fun e w' => ∃ A1 c1 A2 c2 L1 L2, e = .returned (.tuple #[.slice A1 L1.length c1, .slice A2 L2.length c2, .int .i64 0]) ∧ L1 = useL (gUse D) o D.guards.length ∧ L2 = useL (oUse D) o D.overs.length ∧ L1.length ≤ c1 ∧ L2.length ≤ c2 ∧ Kd.C (Kd.int .i64) w' A1 L1.length L1 ∧ Kd.C (Kd.int .i64) w' A2 L2.length L2 ∧ Below w.heap.size w w' := by
  have hu41 := Try.underlying41
  unfold fv
  obtain ⟨w1, hw1⟩ : ∃ w1, w1 = (w.alloc (.cells (fcells D H) 41)).alloc (.cells #[.int .i64 o] 3) := ⟨_, rfl⟩
  have HB0 : Aside0 (Below w.heap.size w w1) := ⟨by rw [hw1]; exact below_alloc (below_alloc (Below.refl _ _) _) _⟩
  have HK0 : Aside0 (w1.heap[w.heap.size]? = some (.cells (fcells D H) 41 (0, 0))) := ⟨by rw [hw1]; exact blk_alloc (heap_alloc_new w (.cells (fcells D H) 41)) _⟩
  have HO0 : Aside0 (w1.heap[w.heap.size + 1]? = some (.cells #[.int .i64 o] 3 (0, 0))) := ⟨by
    have h := heap_alloc_new (w.alloc (.cells (fcells D H) 41)) (.cells #[.int .i64 o] 3)
    rw [show (w.alloc (.cells (fcells D H) 41)).heap.size = w.heap.size + 1 by simp] at h
    rw [hw1]; exact h⟩
  have CK := Lib.hid (fun W (hW : Below w.heap.size w W) => (check_calls D H W (HF.below hW)).mono (fun e w' h => (⟨by rw [h.1, hck], h.2⟩ : e = .returned (.int .i64 0) ∧ Below W.heap.size W w')))
  have HFA := Aside0.mk HF
  have q0 : decide (o < 0) = false := by simp; omega
  have q1 : decide (o ≥ (D.opts.length : Int)) = false := by simp; omega
  have q2 : decide ((D.opts.length : Int) ≤ o) = false := by simp; omega
  clear HF
  unfold fcells at hw1 HK0
  go_enter Try.func29, Try.ntmps29
  go_wp2_with fail
  rw [← hw1]
  clear hw1
  refine (CK.out w1 HB0.out).mono ?_
  rintro e w2 ⟨rfl, hb⟩
  have HB2 := Aside0.mk (below_step HB0.out hb)
  have HK2 := Aside0.mk (blk_below HK0.out hb)
  have HO2 := Aside0.mk (blk_below HO0.out hb)
  clear hb CK HB0 HK0 HO0
  obtain ⟨k0, k1, k2, k3, k4, k5, k6, k7, k8, k9⟩ := box_cells HK2.out
  have ko : w2.cell? ⟨w.heap.size + 1, 0, none⟩ = some (.int .i64 o) := (blk_cell HO2.out 0).trans rfl
  go_wp2_with fail
  have hck2 : D.guards.length ≤ 48 ∧ D.overs.length ≤ 48 := chk_lens hck
  have HL48 := Aside0.mk hck2
  clear hck hck2 k0 k1 k2 k3 k4 k5 k6 k7 k8 k9 ko q0 q1 q2 h0 h1
  go_loopg [33, 9] D.guards.length (fun gk v33 v9 w' => ∃ i : Nat, v33 = .int .i64 (i : Int) ∧ Aside0 (i ≤ D.guards.length) ∧ Aside0 (D.guards.length - i ≤ gk) ∧ Aside0 (Below w2.heap.size w2 w') ∧ Aside0 (Kd.R (Kd.int .i64) 3 w' w2.heap.size (fun _ => True) v9 (useL (gUse D) o i)))
  case atStart => exact ⟨0, rfl, ⟨Nat.zero_le _⟩, ⟨Nat.sub_le _ _⟩, ⟨Below.refl _ _⟩, ⟨Kd.R_nil _ _ _ _ _⟩⟩
  case round =>
    obtain ⟨i, rfl, HI, HG, HB, HR⟩ := hrel
    by_cases hi : i < D.guards.length
    · have q0 : decide ((i : Int) < (D.guards.length : Int)) = true := by simpa using hi
      have q1 : decide (i < D.guards.length) = true := by simpa using hi
      have p0 : 0 ≤ (i : Int) := by omega
      have p1 : (i : Int) < (D.guards.length : Int) := by omega
      have hi48 : i < 48 := by have := HL48.out.1; omega
      obtain ⟨ad, A1, c1, hA, hx0, hx1, hl1, hc1⟩ := at_T79 (Kd.C_below HFA.out.r8 (below_step HB2.out HB.out)) (i : Int) p0 p1
      rw [Int.toNat_natCast] at hx0 hx1
      go_wp2_with fail
      obtain ⟨wg, hwg⟩ : ∃ wg, wg = wr.alloc (.cells #[.int .i64 (rd_T79 D.guards (i : Int)).f0, .slice A1 (rd_T79 D.guards (i : Int)).f1.length c1] 79) := ⟨_, rfl⟩
      have hbg : Below wr.heap.size wr wg := by rw [hwg]; exact below_alloc (Below.refl _ _) _
      rw [← hwg]
      clear hwg
      have hun := useL_length (gUse D) o i
      refine (named_calls (w.heap.size + 1) o A1 c1 (rd_T79 D.guards (i : Int)).f1 wg ((blk_cell (blk_below HO2.out (below_step HB.out hbg)) 0).trans rfl) (Kd.C_below hc1 hbg) hl1).mono ?_
      rintro e w3 ⟨rfl, hb⟩
      have HB3 := Aside0.mk (below_step (below_step HB.out hbg) hb)
      have HR3 := Aside0.mk (Kd.R_below (Kd.R_below HR.out hbg) hb)
      clear hbg hb hx0 hx1 hl1 hc1 hA
      cases hm : ment (rd_T79 D.guards (i : Int)).f1 o with
      | true =>
        have HY : Aside0 (useL (gUse D) o (i + 1) = useL (gUse D) o i ++ [(i : Int)]) := ⟨by simp only [useL]; rw [if_pos (show ment (gUse D i) o = true from hm)]⟩
        clear hm
        go_wp2_with ((with_reducible refine gate_builtin (b := .append) (xs := #[.tmp 42, .tmp 44]) rfl ?_); at_builtin; refine Kd.R_append (Kd.int .i64) (w0 := w2) w2.heap.size rfl (.tmp 42) (.tmp 44) 50 3 (.int .i64 0) 8 rfl Try.underlying50 info3 rfl (by decide) (by decide) u9 (useL (gUse D) o i) (i : Int) [.int .i64 (i : Int)] (fun _ => True) (fun _ => False) rfl rfl ?aP (fun _ hk => hk.elim) ?aF ?aO ?aB ?aS ?aL ?_; (case aP => exact rfl); (case aB => exact HB3.out); (case aF => exact (fun _ _ => trivial)); (case aO => exact HR3.out); (case aS => exact HB3.out.size); (case aL => omega); intro v1 w5 ho hb hg hat)
        go_roundg (D.guards.length - (i + 1))
        case measure => have := HG.out; omega
        case rel => exact ⟨i + 1, by go_num, ⟨hi⟩, ⟨Nat.le_refl _⟩, ⟨hb⟩, ⟨by rw [HY.out]; exact ho⟩⟩
      | false =>
        have HY : Aside0 (useL (gUse D) o (i + 1) = useL (gUse D) o i) := ⟨by simp only [useL]; rw [if_neg (by unfold gUse; rw [hm]; decide)]⟩
        clear hm
        go_wp2_with fail
        go_roundg (D.guards.length - (i + 1))
        case measure => have := HG.out; omega
        case rel => exact ⟨i + 1, by go_num, ⟨hi⟩, ⟨Nat.le_refl _⟩, HB3, ⟨by rw [HY.out]; exact HR3.out⟩⟩
    · have q0 : decide ((i : Int) < (D.guards.length : Int)) = false := by simpa using hi
      have q1 : decide (i < D.guards.length) = false := by simpa using hi
      have hin : i = D.guards.length := by have := HI.out; omega
      rw [hin] at HR
      clear hin hi
      have HB4 := Aside0.mk (below_step HB2.out HB.out)
      have HO4 := Aside0.mk (blk_below HO2.out HB.out)
      have HK4 := Aside0.mk (blk_below HK2.out HB.out)
      clear HI HG
      obtain ⟨k0, k1, k2, k3, k4, k5, k6, k7, k8, k9⟩ := box_cells HK4.out
      go_wp2_with fail
      obtain ⟨w4, hw4⟩ : ∃ W, W = wr := ⟨_, rfl⟩
      rw [← hw4] at HB HR HB4 HO4 HK4 ⊢
      clear hw4 k0 k1 k2 k3 k4 k5 k6 k7 k8 k9 q0 q1
      go_loopg [50, 10] D.overs.length (fun gk v50 v10 w' => ∃ i : Nat, v50 = .int .i64 (i : Int) ∧ Aside0 (i ≤ D.overs.length) ∧ Aside0 (D.overs.length - i ≤ gk) ∧ Aside0 (Below w4.heap.size w4 w') ∧ Aside0 (Kd.R (Kd.int .i64) 3 w' w4.heap.size (fun _ => True) v10 (useL (oUse D) o i)))
      case atStart => exact ⟨0, rfl, ⟨Nat.zero_le _⟩, ⟨Nat.sub_le _ _⟩, ⟨Below.refl _ _⟩, ⟨Kd.R_nil _ _ _ _ _⟩⟩
      case round =>
        obtain ⟨i, rfl, HI, HG, HB5, HR5⟩ := hrel
        by_cases hi : i < D.overs.length
        · have q0 : decide ((i : Int) < (D.overs.length : Int)) = true := by simpa using hi
          have q1 : decide (i < D.overs.length) = true := by simpa using hi
          have p0 : 0 ≤ (i : Int) := by omega
          have p1 : (i : Int) < (D.overs.length : Int) := by omega
          have hi48 : i < 48 := by have := HL48.out.2; omega
          obtain ⟨ad, A1, c1, hA, hx0, hx1, hx2, hx3, hx4, hx5, hl1, hc1⟩ := at_T83 (Kd.C_below HFA.out.r9 (below_step HB4.out HB5.out)) (i : Int) p0 p1
          rw [Int.toNat_natCast] at hx0 hx1 hx2 hx3 hx4 hx5
          go_wp2_with fail
          obtain ⟨wg, hwg⟩ : ∃ wg, wg = wr.alloc (.cells #[.slice A1 (rd_T83 D.overs (i : Int)).f0.length c1, .int .i64 (rd_T83 D.overs (i : Int)).f1, .string (rd_T83 D.overs (i : Int)).f2.f0, .int .i64 (rd_T83 D.overs (i : Int)).f2.f1, .int .i64 (rd_T83 D.overs (i : Int)).f2.f2, .int .i64 (rd_T83 D.overs (i : Int)).f2.f3] 83) := ⟨_, rfl⟩
          have hbg : Below wr.heap.size wr wg := by rw [hwg]; exact below_alloc (Below.refl _ _) _
          rw [← hwg]
          clear hwg
          have hun := useL_length (oUse D) o i
          refine (named_calls (w.heap.size + 1) o A1 c1 (rd_T83 D.overs (i : Int)).f0 wg ((blk_cell (blk_below HO4.out (below_step HB5.out hbg)) 0).trans rfl) (Kd.C_below hc1 hbg) hl1).mono ?_
          rintro e w3 ⟨rfl, hb⟩
          have HB3 := Aside0.mk (below_step (below_step HB5.out hbg) hb)
          have HR3 := Aside0.mk (Kd.R_below (Kd.R_below HR5.out hbg) hb)
          clear hbg hb hx0 hx1 hx2 hx3 hx4 hx5 hl1 hc1 hA
          cases hm : ment (rd_T83 D.overs (i : Int)).f0 o with
          | true =>
            have HY : Aside0 (useL (oUse D) o (i + 1) = useL (oUse D) o i ++ [(i : Int)]) := ⟨by simp only [useL]; rw [if_pos (show ment (oUse D i) o = true from hm)]⟩
            clear hm
            go_wp2_with ((with_reducible refine gate_builtin (b := .append) (xs := #[.tmp 59, .tmp 61]) rfl ?_); at_builtin; refine Kd.R_append (Kd.int .i64) (w0 := w4) w4.heap.size rfl (.tmp 59) (.tmp 61) 50 3 (.int .i64 0) 8 rfl Try.underlying50 info3 rfl (by decide) (by decide) u10 (useL (oUse D) o i) (i : Int) [.int .i64 (i : Int)] (fun _ => True) (fun _ => False) rfl rfl ?aP (fun _ hk => hk.elim) ?aF ?aO ?aB ?aS ?aL ?_; (case aP => exact rfl); (case aB => exact HB3.out); (case aF => exact (fun _ _ => trivial)); (case aO => exact HR3.out); (case aS => exact HB3.out.size); (case aL => omega); intro v1 w5 ho hb hg hat)
            go_roundg (D.overs.length - (i + 1))
            case measure => have := HG.out; omega
            case rel => exact ⟨i + 1, by go_num, ⟨hi⟩, ⟨Nat.le_refl _⟩, ⟨hb⟩, ⟨by rw [HY.out]; exact ho⟩⟩
          | false =>
            have HY : Aside0 (useL (oUse D) o (i + 1) = useL (oUse D) o i) := ⟨by simp only [useL]; rw [if_neg (by unfold oUse; rw [hm]; decide)]⟩
            clear hm
            go_wp2_with fail
            go_roundg (D.overs.length - (i + 1))
            case measure => have := HG.out; omega
            case rel => exact ⟨i + 1, by go_num, ⟨hi⟩, ⟨Nat.le_refl _⟩, HB3, ⟨by rw [HY.out]; exact HR3.out⟩⟩
        · have q0 : decide ((i : Int) < (D.overs.length : Int)) = false := by simpa using hi
          have q1 : decide (i < D.overs.length) = false := by simpa using hi
          have hin : i = D.overs.length := by have := HI.out; omega
          rw [hin] at HR5
          clear hin hi HI HG
          obtain ⟨A1, c1, hv1, hc1, hC1⟩ := Kd.R_reads HR.out
          obtain ⟨A2, c2, hv2, hc2, hC2⟩ := Kd.R_reads HR5.out
          subst hv1
          subst hv2
          go_wp2_with fail
          go_ret3
          exact ⟨A1, c1, A2, c2, _, _, rfl, rfl, rfl, hc1, hc2, Kd.C_below hC1 HB5.out, hC2, below_step HB4.out HB5.out⟩
set_option maxHeartbeats 4000000 in
set_option maxRecDepth 100000 in
theorem used_out (D : Fam) (H : Hd) (o : Int) (w : World) (HF : FamAt w D H) (hck : chk D = 0) (h1 : o < 0 ∨ (D.opts.length : Int) ≤ o) :
    Calls Try.prog 29 #[fv D H, .int .i64 o] w fun e w' => e = .returned (.tuple #[.slice none 0 0, .slice none 0 0, .int .i64 10]) ∧ Below w.heap.size w w' := by
  have hu41 := Try.underlying41
  unfold fv
  obtain ⟨w1, hw1⟩ : ∃ w1, w1 = (w.alloc (.cells (fcells D H) 41)).alloc (.cells #[.int .i64 o] 3) := ⟨_, rfl⟩
  have HB0 : Aside0 (Below w.heap.size w w1) := ⟨by rw [hw1]; exact below_alloc (below_alloc (Below.refl _ _) _) _⟩
  have HK0 : Aside0 (w1.heap[w.heap.size]? = some (.cells (fcells D H) 41 (0, 0))) := ⟨by rw [hw1]; exact blk_alloc (heap_alloc_new w (.cells (fcells D H) 41)) _⟩
  have HO0 : Aside0 (w1.heap[w.heap.size + 1]? = some (.cells #[.int .i64 o] 3 (0, 0))) := ⟨by
    have h := heap_alloc_new (w.alloc (.cells (fcells D H) 41)) (.cells #[.int .i64 o] 3)
    rw [show (w.alloc (.cells (fcells D H) 41)).heap.size = w.heap.size + 1 by simp] at h
    rw [hw1]; exact h⟩
  have CK := Lib.hid (fun W (hW : Below w.heap.size w W) => (check_calls D H W (HF.below hW)).mono (fun e w' h => (⟨by rw [h.1, hck], h.2⟩ : e = .returned (.int .i64 0) ∧ Below W.heap.size W w')))
  have HN : Aside0 (o < 0 ∨ (D.opts.length : Int) ≤ o) := ⟨h1⟩
  clear HF h1 hck
  unfold fcells at hw1 HK0
  go_enter Try.func29, Try.ntmps29
  go_wp2_with fail
  rw [← hw1]
  clear hw1
  refine (CK.out w1 HB0.out).mono ?_
  rintro e w2 ⟨rfl, hb⟩
  have HB2 := Aside0.mk (below_step HB0.out hb)
  have HK2 := Aside0.mk (blk_below HK0.out hb)
  have HO2 := Aside0.mk (blk_below HO0.out hb)
  clear hb CK HB0 HK0 HO0
  obtain ⟨k0, k1, k2, k3, k4, k5, k6, k7, k8, k9⟩ := box_cells HK2.out
  have ko : w2.cell? ⟨w.heap.size + 1, 0, none⟩ = some (.int .i64 o) := (blk_cell HO2.out 0).trans rfl
  by_cases h0 : o < 0
  · have q0 : decide (o < 0) = true := by simpa using h0
    clear h0
    go_wp2_with fail
    go_ret3
    exact ⟨rfl, HB2.out⟩
  · have q0 : decide (o < 0) = false := by simpa using h0
    have h2 : (D.opts.length : Int) ≤ o := by rcases HN.out with h | h; exact absurd h h0; exact h
    have q1 : decide (o ≥ (D.opts.length : Int)) = true := by simpa using h2
    have q2 : decide ((D.opts.length : Int) ≤ o) = true := by simpa using h2
    clear h0 h2
    go_wp2_with fail
    go_ret3
    exact ⟨rfl, HB2.out⟩
theorem mentions_from (l : List S62) (o : Int) (hl : l.length < 3000) (d : Nat) : ∀ (K i : Nat), i + d = l.length → d < K → dowellaw48_mentions.l0 K l o i = some (ment (l.drop i) o) := by
  induction d with
  | zero =>
    intro K i hi hK
    obtain ⟨K, rfl⟩ : ∃ m, K = m + 1 := ⟨K - 1, by omega⟩
    simp only [dowellaw48_mentions.l0]
    rw [if_neg (by omega), List.drop_eq_nil_of_le (by omega)]
    rfl
  | succ d ih =>
    intro K i hi hK
    obtain ⟨K, rfl⟩ : ∃ m, K = m + 1 := ⟨K - 1, by omega⟩
    have hlt : i < l.length := by omega
    simp only [dowellaw48_mentions.l0]
    rw [if_pos (by omega), if_pos (by omega), wrap_succ i (by omega), rd62_drop hlt]
    unfold ment
    rw [List.any_cons]
    by_cases h : (rd_T62 l (i : Int)).f0 = o
    · rw [if_pos h, h, beq_self_eq_true, Bool.true_or]
    · rw [if_neg h, beq_false_of_ne h, Bool.false_or]
      exact ih K (i + 1) (by omega) (by omega)
theorem mentions_f {l : List S62} (o : Int) (hl : l.length < 3000) : dowellaw48_mentions.f 4000 l o = some (ment l o) := by
  have := mentions_from l o hl l.length 4000 0 (by omega) (by omega)
  rwa [List.drop_zero] at this
theorem lits_len {n : Nat} {l : List S62} (h : litsE n l = 0) : l.length ≤ n := by
  have hz := fun j hj => fE_zero (show fE (litE n l) l.length = 0 from h) j hj
  have key : ∀ j : Nat, j < l.length → (j : Int) ≤ (rd_T62 l (j : Int)).f0 ∧ (rd_T62 l (j : Int)).f0 < (n : Int) := by
    intro j
    induction j with
    | zero =>
      intro hj
      have := hz 0 hj
      unfold litE at this
      split at this
      · exact absurd this (by decide)
      · rename_i h1; constructor <;> omega
    | succ j ih =>
      intro hj
      have h2 := ih (by omega)
      have := hz (j + 1) hj
      unfold litE at this
      rw [show (((j + 1 : Nat) : Int) - 1) = (j : Int) by omega] at this
      split at this
      · exact absurd this (by decide)
      · rename_i h1
        split at this
        · exact absurd this (by decide)
        · rename_i h3
          constructor <;> omega
  by_cases h0 : l.length = 0
  · omega
  · have := key (l.length - 1) (by omega)
    omega
theorem use_lens {D : Fam} (h : chk D = 0) : (∀ i, i < D.guards.length → (gUse D i).length ≤ D.opts.length) ∧ (∀ i, i < D.overs.length → (oUse D i).length ≤ D.opts.length) := by
  unfold chk at h
  split at h
  · exact absurd h (by decide)
  · split at h
    · rename_i h1; exact absurd h h1
    · split at h
      · rename_i h1; exact absurd h h1
      · split at h
        · rename_i h1; exact absurd h h1
        · rename_i h1
          have hg : fE (guardE D.opts.length D.insts.length D.guards) D.guards.length = 0 := Classical.byContradiction h1
          refine ⟨fun i hi => ?_, fun i hi => ?_⟩
          · have h2 := fE_zero hg i hi
            unfold guardE at h2
            split at h2
            · exact absurd h2 (by decide)
            · exact lits_len h2
          · have h2 := fE_zero h i hi
            unfold overE at h2
            split at h2
            · rename_i h3; exact absurd h2 h3
            · rename_i h3; exact lits_len (Classical.byContradiction h3)
end Go.Proofs.Ytbnmdlnpfikkcaa.PX
/- The laws' arguments, opened: a description, a choice, a list of small numbers. -/
namespace Go.Proofs.Ytbnmdlnpfikkcaa.PX
open Go.ChangeShapes Go.WideShapes Go.RowKit Go.Proofs.YtbnmdlnpfikkcaaW.PrintWords Go.Proofs.YtbnmdlnpfikkcaaW.PrintLast Go.Proofs.YtbnmdlnpfikkcaaW.PrintMore
set_option linter.unusedVariables false
set_option linter.unusedSimpArgs false
theorem wf_i8 {n : Int} (h : (Lit.int .i8 n).wf = true) : -128 ≤ n ∧ n ≤ 127 := by
  simp [Lit.wf, IntKind.min, IntKind.max, IntKind.bits, IntKind.signed] at h
  omega
theorem wf_u8 {n : Int} (h : (Lit.int .u8 n).wf = true) : 0 ≤ n ∧ n ≤ 255 := by
  simp [Lit.wf, IntKind.min, IntKind.max, IntKind.bits, IntKind.signed] at h
  omega
theorem i8s_of {l : List Int} (h : ∀ n ∈ l, (Lit.int .i8 n).wf = true) : i8s l = true := by
  unfold i8s
  rw [List.all_eq_true]
  intro x hx
  simpa using wf_i8 (h x hx)
section
variable {H : Type} {enc : TypeId × Value → H} {w : World} {fuel : Nat} {v : Value} {x : DataW H × List MemPlace}
theorem rows_open (h : DataW.trod enc Try.prog w 0 (fun _ => true) true fuel 22 [v] = some x) : ∃ A R c, v = .slice A R.length c ∧ R.length ≤ c ∧ Kd.C (Kd.slice 95 (Kd.int .i8)) w A R.length R ∧ All8 R := by
  rcases Go.Deep.open_int_rows Try.underlying22 Try.underlying57 Try.underlying95 (by kernel_rfl) (by kernel_rfl) h with ⟨hcs, _⟩ | ⟨a, len, cap, A, L, C, Z, hcs, _, hl, hm, _, hr⟩
  · simp only [List.cons.injEq, and_true] at hcs
    exact ⟨none, [], 0, hcs, Nat.le_refl _, C_zero _ _ _, fun r hr => by cases hr⟩
  · simp only [List.cons.injEq, and_true] at hcs
    have hlen : ((List.range len).map fun r => (Z r).take (L r)).length = len := by simp
    refine ⟨some a, (List.range len).map fun r => (Z r).take (L r), cap, by rw [hlen]; exact hcs, by rw [hlen]; exact hl, ?_, ?_⟩
    · refine ⟨rfl, by rw [hlen]; exact Nat.le_trans hl hm, fun _ => ⟨a, rfl, fun j p hj => ?_⟩⟩
      have hjl : j < len := by have := (List.getElem?_eq_some_iff.1 hj).1; omega
      have hp : p = (Z j).take (L j) := by
        rw [List.getElem?_map, List.getElem?_range hjl] at hj
        simpa using hj.symm
      obtain ⟨h1, h2, h3, h4, h5, h6, h7⟩ := hr j (by omega)
      have hpl : p.length = L j := by rw [hp, List.length_take]; omega
      have hmx : maxLen = 9223372036854775807 := rfl
      refine ⟨[.slice (A j) (L j) (C j)], rfl, ⟨A j, C j, by rw [hpl], by rw [hpl]; exact h2, rfl, by omega, fun hpos => ?_⟩, fun i u hu => ?_⟩
      · cases hA : A j with
        | none => have := h6 hA; omega
        | some a' =>
          obtain ⟨_, hc⟩ := h7 a' hA
          refine ⟨a', rfl, fun i n hn => ⟨[.int .i8 n], rfl, rfl, fun q u hu => ?_⟩⟩
          have hil : i < p.length := (List.getElem?_eq_some_iff.1 hn).1
          rcases q with _ | q
          · simp only [List.getElem?_cons_zero, Option.some.injEq] at hu
            have e : (Kd.int .i8).sz = 1 := rfl
            rw [e, Nat.mul_one, Nat.add_zero, hc i (by omega), ← hu]
            congr 2
            rw [hp, List.getElem?_take, if_pos (by omega)] at hn
            rw [List.getD_eq_getElem?_getD, hn]
            rfl
          · simp at hu
      · rcases i with _ | i
        · simp only [List.getElem?_cons_zero, Option.some.injEq] at hu
          have e : (Kd.slice 95 (Kd.int .i8)).sz = 1 := rfl
          rw [e, Nat.mul_one, Nat.add_zero, h1, hu]
        · simp at hu
    · intro r hrm
      obtain ⟨j, hj, rfl⟩ := List.mem_map.1 hrm
      obtain ⟨_, _, _, _, h5, _, _⟩ := hr j (by have := List.mem_range.1 hj; omega)
      exact i8s_of fun n hn => h5 n (List.mem_of_mem_take hn)
theorem lits_open (h : DataW.trod enc Try.prog w 0 (fun _ => true) true fuel 25 [v] = some x) : ∃ A ch c, v = .slice A ch.length c ∧ ch.length ≤ c ∧ Kd.C k62 w A ch.length ch := by
  rcases Go.Deep.open_slice_pairs Try.underlying25 Try.underlying62 (by kernel_rfl) rfl rfl (by kernel_rfl) (by kernel_rfl) h with ⟨hcs, _⟩ | ⟨a, len, cap, m, n, V0, V1, D0, D1, P0, P1, hcs, _, hl, hm, hmm, _, hr⟩
  · simp only [List.cons.injEq, and_true] at hcs
    exact ⟨none, [], 0, hcs, Nat.le_refl _, C_zero _ _ _⟩
  · simp only [List.cons.injEq, and_true] at hcs
    have hlm : len ≤ m := by rw [hmm]; split <;> omega
    have each : ∀ i, i < len → ∃ q : Int × Bool, w.cell? (a.add (i * 2)) = some (.int .i64 q.1) ∧ w.cell? (a.add (i * 2 + 1)) = some (.bool q.2) := by
      intro i hi
      obtain ⟨h1, h2, h3, h4⟩ := hr i (by omega)
      obtain ⟨z, hz, _, _⟩ := DataW.trod_int Try.underlying3 h3
      obtain ⟨b, hb, _⟩ := DataW.trod_bool Try.underlying4 h4
      simp only [List.cons.injEq, and_true] at hz hb
      exact ⟨(z, b), by rw [h1, hz], by rw [h2, hb]⟩
    obtain ⟨q, hq⟩ := Go.Deep.choose_lt each
    have hlen : ((List.range len).map fun i => (⟨(q i).1, (q i).2⟩ : S62)).length = len := by simp
    refine ⟨some a, (List.range len).map fun i => ⟨(q i).1, (q i).2⟩, cap, by rw [hlen]; exact hcs, by rw [hlen]; exact hl, rfl, by rw [hlen]; exact Nat.le_trans hl hm, fun _ => ⟨a, rfl, fun j p hj => ?_⟩⟩
    have hjl : j < len := by have := (List.getElem?_eq_some_iff.1 hj).1; omega
    have hp : p = ⟨(q j).1, (q j).2⟩ := by
      rw [List.getElem?_map, List.getElem?_range hjl] at hj
      simpa using hj.symm
    obtain ⟨h1, h2⟩ := hq j hjl
    subst hp
    refine ⟨_, rfl, k62_mk w _, fun i u hu => ?_⟩
    have e : k62.sz = 2 := rfl
    rw [e]
    rcases i with _ | _ | i
    · simp only [List.getElem?_cons_zero, Option.some.injEq] at hu
      rw [← hu]
      exact h1
    · simp only [List.getElem?_cons_succ, List.getElem?_cons_zero, Option.some.injEq] at hu
      rw [← hu]
      exact h2
    · simp at hu
theorem i8s_open (h : DataW.trod enc Try.prog w 0 (fun _ => true) true fuel 57 [v] = some x) : ∃ A l c, v = .slice A l.length c ∧ l.length ≤ c ∧ Kd.C (Kd.int .i8) w A l.length l ∧ i8s l = true := by
  rcases open_ints Try.underlying57 Try.underlying95 (by kernel_rfl) h with ⟨hcs, _⟩ | ⟨a, len, cap, zs, hcs, _, hl, hm, hz, _, hcell, hwz⟩
  · simp only [List.cons.injEq, and_true] at hcs
    exact ⟨none, [], 0, hcs, Nat.le_refl _, C_zero _ _ _, rfl⟩
  · simp only [List.cons.injEq, and_true] at hcs
    simp only [if_true] at hz
    have hlen : (zs.take len).length = len := by rw [List.length_take]; omega
    have hmx : maxLen = 9223372036854775807 := rfl
    refine ⟨some a, zs.take len, cap, by rw [hlen]; exact hcs, by rw [hlen]; exact hl, ⟨rfl, by omega, fun _ => ⟨a, rfl, fun i n hn => ⟨[.int .i8 n], rfl, rfl, fun q u hu => ?_⟩⟩⟩, i8s_of fun n hn => hwz n (List.mem_of_mem_take hn)⟩
    have hil : i < len := by have := (List.getElem?_eq_some_iff.1 hn).1; omega
    rcases q with _ | q
    · simp only [List.getElem?_cons_zero, Option.some.injEq] at hu
      have e : (Kd.int .i8).sz = 1 := rfl
      rw [e, Nat.mul_one, Nat.add_zero, hcell i (by omega), ← hu]
      congr 2
      rw [List.getElem?_take, if_pos hil] at hn
      rw [List.getD_eq_getElem?_getD, hn]
      rfl
    · simp at hu
set_option maxRecDepth 100000 in
theorem kin_open {base : Nat} {d : DataW H} {p : List MemPlace} (hv : Value.okWide Try.prog w .any base 24 v) (h : DataW.Trod enc Try.prog w 0 (fun _ => true) true 24 v d p) :
    ∃ a R G O B1 B2 B3 d1 d2 d3, v = kinV a R G O B1 B2 B3 d1 d2 d3 ∧ 0 ≤ a ∧ a ≤ 255 ∧ KinAt w R G O B1 B2 B3 d1 d2 d3 := by
  obtain ⟨v0, v1, v2, v3, y0, y1, y2, y3, n, rfl, _, _, t0, t1, t2, t3⟩ := Go.Joins.open_agg4 Try.underlying24 (by kernel_rfl) (by kernel_rfl) hv h
  obtain ⟨a, h0, _, hw⟩ := DataW.trod_int Try.underlying5 t0
  simp only [List.cons.injEq, and_true] at h0
  subst h0
  obtain ⟨B1, R, d1, rfl, l1, c1, r1⟩ := rows_open t1
  obtain ⟨B2, G, d2, rfl, l2, c2, r2⟩ := rows_open t2
  obtain ⟨B3, O, d3, rfl, l3, c3, r3⟩ := rows_open t3
  obtain ⟨g0, g1⟩ := wf_u8 hw
  exact ⟨a, R, G, O, B1, B2, B3, d1, d2, d3, rfl, g0, g1, ⟨c1, l1, c2, l2, c3, l3, r1, r2, r3⟩⟩
end
end Go.Proofs.Ytbnmdlnpfikkcaa.PX
/- VariantUses: the walk. -/
namespace Go.Proofs.Ytbnmdlnpfikkcaa.PX
open Go.RowKit Go.Proofs.YtbnmdlnpfikkcaaW.PrintWords Go.Proofs.YtbnmdlnpfikkcaaW.PrintLast Go.Proofs.YtbnmdlnpfikkcaaW.PrintMore
set_option linter.unusedVariables false
set_option linter.unusedSimpArgs false
set_option maxRecDepth 100000 in
set_option maxHeartbeats 16000000 in
theorem law8 (a : Int) (R G O : List (List Int)) (B1 B2 B3 : Option Addr) (d1 d2 d3 : Nat) (z : Int) (w : World) (h0 : 0 ≤ a) (h255 : a ≤ 255) (hk : KinAt w R G O B1 B2 B3 d1 d2 d3) :
    Calls Try.prog 8 #[kinV a R G O B1 B2 B3 d1 d2 d3, .int .i64 z] w fun e w' => e = .returned (.bool true) ∧ Below w.heap.size w w' := by
  have hu41 := Try.underlying41
  unfold kinV
  have HK := Aside0.mk hk
  have HB0 := Aside0.mk ((Below.refl _ w).alloc (Nat.le_refl _) (.cells (kinC a R G O B1 B2 B3 d1 d2 d3) 24))
  have HK0 := Aside0.mk (heap_alloc_new w (.cells (kinC a R G O B1 B2 B3 d1 d2 d3) 24))
  clear hk
  go_enter Try.func8, Try.ntmps8
  go_wp2_with fail
  refine (known_calls _).mono ?_
  rintro e w2 ⟨rfl, hb⟩
  have HB2 := Aside0.mk (below_step HB0.out hb)
  have HK2 := Aside0.mk (blk_below HK0.out hb)
  clear hb
  go_upto_region 3 with (fail)
  go_cut [5] (fun v5 wc => ∃ g H, v5 = .pointer (some ⟨g, 0, none⟩) ∧ Aside0 (Laid w wc (famK a R G O) g H))
  case first =>
    obtain ⟨k0, k1, k2, k3⟩ := kin_cells HK2.out
    obtain ⟨a0, a1, a2, a3⟩ := kin_cells (blk_alloc HK2.out (.cells zeroC 41))
    unfold zeroC at a0 a1 a2 a3
    go_region_with (first
      | (go_at_call 13; refine (plain_ft _).mono ?_; rintro e w3 ⟨A1, A2, A3, A4, A5, c1, c2, c3, c4, c5, rfl, hbase, hb⟩; have hb2 := below_step (show Below w2.heap.size w2 _ from (by first | exact below_drew (Below.refl _ _) | exact below_alloc (below_drew (Below.refl _ _)) _)) hb; have HB3 := Aside0.mk (below_step HB2.out hb2); have HK3 := Aside0.mk (blk_below HK2.out hb2); obtain ⟨m0, m1, m2, m3⟩ := kin_cells HK3.out; obtain ⟨n0, n1, n2, n3⟩ := kin_cells (blk_alloc HK3.out (.cells zeroC 41)); unfold zeroC at n0 n1 n2 n3; have HBase := Aside0.mk hbase; have hs3 := hb.size; (try have HG3 := Aside0.mk (blk_below (show (w2.drew.alloc (.cells zeroC 41)).heap[w2.heap.size]? = _ from heap_alloc_new w2.drew (.cells zeroC 41)) hb)); clear hbase hb hb2)
      | (go_at_call 12; refine (fam_ft h0 h255 HK.out.a1 HK.out.a2 HK.out.a3 (HK.out.below (below_step HB3.out ?b1)).r1 HK.out.l1 (HK.out.below (below_step HB3.out ?b2)).r2 HK.out.l2 (HK.out.below (below_step HB3.out ?b3)).r3 HK.out.l3 (HBase.out.below ?b4)).mono ?_; (case b1 => first | exact Below.refl _ _ | exact below_alloc (Below.refl _ _) _); (case b2 => first | exact Below.refl _ _ | exact below_alloc (Below.refl _ _) _); (case b3 => first | exact Below.refl _ _ | exact below_alloc (Below.refl _ _) _); (case b4 => first | exact Below.refl _ _ | exact below_alloc (Below.refl _ _) _); rintro e w4 ⟨H, rfl, hF, hb⟩; unfold fv; have HB4 := Aside0.mk (below_step HB3.out (below_step (show Below w3.heap.size w3 _ from (by first | exact Below.refl _ _ | exact below_alloc (Below.refl _ _) _)) hb)); have HF4 := Aside0.mk hF; (first | (have HG4 := Aside0.mk (blk_below HG3.out hb); obtain ⟨z0, z1, z2, z3, z4, z5, z6, z7, z8, z9⟩ := zero_cells HG4.out; obtain ⟨y0, y1, y2, y3, y4, y5, y6, y7, y8, y9⟩ := zero_frozen HG4.out) | (have HG4 := Aside0.mk (blk_below (heap_alloc_new w3 (.cells zeroC 41)) hb); obtain ⟨z0, z1, z2, z3, z4, z5, z6, z7, z8, z9⟩ := zero_cells HG4.out; obtain ⟨y0, y1, y2, y3, y4, y5, y6, y7, y8, y9⟩ := zero_frozen HG4.out) | skip)))
    all_goals
      go_wp2_with fail
      go_meet
      case rel => first
        | (refine ⟨_, H, rfl, ⟨?_⟩⟩; (with_reducible exact laid_allocX HB4.out HF4.out))
        | (refine ⟨_, H, rfl, ⟨?_⟩⟩; (with_reducible refine laid_setX HB4.out HF4.out HB2.out.size HG4.out ?_); intro h; simp at h hs3; omega)
        | (refine ⟨_, H, rfl, ⟨?_⟩⟩; (with_reducible refine laid_setX HB4.out HF4.out HB3.out.size HG4.out ?_); intro h; simp at h hs3; omega)
  case rest =>
    obtain ⟨g, H, rfl, HL⟩ := hcut
    obtain ⟨hn1, hn6, _⟩ := nOf_ok h0 h255
    obtain ⟨D, hD⟩ : ∃ D, D = famK a R G O := ⟨_, rfl⟩
    have hDo : D.opts.length = nOf a := by rw [hD]; exact famK_opts a R G O
    have hDc : chk D = 0 := by rw [hD]; exact famK_chk R G O h0 h255
    have hDr : ∀ r ∈ D.rules, LitsIn D.opts.length r.f1 := by rw [hDo, hD]; exact famK_rules R G O
    have hDs : Small D := by rw [hD]; exact famK_small R G O h0 h255
    rw [← hD] at HL
    rw [← hDo] at hn1 hn6
    have HDc := Aside0.mk hDc
    have HDr := Aside0.mk hDr
    have HDs := Aside0.mk hDs
    clear hD hDo hDc hDr hDs
    have HKc := Aside0.mk HL.out.box
    have HFc := Aside0.mk HL.out.fam
    have HBc := Aside0.mk HL.out.low
    clear HL
    obtain ⟨k0, k1, k2, k3, k4, k5, k6, k7, k8, k9⟩ := box_cells HKc.out
    have hck0 := HDc.out
    have HL48 := Aside0.mk (chk_lens hck0)
    have HUL := Aside0.mk (use_lens hck0)
    clear hck0
    go_wp2_with fail
    by_cases hz : z < 0 ∨ (D.opts.length : Int) ≤ z
    · refine (used_out D H z wc HFc.out HDc.out hz).mono ?_
      rintro e w5 ⟨rfl, hb⟩
      have HB5 := Aside0.mk (below_step HBc.out hb)
      have HK5 := Aside0.mk (blk_below HKc.out hb)
      clear hb k0 k1 k2 k3 k4 k5 k6 k7 k8 k9
      obtain ⟨k0, k1, k2, k3, k4, k5, k6, k7, k8, k9⟩ := box_cells HK5.out
      have HZ := Aside0.mk hz
      by_cases h0 : z < 0
      · have q0 : decide (z < 0) = true := by simpa using h0
        clear h0 hz
        go_wp2_with fail
        go_ret
        exact ⟨rfl, HB5.out⟩
      · have q0 : decide (z < 0) = false := by simpa using h0
        have h2 : (D.opts.length : Int) ≤ z := by rcases HZ.out with h | h; exact absurd h h0; exact h
        have q1 : decide (z ≥ (D.opts.length : Int)) = true := by simpa using h2
        have q2 : decide ((D.opts.length : Int) ≤ z) = true := by simpa using h2
        clear h0 h2 hz
        go_wp2_with fail
        go_ret
        exact ⟨rfl, HB5.out⟩
    · have hz0 : 0 ≤ z := by omega
      have hz1 : z < (D.opts.length : Int) := by omega
      refine (used_calls D H z wc HFc.out HDc.out hz0 hz1).mono ?_
      rintro e w5 ⟨A1, c1, A2, c2, L1, L2, rfl, hL1, hL2, hc1, hc2, hC1, hC2, hb⟩
      have HB5 := Aside0.mk (below_step HBc.out hb)
      have HK5 := Aside0.mk (blk_below HKc.out hb)
      have HF5 := Aside0.mk (HFc.out.below hb)
      have HC1 := Aside0.mk hC1
      have HC2 := Aside0.mk hC2
      have HL1 := Aside0.mk hL1
      have HL2 := Aside0.mk hL2
      have hl1 : L1.length < 3000 := by rw [hL1]; have := useL_length (gUse D) z D.guards.length; have := HL48.out.1; omega
      have hl2 : L2.length < 3000 := by rw [hL2]; have := useL_length (oUse D) z D.overs.length; have := HL48.out.2; omega
      have HE1 := Aside0.mk (sameInts_f hl1)
      have HE2 := Aside0.mk (sameInts_f hl2)
      have q0 : decide (z < 0) = false := by simp; omega
      have q1 : decide (z ≥ (D.opts.length : Int)) = false := by simp; omega
      have q2 : decide ((D.opts.length : Int) ≤ z) = false := by simp; omega
      have HCA := Aside0.mk hc1
      have HCB := Aside0.mk hc2
      clear hb hC1 hC2 hL1 hL2 hz hz0 hz1 hl1 hl2 hc1 hc2 k0 k1 k2 k3 k4 k5 k6 k7 k8 k9
      obtain ⟨k0, k1, k2, k3, k4, k5, k6, k7, k8, k9⟩ := box_cells HK5.out
      go_wp2_with fail
      clear q0 q1 q2 k0 k1 k2 k3 k4 k5 k6 k7 k8 k9
      go_loopg [11, 9] D.guards.length (fun gk v11 v9 w' => ∃ i : Nat, v11 = .int .i64 (i : Int) ∧ Aside0 (i ≤ D.guards.length) ∧ Aside0 (D.guards.length - i ≤ gk) ∧ Aside0 (Below w5.heap.size w5 w') ∧ Aside0 (Kd.R (Kd.int .i64) 3 w' w5.heap.size (fun _ => True) v9 (useL (gUse D) z i)))
      case atStart => exact ⟨0, rfl, ⟨Nat.zero_le _⟩, ⟨Nat.sub_le _ _⟩, ⟨Below.refl _ _⟩, ⟨Kd.R_nil _ _ _ _ _⟩⟩
      case round =>
        obtain ⟨i, rfl, HI, HG, HB, HR⟩ := hrel
        obtain ⟨k0, k1, k2, k3, k4, k5, k6, k7, k8, k9⟩ := box_cells (blk_below HK5.out HB.out)
        by_cases hi : i < D.guards.length
        · have q0 : decide ((i : Int) < (D.guards.length : Int)) = true := by simpa using hi
          have q1 : decide (i < D.guards.length) = true := by simpa using hi
          have p0 : 0 ≤ (i : Int) := by omega
          have p1 : (i : Int) < (D.guards.length : Int) := by omega
          have hi48 : i < 48 := by have := HL48.out.1; omega
          obtain ⟨ad, Ax, cx, hA, hx0, hx1, hlx, hcx⟩ := at_T79 (Kd.C_below HF5.out.r8 HB.out) (i : Int) p0 p1
          rw [Int.toNat_natCast] at hx0  hx1
          rw [hA] at k8
          have hlen := HUL.out.1 i hi
          have hml : ((rd_T79 D.guards (i : Int)).f1).length < 3000 := Nat.lt_of_le_of_lt hlen (by omega)
          have hun := useL_length (gUse D) z i
          have HCX := Aside0.mk hcx
          have HLX := Aside0.mk hlx
          clear hlen hcx hlx
          go_wp2_with fail
          refine (dowellaw48_mentions.calls 4000 Ax cx ((rd_T79 D.guards (i : Int)).f1) z (ment ((rd_T79 D.guards (i : Int)).f1) z) wr HCX.out HLX.out (mentions_f _ hml)).mono ?_
          rintro e w6 ⟨rfl, ⟨nd, rfl⟩⟩
          obtain ⟨w6, hw6⟩ : ∃ w6, w6 = wr.drewN nd := ⟨_, rfl⟩
          have hb : Below wr.heap.size wr (wr.drewN nd) := pw_below_drewN (Below.refl _ _) nd
          rw [← hw6] at hb ⊢
          have HB6 := Aside0.mk (below_step HB.out hb)
          have HR6 := Aside0.mk (Kd.R_below HR.out hb)
          clear hb hw6 hx0  hx1 hml k0 k1 k2 k3 k4 k5 k6 k7 k8 k9 hA
          cases hm : ment ((rd_T79 D.guards (i : Int)).f1) z with
          | true =>
            have HY : Aside0 (useL (gUse D) z (i + 1) = useL (gUse D) z i ++ [(i : Int)]) := ⟨by simp only [useL]; rw [if_pos (show ment (gUse D i) z = true from hm)]⟩
            clear hm
            go_wp2_with ((with_reducible refine gate_builtin (b := .append) (xs := #[.tmp 61, .tmp 63]) rfl ?_); at_builtin; refine Kd.R_append (Kd.int .i64) (w0 := w5) w5.heap.size rfl (.tmp 61) (.tmp 63) 50 3 (.int .i64 0) 8 rfl Try.underlying50 info3 rfl (by decide) (by decide) u9 (useL (gUse D) z i) (i : Int) [.int .i64 (i : Int)] (fun _ => True) (fun _ => False) rfl rfl ?aP (fun _ hk => hk.elim) ?aF ?aO ?aB ?aS ?aL ?_; (case aP => exact rfl); (case aB => exact HB6.out); (case aF => exact (fun _ _ => trivial)); (case aO => exact HR6.out); (case aS => exact HB6.out.size); (case aL => omega); intro v1 w7 ho hb hg hat)
            go_roundg (D.guards.length - (i + 1))
            case measure => have := HG.out; omega
            case rel => exact ⟨i + 1, by go_num, ⟨hi⟩, ⟨Nat.le_refl _⟩, ⟨hb⟩, ⟨by rw [HY.out]; exact ho⟩⟩
          | false =>
            have HY : Aside0 (useL (gUse D) z (i + 1) = useL (gUse D) z i) := ⟨by simp only [useL]; rw [if_neg (by unfold gUse; rw [hm]; decide)]⟩
            clear hm
            go_wp2_with fail
            go_roundg (D.guards.length - (i + 1))
            case measure => have := HG.out; omega
            case rel => exact ⟨i + 1, by go_num, ⟨hi⟩, ⟨Nat.le_refl _⟩, HB6, ⟨by rw [HY.out]; exact HR6.out⟩⟩
        · have q0 : decide ((i : Int) < (D.guards.length : Int)) = false := by simpa using hi
          have q1 : decide (i < D.guards.length) = false := by simpa using hi
          have hin : i = D.guards.length := by have := HI.out; omega
          rw [hin] at HR
          clear hin hi HI HG
          go_wp2_with fail
          obtain ⟨w8, hw8⟩ : ∃ W, W = wr := ⟨_, rfl⟩
          rw [← hw8] at HB HR ⊢
          clear hw8 k0 k1 k2 k3 k4 k5 k6 k7 k8 k9 q0 q1
          have HB8 := Aside0.mk (below_step HB5.out HB.out)
          have HK8 := Aside0.mk (blk_below HK5.out HB.out)
          have HF8 := Aside0.mk (HF5.out.below HB.out)
          have HC18 := Aside0.mk (Kd.C_below HC1.out HB.out)
          have HC28 := Aside0.mk (Kd.C_below HC2.out HB.out)
          have HR8 := HR
          clear HB HR
          go_loopg [12, 10] D.overs.length (fun gk v12 v10 w' => ∃ i : Nat, v12 = .int .i64 (i : Int) ∧ Aside0 (i ≤ D.overs.length) ∧ Aside0 (D.overs.length - i ≤ gk) ∧ Aside0 (Below w8.heap.size w8 w') ∧ Aside0 (Kd.R (Kd.int .i64) 3 w' w8.heap.size (fun _ => True) v10 (useL (oUse D) z i)))
          case atStart => exact ⟨0, rfl, ⟨Nat.zero_le _⟩, ⟨Nat.sub_le _ _⟩, ⟨Below.refl _ _⟩, ⟨Kd.R_nil _ _ _ _ _⟩⟩
          case round =>
            obtain ⟨i, rfl, HI, HG, HB, HR⟩ := hrel
            obtain ⟨k0, k1, k2, k3, k4, k5, k6, k7, k8, k9⟩ := box_cells (blk_below HK8.out HB.out)
            by_cases hi : i < D.overs.length
            · have q0 : decide ((i : Int) < (D.overs.length : Int)) = true := by simpa using hi
              have q1 : decide (i < D.overs.length) = true := by simpa using hi
              have p0 : 0 ≤ (i : Int) := by omega
              have p1 : (i : Int) < (D.overs.length : Int) := by omega
              have hi48 : i < 48 := by have := HL48.out.2; omega
              obtain ⟨ad, Ax, cx, hA, hx0, hx1, hx2, hx3, hx4, hx5, hlx, hcx⟩ := at_T83 (Kd.C_below HF8.out.r9 HB.out) (i : Int) p0 p1
              rw [Int.toNat_natCast] at hx0  hx1  hx2  hx3  hx4  hx5
              rw [hA] at k9
              have hlen := HUL.out.2 i hi
              have hml : ((rd_T83 D.overs (i : Int)).f0).length < 3000 := Nat.lt_of_le_of_lt hlen (by omega)
              have hun := useL_length (oUse D) z i
              have HCX := Aside0.mk hcx
              have HLX := Aside0.mk hlx
              clear hlen hcx hlx
              go_wp2_with fail
              refine (dowellaw48_mentions.calls 4000 Ax cx ((rd_T83 D.overs (i : Int)).f0) z (ment ((rd_T83 D.overs (i : Int)).f0) z) wr HCX.out HLX.out (mentions_f _ hml)).mono ?_
              rintro e w6 ⟨rfl, ⟨nd, rfl⟩⟩
              obtain ⟨w6, hw6⟩ : ∃ w6, w6 = wr.drewN nd := ⟨_, rfl⟩
              have hb : Below wr.heap.size wr (wr.drewN nd) := pw_below_drewN (Below.refl _ _) nd
              rw [← hw6] at hb ⊢
              have HB6 := Aside0.mk (below_step HB.out hb)
              have HR6 := Aside0.mk (Kd.R_below HR.out hb)
              clear hb hw6 hx0  hx1  hx2  hx3  hx4  hx5 hml k0 k1 k2 k3 k4 k5 k6 k7 k8 k9 hA
              cases hm : ment ((rd_T83 D.overs (i : Int)).f0) z with
              | true =>
                have HY : Aside0 (useL (oUse D) z (i + 1) = useL (oUse D) z i ++ [(i : Int)]) := ⟨by simp only [useL]; rw [if_pos (show ment (oUse D i) z = true from hm)]⟩
                clear hm
                go_wp2_with ((with_reducible refine gate_builtin (b := .append) (xs := #[.tmp 80, .tmp 82]) rfl ?_); at_builtin; refine Kd.R_append (Kd.int .i64) (w0 := w8) w8.heap.size rfl (.tmp 80) (.tmp 82) 50 3 (.int .i64 0) 8 rfl Try.underlying50 info3 rfl (by decide) (by decide) u10 (useL (oUse D) z i) (i : Int) [.int .i64 (i : Int)] (fun _ => True) (fun _ => False) rfl rfl ?aP (fun _ hk => hk.elim) ?aF ?aO ?aB ?aS ?aL ?_; (case aP => exact rfl); (case aB => exact HB6.out); (case aF => exact (fun _ _ => trivial)); (case aO => exact HR6.out); (case aS => exact HB6.out.size); (case aL => omega); intro v1 w7 ho hb hg hat)
                go_roundg (D.overs.length - (i + 1))
                case measure => have := HG.out; omega
                case rel => exact ⟨i + 1, by go_num, ⟨hi⟩, ⟨Nat.le_refl _⟩, ⟨hb⟩, ⟨by rw [HY.out]; exact ho⟩⟩
              | false =>
                have HY : Aside0 (useL (oUse D) z (i + 1) = useL (oUse D) z i) := ⟨by simp only [useL]; rw [if_neg (by unfold oUse; rw [hm]; decide)]⟩
                clear hm
                go_wp2_with fail
                go_roundg (D.overs.length - (i + 1))
                case measure => have := HG.out; omega
                case rel => exact ⟨i + 1, by go_num, ⟨hi⟩, ⟨Nat.le_refl _⟩, HB6, ⟨by rw [HY.out]; exact HR6.out⟩⟩
            · have q0 : decide ((i : Int) < (D.overs.length : Int)) = false := by simpa using hi
              have q1 : decide (i < D.overs.length) = false := by simpa using hi
              have hin : i = D.overs.length := by have := HI.out; omega
              rw [hin] at HR
              clear hin hi HI HG
              obtain ⟨A3, c3, hv3, hc3, hC3⟩ := Kd.R_reads HR8.out
              obtain ⟨A4, c4, hv4, hc4, hC4⟩ := Kd.R_reads HR.out
              subst hv3
              subst hv4
              rw [← HL1.out] at hc3 hC3 ⊢
              rw [← HL2.out] at hc4 hC4 ⊢
              have HC3 := Aside0.mk (Kd.C_below hC3 HB.out)
              have HC4 := Aside0.mk hC4
              have HCC := Aside0.mk hc3
              have HCD := Aside0.mk hc4
              clear hc3 hC3 hc4 hC4
              go_wp2_with fail
              refine (dowellaw48_sameInts.calls 4000 A1 c1 L1 A3 c3 L1 true wr (Kd.C_below HC18.out HB.out) HCA.out HC3.out HCC.out HE1.out).mono ?_
              rintro e w11 ⟨rfl, ⟨nd2, rfl⟩⟩
              have hb11 : Below wr.heap.size wr (wr.drewN nd2) := pw_below_drewN (Below.refl _ _) nd2
              go_wp2_with fail
              refine (dowellaw48_sameInts.calls 4000 A2 c2 L2 A4 c4 L2 true (wr.drewN nd2) (Kd.C_below (Kd.C_below HC28.out HB.out) hb11) HCB.out (Kd.C_below HC4.out hb11) HCD.out HE2.out).mono ?_
              rintro e w12 ⟨rfl, ⟨nd3, rfl⟩⟩
              go_wp2_with fail
              go_ret
              exact ⟨rfl, by repeat (first | exact below_step HB8.out HB.out | apply pw_below_drewN | apply below_drew1)⟩
end Go.Proofs.Ytbnmdlnpfikkcaa.PX
/- The row of the law VariantUses: for every input it returns true, and its arguments read behind the call as they read before. -/
namespace Go.Proofs.Ytbnmdlnpfikkcaa.variantUses
open Go.ChangeShapes Go.WideShapes Go.ChangeAt Go.RowKit
set_option linter.unusedVariables false
theorem own : ownKnob Try.prog.godebug = none := by kernel_rfl
theorem laidOut : laidOutB Try.prog = true := by kernel_rfl
set_option maxRecDepth 100000 in
theorem lifted (os : Os) (started : os.Started) (H : Type) (enc : TypeId × Value → H) :
    ReturnsInHanded {} Try.checked os 8 .any (Rows.variantUsesSpec.pre6 enc Try.prog Try.f8 Rows.variantUsesRow.domain false) (Rows.variantUsesSpec.post enc Try.prog Try.f8 false true false false) := by
  refine returnsInHanded_of_change_sized (C := Try.checked) own started (by kernel_rfl) Try.func8
    (ChangeSpec.witness6 (enc := enc) (C := Try.checked) false ⟨#[], #[.agg #[.int .u8 0, .slice none 0 0, .slice none 0 0, .slice none 0 0], .int .i64 0], []⟩ 8 (by kernel_rfl) (by kernel_rfl) (by kernel_rfl) (by kernel_rfl)) ?_
  intro W base args ds gs before hval0 hW hcnd hsz0 _
  have hval : ∀ (j : Nat) t v, Try.f8.params[j]? = some t → args[j]? = some v → Value.okWide Try.prog W .any base t v := hval0
  have hW' := hW
  obtain ⟨p, q, hA0, hV, rfl, hfz, hnd⟩ := hW
  have hA : DataW.TrodAll enc Try.prog W 0 (fun _ => true) true Try.f8.params.toList args.toList ds p := hA0
  rw [Try.params8] at hA hval
  obtain ⟨v0, vs0, d0, ds0, p0, q0, hargs, rfl, rfl, h0, r0⟩ := trodAll_cons hA
  obtain ⟨v1, vs1, d1, ds1, p1, q1, rfl, rfl, rfl, h1, r1⟩ := trodAll_cons r0
  obtain ⟨rfl, rfl, rfl⟩ := trodAll_nil r1
  obtain rfl : args = #[v0, v1] := by cases args; simp_all
  obtain ⟨rfl, rfl⟩ := trodVars_none hV
  have k0 := h0
  have lt0 : ∀ x ∈ p0, x.block < W.heap.size := by obtain ⟨m, hm⟩ := k0; exact DataW.trod_lt m _ _ _ hm
  obtain ⟨a, R, G, O, B1, B2, B3, e1, e2, e3, rfl, g0, g1, hk⟩ := PX.kin_open (hval 0 24 v0 rfl rfl) h0
  have k1 := h1
  have lt1 : ∀ x ∈ p1, x.block < W.heap.size := by obtain ⟨m, hm⟩ := k1; exact DataW.trod_lt m _ _ _ hm
  obtain ⟨z1, rfl, rfl, rfl, w1⟩ := open_int Try.underlying3 (hval 1 3 v1 rfl rfl) h1
  clear hA0 hval0 hsz0
  refine (PX.law8 a R G O B1 B2 B3 e1 e2 e3 z1 W g0 g1 hk).mono fun e W' ⟨he, bel⟩ => ?_
  subst he
  exact ⟨_, rfl, _, _, _, [], _, [], hW', trodAll_mk1 (shut_bool Try.underlying4 _), (trodAll_cons_mk (Below.trod laidOut (by kernel_rfl) (of_decide_eq_true (by kernel_rfl)) k0 bel lt0) (trodAll_cons_mk (shut_int Try.underlying3 w1) trodAll_mk0)), rfl, bel.frame _, fun h => by cases h⟩
theorem over : Rows.variantUsesRow.holds Try.pinned (OpenSpec.ofChange Rows.variantUsesSpec) :=
  OpenClaim.holds_of_wide 8 Try.f8 rfl rfl rfl rfl rfl rfl rfl ⟨rfl, rfl, rfl, rfl, rfl⟩ rfl rfl rfl rfl rfl (by kernel_rfl) Try.func8 (by kernel_rfl)
    (of_decide_eq_true (by kernel_rfl)) (by unfold Func.isWrapper; first | (rw [if_pos (by decide +kernel)]; kernel_rfl) | (rw [if_neg (by decide +kernel)]; exact ⟨rfl, rfl⟩))
    (fun os started H enc _ => lifted os started H enc)
theorem proved : Rows.VariantUsesSaid := over
#print axioms proved
end Go.Proofs.Ytbnmdlnpfikkcaa.variantUses
namespace Go.Proofs.Ytbnmdlnpfikkcaa
theorem variantUses_holds : Rows.VariantUsesSaid := variantUses.proved
end Go.Proofs.Ytbnmdlnpfikkcaa
