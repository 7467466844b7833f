/- VariantDivides returns true for every input, and its arguments read behind the call as they read before: no condition. -/
import Derived.Test.YtbnmdlnpfikkcaaMA
import Derived.Test.YtbnmdlnpfikkcaaM4
import Derived.Deep.RegionWith
import Derived.Test.YtbnmdlnpfikkcaaK0
import Derived.Test.YtbnmdlnpfikkcaaM5
import Derived.Test.YtbnmdlnpfikkcaaRows
import Derived.WalkKit
import Derived.ProofKit
import Derived.OpenShut
import Derived.ChangeOld
import Derived.SizedLaws
import Derived.Deep.Matrix
import Derived.Deep.SlicePairs
import Derived.Lib.SmallJoins
/- What all laws' walks want: a description in a world; the reference's functions by their contracts. -/
namespace Go.Proofs.Ytbnmdlnpfikkcaa.PX
open Go.RowKit Go.Proofs.YtbnmdlnpfikkcaaW.PrintWords Go.Proofs.YtbnmdlnpfikkcaaW.PrintLast Go.Proofs.YtbnmdlnpfikkcaaW.PrintMore
set_option linter.unusedVariables false
set_option linter.unusedSimpArgs false
/-- A description, in a world. -/
structure KinAt (w : World) (R G O : List (List Int)) (B1 B2 B3 : Option Addr) (d1 d2 d3 : Nat) : Prop where
  r1 : Kd.C (Kd.slice 95 (Kd.int .i8)) w B1 R.length R
  l1 : R.length ≤ d1
  r2 : Kd.C (Kd.slice 95 (Kd.int .i8)) w B2 G.length G
  l2 : G.length ≤ d2
  r3 : Kd.C (Kd.slice 95 (Kd.int .i8)) w B3 O.length O
  l3 : O.length ≤ d3
  a1 : All8 R
  a2 : All8 G
  a3 : All8 O
theorem KinAt.below {w w1 : World} {R G O : List (List Int)} {B1 B2 B3 : Option Addr} {d1 d2 d3 : Nat} (h : KinAt w R G O B1 B2 B3 d1 d2 d3) (hb : Below w.heap.size w w1) : KinAt w1 R G O B1 B2 B3 d1 d2 d3 :=
  ⟨Kd.C_below h.r1 hb, h.l1, Kd.C_below h.r2 hb, h.l2, Kd.C_below h.r3 hb, h.l3, h.a1, h.a2, h.a3⟩
def kinV (a : Int) (R G O : List (List Int)) (B1 B2 B3 : Option Addr) (d1 d2 d3 : Nat) : Value := .agg #[.int .u8 a, .slice B1 R.length d1, .slice B2 G.length d2, .slice B3 O.length d3]
theorem kfam_calls {a : Int} {R G O : List (List Int)} {B1 B2 B3 : Option Addr} {d1 d2 d3 : Nat} {A1 A2 A3 A4 A5 : Option Addr} {c1 c2 c3 c4 c5 : Nat} {w : World} (h0 : 0 ≤ a) (h255 : a ≤ 255) (hk : KinAt w R G O B1 B2 B3 d1 d2 d3) (hb : BaseAt w A1 A2 A3 A4 A5 c1 c2 c3 c4 c5) :
    Calls Try.prog 12 #[kinV a R G O B1 B2 B3 d1 d2 d3, baseV A1 A2 A3 A4 A5 c1 c2 c3 c4 c5] w fun e w' => ∃ H : Hd, e = .returned (fv (famK a R G O) H) ∧ FamAt w' (famK a R G O) H ∧ Below w.heap.size w w' :=
  fam_calls a R G O B1 B2 B3 d1 d2 d3 A1 A2 A3 A4 A5 c1 c2 c3 c4 c5 w h0 h255 hk.a1 hk.a2 hk.a3 hk.r1 hk.l1 hk.r2 hk.l2 hk.r3 hk.l3 hb
def kinC (a : Int) (R G O : List (List Int)) (B1 B2 B3 : Option Addr) (d1 d2 d3 : Nat) : Array Value := #[.int .u8 a, .slice B1 R.length d1, .slice B2 G.length d2, .slice B3 O.length d3]
theorem kin_cells {w : World} {g : Nat} {a : Int} {R G O : List (List Int)} {B1 B2 B3 : Option Addr} {d1 d2 d3 : Nat} (h : w.heap[g]? = some (.cells (kinC a R G O B1 B2 B3 d1 d2 d3) 24 (0, 0))) :
    w.cell? ⟨g, 0, none⟩ = some (.int .u8 a) ∧ w.cell? ⟨g, 1, none⟩ = some (.slice B1 R.length d1) ∧ w.cell? ⟨g, 2, none⟩ = some (.slice B2 G.length d2) ∧ w.cell? ⟨g, 3, none⟩ = some (.slice B3 O.length d3) :=
  ⟨(blk_cell h 0).trans rfl, (blk_cell h 1).trans rfl, (blk_cell h 2).trans rfl, (blk_cell h 3).trans rfl⟩
theorem ref_none (D : Fam) (H : Hd) (w : World) (h : FamAt w D H) (hl : D.rules.length < 50) :
    Calls Try.prog 18 #[fv D H] w fun e w' => ∃ A cp, e = .returned (.slice A D.rules.length cp) ∧ D.rules.length ≤ cp ∧ Kd.C Kd.bool w' A D.rules.length (List.replicate D.rules.length false) ∧ Below w.heap.size w w' :=
  (dowellaw48_none.calls D.nm H.A1 H.c1 D.parts H.A2 H.c2 D.insts H.A3 H.c3 D.dims H.A4 H.c4 D.cons H.A5 H.c5 D.reqs H.A6 H.c6 D.opts H.A7 H.c7 D.rules H.A8 H.c8 D.guards H.A9 H.c9 D.overs (List.replicate D.rules.length false) w h.r1 h.l1 h.r2 h.l2 h.r3 h.l3 h.r4 h.l4 h.r5 h.l5 h.r6 h.l6 h.r7 h.l7 h.r8 h.l8 h.r9 h.l9
    (by unfold dowellaw48_none.f; rw [if_pos (by omega), if_pos (by omega), Int.toNat_natCast])).mono fun e w' ⟨v, he, hR, hb⟩ => by
      obtain ⟨A, cp, hv, hc, hC⟩ := Kd.R_reads hR
      subst hv
      rw [List.length_replicate] at he hc hC
      exact ⟨A, cp, he, hc, hC, hb⟩
/-- The allowed sets, as the reference lists them. -/
def allowedL (D : Fam) (o : List Bool) (ch : List S62) : List Int := (ks D.opts.length ch (kept D.rules o)).map fun k => ((setOf D.opts.length k : Nat) : Int)
theorem ref_allowed (D : Fam) (H : Hd) (A : Option Addr) (c : Nat) (m : Nat) (o : List Bool) (hm : o.length = m) (A2 : Option Addr) (c2 : Nat) (ch : List S62) (w : World) (h : FamAt w D H) (hs : Small D) (h1 : 1 ≤ D.opts.length) (h6 : D.opts.length ≤ 6) (ho : D.rules.length ≤ o.length) (hch : LitsIn D.opts.length ch) (hcl : ch.length < 100) (hrs : ∀ r ∈ D.rules, LitsIn D.opts.length r.f1)
    (hr : Kd.C Kd.bool w A m o) (hc : m ≤ c) (hr2 : Kd.C k62 w A2 ch.length ch) (hc2 : ch.length ≤ c2) :
    Calls Try.prog 17 #[fv D H, .slice A m c, .slice A2 ch.length c2] w fun e w' => ∃ A cp, e = .returned (.slice A (allowedL D o ch).length cp) ∧ (allowedL D o ch).length ≤ cp ∧ Kd.C (Kd.int .i64) w' A (allowedL D o ch).length (allowedL D o ch) ∧ Below w.heap.size w w' := by
  subst hm
  exact (dowellaw48_allowed.calls 4000 D.nm H.A1 H.c1 D.parts H.A2 H.c2 D.insts H.A3 H.c3 D.dims H.A4 H.c4 D.cons H.A5 H.c5 D.reqs H.A6 H.c6 D.opts H.A7 H.c7 D.rules H.A8 H.c8 D.guards H.A9 H.c9 D.overs A c o A2 c2 ch (allowedL D o ch) w h.r1 h.l1 h.r2 h.l2 h.r3 h.l3 h.r4 h.l4 h.r5 h.l5 h.r6 h.l6 h.r7 h.l7 h.r8 h.l8 h.r9 h.l9
    hr hc hr2 hc2 (allowed_f hs rfl h1 h6 ho hch hcl hrs)).mono fun e w' ⟨v, he, hR, hb⟩ => by
      obtain ⟨A, cp, hv, hc, hC⟩ := Kd.R_reads hR
      subst hv
      exact ⟨A, cp, he, hc, hC, hb⟩
theorem ref_names (D : Fam) (H : Hd) (k : Nat) (w : World) (h : FamAt w D H) (h6 : D.opts.length ≤ 6) (hk : k < 2 ^ D.opts.length) :
    Calls Try.prog 20 #[fv D H, .int .i64 ((setOf D.opts.length k : Nat) : Int)] w fun e w' => ∃ A cp, e = .returned (.slice A (cnames (cfg D.opts.length k) D.opts).length cp) ∧ (cnames (cfg D.opts.length k) D.opts).length ≤ cp ∧ Kd.C Kd.string w' A (cnames (cfg D.opts.length k) D.opts).length (cnames (cfg D.opts.length k) D.opts) ∧ Below w.heap.size w w' :=
  (dowellaw48_names.calls 4000 D.nm H.A1 H.c1 D.parts H.A2 H.c2 D.insts H.A3 H.c3 D.dims H.A4 H.c4 D.cons H.A5 H.c5 D.reqs H.A6 H.c6 D.opts H.A7 H.c7 D.rules H.A8 H.c8 D.guards H.A9 H.c9 D.overs _ (cnames (cfg D.opts.length k) D.opts) w h.r1 h.l1 h.r2 h.l2 h.r3 h.l3 h.r4 h.l4 h.r5 h.l5 h.r6 h.l6 h.r7 h.l7 h.r8 h.l8 h.r9 h.l9
    (refnames_f rfl h6 hk)).mono fun e w' ⟨v, he, hR, hb⟩ => by
      obtain ⟨A, cp, hv, hc, hC⟩ := Kd.R_reads hR
      subst hv
      exact ⟨A, cp, he, hc, hC, hb⟩
end Go.Proofs.Ytbnmdlnpfikkcaa.PX
namespace Go.Proofs.Ytbnmdlnpfikkcaa.PX
open Go.RowKit Go.Proofs.YtbnmdlnpfikkcaaW.PrintWords Go.Proofs.YtbnmdlnpfikkcaaW.PrintLast Go.Proofs.YtbnmdlnpfikkcaaW.PrintMore
attribute [local go_sem] max2_int min2_int max_two min_two max_three min_three max_four min_four   -- for this text's walks alone
set_option linter.unusedVariables false
set_option linter.unusedSimpArgs false

/-! ### dowellaw48_mentions: function 27 -/
def dowellaw48_mentions.l0 : Nat → List (S62) → Int → Int → Option (Bool)
 | 0, _, _, _ => none
 | k + 1, x0, x1, x5 => if x5 < (x0.length : Int) then (if 0 ≤ x5 then (if ((rd_T62 x0 x5).f0) = x1 then (some true) else (dowellaw48_mentions.l0 k x0 x1 (wrap64 (x5 + 1)))) else (none)) else (some false)
def dowellaw48_mentions.f (k : Nat) (l0 : List (S62)) (a1 : Int) : Option (Bool) := dowellaw48_mentions.l0 k l0 a1 0
theorem dowellaw48_mentions.mono_l : ∀ k, (∀ y0 y1 y2, LeO (dowellaw48_mentions.l0 k y0 y1 y2) (dowellaw48_mentions.l0 (k + 1) y0 y1 y2))
 | 0 => fun _ _ _ r h => by simp [dowellaw48_mentions.l0] at h
 | k + 1 => by
  have ih0 := dowellaw48_mentions.mono_l k
  ·intro y0 y1 y2
   unfold dowellaw48_mentions.l0
   repeat' first
   | (with_reducible exact ih0 _ _ _)
   | (with_reducible exact LeO.refl _)
   | (with_reducible exact LeO.none _)
   | (with_reducible refine LeO.ite ?_ ?_)
   | (with_reducible refine LeO.bind ?_ (fun _ => ?_))
   | exact ih0 _ _ _
   | exact LeO.none _
   | refine LeO.ite ?_ ?_
   | refine LeO.bind ?_ (fun _ => ?_)
theorem dowellaw48_mentions.mono : ∀ a0 a1 k, LeO (dowellaw48_mentions.f k a0 a1) (dowellaw48_mentions.f (k + 1) a0 a1) := by
 intro a0 a1 k
 have ih0 := dowellaw48_mentions.mono_l k
 unfold dowellaw48_mentions.f
 repeat' first
   | (with_reducible exact ih0 _ _ _)
   | (with_reducible exact LeO.refl _)
   | (with_reducible exact LeO.none _)
   | (with_reducible refine LeO.ite ?_ ?_)
   | (with_reducible refine LeO.bind ?_ (fun _ => ?_))
   | exact ih0 _ _ _
   | exact LeO.none _
   | refine LeO.ite ?_ ?_
   | refine LeO.bind ?_ (fun _ => ?_)
set_option maxHeartbeats 8000000 in
set_option maxRecDepth 100000 in
theorem dowellaw48_mentions.calls (k : Nat) (A0 : Option Addr) (c0 : Nat) (l0 : List (S62)) (a1 : Int) (r : Bool) (w : World) (hr0 : Kd.C k62 w A0 l0.length l0) (hc0 : l0.length ≤ c0) (h : dowellaw48_mentions.f k l0 a1 = some r) :
  Calls Try.prog 27 #[.slice A0 l0.length c0, .int .i64 a1] w fun e w' => e = .returned (.bool r) ∧ Drawn0 w w' := by
 have HR0 := Aside0.mk hr0
 have HC0 := Aside0.mk hc0
 clear hr0 hc0
 have H : (dowellaw48_mentions.l0 k l0 a1 0) = some r := h
 clear h
 have H' := Aside0.mk H
 clear H
 go_enter Try.func27, Try.ntmps27
 go_wp2
 go_loopg [5] k (fun kq v5 w' => ∃ (x5_1 : Int), v5 = .int .i64 x5_1 ∧ Aside0 (dowellaw48_mentions.l0 kq l0 a1 x5_1 = some r) ∧ Aside0 (kq ≤ k) ∧ Drawn0 w w')
 case atStart => exact ⟨(0), (by first | rfl | (simp; done) | (simp [*]; done)), H', ⟨Nat.le_refl _⟩, by repeat (first | exact Drawn0.refl _ | apply Drawn0.step)⟩
 case round =>
  clear H'
  try clear c2
  try clear p2
  obtain ⟨x5_1, rfl, HA, HK1, ⟨m1, rfl⟩⟩ := hrel
  cases gk with
  | zero => exact absurd HA.out (by simp [dowellaw48_mentions.l0])
  | succ k1 =>
   have H := HA.out
   clear HA
   simp only [dowellaw48_mentions.l0] at H
   by_cases c3 : x5_1 < (l0.length : Int)
   ·rw [if_pos c3] at H
    have c3b0 : decide (x5_1 < (l0.length : Int)) = true := decide_eq_true c3
    clear c3
    by_cases c4 : 0 ≤ x5_1
    ·rw [if_pos c4] at H
     have c4b0 : decide (0 ≤ x5_1) = true := decide_eq_true c4
     clear c4
     by_cases c5 : ((rd_T62 l0 x5_1).f0) = a1
     ·rw [if_pos c5] at H
      have c5b0 : (((rd_T62 l0 x5_1).f0) == a1) = true := beq_iff_eq.mpr c5
      have c5b1 : (((rd_T62 l0 x5_1).f0) != a1) = false := bne_eq_false_iff_eq.mpr c5
      clear c5
      obtain rfl := Option.some.inj H
      have p308 : 0 ≤ (x5_1 : Int) := of_decide_eq_true (by first | (with_reducible assumption) | assumption)
      have q308 : x5_1 < (l0.length : Int) := of_decide_eq_true (by first | (with_reducible assumption) | assumption)
      obtain ⟨ad308, e308, hx308_0, hx308_1⟩ := at_T62 HR0.out x5_1 p308 q308
      cases e308
      replace p308 := eq_true p308
      replace q308 := eq_true q308
      go_wp2
      go_ret
      exact ⟨by first | rfl | (simp; done) | (simp [*]; done), by repeat (first | exact Drawn0.refl _ | apply Drawn0.step)⟩
     ·rw [if_neg c5] at H
      have c5b0 : (((rd_T62 l0 x5_1).f0) == a1) = false := beq_eq_false_iff_ne.mpr c5
      have c5b1 : (((rd_T62 l0 x5_1).f0) != a1) = true := bne_iff_ne.mpr c5
      have H' := Aside0.mk H
      clear H
      have p308 : 0 ≤ (x5_1 : Int) := of_decide_eq_true (by first | (with_reducible assumption) | assumption)
      have q308 : x5_1 < (l0.length : Int) := of_decide_eq_true (by first | (with_reducible assumption) | assumption)
      obtain ⟨ad308, e308, hx308_0, hx308_1⟩ := at_T62 HR0.out x5_1 p308 q308
      cases e308
      replace p308 := eq_true p308
      replace q308 := eq_true q308
      go_wp2
      go_roundg k1
      case measure => have := HK1.out; omega
      case rel => exact ⟨(wrap64 (x5_1 + 1)), (by first | rfl | (simp; done) | (simp [*]; done)), H', ⟨by have := HK1.out; omega⟩, by repeat (first | exact Drawn0.refl _ | apply Drawn0.step)⟩
    ·rw [if_neg c4] at H
     exact absurd H (by simp)
   ·rw [if_neg c3] at H
    have c3b0 : decide (x5_1 < (l0.length : Int)) = false := decide_eq_false c3
    clear c3
    obtain rfl := Option.some.inj H
    go_wp2
    go_ret
    exact ⟨by first | rfl | (simp; done) | (simp [*]; done), by repeat (first | exact Drawn0.refl _ | apply Drawn0.step)⟩

end Go.Proofs.Ytbnmdlnpfikkcaa.PX
/- Divides: the choice with the option on, or off, and what the three together count. -/
namespace Go.Proofs.Ytbnmdlnpfikkcaa.PX
open Go.RowKit Go.Proofs.YtbnmdlnpfikkcaaW.PrintWords Go.Proofs.YtbnmdlnpfikkcaaW.PrintLast Go.Proofs.YtbnmdlnpfikkcaaW.PrintMore
set_option linter.unusedVariables false
set_option linter.unusedSimpArgs false
/-- A literal of the option stands in the list. -/
def ment (l : List S62) (o : Int) : Bool := l.any fun x => x.f0 == o
theorem mentions_from (l : List S62) (o : Int) (hl : l.length < 3000) (d : Nat) : ∀ (K i : Nat), i + d = l.length → d < K → dowellaw48_mentions.l0 K l o i = some (ment (l.drop i) o) := by
  induction d with
  | zero =>
    intro K i hi hK
    obtain ⟨K, rfl⟩ : ∃ m, K = m + 1 := ⟨K - 1, by omega⟩
    simp only [dowellaw48_mentions.l0]
    rw [if_neg (by omega), List.drop_eq_nil_of_le (by omega)]
    rfl
  | succ d ih =>
    intro K i hi hK
    obtain ⟨K, rfl⟩ : ∃ m, K = m + 1 := ⟨K - 1, by omega⟩
    have hlt : i < l.length := by omega
    simp only [dowellaw48_mentions.l0]
    rw [if_pos (by omega), if_pos (by omega), wrap_succ i (by omega), rd62_drop hlt]
    unfold ment
    rw [List.any_cons]
    by_cases h : (rd_T62 l (i : Int)).f0 = o
    · rw [if_pos h, h, beq_self_eq_true, Bool.true_or]
    · rw [if_neg h, beq_false_of_ne h, Bool.false_or]
      exact ih K (i + 1) (by omega) (by omega)
theorem mentions_f {l : List S62} (o : Int) (hl : l.length < 3000) : dowellaw48_mentions.f 4000 l o = some (ment l o) := by
  have := mentions_from l o hl l.length 4000 0 (by omega) (by omega)
  rwa [List.drop_zero] at this
/-- What the inner loop appends for option i, of the first k literals. -/
def inn (ch : List S62) (i : Int) : Nat → List S62
  | 0 => []
  | k + 1 => if (rd_T62 ch k).f0 = i then inn ch i k ++ [rd_T62 ch k] else inn ch i k
/-- The choice with the option o set to b, of the first i options. -/
def wth (ch : List S62) (o : Int) (b : Bool) : Nat → List S62
  | 0 => []
  | i + 1 => if (i : Int) = o then wth ch o b i ++ inn ch i ch.length ++ [⟨i, b⟩] else wth ch o b i ++ inn ch i ch.length
theorem inn_mem (ch : List S62) (i : Int) : ∀ k, k ≤ ch.length → ∀ x, x ∈ inn ch i k ↔ x.f0 = i ∧ x ∈ ch.take k
  | 0, _, x => by simp [inn]
  | k + 1, hk, x => by
    have ih := inn_mem ch i k (by omega) x
    have e : rd_T62 ch (k : Int) = ch[k] := rd62_get (by omega)
    rw [List.take_succ_eq_append_getElem (by omega), List.mem_append, List.mem_singleton]
    unfold inn
    rw [e]
    split
    · rename_i h
      rw [List.mem_append, List.mem_singleton, ih]
      constructor
      · rintro (⟨h1, h2⟩ | rfl)
        · exact ⟨h1, Or.inl h2⟩
        · exact ⟨h, Or.inr rfl⟩
      · rintro ⟨h1, h2 | h2⟩
        · exact Or.inl ⟨h1, h2⟩
        · exact Or.inr h2
    · rename_i h
      rw [ih]
      constructor
      · rintro ⟨h1, h2⟩; exact ⟨h1, Or.inl h2⟩
      · rintro ⟨h1, h2 | rfl⟩
        · exact ⟨h1, h2⟩
        · exact absurd h1 h
abbrev Inc (l : List S62) : Prop := l.Pairwise (fun a b => a.f0 < b.f0)
theorem inn_small {ch : List S62} (h : Inc ch) (i : Int) : ∀ k, k ≤ ch.length → Inc (inn ch i k) ∧ (inn ch i k).length ≤ 1
  | 0, _ => ⟨List.Pairwise.nil, by simp [inn]⟩
  | k + 1, hk => by
    obtain ⟨h1, h2⟩ := inn_small h i k (by omega)
    have e : rd_T62 ch (k : Int) = ch[k] := rd62_get (by omega)
    unfold inn
    rw [e]
    split
    · rename_i h3
      have h4 : inn ch i k = [] := by
        rw [List.eq_nil_iff_forall_not_mem]
        intro x hx
        rw [inn_mem ch i k (by omega)] at hx
        obtain ⟨j, hj, h5⟩ := List.mem_take_iff_getElem.1 hx.2
        have := List.pairwise_iff_getElem.1 h j k (by omega) (by omega) (by omega)
        rw [h5, hx.1, h3] at this
        omega
      rw [h4]
      exact ⟨List.pairwise_singleton _ _, by simp⟩
    · exact ⟨h1, h2⟩
theorem wth_mem (ch : List S62) (o : Int) (b : Bool) : ∀ i : Nat, ∀ x, x ∈ wth ch o b i ↔ (0 ≤ x.f0 ∧ x.f0 < (i : Int)) ∧ (x ∈ ch ∨ x = ⟨o, b⟩)
  | 0, x => by simp [wth]; omega
  | i + 1, x => by
    have ih := wth_mem ch o b i x
    have hin := inn_mem ch i ch.length (Nat.le_refl _) x
    rw [List.take_length] at hin
    unfold wth
    split
    · rename_i h
      subst h
      rw [List.mem_append, List.mem_append, List.mem_singleton, ih, hin]
      constructor
      · rintro ((⟨h1, h2⟩ | ⟨h1, h2⟩) | rfl)
        · exact ⟨by omega, h2⟩
        · exact ⟨by omega, Or.inl h2⟩
        · exact ⟨by show 0 ≤ (i : Int) ∧ (i : Int) < ((i + 1 : Nat) : Int); omega, Or.inr rfl⟩
      · rintro ⟨h1, h2 | rfl⟩
        · by_cases h3 : x.f0 = i
          · exact Or.inl (Or.inr ⟨h3, h2⟩)
          · exact Or.inl (Or.inl ⟨by omega, Or.inl h2⟩)
        · exact Or.inr rfl
    · rename_i h
      rw [List.mem_append, ih, hin]
      constructor
      · rintro (⟨h1, h2⟩ | ⟨h1, h2⟩)
        · exact ⟨by omega, h2⟩
        · exact ⟨by omega, Or.inl h2⟩
      · rintro ⟨h1, h2 | h2⟩
        · by_cases h3 : x.f0 = i
          · exact Or.inr ⟨h3, h2⟩
          · exact Or.inl ⟨by omega, Or.inl h2⟩
        · by_cases h3 : x.f0 = i
          · rw [h2] at h3
            exact absurd h3.symm h
          · exact Or.inl ⟨by omega, Or.inr h2⟩
theorem wth_inc {ch : List S62} (h : Inc ch) {o : Int} (hm : ment ch o = false) (b : Bool) : ∀ i : Nat, Inc (wth ch o b i) ∧ (wth ch o b i).length ≤ i
  | 0 => ⟨List.Pairwise.nil, by simp [wth]⟩
  | i + 1 => by
    obtain ⟨h1, h2⟩ := wth_inc h hm b i
    obtain ⟨h3, h4⟩ := inn_small h i ch.length (Nat.le_refl _)
    have hin := inn_mem ch i ch.length (Nat.le_refl _)
    unfold wth
    split
    · rename_i he
      have h5 : inn ch i ch.length = [] := by
        rw [List.eq_nil_iff_forall_not_mem]
        intro x hx
        rw [hin, List.take_length] at hx
        unfold ment at hm
        rw [List.any_eq_false] at hm
        exact hm x hx.2 (by rw [hx.1, he]; exact beq_self_eq_true o)
      rw [h5, List.append_nil]
      refine ⟨?_, by simp; omega⟩
      rw [Inc, List.pairwise_append]
      refine ⟨h1, List.pairwise_singleton _ _, fun a ha c hc => ?_⟩
      rw [List.mem_singleton.1 hc]
      exact ((wth_mem ch o b i a).1 ha).1.2
    · refine ⟨?_, by simp; omega⟩
      rw [Inc, List.pairwise_append]
      refine ⟨h1, h3, fun a ha c hc => ?_⟩
      rw [((hin c).1 hc).1]
      exact ((wth_mem ch o b i a).1 ha).1.2
theorem any_iff {α : Type} {l l' : List α} {p : α → Bool} (h : ∀ x, x ∈ l ↔ x ∈ l') : l.any p = l'.any p := by
  rw [Bool.eq_iff_iff, List.any_eq_true, List.any_eq_true]
  constructor
  · rintro ⟨x, h1, h2⟩; exact ⟨x, (h x).1 h1, h2⟩
  · rintro ⟨x, h1, h2⟩; exact ⟨x, (h x).2 h1, h2⟩
theorem okC_wth {ch : List S62} {n : Nat} (hl : LitsIn n ch) {o : Int} (h0 : 0 ≤ o) (h1 : o < (n : Int)) (b : Bool) (rs : List S70) (c : Nat) : okC (wth ch o b n) rs c = (okC ch rs c && (onI c o == b)) := by
  have e : (wth ch o b n).any (nlit c) = (ch.any (nlit c) || nlit c ⟨o, b⟩) := by
    have := any_iff (p := nlit c) (l := wth ch o b n) (l' := ch ++ [⟨o, b⟩]) (fun x => by
      rw [wth_mem, List.mem_append, List.mem_singleton]
      constructor
      · exact fun h => h.2
      · rintro (h | h)
        · exact ⟨hl x h, Or.inl h⟩
        · rw [h]; exact ⟨⟨h0, h1⟩, Or.inr rfl⟩)
    rw [this, List.any_append]
    simp
  unfold okC
  rw [e]
  have : nlit c ⟨o, b⟩ = !(onI c o == b) := by unfold nlit; cases onI c o <;> cases b <;> rfl
  rw [this]
  cases ch.any (nlit c) <;> cases onI c o == b <;> simp
theorem ks_wth {ch : List S62} {n : Nat} (hl : LitsIn n ch) {o : Int} (h0 : 0 ≤ o) (h1 : o < (n : Int)) (b : Bool) (rs : List S70) : ks n (wth ch o b n) rs = (ks n ch rs).filter fun k => onI (cfg n k) o == b := by
  unfold ks
  rw [List.filter_filter]
  apply List.filter_congr
  intro k hk
  rw [okC_wth hl h0 h1 b, Bool.and_comm]
theorem split_len {α : Type} (p : α → Bool) (l : List α) : (l.filter p).length + (l.filter fun x => !p x).length = l.length := by
  induction l with
  | nil => rfl
  | cons x l ih =>
    rw [List.filter_cons, List.filter_cons]
    cases p x <;> simp <;> omega
theorem confs_len (D : Fam) (ch : List S62) (rs : List S70) : (confs D ch rs).length = (ks D.opts.length ch rs).length := by rw [confs_ks, List.length_map]
theorem divides {D : Fam} {ch : List S62} (hl : LitsIn D.opts.length ch) {o : Int} (h0 : 0 ≤ o) (h1 : o < (D.opts.length : Int)) (rs : List S70) :
    (confs D ch rs).length = (confs D (wth ch o true D.opts.length) rs).length + (confs D (wth ch o false D.opts.length) rs).length := by
  rw [confs_len, confs_len, confs_len, ks_wth hl h0 h1, ks_wth hl h0 h1, ← split_len (fun k => onI (cfg D.opts.length k) o == true)]
  congr 2
  apply List.filter_congr
  intro k hk
  cases onI (cfg D.opts.length k) o <;> rfl
theorem ask_wth {D : Fam} {ch : List S62} (h : Inc ch) (hck : chk D = 0) {o : Int} (hm : ment ch o = false) (b : Bool) : askE D (wth ch o b D.opts.length) = 0 := by
  unfold askE
  rw [if_neg (by rw [hck]; simp)]
  exact litsE_sorted (wth_inc h hm b _).1 (fun x hx => ((wth_mem ch o b _ x).1 hx).1)
theorem rv_some (l : List Nat) (i : Nat) (hi : i < 12) : ∀ s : FState, onI (runV fstep (fun _ _ => true) s l).some i = (onI s.some i || l.any (fun c => onI c i)) := by
  induction l with
  | nil => intro s; simp [runV]
  | cons c l ih =>
    intro s
    simp only [runV, if_true]
    rw [ih, List.any_cons, ← Bool.or_assoc]
    congr 1
    show onI (s.some ||| c) i = _
    unfold onI
    exact Nat.testBit_or ..
theorem rv_every (l : List Nat) (i : Nat) (hi : i < 12) : ∀ s : FState, onI (runV fstep (fun _ _ => true) s l).every i = (onI s.every i && l.all (fun c => onI c i)) := by
  induction l with
  | nil => intro s; simp [runV]
  | cons c l ih =>
    intro s
    simp only [runV, if_true]
    rw [ih, List.all_cons, ← Bool.and_assoc]
    congr 1
    show onI (s.every &&& c) i = _
    unfold onI
    exact Nat.testBit_and ..
theorem allOn_at : ∀ i, i < 12 → onI allOn (i : Nat) = true := by decide +kernel
theorem none_at : ∀ i, i < 12 → onI 0 (i : Nat) = false := by decide +kernel
theorem any_all_not (l : List Nat) (p : Nat → Bool) (h : l ≠ []) : (l.any p == l.all p) = (l.all p || l.all (fun c => !p c)) := by
  cases ha : l.all p with
  | true =>
    have : l.any p = true := by
      cases l with
      | nil => exact absurd rfl h
      | cons c l =>
        rw [List.all_cons, Bool.and_eq_true] at ha
        rw [List.any_cons, ha.1, Bool.true_or]
    rw [this]; rfl
  | false =>
    rw [Bool.false_or]
    cases hb : l.any p with
    | true =>
      symm
      show _ = false
      rw [Bool.eq_false_iff]
      intro hc
      obtain ⟨x, hx, hp⟩ := List.any_eq_true.1 hb
      have := List.all_eq_true.1 hc x hx
      rw [hp] at this
      cases this
    | false =>
      symm
      show _ = true
      rw [List.all_eq_true]
      intro x hx
      have := List.any_eq_false.1 hb x hx
      simpa using this
theorem ks_len64 (n : Nat) (ch : List S62) (rs : List S70) (h : n ≤ 6) : (ks n ch rs).length ≤ 64 := by
  have h1 : (ks n ch rs).length ≤ (List.range (2 ^ n)).reverse.length := List.length_filter_le _ _
  have h2 : 2 ^ n ≤ 2 ^ 6 := Nat.pow_le_pow_right (by decide) h
  rw [List.length_reverse, List.length_range] at h1
  omega
theorem ment_fl (s : FState) (o : Nat) : ∀ i : Nat, ment (fl s i) (o : Int) = (decide (o < i) && (onI s.some o == onI s.every o))
  | 0 => by simp [fl, ment]
  | i + 1 => by
    have ih := ment_fl s o i
    by_cases h : (onI s.some i == onI s.every i) = true
    · rw [fl_yes h]
      unfold ment at ih ⊢
      rw [List.any_append, ih]
      by_cases h2 : o = i
      · subst h2
        rw [h]
        simp
      · have : ((i : Int) == (o : Int)) = false := by simp; omega
        simp only [List.any_cons, List.any_nil, Bool.or_false]
        rw [this, Bool.or_false]
        congr 1
        simp
        omega
    · have h' : (onI s.some i == onI s.every i) = false := by simpa using h
      rw [fl_no h', ih]
      by_cases h2 : o = i
      · subst h2
        rw [h']
        simp
      · congr 1
        simp
        omega
theorem filter_none {l : List Nat} {p : Nat → Bool} : (l.filter p).length = 0 ↔ l.all (fun x => !p x) = true := by
  rw [List.length_eq_zero_iff, List.filter_eq_nil_iff, List.all_eq_true]
  simp
theorem forced_ment {D : Fam} {ch : List S62} (hl : LitsIn D.opts.length ch) (hask : askE D ch = 0) (hn : D.opts.length ≤ 6) {o : Nat} (h1 : o < D.opts.length) (hne : (confs D ch D.rules).length ≠ 0) :
    ment (forcedL D ch) (o : Int) = (decide ((confs D (wth ch o true D.opts.length) D.rules).length = 0) || decide ((confs D (wth ch o false D.opts.length) D.rules).length = 0)) := by
  unfold forcedL
  rw [ment_fl, decide_eq_true h1, Bool.true_and]
  have e1 : onI (fstate D (confs D ch D.rules)).some o = (confs D ch D.rules).any (fun c => onI c o) := by
    unfold fstate
    rw [rv_some _ o (by omega)]
    show (onI 0 o || _) = _
    rw [none_at o (by omega), Bool.false_or]
  have e2 : onI (fstate D (confs D ch D.rules)).every o = (confs D ch D.rules).all (fun c => onI c o) := by
    unfold fstate
    rw [rv_every _ o (by omega)]
    show (onI allOn o && _) = _
    rw [allOn_at o (by omega), Bool.true_and]
  rw [e1, e2, any_all_not _ _ (by intro h; rw [h] at hne; exact hne rfl), Bool.or_comm]
  rw [confs_len D (wth ch o true D.opts.length), confs_len D (wth ch o false D.opts.length), ks_wth hl (by omega) (by omega), ks_wth hl (by omega) (by omega), confs_ks, List.all_map, List.all_map]
  congr 1
  · rw [Bool.eq_iff_iff, decide_eq_true_iff, filter_none]
    simp
  · rw [Bool.eq_iff_iff, decide_eq_true_iff, filter_none]
    simp
theorem wth_len {ch : List S62} (h : Inc ch) {o : Int} (hm : ment ch o = false) (b : Bool) (i : Nat) : (wth ch o b i).length ≤ i := (wth_inc h hm b i).2
theorem decL_inc (n : Nat) (l : List Int) : Inc (decL n l) := (dl_sorted _ n).1
section
open Go.Proofs.YtbnmdlnpfikkcaaW.PrintWords.Kd
variable {P : Program} {ops : Array Oper} {o : Oper} {a : Act} {Q : Exit → Act → World → Prop} {Kc : Act → World → Prop} {α : Type}
/-- append(v, ys...) in a region: one of the words that were printed for this claim. -/
theorem append_rows_step (d : Kd α) {Rr : α → List Value → Prop} {w0 W : World} (base : Nat) (hw : Region.wanted o (yielded ops a.tmps) = true) (s x : Operand) (t e : TypeId) (z : Value) (bytes : Nat)
    (ho : o.op = .call { callee := .builtin .append, args := #[s, x], argTypes := #[t, t] })
    (ht : P.underlying t = some (.slice e)) (hinfo : (P.info? e).map (fun i => (i.zero, i.size, i.bytes)) = some (some z, d.sz, bytes)) (hz : z.cells.size = d.sz) (hs0 : 0 < d.sz) (hb0 : 0 < bytes)
    (v : Value) (xs ys : List α) (A : Option Addr) (m c : Nat) (ok okp : Nat → Prop) (hs : a.eval s = v) (hx : a.eval x = .slice A m c)
    (HO : d.R e W base ok v xs) (HR : ReadsRow Rr d.sz W A m ys) (hKM : ∀ x cs, Rr x cs → d.M W base okp x cs) (hokp : ∀ k, okp k → ok k ∧ some k ≠ v.ownBlock) (hfresh : ∀ k, W.heap.size ≤ k → ok k)
    (HB : Below base w0 W) (hbase : base ≤ W.heap.size) (hl : (xs.length + m) * bytes ≤ 140737488355328)
    (h : ∀ v1 w1, d.R e w1 base ok v1 (xs ++ ys) → Below base w0 w1 → W.grownBy w1 v.ownBlock → (v1.ownBlock = v.ownBlock ∨ ∃ b, v1.ownBlock = some b ∧ W.heap.size ≤ b) → Kc (a.put o.dst v1) w1) :
    if Region.wanted o (yielded ops a.tmps) = true then Oper.wp P o a W Kc Q else Kc (a.put o.dst undef) W := by
  obtain ⟨i0, hi, hzz⟩ := Option.map_eq_some_iff.1 hinfo
  simp only [Prod.mk.injEq] at hzz
  obtain ⟨hz0, hz1, hz2⟩ := hzz
  have hm : ys.length = m := HR.1
  have hlen : xs.length + m ≤ 140737488355328 := Nat.le_trans (Nat.le_mul_of_pos_right _ hb0) hl
  obtain ⟨hok, inner, hown, hr⟩ := HO
  have hrun : ∃ v1 w1, (Builtin.append_ #[t, t] o.type #[v, .slice A m c]).run P W = .ok v1 w1 ∧ d.R e w1 base ok v1 (xs ++ ys) ∧ W.grownBy w1 v.ownBlock ∧ (v1.ownBlock = v.ownBlock ∨ ∃ b, v1.ownBlock = some b ∧ W.heap.size ≤ b) := by
    rcases A with _ | ad
    · have h0 : m = 0 := by
        rcases Nat.eq_zero_or_pos m with h0 | h0
        · exact h0
        · obtain ⟨ad, h, _⟩ := HR.2.2 h0
          cases h
      subst h0
      obtain rfl : ys = [] := List.eq_nil_of_length_eq_zero hm
      refine ⟨v, W, ?_, by rw [List.append_nil]; exact ⟨hok, inner, hown, hr⟩, World.grownBy.refl W _, .inl rfl⟩
      rcases hown.2 with ⟨rfl, hn⟩ | ⟨g, cap, cur, rfl, _, _, hnc, _⟩
      · simp [Builtin.append_, run_underlying ht, sizeOf, typeInfo, hi, Builtin.lenOf, Builtin.firstCells]
      · simp [Builtin.append_, run_underlying ht, sizeOf, typeInfo, hi, Builtin.lenOf, Builtin.firstCells, hnc, storeCells]
    · obtain ⟨news, hnr, hnc⟩ := ReadsRow.inner_ HR
      have hnM : Reps (d.M W base okp) d.sz ys news := hnr.imp_ (fun p c hp => hKM p c hp)
      have hone : ∀ u ∈ news, u.oneCell' = true := by
        intro u hu
        obtain ⟨q, hq, rfl⟩ := List.mem_iff_getElem.1 hu
        have hql : q / d.sz < ys.length := by
          rw [Nat.div_lt_iff_lt_mul hs0]
          rw [← hnM.1]
          exact hq
        have hc := hnM.2 (q / d.sz) _ (List.getElem?_eq_getElem hql)
        refine d.K_one (d.K_of_M hc) _ ?_
        rw [List.mem_iff_getElem?]
        refine ⟨q % d.sz, ?_⟩
        rw [List.getElem?_take, if_pos (Nat.mod_lt _ hs0), List.getElem?_drop, Nat.mul_comm, Nat.div_add_mod, List.getElem?_eq_getElem hq]
      obtain ⟨v1, w1, hrun, h2, hg, _, hat⟩ := run_append_own_at (P := P) W base t o.type e i0 z d.sz bytes ht hi hz0 hz1 hz2 hz hs0 v xs.length inner hown ad m c news (by rw [hnM.1, hm]) hnc hone (by simp only [maxLen]; omega) hl hbase
      have hat' : v1.ownBlock = v.ownBlock ∨ ∃ b, v1.ownBlock = some b ∧ W.heap.size ≤ b := by
        rcases hat with hat | hat
        · exact .inl hat
        · exact .inr ⟨_, hat, Nat.le_refl _⟩
      have hne : ∀ k, some k ≠ v.ownBlock → k < W.heap.size → some k ≠ v1.ownBlock := by
        intro k hk hlt
        rcases hat' with hat | ⟨b, hb, hle⟩
        · rw [hat]; exact hk
        · rw [hb]
          intro he
          injection he with he
          omega
      have step : ∀ {q : α} {c : List Value} {o : Nat → Prop}, d.M W base o q c → (∀ k, o k → ok k ∧ some k ≠ v.ownBlock) → d.M w1 base (fun k => ok k ∧ some k ≠ v1.ownBlock) q c := by
        intro q c o hq ho
        have h1 := d.M_move (w1 := w1) (fun k hk => hg.block k hk.2.2.1 (ho k hk.1).2) (d.M_bound hq)
        exact d.M_mono (fun k hk => ⟨(ho k hk.1).1, hne k (ho k hk.1).2 hk.2.2.1⟩) h1
      refine ⟨v1, w1, hrun, ⟨fun k hk => ?_, inner ++ news, by rw [List.length_append, hm]; exact h2, reps_append (hr.imp_ (fun _ _ hq => step hq (fun _ hk => hk))) (hnM.imp_ (fun _ _ hq => step hq hokp))⟩, hg, hat'⟩
      rcases hat' with hat | ⟨b, hb, hle⟩
      · exact hok k (hat ▸ hk)
      · rw [hb] at hk
        injection hk with hk
        exact hfresh k (by omega)
  obtain ⟨v1, w1, hr1, h1, hg, hat⟩ := hrun
  rw [if_pos hw]
  unfold Oper.wp execOp
  simp only [ho, resolve, invoke, builtin, Sem.run_bind, Sem.run_pure, Result.andThen_ok, List.map_toArray, List.map_cons, List.map_nil, hs, hx, hr1]
  exact h v1 w1 h1 (HB.grown hg hbase (own_base hown)) hg hat
end
/-- Two rows of literals, in blocks of their own. -/
def Two (w : World) (base : Nat) (u v : Value) (xs ys : List S62) : Prop := Kd.R k62 62 w base (fun _ => True) u xs ∧ Kd.R k62 62 w base (fun _ => True) v ys ∧ ∀ k, u.ownBlock = some k → v.ownBlock ≠ some k
theorem Two.nil (w : World) (base : Nat) : Two w base (.slice none 0 0) (.slice none 0 0) [] [] := ⟨Kd.R_nil _ _ _ _ _, Kd.R_nil _ _ _ _ _, fun k hk => by simp [Value.ownBlock] at hk⟩
theorem Two.below {w w1 : World} {base : Nat} {u v : Value} {xs ys : List S62} (h : Two w base u v xs ys) (hb : Below w.heap.size w w1) : Two w1 base u v xs ys := ⟨Kd.R_below h.1 hb, Kd.R_below h.2.1 hb, h.2.2⟩
theorem Two.swap {w : World} {base : Nat} {u v : Value} {xs ys : List S62} (h : Two w base u v xs ys) : Two w base v u ys xs := ⟨h.2.1, h.1, fun k hk he => h.2.2 k he hk⟩
theorem Two.put {W w1 : World} {base : Nat} {u v u1 : Value} {xs ys xs1 : List S62} (h : Two W base u v xs ys) (ho : Kd.R k62 62 w1 base (fun _ => True) u1 xs1) (hg : W.grownBy w1 u.ownBlock) (hat : u1.ownBlock = u.ownBlock ∨ ∃ b, u1.ownBlock = some b ∧ W.heap.size ≤ b) : Two w1 base u1 v xs1 ys := by
  refine ⟨ho, Kd.R_mono (Kd.R_step (Kd.R_tight rfl h.2.1) (fun k hk hlt => hg.block k hlt (fun he => h.2.2 k he.symm hk.symm))) (fun _ _ => trivial), fun k hk he => ?_⟩
  rcases hat with hat | ⟨b, hb, hle⟩
  · rw [hat] at hk
    exact h.2.2 k hk he
  · rw [hb] at hk
    injection hk with hk
    have := Kd.R_lt h.2.1 k he
    omega
theorem k62_KM (w : World) (base : Nat) (x : S62) (cs : List Value) (h : k62.K w x cs) : k62.M w base (fun _ => False) x cs := by
  obtain rfl := k62_open h
  exact ⟨[.int .i64 x.f0], [.bool x.f1], rfl, rfl, rfl⟩
theorem one_row {w : World} {g : Nat} {t : TypeId} (x : S62) (hg : w.heap[g]? = some (.cells #[.int .i64 x.f0, .bool x.f1] t (0, 0))) : Kd.C k62 w (some ⟨g, 0, none⟩) 1 [x] := lits_row [x] hg (show 1 ≤ 9223372036854775807 by decide)
theorem sum_wrap {na nb nd : Nat} (h : na = nb + nd) (hl : na ≤ 64) : IntKind.i64.wrap ((nb : Int) + (nd : Int)) = (na : Int) := by rw [IntKind.wrap_i64]; omega
theorem sum_wrap2 {na nb nd : Nat} (h : na = nb + nd) (hl : na ≤ 64) : wrap64 ((nb : Int) + (nd : Int)) = (na : Int) := by unfold wrap64; omega
theorem sum_ne {na nb nd : Nat} (h : na = nb + nd) : ((nb : Int) + (nd : Int) != (na : Int)) = false ∧ ((na : Int) != (nb : Int) + (nd : Int)) = false := by subst h; simp
theorem sum_zero {na nb nd : Nat} (h : na = nb + nd) (hz : na = 0) : nb = 0 ∧ nd = 0 := by omega
theorem cast_eq0 {n : Nat} (h : n = 0) : ((n : Int) == 0) = true ∧ (n == 0) = true ∧ decide (n = 0) = true := by simp [h]
theorem cast_ne0 {n : Nat} (h : n ≠ 0) : ((n : Int) == 0) = false ∧ (n == 0) = false ∧ decide (n = 0) = false := by simp [h]
theorem fl_3000 (D : Fam) (ch : List S62) {fs : List S62} (h : fs = forcedL D ch) (h6 : D.opts.length ≤ 6) : fs.length < 3000 := by
  rw [h]
  have := fl_length (fstate D (confs D ch D.rules)) D.opts.length
  unfold forcedL
  omega
end Go.Proofs.Ytbnmdlnpfikkcaa.PX
/- The laws' arguments, opened: a description, a choice, a list of small numbers. -/
namespace Go.Proofs.Ytbnmdlnpfikkcaa.PX
open Go.ChangeShapes Go.WideShapes Go.RowKit Go.Proofs.YtbnmdlnpfikkcaaW.PrintWords Go.Proofs.YtbnmdlnpfikkcaaW.PrintLast Go.Proofs.YtbnmdlnpfikkcaaW.PrintMore
set_option linter.unusedVariables false
set_option linter.unusedSimpArgs false
theorem wf_i8 {n : Int} (h : (Lit.int .i8 n).wf = true) : -128 ≤ n ∧ n ≤ 127 := by
  simp [Lit.wf, IntKind.min, IntKind.max, IntKind.bits, IntKind.signed] at h
  omega
theorem wf_u8 {n : Int} (h : (Lit.int .u8 n).wf = true) : 0 ≤ n ∧ n ≤ 255 := by
  simp [Lit.wf, IntKind.min, IntKind.max, IntKind.bits, IntKind.signed] at h
  omega
theorem i8s_of {l : List Int} (h : ∀ n ∈ l, (Lit.int .i8 n).wf = true) : i8s l = true := by
  unfold i8s
  rw [List.all_eq_true]
  intro x hx
  simpa using wf_i8 (h x hx)
section
variable {H : Type} {enc : TypeId × Value → H} {w : World} {fuel : Nat} {v : Value} {x : DataW H × List MemPlace}
theorem rows_open (h : DataW.trod enc Try.prog w 0 (fun _ => true) true fuel 22 [v] = some x) : ∃ A R c, v = .slice A R.length c ∧ R.length ≤ c ∧ Kd.C (Kd.slice 95 (Kd.int .i8)) w A R.length R ∧ All8 R := by
  rcases Go.Deep.open_int_rows Try.underlying22 Try.underlying57 Try.underlying95 (by kernel_rfl) (by kernel_rfl) h with ⟨hcs, _⟩ | ⟨a, len, cap, A, L, C, Z, hcs, _, hl, hm, _, hr⟩
  · simp only [List.cons.injEq, and_true] at hcs
    exact ⟨none, [], 0, hcs, Nat.le_refl _, C_zero _ _ _, fun r hr => by cases hr⟩
  · simp only [List.cons.injEq, and_true] at hcs
    have hlen : ((List.range len).map fun r => (Z r).take (L r)).length = len := by simp
    refine ⟨some a, (List.range len).map fun r => (Z r).take (L r), cap, by rw [hlen]; exact hcs, by rw [hlen]; exact hl, ?_, ?_⟩
    · refine ⟨rfl, by rw [hlen]; exact Nat.le_trans hl hm, fun _ => ⟨a, rfl, fun j p hj => ?_⟩⟩
      have hjl : j < len := by have := (List.getElem?_eq_some_iff.1 hj).1; omega
      have hp : p = (Z j).take (L j) := by
        rw [List.getElem?_map, List.getElem?_range hjl] at hj
        simpa using hj.symm
      obtain ⟨h1, h2, h3, h4, h5, h6, h7⟩ := hr j (by omega)
      have hpl : p.length = L j := by rw [hp, List.length_take]; omega
      have hmx : maxLen = 9223372036854775807 := rfl
      refine ⟨[.slice (A j) (L j) (C j)], rfl, ⟨A j, C j, by rw [hpl], by rw [hpl]; exact h2, rfl, by omega, fun hpos => ?_⟩, fun i u hu => ?_⟩
      · cases hA : A j with
        | none => have := h6 hA; omega
        | some a' =>
          obtain ⟨_, hc⟩ := h7 a' hA
          refine ⟨a', rfl, fun i n hn => ⟨[.int .i8 n], rfl, rfl, fun q u hu => ?_⟩⟩
          have hil : i < p.length := (List.getElem?_eq_some_iff.1 hn).1
          rcases q with _ | q
          · simp only [List.getElem?_cons_zero, Option.some.injEq] at hu
            have e : (Kd.int .i8).sz = 1 := rfl
            rw [e, Nat.mul_one, Nat.add_zero, hc i (by omega), ← hu]
            congr 2
            rw [hp, List.getElem?_take, if_pos (by omega)] at hn
            rw [List.getD_eq_getElem?_getD, hn]
            rfl
          · simp at hu
      · rcases i with _ | i
        · simp only [List.getElem?_cons_zero, Option.some.injEq] at hu
          have e : (Kd.slice 95 (Kd.int .i8)).sz = 1 := rfl
          rw [e, Nat.mul_one, Nat.add_zero, h1, hu]
        · simp at hu
    · intro r hrm
      obtain ⟨j, hj, rfl⟩ := List.mem_map.1 hrm
      obtain ⟨_, _, _, _, h5, _, _⟩ := hr j (by have := List.mem_range.1 hj; omega)
      exact i8s_of fun n hn => h5 n (List.mem_of_mem_take hn)
theorem lits_open (h : DataW.trod enc Try.prog w 0 (fun _ => true) true fuel 25 [v] = some x) : ∃ A ch c, v = .slice A ch.length c ∧ ch.length ≤ c ∧ Kd.C k62 w A ch.length ch := by
  rcases Go.Deep.open_slice_pairs Try.underlying25 Try.underlying62 (by kernel_rfl) rfl rfl (by kernel_rfl) (by kernel_rfl) h with ⟨hcs, _⟩ | ⟨a, len, cap, m, n, V0, V1, D0, D1, P0, P1, hcs, _, hl, hm, hmm, _, hr⟩
  · simp only [List.cons.injEq, and_true] at hcs
    exact ⟨none, [], 0, hcs, Nat.le_refl _, C_zero _ _ _⟩
  · simp only [List.cons.injEq, and_true] at hcs
    have hlm : len ≤ m := by rw [hmm]; split <;> omega
    have each : ∀ i, i < len → ∃ q : Int × Bool, w.cell? (a.add (i * 2)) = some (.int .i64 q.1) ∧ w.cell? (a.add (i * 2 + 1)) = some (.bool q.2) := by
      intro i hi
      obtain ⟨h1, h2, h3, h4⟩ := hr i (by omega)
      obtain ⟨z, hz, _, _⟩ := DataW.trod_int Try.underlying3 h3
      obtain ⟨b, hb, _⟩ := DataW.trod_bool Try.underlying4 h4
      simp only [List.cons.injEq, and_true] at hz hb
      exact ⟨(z, b), by rw [h1, hz], by rw [h2, hb]⟩
    obtain ⟨q, hq⟩ := Go.Deep.choose_lt each
    have hlen : ((List.range len).map fun i => (⟨(q i).1, (q i).2⟩ : S62)).length = len := by simp
    refine ⟨some a, (List.range len).map fun i => ⟨(q i).1, (q i).2⟩, cap, by rw [hlen]; exact hcs, by rw [hlen]; exact hl, rfl, by rw [hlen]; exact Nat.le_trans hl hm, fun _ => ⟨a, rfl, fun j p hj => ?_⟩⟩
    have hjl : j < len := by have := (List.getElem?_eq_some_iff.1 hj).1; omega
    have hp : p = ⟨(q j).1, (q j).2⟩ := by
      rw [List.getElem?_map, List.getElem?_range hjl] at hj
      simpa using hj.symm
    obtain ⟨h1, h2⟩ := hq j hjl
    subst hp
    refine ⟨_, rfl, k62_mk w _, fun i u hu => ?_⟩
    have e : k62.sz = 2 := rfl
    rw [e]
    rcases i with _ | _ | i
    · simp only [List.getElem?_cons_zero, Option.some.injEq] at hu
      rw [← hu]
      exact h1
    · simp only [List.getElem?_cons_succ, List.getElem?_cons_zero, Option.some.injEq] at hu
      rw [← hu]
      exact h2
    · simp at hu
theorem i8s_open (h : DataW.trod enc Try.prog w 0 (fun _ => true) true fuel 57 [v] = some x) : ∃ A l c, v = .slice A l.length c ∧ l.length ≤ c ∧ Kd.C (Kd.int .i8) w A l.length l ∧ i8s l = true := by
  rcases open_ints Try.underlying57 Try.underlying95 (by kernel_rfl) h with ⟨hcs, _⟩ | ⟨a, len, cap, zs, hcs, _, hl, hm, hz, _, hcell, hwz⟩
  · simp only [List.cons.injEq, and_true] at hcs
    exact ⟨none, [], 0, hcs, Nat.le_refl _, C_zero _ _ _, rfl⟩
  · simp only [List.cons.injEq, and_true] at hcs
    simp only [if_true] at hz
    have hlen : (zs.take len).length = len := by rw [List.length_take]; omega
    have hmx : maxLen = 9223372036854775807 := rfl
    refine ⟨some a, zs.take len, cap, by rw [hlen]; exact hcs, by rw [hlen]; exact hl, ⟨rfl, by omega, fun _ => ⟨a, rfl, fun i n hn => ⟨[.int .i8 n], rfl, rfl, fun q u hu => ?_⟩⟩⟩, i8s_of fun n hn => hwz n (List.mem_of_mem_take hn)⟩
    have hil : i < len := by have := (List.getElem?_eq_some_iff.1 hn).1; omega
    rcases q with _ | q
    · simp only [List.getElem?_cons_zero, Option.some.injEq] at hu
      have e : (Kd.int .i8).sz = 1 := rfl
      rw [e, Nat.mul_one, Nat.add_zero, hcell i (by omega), ← hu]
      congr 2
      rw [List.getElem?_take, if_pos hil] at hn
      rw [List.getD_eq_getElem?_getD, hn]
      rfl
    · simp at hu
set_option maxRecDepth 100000 in
theorem kin_open {base : Nat} {d : DataW H} {p : List MemPlace} (hv : Value.okWide Try.prog w .any base 24 v) (h : DataW.Trod enc Try.prog w 0 (fun _ => true) true 24 v d p) :
    ∃ a R G O B1 B2 B3 d1 d2 d3, v = kinV a R G O B1 B2 B3 d1 d2 d3 ∧ 0 ≤ a ∧ a ≤ 255 ∧ KinAt w R G O B1 B2 B3 d1 d2 d3 := by
  obtain ⟨v0, v1, v2, v3, y0, y1, y2, y3, n, rfl, _, _, t0, t1, t2, t3⟩ := Go.Joins.open_agg4 Try.underlying24 (by kernel_rfl) (by kernel_rfl) hv h
  obtain ⟨a, h0, _, hw⟩ := DataW.trod_int Try.underlying5 t0
  simp only [List.cons.injEq, and_true] at h0
  subst h0
  obtain ⟨B1, R, d1, rfl, l1, c1, r1⟩ := rows_open t1
  obtain ⟨B2, G, d2, rfl, l2, c2, r2⟩ := rows_open t2
  obtain ⟨B3, O, d3, rfl, l3, c3, r3⟩ := rows_open t3
  obtain ⟨g0, g1⟩ := wf_u8 hw
  exact ⟨a, R, G, O, B1, B2, B3, d1, d2, d3, rfl, g0, g1, ⟨c1, l1, c2, l2, c3, l3, r1, r2, r3⟩⟩
end
end Go.Proofs.Ytbnmdlnpfikkcaa.PX
/- VariantDivides: the walk. -/
namespace Go.Proofs.Ytbnmdlnpfikkcaa.PX
open Go.RowKit Go.Proofs.YtbnmdlnpfikkcaaW.PrintWords Go.Proofs.YtbnmdlnpfikkcaaW.PrintLast Go.Proofs.YtbnmdlnpfikkcaaW.PrintMore
set_option linter.unusedVariables false
set_option linter.unusedSimpArgs false
set_option maxRecDepth 100000 in
set_option maxHeartbeats 16000000 in
theorem law6 (a : Int) (R G O : List (List Int)) (B1 B2 B3 : Option Addr) (d1 d2 d3 : Nat) (A : Option Addr) (c : Nat) (l : List Int) (z : Int) (w : World) (h0 : 0 ≤ a) (h255 : a ≤ 255) (hk : KinAt w R G O B1 B2 B3 d1 d2 d3)
    (hr : Kd.C (Kd.int .i8) w A l.length l) (hc : l.length ≤ c) (h8 : i8s l = true) (hz0 : 0 ≤ z) (hz255 : z ≤ 255) :
    Calls Try.prog 6 #[kinV a R G O B1 B2 B3 d1 d2 d3, .slice A l.length c, .int .u8 z] w fun e w' => e = .returned (.bool true) ∧ Below w.heap.size w w' := by
  have hu41 := Try.underlying41
  unfold kinV
  have HK := Aside0.mk hk
  have HR := Aside0.mk hr
  have HC := Aside0.mk hc
  have H8 := Aside0.mk h8
  have HB0 := Aside0.mk ((Below.refl _ w).alloc (Nat.le_refl _) (.cells (kinC a R G O B1 B2 B3 d1 d2 d3) 24))
  have HK0 := Aside0.mk (heap_alloc_new w (.cells (kinC a R G O B1 B2 B3 d1 d2 d3) 24))
  clear hr hc hk h8
  go_enter Try.func6, Try.ntmps6
  go_wp2_with fail
  refine (known_calls _).mono ?_
  rintro e w2 ⟨rfl, hb⟩
  have HB2 := Aside0.mk (below_step HB0.out hb)
  have HK2 := Aside0.mk (blk_below HK0.out hb)
  clear hb
  go_upto_region 3 with (fail)
  go_cut [7] (fun v7 wc => ∃ g H, v7 = .pointer (some ⟨g, 0, none⟩) ∧ Aside0 (Laid w wc (famK a R G O) g H))
  case first =>
    obtain ⟨k0, k1, k2, k3⟩ := kin_cells HK2.out
    obtain ⟨a0, a1, a2, a3⟩ := kin_cells (blk_alloc HK2.out (.cells zeroC 41))
    unfold zeroC at a0 a1 a2 a3
    go_region_with (first
      | (go_at_call 13; refine (plain_ft _).mono ?_; rintro e w3 ⟨A1, A2, A3, A4, A5, c1, c2, c3, c4, c5, rfl, hbase, hb⟩; have hb2 := below_step (show Below w2.heap.size w2 _ from (by first | exact below_drew (Below.refl _ _) | exact below_alloc (below_drew (Below.refl _ _)) _)) hb; have HB3 := Aside0.mk (below_step HB2.out hb2); have HK3 := Aside0.mk (blk_below HK2.out hb2); obtain ⟨m0, m1, m2, m3⟩ := kin_cells HK3.out; obtain ⟨n0, n1, n2, n3⟩ := kin_cells (blk_alloc HK3.out (.cells zeroC 41)); unfold zeroC at n0 n1 n2 n3; have HBase := Aside0.mk hbase; have hs3 := hb.size; (try have HG3 := Aside0.mk (blk_below (show (w2.drew.alloc (.cells zeroC 41)).heap[w2.heap.size]? = _ from heap_alloc_new w2.drew (.cells zeroC 41)) hb)); clear hbase hb hb2)
      | (go_at_call 12; refine (fam_ft h0 h255 HK.out.a1 HK.out.a2 HK.out.a3 (HK.out.below (below_step HB3.out ?b1)).r1 HK.out.l1 (HK.out.below (below_step HB3.out ?b2)).r2 HK.out.l2 (HK.out.below (below_step HB3.out ?b3)).r3 HK.out.l3 (HBase.out.below ?b4)).mono ?_; (case b1 => first | exact Below.refl _ _ | exact below_alloc (Below.refl _ _) _); (case b2 => first | exact Below.refl _ _ | exact below_alloc (Below.refl _ _) _); (case b3 => first | exact Below.refl _ _ | exact below_alloc (Below.refl _ _) _); (case b4 => first | exact Below.refl _ _ | exact below_alloc (Below.refl _ _) _); rintro e w4 ⟨H, rfl, hF, hb⟩; unfold fv; have HB4 := Aside0.mk (below_step HB3.out (below_step (show Below w3.heap.size w3 _ from (by first | exact Below.refl _ _ | exact below_alloc (Below.refl _ _) _)) hb)); have HF4 := Aside0.mk hF; (first | (have HG4 := Aside0.mk (blk_below HG3.out hb); obtain ⟨z0, z1, z2, z3, z4, z5, z6, z7, z8, z9⟩ := zero_cells HG4.out; obtain ⟨y0, y1, y2, y3, y4, y5, y6, y7, y8, y9⟩ := zero_frozen HG4.out) | (have HG4 := Aside0.mk (blk_below (heap_alloc_new w3 (.cells zeroC 41)) hb); obtain ⟨z0, z1, z2, z3, z4, z5, z6, z7, z8, z9⟩ := zero_cells HG4.out; obtain ⟨y0, y1, y2, y3, y4, y5, y6, y7, y8, y9⟩ := zero_frozen HG4.out) | skip)))
    all_goals
      go_wp2_with fail
      go_meet
      case rel => first
        | (refine ⟨_, H, rfl, ⟨?_⟩⟩; (with_reducible exact laid_allocX HB4.out HF4.out))
        | (refine ⟨_, H, rfl, ⟨?_⟩⟩; (with_reducible refine laid_setX HB4.out HF4.out HB2.out.size HG4.out ?_); intro h; simp at h hs3; omega)
        | (refine ⟨_, H, rfl, ⟨?_⟩⟩; (with_reducible refine laid_setX HB4.out HF4.out HB3.out.size HG4.out ?_); intro h; simp at h hs3; omega)
  case rest =>
    obtain ⟨g, H, rfl, HL⟩ := hcut
    obtain ⟨hn1, hn6, _⟩ := nOf_ok h0 h255
    obtain ⟨D, hD⟩ : ∃ D, D = famK a R G O := ⟨_, rfl⟩
    have hDo : D.opts.length = nOf a := by rw [hD]; exact famK_opts a R G O
    have hDc : chk D = 0 := by rw [hD]; exact famK_chk R G O h0 h255
    have hDr : ∀ r ∈ D.rules, LitsIn D.opts.length r.f1 := by rw [hDo, hD]; exact famK_rules R G O
    have hDs : Small D := by rw [hD]; exact famK_small R G O h0 h255
    rw [← hD] at HL
    rw [← hDo] at hn1 hn6
    have HDc := Aside0.mk hDc
    have HDr := Aside0.mk hDr
    have HDs := Aside0.mk hDs
    clear hD hDo hDc hDr hDs
    have HKc := Aside0.mk HL.out.box
    have HFc := Aside0.mk HL.out.fam
    have HBc := Aside0.mk HL.out.low
    clear HL
    obtain ⟨k0, k1, k2, k3, k4, k5, k6, k7, k8, k9⟩ := box_cells HKc.out
    obtain ⟨ch, hch⟩ : ∃ ch, ch = decL D.opts.length l := ⟨_, rfl⟩
    have hlit : LitsIn D.opts.length ch := by rw [hch]; exact decL_in _ _
    have hchl : ch.length ≤ 6 := by have := decL_len D.opts.length l; rw [hch]; omega
    have hE : litsE D.opts.length ch = 0 := by rw [hch]; exact decL_E _ _
    have hinc : Inc ch := by rw [hch]; exact decL_inc _ _
    have hask : askE D ch = 0 := by unfold askE; rw [if_neg (by rw [HDc.out]; simp)]; exact hE
    have HASK := Aside0.mk hask
    have HLI := Aside0.mk hlit
    have HINC := Aside0.mk hinc
    have HCH : Aside0 (decL D.opts.length l = ch) := ⟨hch.symm⟩
    obtain ⟨o, ho⟩ : ∃ o : Nat, (o : Int) = z % (D.opts.length : Int) := ⟨(z % (D.opts.length : Int)).toNat, by have := Int.emod_nonneg z (show (D.opts.length : Int) ≠ 0 by omega); omega⟩
    have hoz : Int.tmod z (D.opts.length : Int) = (o : Int) := by rw [ho]; exact Int.tmod_eq_emod_of_nonneg hz0
    have hon : o < D.opts.length := by have := Int.emod_lt_of_pos z (show 0 < (D.opts.length : Int) by omega); omega
    have zo : ¬ D.opts = [] := fun h => by rw [h] at hn1; exact absurd hn1 (by decide)
    have hzw : IntKind.i64.wrap z = z := by rw [IntKind.wrap_i64]; omega
    clear hlit hE hinc hask hch ho
    go_wp2_with fail
    go_cut [9, 10] (fun v9 v10 wq => ∃ Ac cc, v9 = .slice Ac ch.length cc ∧ v10 = .int .i64 (o : Int) ∧ Aside0 (ch.length ≤ cc) ∧ Aside0 (Kd.C k62 wq Ac ch.length ch) ∧ Aside0 (Below wc.heap.size wc wq))
    case first =>
      go_region_with (go_at_call 21; refine (decode_calls D.opts.length A c l _ (Kd.C_below HR.out (below_step HBc.out ?b1)) HC.out hn1 hn6 H8.out).mono ?_; (case b1 => exact below_drew (Below.refl _ _)); rintro e w5 ⟨vc, rfl, hRc, hb⟩; rw [HCH.out] at hRc; obtain ⟨Ac, cc, hvc, hcc, hCc⟩ := Kd.R_reads hRc; subst hvc; have HCc := Aside0.mk hCc; have HLc := Aside0.mk hcc; have HB5 := Aside0.mk (show Below wc.heap.size wc w5 from below_step (below_drew (Below.refl _ _)) hb); clear hRc hb hcc hCc)
      all_goals
        go_wp2_with fail
        go_meet
        case rel => exact ⟨Ac, cc, rfl, by first | with_reducible rfl | rw [hzw, hoz] | rw [hoz], HLc, HCc, HB5⟩
    case rest =>
      obtain ⟨Ac, cc, rfl, rfl, HLc, HCc, HBq⟩ := hcut
      have HKq := Aside0.mk (blk_below HKc.out HBq.out)
      have HFq := Aside0.mk (HFc.out.below HBq.out)
      have HBw := Aside0.mk (below_step HBc.out HBq.out)
      go_wp2_with fail
      refine (dowellaw48_mentions.calls 4000 Ac cc ch (o : Int) (ment ch (o : Int)) wc HCc.out HLc.out (mentions_f _ (by omega))).mono ?_
      rintro e w6 ⟨rfl, ⟨nd, rfl⟩⟩
      obtain ⟨w6, hw6⟩ : ∃ w6, w6 = wc.drewN nd := ⟨_, rfl⟩
      have hb : Below wc.heap.size wc (wc.drewN nd) := pw_below_drewN (Below.refl _ _) nd
      rw [← hw6] at hb ⊢
      have HB6 := Aside0.mk (below_step HBw.out hb)
      have HK6 := Aside0.mk (blk_below HKq.out hb)
      have HF6 := Aside0.mk (HFq.out.below hb)
      have HC6 := Aside0.mk (Kd.C_below HCc.out hb)
      clear hb hw6
      cases hm : ment ch (o : Int) with
      | true =>
        go_wp2_with fail
        go_ret
        exact ⟨rfl, HB6.out⟩
      | false =>
        have HM := Aside0.mk hm
        clear hm
        go_wp2_with fail
        clear zo hzw hoz
        go_loopg [13, 11, 12, 14] D.opts.length (fun gk v13 v11 v12 v14 w' => ∃ i : Nat, v13 = .int .i64 (i : Int) ∧ Aside0 (i ≤ D.opts.length) ∧ Aside0 (D.opts.length - i ≤ gk) ∧ Aside0 (Below w6.heap.size w6 w') ∧ Aside0 (Two w' w6.heap.size v11 v12 (wth ch (o : Int) true i) (wth ch (o : Int) false i)))
        case atStart => exact ⟨0, rfl, ⟨Nat.zero_le _⟩, ⟨Nat.sub_le _ _⟩, ⟨Below.refl _ _⟩, ⟨Two.nil _ _⟩⟩
        case round =>
          obtain ⟨i, rfl, HI, HG, HB, HT⟩ := hrel
          by_cases hi : i < D.opts.length
          · have q0 : decide ((i : Int) < (D.opts.length : Int)) = true := by simpa using hi
            have q1 : decide (i < D.opts.length) = true := by simpa using hi
            have HL1 := Aside0.mk (wth_len HINC.out HM.out true i)
            have HL2 := Aside0.mk (wth_len HINC.out HM.out false i)
            go_wp2_with fail
            go_loopg [14, 11, 12] ch.length (fun gk v14 v11 v12 w' => ∃ k : Nat, v14 = .int .i64 (k : Int) ∧ Aside0 (k ≤ ch.length) ∧ Aside0 (ch.length - k ≤ gk) ∧ Aside0 (Below w6.heap.size w6 w') ∧ Aside0 (Two w' w6.heap.size v11 v12 (wth ch (o : Int) true i ++ inn ch (i : Int) k) (wth ch (o : Int) false i ++ inn ch (i : Int) k)))
            case atStart => exact ⟨0, rfl, ⟨Nat.zero_le _⟩, ⟨Nat.sub_le _ _⟩, HB, ⟨by simp only [inn, List.append_nil]; exact HT.out⟩⟩
            case round =>
              clear HB HT
              obtain ⟨k, rfl, HK1, HGK, HB, HT⟩ := hrel
              have hin1 := (inn_small HINC.out (i : Int) k HK1.out).2
              by_cases hk : k < ch.length
              · have q2 : decide ((k : Int) < (ch.length : Int)) = true := by simpa using hk
                have q3 : decide (k < ch.length) = true := by simpa using hk
                have p0 : 0 ≤ (k : Int) := by omega
                have p1 : (k : Int) < (ch.length : Int) := by omega
                obtain ⟨ad, hA, hx0, hx1⟩ := at_T62 (Kd.C_below HC6.out HB.out) (k : Int) p0 p1
                rw [Int.toNat_natCast] at hx0 hx1
                subst hA
                by_cases hf : (rd_T62 ch (k : Int)).f0 = (i : Int)
                · have q4 : ((rd_T62 ch (k : Int)).f0 == (i : Int)) = true := by simp [hf]
                  have HY : Aside0 (inn ch (i : Int) (k + 1) = inn ch (i : Int) k ++ [rd_T62 ch (k : Int)]) := ⟨by simp only [inn]; rw [if_pos hf]⟩
                  clear hf
                  go_upto_region 16 with (fail)
                  clear hx0 hx1
                  refine start_ (n := 16) (S := fun w' => Below w6.heap.size w6 w') (ds := []) #[false, false, false, false, false, false, false, false, false, false, false, false, false, false, false, false] (by kernel_rfl) rfl rfl (below_drew HB.out) (fun hHeld => ?_)
                  have HT0 := Aside0.mk (Two.below HT.out (below_drew (Below.refl _ _)))
                  have hlt0 : ∀ k, u11.ownBlock = some k → k < wr.drew.heap.size := Kd.R_lt HT0.out.1
                  generalize wr.drew = w19 at HT0 hlt0 hHeld ⊢
                  refine pure_ (i := 0) (N := some 59) (v := ?_) (a' := ?_) #[true, false, false, false, false, false, false, false, false, false, false, false, false, false, false, false] rfl rfl (by kernel_rfl) (fun _ _ _ h => h) (Or.inl ⟨by rfl, ?_⟩) ?_ ?_
                  rotate_left
                  · intro w'
                    go_simp
                    with_reducible rfl
                  rotate_left
                  · simp only [Act.put, List.setIfInBounds_toArray, List.set_cons_zero, List.set_cons_succ, i64_w, i32_w]
                    rfl
                  refine pure_ (i := 1) (N := some 60) (v := ?_) (a' := ?_) #[true, true, false, false, false, false, false, false, false, false, false, false, false, false, false, false] rfl rfl (by kernel_rfl) (fun _ _ _ h => h) (Or.inl ⟨by rfl, ?_⟩) ?_ ?_
                  rotate_left
                  · intro w'
                    go_simp
                    with_reducible rfl
                  rotate_left
                  · simp only [Act.put, List.setIfInBounds_toArray, List.set_cons_zero, List.set_cons_succ, i64_w, i32_w]
                    rfl
                  refine pure_ (i := 2) (N := some 61) (v := ?_) (a' := ?_) #[true, true, true, false, false, false, false, false, false, false, false, false, false, false, false, false] rfl rfl (by kernel_rfl) (fun _ _ _ h => h) (Or.inl ⟨by rfl, ?_⟩) ?_ ?_
                  rotate_left
                  · intro w'
                    go_simp
                    with_reducible rfl
                  rotate_left
                  · simp only [Act.put, List.setIfInBounds_toArray, List.set_cons_zero, List.set_cons_succ, i64_w, i32_w]
                    rfl
                  refine pure_ (i := 3) (N := some 62) (v := ?_) (a' := ?_) #[true, true, true, true, false, false, false, false, false, false, false, false, false, false, false, false] rfl rfl (by kernel_rfl) (fun _ _ _ h => h) (Or.inl ⟨by rfl, ?_⟩) ?_ ?_
                  rotate_left
                  · intro w'
                    go_simp
                    with_reducible rfl
                  rotate_left
                  · simp only [Act.put, List.setIfInBounds_toArray, List.set_cons_zero, List.set_cons_succ, i64_w, i32_w]
                    rfl
                  refine take_ (i := 4) (N := some 63) (v := ?_) (a' := ?_) #[true, true, true, true, true, false, false, false, false, false, false, false, false, false, false, false] rfl rfl (by kernel_rfl) (fun _ _ _ h => h) (Or.inl ⟨by rfl, ?_⟩) hHeld ?_ ?_
                  rotate_left
                  · intro w' hS
                    obtain ⟨ad2, hA2, hx0, hx1⟩ := at_T62 (Kd.C_below HC6.out hS) (k : Int) p0 p1
                    injection hA2 with hA2
                    subst hA2
                    rw [Int.toNat_natCast] at hx0 hx1
                    go_simp
                    with_reducible rfl
                  rotate_left
                  · simp only [Act.put, List.setIfInBounds_toArray, List.set_cons_zero, List.set_cons_succ, i64_w, i32_w]
                    rfl
                  refine pure_ (i := 7) (N := some 66) (v := ?_) (a' := ?_) #[true, true, true, true, true, false, false, true, false, false, false, false, false, false, false, false] rfl rfl (by kernel_rfl) (fun _ _ _ h => h) (Or.inl ⟨by rfl, ?_⟩) ?_ ?_
                  rotate_left
                  · intro w'
                    go_simp
                    with_reducible rfl
                  rotate_left
                  · simp only [Act.put, List.setIfInBounds_toArray, List.set_cons_zero, List.set_cons_succ, i64_w, i32_w]
                    rfl
                  refine pure_ (i := 8) (N := some 67) (v := ?_) (a' := ?_) #[true, true, true, true, true, false, false, true, true, false, false, false, false, false, false, false] rfl rfl (by kernel_rfl) (fun _ _ _ h => h) (Or.inl ⟨by rfl, ?_⟩) ?_ ?_
                  rotate_left
                  · intro w'
                    go_simp
                    with_reducible rfl
                  rotate_left
                  · simp only [Act.put, List.setIfInBounds_toArray, List.set_cons_zero, List.set_cons_succ, i64_w, i32_w]
                    rfl
                  refine pure_ (i := 9) (N := some 68) (v := ?_) (a' := ?_) #[true, true, true, true, true, false, false, true, true, true, false, false, false, false, false, false] rfl rfl (by kernel_rfl) (fun _ _ _ h => h) (Or.inl ⟨by rfl, ?_⟩) ?_ ?_
                  rotate_left
                  · intro w'
                    go_simp
                    with_reducible rfl
                  rotate_left
                  · simp only [Act.put, List.setIfInBounds_toArray, List.set_cons_zero, List.set_cons_succ, i64_w, i32_w]
                    rfl
                  refine pure_ (i := 10) (N := some 69) (v := ?_) (a' := ?_) #[true, true, true, true, true, false, false, true, true, true, true, false, false, false, false, false] rfl rfl (by kernel_rfl) (fun _ _ _ h => h) (Or.inl ⟨by rfl, ?_⟩) ?_ ?_
                  rotate_left
                  · intro w'
                    go_simp
                    with_reducible rfl
                  rotate_left
                  · simp only [Act.put, List.setIfInBounds_toArray, List.set_cons_zero, List.set_cons_succ, i64_w, i32_w]
                    rfl
                  refine take_ (i := 11) (N := some 70) (v := ?_) (a' := ?_) #[true, true, true, true, true, false, false, true, true, true, true, true, false, false, false, false] rfl rfl (by kernel_rfl) (fun _ _ _ h => h) (Or.inl ⟨by rfl, ?_⟩) hHeld ?_ ?_
                  rotate_left
                  · intro w' hS
                    obtain ⟨ad2, hA2, hx0, hx1⟩ := at_T62 (Kd.C_below HC6.out hS) (k : Int) p0 p1
                    injection hA2 with hA2
                    subst hA2
                    rw [Int.toNat_natCast] at hx0 hx1
                    go_simp
                    with_reducible rfl
                  rotate_left
                  · simp only [Act.put, List.setIfInBounds_toArray, List.set_cons_zero, List.set_cons_succ, i64_w, i32_w]
                    rfl
                  refine two_ (i := 5) (j := 12) (Ni := some 64) (Nj := some 71) #[true, true, true, true, true, true, false, true, true, true, true, true, false, false, false, false] #[true, true, true, true, true, false, false, true, true, true, true, true, true, false, false, false] rfl rfl rfl rfl (by kernel_rfl) (by decide) (by decide) (fun K hK => ?_) (fun K hK => ?_)
                  · refine value_ (w1 := ?_) (v := ?_) (by rfl) rfl ?_ ?_
                    rotate_left 2
                    · go_simp
                      constructor
                      · rfl
                      · rfl
                    have HT1 := Aside0.mk (Two.below HT0.out (below_alloc (Below.refl _ _) (.cells #[.int .i64 (rd_T62 ch (k : Int)).f0, .bool (rd_T62 ch (k : Int)).f1] 62)))
                    have HX1_1 : Aside0 ((w19.alloc (.cells #[.int .i64 (rd_T62 ch (k : Int)).f0, .bool (rd_T62 ch (k : Int)).f1] 62)).heap[w19.heap.size]? = some (.cells #[.int .i64 (rd_T62 ch (k : Int)).f0, .bool (rd_T62 ch (k : Int)).f1] 62 (0, 0))) := ⟨heap_alloc_new _ _⟩
                    have hsz1 := (below_alloc (Below.refl w19.heap.size w19) (.cells #[.int .i64 (rd_T62 ch (k : Int)).f0, .bool (rd_T62 ch (k : Int)).f1] 62)).size
                    refine hK.out _ _ (below_alloc hHeld _) (fun hH1 => ?_)
                    clear hK K
                    generalize w19.alloc (.cells #[.int .i64 (rd_T62 ch (k : Int)).f0, .bool (rd_T62 ch (k : Int)).f1] 62) = wv1 at HT1 HX1_1 hH1 hsz1 ⊢
                    refine norm_ (a' := ?_) ?_ ?_
                    rotate_left
                    · show Act.put _ (some 64) _ = _
                      simp only [Act.put, List.setIfInBounds_toArray, List.set_cons_zero, List.set_cons_succ, i64_w, i32_w]
                      rfl
                    refine two_ (i := 6) (j := 12) (Ni := some 65) (Nj := some 71) #[true, true, true, true, true, true, true, true, true, true, true, true, false, false, false, false] #[true, true, true, true, true, true, false, true, true, true, true, true, true, false, false, false] rfl rfl rfl rfl (by kernel_rfl) (by decide) (by decide) (fun K hK => ?_) (fun K hK => ?_)
                    · refine append_rows_step k62 (Rr := fun x cs => k62.K wv1 x cs) (w0 := w6) w6.heap.size (by rfl) (.tmp 59) (.tmp 64) 25 62 (.agg #[.int .i64 0, .bool false]) 16 rfl Try.underlying25 info62 rfl (by decide) (by decide) u11 (wth ch (o : Int) true i ++ inn ch (i : Int) k) [(rd_T62 ch (k : Int))] _ 1 1 (fun _ => True) (fun _ => False) rfl rfl HT1.out.1 (one_row (rd_T62 ch (k : Int)) HX1_1.out) (k62_KM _ _) (fun _ hk => hk.elim) (fun _ _ => trivial) hH1 hH1.size (by have := HL1.out; simp only [List.length_append]; omega) ?_
                      intro v2 wv2 ho hb hg hat
                      have HT2 := Aside0.mk (Two.put (HT1.out) ho hg hat)
                      clear ho hg hat
                      refine hK.out _ _ hb (fun hH2 => ?_)
                      clear hK K hb
                      refine norm_ (a' := ?_) ?_ ?_
                      rotate_left
                      · show Act.put _ (some 65) _ = _
                        simp only [Act.put, List.setIfInBounds_toArray, List.set_cons_zero, List.set_cons_succ, i64_w, i32_w]
                        rfl
                      refine one_ (i := 12) (N := some 71) #[true, true, true, true, true, true, true, true, true, true, true, true, true, false, false, false] rfl rfl (by kernel_rfl) (by decide) (fun K hK => ?_)
                      refine value_ (w1 := ?_) (v := ?_) (by rfl) rfl ?_ ?_
                      rotate_left 2
                      · go_simp
                        constructor
                        · rfl
                        · rfl
                      have HT3 := Aside0.mk (Two.below HT2.out (below_alloc (Below.refl _ _) (.cells #[.int .i64 (rd_T62 ch (k : Int)).f0, .bool (rd_T62 ch (k : Int)).f1] 62)))
                      have HX2_3 : Aside0 ((wv2.alloc (.cells #[.int .i64 (rd_T62 ch (k : Int)).f0, .bool (rd_T62 ch (k : Int)).f1] 62)).heap[wv2.heap.size]? = some (.cells #[.int .i64 (rd_T62 ch (k : Int)).f0, .bool (rd_T62 ch (k : Int)).f1] 62 (0, 0))) := ⟨heap_alloc_new _ _⟩
                      have HX1_3 := Aside0.mk (blk_alloc HX1_1.out (.cells #[.int .i64 (rd_T62 ch (k : Int)).f0, .bool (rd_T62 ch (k : Int)).f1] 62))
                      have hsz3 := (below_alloc (Below.refl wv2.heap.size wv2) (.cells #[.int .i64 (rd_T62 ch (k : Int)).f0, .bool (rd_T62 ch (k : Int)).f1] 62)).size
                      refine hK.out _ _ (below_alloc hH2 _) (fun hH3 => ?_)
                      clear hK K
                      generalize wv2.alloc (.cells #[.int .i64 (rd_T62 ch (k : Int)).f0, .bool (rd_T62 ch (k : Int)).f1] 62) = wv3 at HT3 HX1_3 HX2_3 hH3 hsz3 ⊢
                      refine norm_ (a' := ?_) ?_ ?_
                      rotate_left
                      · show Act.put _ (some 71) _ = _
                        simp only [Act.put, List.setIfInBounds_toArray, List.set_cons_zero, List.set_cons_succ, i64_w, i32_w]
                        rfl
                      refine one_ (i := 13) (N := some 72) #[true, true, true, true, true, true, true, true, true, true, true, true, true, true, false, false] rfl rfl (by kernel_rfl) (by decide) (fun K hK => ?_)
                      refine append_rows_step k62 (Rr := fun x cs => k62.K wv3 x cs) (w0 := w6) w6.heap.size (by rfl) (.tmp 66) (.tmp 71) 25 62 (.agg #[.int .i64 0, .bool false]) 16 rfl Try.underlying25 info62 rfl (by decide) (by decide) u12 (wth ch (o : Int) false i ++ inn ch (i : Int) k) [(rd_T62 ch (k : Int))] _ 1 1 (fun _ => True) (fun _ => False) rfl rfl HT3.out.swap.1 (one_row (rd_T62 ch (k : Int)) HX2_3.out) (k62_KM _ _) (fun _ hk => hk.elim) (fun _ _ => trivial) hH3 hH3.size (by have := HL2.out; simp only [List.length_append]; omega) ?_
                      intro v4 wv4 ho hb hg hat
                      have HT4 := Aside0.mk (Two.put (HT3.out.swap) ho hg hat).swap
                      clear ho hg hat
                      refine hK.out _ _ hb (fun hH4 => ?_)
                      clear hK K hb
                      refine norm_ (a' := ?_) ?_ ?_
                      rotate_left
                      · show Act.put _ (some 72) _ = _
                        simp only [Act.put, List.setIfInBounds_toArray, List.set_cons_zero, List.set_cons_succ, i64_w, i32_w]
                        rfl
                      refine pure_ (i := 14) (N := some 11) (v := ?_) (a' := ?_) #[true, true, true, true, true, true, true, true, true, true, true, true, true, true, true, false] rfl rfl (by kernel_rfl) (fun _ _ _ h => h) (Or.inl ⟨by rfl, ?_⟩) ?_ ?_
                      rotate_left
                      · intro w'
                        go_simp
                        with_reducible rfl
                      rotate_left
                      · simp only [Act.put, List.setIfInBounds_toArray, List.set_cons_zero, List.set_cons_succ, i64_w, i32_w]
                        rfl
                      refine pure_ (i := 15) (N := some 12) (v := ?_) (a' := ?_) #[true, true, true, true, true, true, true, true, true, true, true, true, true, true, true, true] rfl rfl (by kernel_rfl) (fun _ _ _ h => h) (Or.inl ⟨by rfl, ?_⟩) ?_ ?_
                      rotate_left
                      · intro w'
                        go_simp
                        with_reducible rfl
                      rotate_left
                      · simp only [Act.put, List.setIfInBounds_toArray, List.set_cons_zero, List.set_cons_succ, i64_w, i32_w]
                        rfl
                      refine done_ (by kernel_rfl) ?_
                      go_wp2_with fail
                      go_roundg (ch.length - (k + 1))
                      case measure => have := HGK.out; omega
                      case rel => exact ⟨k + 1, by go_num, ⟨hk⟩, ⟨Nat.le_refl _⟩, ⟨hH4⟩, ⟨by rw [HY.out, ← List.append_assoc, ← List.append_assoc]; exact HT4.out⟩⟩
                    · refine value_ (w1 := ?_) (v := ?_) (by rfl) rfl ?_ ?_
                      rotate_left 2
                      · go_simp
                        constructor
                        · rfl
                        · rfl
                      have HT2 := Aside0.mk (Two.below HT1.out (below_alloc (Below.refl _ _) (.cells #[.int .i64 (rd_T62 ch (k : Int)).f0, .bool (rd_T62 ch (k : Int)).f1] 62)))
                      have HX2_2 : Aside0 ((wv1.alloc (.cells #[.int .i64 (rd_T62 ch (k : Int)).f0, .bool (rd_T62 ch (k : Int)).f1] 62)).heap[wv1.heap.size]? = some (.cells #[.int .i64 (rd_T62 ch (k : Int)).f0, .bool (rd_T62 ch (k : Int)).f1] 62 (0, 0))) := ⟨heap_alloc_new _ _⟩
                      have HX1_2 := Aside0.mk (blk_alloc HX1_1.out (.cells #[.int .i64 (rd_T62 ch (k : Int)).f0, .bool (rd_T62 ch (k : Int)).f1] 62))
                      have hsz2 := (below_alloc (Below.refl wv1.heap.size wv1) (.cells #[.int .i64 (rd_T62 ch (k : Int)).f0, .bool (rd_T62 ch (k : Int)).f1] 62)).size
                      refine hK.out _ _ (below_alloc hH1 _) (fun hH2 => ?_)
                      clear hK K
                      generalize wv1.alloc (.cells #[.int .i64 (rd_T62 ch (k : Int)).f0, .bool (rd_T62 ch (k : Int)).f1] 62) = wv2 at HT2 HX1_2 HX2_2 hH2 hsz2 ⊢
                      refine norm_ (a' := ?_) ?_ ?_
                      rotate_left
                      · show Act.put _ (some 71) _ = _
                        simp only [Act.put, List.setIfInBounds_toArray, List.set_cons_zero, List.set_cons_succ, i64_w, i32_w]
                        rfl
                      refine one_ (i := 6) (N := some 65) #[true, true, true, true, true, true, true, true, true, true, true, true, true, false, false, false] rfl rfl (by kernel_rfl) (by decide) (fun K hK => ?_)
                      refine append_rows_step k62 (Rr := fun x cs => k62.K wv2 x cs) (w0 := w6) w6.heap.size (by rfl) (.tmp 59) (.tmp 64) 25 62 (.agg #[.int .i64 0, .bool false]) 16 rfl Try.underlying25 info62 rfl (by decide) (by decide) u11 (wth ch (o : Int) true i ++ inn ch (i : Int) k) [(rd_T62 ch (k : Int))] _ 1 1 (fun _ => True) (fun _ => False) rfl rfl HT2.out.1 (one_row (rd_T62 ch (k : Int)) HX1_2.out) (k62_KM _ _) (fun _ hk => hk.elim) (fun _ _ => trivial) hH2 hH2.size (by have := HL1.out; simp only [List.length_append]; omega) ?_
                      intro v3 wv3 ho hb hg hat
                      have HT3 := Aside0.mk (Two.put (HT2.out) ho hg hat)
                      have HX2_3 := Aside0.mk (blk_grown HX2_2.out hg (fun he => by have h1 := hlt0 _ he.symm; omega))
                      clear ho hg hat
                      refine hK.out _ _ hb (fun hH3 => ?_)
                      clear hK K hb
                      refine norm_ (a' := ?_) ?_ ?_
                      rotate_left
                      · show Act.put _ (some 65) _ = _
                        simp only [Act.put, List.setIfInBounds_toArray, List.set_cons_zero, List.set_cons_succ, i64_w, i32_w]
                        rfl
                      refine one_ (i := 13) (N := some 72) #[true, true, true, true, true, true, true, true, true, true, true, true, true, true, false, false] rfl rfl (by kernel_rfl) (by decide) (fun K hK => ?_)
                      refine append_rows_step k62 (Rr := fun x cs => k62.K wv3 x cs) (w0 := w6) w6.heap.size (by rfl) (.tmp 66) (.tmp 71) 25 62 (.agg #[.int .i64 0, .bool false]) 16 rfl Try.underlying25 info62 rfl (by decide) (by decide) u12 (wth ch (o : Int) false i ++ inn ch (i : Int) k) [(rd_T62 ch (k : Int))] _ 1 1 (fun _ => True) (fun _ => False) rfl rfl HT3.out.swap.1 (one_row (rd_T62 ch (k : Int)) HX2_3.out) (k62_KM _ _) (fun _ hk => hk.elim) (fun _ _ => trivial) hH3 hH3.size (by have := HL2.out; simp only [List.length_append]; omega) ?_
                      intro v4 wv4 ho hb hg hat
                      have HT4 := Aside0.mk (Two.put (HT3.out.swap) ho hg hat).swap
                      clear ho hg hat
                      refine hK.out _ _ hb (fun hH4 => ?_)
                      clear hK K hb
                      refine norm_ (a' := ?_) ?_ ?_
                      rotate_left
                      · show Act.put _ (some 72) _ = _
                        simp only [Act.put, List.setIfInBounds_toArray, List.set_cons_zero, List.set_cons_succ, i64_w, i32_w]
                        rfl
                      refine pure_ (i := 14) (N := some 11) (v := ?_) (a' := ?_) #[true, true, true, true, true, true, true, true, true, true, true, true, true, true, true, false] rfl rfl (by kernel_rfl) (fun _ _ _ h => h) (Or.inl ⟨by rfl, ?_⟩) ?_ ?_
                      rotate_left
                      · intro w'
                        go_simp
                        with_reducible rfl
                      rotate_left
                      · simp only [Act.put, List.setIfInBounds_toArray, List.set_cons_zero, List.set_cons_succ, i64_w, i32_w]
                        rfl
                      refine pure_ (i := 15) (N := some 12) (v := ?_) (a' := ?_) #[true, true, true, true, true, true, true, true, true, true, true, true, true, true, true, true] rfl rfl (by kernel_rfl) (fun _ _ _ h => h) (Or.inl ⟨by rfl, ?_⟩) ?_ ?_
                      rotate_left
                      · intro w'
                        go_simp
                        with_reducible rfl
                      rotate_left
                      · simp only [Act.put, List.setIfInBounds_toArray, List.set_cons_zero, List.set_cons_succ, i64_w, i32_w]
                        rfl
                      refine done_ (by kernel_rfl) ?_
                      go_wp2_with fail
                      go_roundg (ch.length - (k + 1))
                      case measure => have := HGK.out; omega
                      case rel => exact ⟨k + 1, by go_num, ⟨hk⟩, ⟨Nat.le_refl _⟩, ⟨hH4⟩, ⟨by rw [HY.out, ← List.append_assoc, ← List.append_assoc]; exact HT4.out⟩⟩
                  · refine value_ (w1 := ?_) (v := ?_) (by rfl) rfl ?_ ?_
                    rotate_left 2
                    · go_simp
                      constructor
                      · rfl
                      · rfl
                    have HT1 := Aside0.mk (Two.below HT0.out (below_alloc (Below.refl _ _) (.cells #[.int .i64 (rd_T62 ch (k : Int)).f0, .bool (rd_T62 ch (k : Int)).f1] 62)))
                    have HX2_1 : Aside0 ((w19.alloc (.cells #[.int .i64 (rd_T62 ch (k : Int)).f0, .bool (rd_T62 ch (k : Int)).f1] 62)).heap[w19.heap.size]? = some (.cells #[.int .i64 (rd_T62 ch (k : Int)).f0, .bool (rd_T62 ch (k : Int)).f1] 62 (0, 0))) := ⟨heap_alloc_new _ _⟩
                    have hsz1 := (below_alloc (Below.refl w19.heap.size w19) (.cells #[.int .i64 (rd_T62 ch (k : Int)).f0, .bool (rd_T62 ch (k : Int)).f1] 62)).size
                    refine hK.out _ _ (below_alloc hHeld _) (fun hH1 => ?_)
                    clear hK K
                    generalize w19.alloc (.cells #[.int .i64 (rd_T62 ch (k : Int)).f0, .bool (rd_T62 ch (k : Int)).f1] 62) = wv1 at HT1 HX2_1 hH1 hsz1 ⊢
                    refine norm_ (a' := ?_) ?_ ?_
                    rotate_left
                    · show Act.put _ (some 71) _ = _
                      simp only [Act.put, List.setIfInBounds_toArray, List.set_cons_zero, List.set_cons_succ, i64_w, i32_w]
                      rfl
                    refine one_ (i := 5) (N := some 64) #[true, true, true, true, true, true, false, true, true, true, true, true, true, false, false, false] rfl rfl (by kernel_rfl) (by decide) (fun K hK => ?_)
                    refine value_ (w1 := ?_) (v := ?_) (by rfl) rfl ?_ ?_
                    rotate_left 2
                    · go_simp
                      constructor
                      · rfl
                      · rfl
                    have HT2 := Aside0.mk (Two.below HT1.out (below_alloc (Below.refl _ _) (.cells #[.int .i64 (rd_T62 ch (k : Int)).f0, .bool (rd_T62 ch (k : Int)).f1] 62)))
                    have HX1_2 : Aside0 ((wv1.alloc (.cells #[.int .i64 (rd_T62 ch (k : Int)).f0, .bool (rd_T62 ch (k : Int)).f1] 62)).heap[wv1.heap.size]? = some (.cells #[.int .i64 (rd_T62 ch (k : Int)).f0, .bool (rd_T62 ch (k : Int)).f1] 62 (0, 0))) := ⟨heap_alloc_new _ _⟩
                    have HX2_2 := Aside0.mk (blk_alloc HX2_1.out (.cells #[.int .i64 (rd_T62 ch (k : Int)).f0, .bool (rd_T62 ch (k : Int)).f1] 62))
                    have hsz2 := (below_alloc (Below.refl wv1.heap.size wv1) (.cells #[.int .i64 (rd_T62 ch (k : Int)).f0, .bool (rd_T62 ch (k : Int)).f1] 62)).size
                    refine hK.out _ _ (below_alloc hH1 _) (fun hH2 => ?_)
                    clear hK K
                    generalize wv1.alloc (.cells #[.int .i64 (rd_T62 ch (k : Int)).f0, .bool (rd_T62 ch (k : Int)).f1] 62) = wv2 at HT2 HX1_2 HX2_2 hH2 hsz2 ⊢
                    refine norm_ (a' := ?_) ?_ ?_
                    rotate_left
                    · show Act.put _ (some 64) _ = _
                      simp only [Act.put, List.setIfInBounds_toArray, List.set_cons_zero, List.set_cons_succ, i64_w, i32_w]
                      rfl
                    refine one_ (i := 6) (N := some 65) #[true, true, true, true, true, true, true, true, true, true, true, true, true, false, false, false] rfl rfl (by kernel_rfl) (by decide) (fun K hK => ?_)
                    refine append_rows_step k62 (Rr := fun x cs => k62.K wv2 x cs) (w0 := w6) w6.heap.size (by rfl) (.tmp 59) (.tmp 64) 25 62 (.agg #[.int .i64 0, .bool false]) 16 rfl Try.underlying25 info62 rfl (by decide) (by decide) u11 (wth ch (o : Int) true i ++ inn ch (i : Int) k) [(rd_T62 ch (k : Int))] _ 1 1 (fun _ => True) (fun _ => False) rfl rfl HT2.out.1 (one_row (rd_T62 ch (k : Int)) HX1_2.out) (k62_KM _ _) (fun _ hk => hk.elim) (fun _ _ => trivial) hH2 hH2.size (by have := HL1.out; simp only [List.length_append]; omega) ?_
                    intro v3 wv3 ho hb hg hat
                    have HT3 := Aside0.mk (Two.put (HT2.out) ho hg hat)
                    have HX2_3 := Aside0.mk (blk_grown HX2_2.out hg (fun he => by have h1 := hlt0 _ he.symm; omega))
                    clear ho hg hat
                    refine hK.out _ _ hb (fun hH3 => ?_)
                    clear hK K hb
                    refine norm_ (a' := ?_) ?_ ?_
                    rotate_left
                    · show Act.put _ (some 65) _ = _
                      simp only [Act.put, List.setIfInBounds_toArray, List.set_cons_zero, List.set_cons_succ, i64_w, i32_w]
                      rfl
                    refine one_ (i := 13) (N := some 72) #[true, true, true, true, true, true, true, true, true, true, true, true, true, true, false, false] rfl rfl (by kernel_rfl) (by decide) (fun K hK => ?_)
                    refine append_rows_step k62 (Rr := fun x cs => k62.K wv3 x cs) (w0 := w6) w6.heap.size (by rfl) (.tmp 66) (.tmp 71) 25 62 (.agg #[.int .i64 0, .bool false]) 16 rfl Try.underlying25 info62 rfl (by decide) (by decide) u12 (wth ch (o : Int) false i ++ inn ch (i : Int) k) [(rd_T62 ch (k : Int))] _ 1 1 (fun _ => True) (fun _ => False) rfl rfl HT3.out.swap.1 (one_row (rd_T62 ch (k : Int)) HX2_3.out) (k62_KM _ _) (fun _ hk => hk.elim) (fun _ _ => trivial) hH3 hH3.size (by have := HL2.out; simp only [List.length_append]; omega) ?_
                    intro v4 wv4 ho hb hg hat
                    have HT4 := Aside0.mk (Two.put (HT3.out.swap) ho hg hat).swap
                    clear ho hg hat
                    refine hK.out _ _ hb (fun hH4 => ?_)
                    clear hK K hb
                    refine norm_ (a' := ?_) ?_ ?_
                    rotate_left
                    · show Act.put _ (some 72) _ = _
                      simp only [Act.put, List.setIfInBounds_toArray, List.set_cons_zero, List.set_cons_succ, i64_w, i32_w]
                      rfl
                    refine pure_ (i := 14) (N := some 11) (v := ?_) (a' := ?_) #[true, true, true, true, true, true, true, true, true, true, true, true, true, true, true, false] rfl rfl (by kernel_rfl) (fun _ _ _ h => h) (Or.inl ⟨by rfl, ?_⟩) ?_ ?_
                    rotate_left
                    · intro w'
                      go_simp
                      with_reducible rfl
                    rotate_left
                    · simp only [Act.put, List.setIfInBounds_toArray, List.set_cons_zero, List.set_cons_succ, i64_w, i32_w]
                      rfl
                    refine pure_ (i := 15) (N := some 12) (v := ?_) (a' := ?_) #[true, true, true, true, true, true, true, true, true, true, true, true, true, true, true, true] rfl rfl (by kernel_rfl) (fun _ _ _ h => h) (Or.inl ⟨by rfl, ?_⟩) ?_ ?_
                    rotate_left
                    · intro w'
                      go_simp
                      with_reducible rfl
                    rotate_left
                    · simp only [Act.put, List.setIfInBounds_toArray, List.set_cons_zero, List.set_cons_succ, i64_w, i32_w]
                      rfl
                    refine done_ (by kernel_rfl) ?_
                    go_wp2_with fail
                    go_roundg (ch.length - (k + 1))
                    case measure => have := HGK.out; omega
                    case rel => exact ⟨k + 1, by go_num, ⟨hk⟩, ⟨Nat.le_refl _⟩, ⟨hH4⟩, ⟨by rw [HY.out, ← List.append_assoc, ← List.append_assoc]; exact HT4.out⟩⟩
                · have q4 : ((rd_T62 ch (k : Int)).f0 == (i : Int)) = false := by simp [hf]
                  have HY : Aside0 (inn ch (i : Int) (k + 1) = inn ch (i : Int) k) := ⟨by simp only [inn]; rw [if_neg hf]⟩
                  clear hf
                  go_wp2_with fail
                  go_roundg (ch.length - (k + 1))
                  case measure => have := HGK.out; omega
                  case rel => exact ⟨k + 1, by go_num, ⟨hk⟩, ⟨Nat.le_refl _⟩, HB, ⟨by rw [HY.out]; exact HT.out⟩⟩
              · have q2 : decide ((k : Int) < (ch.length : Int)) = false := by simpa using hk
                have q3 : decide (k < ch.length) = false := by simpa using hk
                have hkl : k = ch.length := by have := HK1.out; omega
                rw [hkl] at HT hin1 ⊢
                clear hkl hk q2 q3 HK1 HGK
                have q2 : decide ((ch.length : Int) < (ch.length : Int)) = false := by simp
                by_cases hio : (i : Int) = (o : Int)
                · have q4 : ((i : Int) == (o : Int)) = true := by simp [hio]
                  have q5 : (i == o) = true := by simp; omega
                  have HW1 : Aside0 (wth ch (o : Int) true (i + 1) = wth ch (o : Int) true i ++ inn ch (i : Int) ch.length ++ [⟨(i : Int), true⟩]) := ⟨by simp only [wth]; rw [if_pos hio]⟩
                  have HW2 : Aside0 (wth ch (o : Int) false (i + 1) = wth ch (o : Int) false i ++ inn ch (i : Int) ch.length ++ [⟨(i : Int), false⟩]) := ⟨by simp only [wth]; rw [if_pos hio]⟩
                  clear hio
                  go_wp2_with (first | ((with_reducible refine gate_builtin (b := .append) (xs := #[.tmp 76, .tmp 79]) rfl ?_); at_builtin; refine Kd.R_append k62 (w0 := w6) w6.heap.size rfl (.tmp 76) (.tmp 79) 25 62 (.agg #[.int .i64 0, .bool false]) 16 rfl Try.underlying25 info62 rfl (by decide) (by decide) u11 (wth ch (o : Int) true i ++ inn ch (i : Int) ch.length) ⟨(i : Int), true⟩ [.int .i64 (i : Int), .bool true] (fun _ => True) (fun _ => False) rfl rfl ?aP (fun _ hk => hk.elim) ?aF ?aO ?aB ?aS ?aL ?_; (case aP => exact ⟨_, _, rfl, rfl, rfl⟩); (case aB => exact HB.out); (case aF => exact (fun _ _ => trivial)); (case aO => exact HT.out.1); (case aS => exact HB.out.size); (case aL => have := HL1.out; have := HL2.out; simp only [List.length_append]; omega); intro v1 wx1 ho hb hg hat; have HTx := Aside0.mk (Two.put HT.out ho hg hat); have HBx := Aside0.mk hb; clear ho hb hg hat) | ((with_reducible refine gate_builtin (b := .append) (xs := #[.tmp 81, .tmp 84]) rfl ?_); at_builtin; refine Kd.R_append k62 (w0 := w6) w6.heap.size rfl (.tmp 81) (.tmp 84) 25 62 (.agg #[.int .i64 0, .bool false]) 16 rfl Try.underlying25 info62 rfl (by decide) (by decide) u12 (wth ch (o : Int) false i ++ inn ch (i : Int) ch.length) ⟨(i : Int), false⟩ [.int .i64 (i : Int), .bool false] (fun _ => True) (fun _ => False) rfl rfl ?aP (fun _ hk => hk.elim) ?aF ?aO ?aB ?aS ?aL ?_; (case aP => exact ⟨_, _, rfl, rfl, rfl⟩); (case aB => exact HBx.out); (case aF => exact (fun _ _ => trivial)); (case aO => exact HTx.out.2.1); (case aS => exact HBx.out.size); (case aL => have := HL1.out; have := HL2.out; simp only [List.length_append]; omega); intro v2 wx2 ho hb hg hat; have HTy := Aside0.mk ((Two.put HTx.out.swap ho hg hat).swap); have HBy := Aside0.mk hb; clear ho hb hg hat))
                  go_roundg (D.opts.length - (i + 1))
                  case measure => have := HG.out; omega
                  case rel => exact ⟨i + 1, by go_num, ⟨hi⟩, ⟨Nat.le_refl _⟩, HBy, ⟨by rw [HW1.out, HW2.out]; exact HTy.out⟩⟩
                · have q4 : ((i : Int) == (o : Int)) = false := by simp; omega
                  have q5 : (i == o) = false := by simp; omega
                  have HW1 : Aside0 (wth ch (o : Int) true (i + 1) = wth ch (o : Int) true i ++ inn ch (i : Int) ch.length) := ⟨by simp only [wth]; rw [if_neg hio]⟩
                  have HW2 : Aside0 (wth ch (o : Int) false (i + 1) = wth ch (o : Int) false i ++ inn ch (i : Int) ch.length) := ⟨by simp only [wth]; rw [if_neg hio]⟩
                  clear hio
                  go_wp2_with fail
                  go_roundg (D.opts.length - (i + 1))
                  case measure => have := HG.out; omega
                  case rel => exact ⟨i + 1, by go_num, ⟨hi⟩, ⟨Nat.le_refl _⟩, HB, ⟨by rw [HW1.out, HW2.out]; exact HT.out⟩⟩
          · have q0 : decide ((i : Int) < (D.opts.length : Int)) = false := by simpa using hi
            have q1 : decide (i < D.opts.length) = false := by simpa using hi
            have hin : i = D.opts.length := by have := HI.out; omega
            rw [hin] at HT ⊢
            clear hin hi q0 q1 HI HG
            have q2 : decide ((D.opts.length : Int) < (D.opts.length : Int)) = false := by simp
            obtain ⟨A1, c1, hu1, hc1, hC1⟩ := Kd.R_reads HT.out.1
            obtain ⟨A2, c2, hu2, hc2, hC2⟩ := Kd.R_reads HT.out.2.1
            subst hu1
            subst hu2
            obtain ⟨on, hon1⟩ : ∃ on, on = wth ch (o : Int) true D.opts.length := ⟨_, rfl⟩
            obtain ⟨off, hoff1⟩ : ∃ off, off = wth ch (o : Int) false D.opts.length := ⟨_, rfl⟩
            have hask1 : askE D on = 0 := by rw [hon1]; exact ask_wth HINC.out HDc.out HM.out true
            have hask2 : askE D off = 0 := by rw [hoff1]; exact ask_wth HINC.out HDc.out HM.out false
            have hdiv := divides HLI.out (show 0 ≤ (o : Int) by omega) (show (o : Int) < (D.opts.length : Int) by omega) D.rules
            have hfm := fun h => forced_ment HLI.out HASK.out hn6 hon h
            have hla := ks_len64 D.opts.length ch D.rules hn6
            rw [← confs_len D] at hla
            rw [← hon1, ← hoff1] at hdiv hfm
            rw [← hon1] at hc1 hC1 ⊢
            rw [← hoff1] at hc2 hC2 ⊢
            obtain ⟨nb, hnb⟩ : ∃ nb, nb = (confs D on D.rules).length := ⟨_, rfl⟩
            obtain ⟨nd, hnd⟩ : ∃ nd, nd = (confs D off D.rules).length := ⟨_, rfl⟩
            obtain ⟨na, hna⟩ : ∃ na, na = (confs D ch D.rules).length := ⟨_, rfl⟩
            rw [← hnb, ← hnd] at hdiv hfm
            rw [← hna] at hdiv hfm hla
            have HCNT := Lib.hid (fun W (hW : Below w6.heap.size w6 W) => (count_calls D H Ac cc ch W (HF6.out.below hW) (Kd.C_below HC6.out hW) HLc.out).mono (fun e w' h => (⟨by rw [h.1, HASK.out, if_neg (by simp), ← hna], h.2⟩ : e = .returned (.tuple #[.int .i64 (na : Int), .int .i64 0]) ∧ Below W.heap.size W w')))
            have HCNT1 := Lib.hid (fun W (hW : Below wr.heap.size wr W) => (count_calls D H A1 c1 on W (HF6.out.below (below_step HB.out hW)) (Kd.C_below hC1 hW) hc1).mono (fun e w' h => (⟨by rw [h.1, hask1, if_neg (by simp), ← hnb], h.2⟩ : e = .returned (.tuple #[.int .i64 (nb : Int), .int .i64 0]) ∧ Below W.heap.size W w')))
            have HCNT2 := Lib.hid (fun W (hW : Below wr.heap.size wr W) => (count_calls D H A2 c2 off W (HF6.out.below (below_step HB.out hW)) (Kd.C_below hC2 hW) hc2).mono (fun e w' h => (⟨by rw [h.1, hask2, if_neg (by simp), ← hnd], h.2⟩ : e = .returned (.tuple #[.int .i64 (nd : Int), .int .i64 0]) ∧ Below W.heap.size W w')))
            have HFM := Aside0.mk hfm
            have HNA := Aside0.mk hna
            clear hfm hna hnb hnd hask1 hask2 hon1 hoff1 hC1 hC2 hc1 hc2 HT
            obtain ⟨k0, k1, k2, k3, k4, k5, k6, k7, k8, k9⟩ := box_cells (blk_below HK6.out HB.out)
            go_wp2_with fail
            refine (HCNT.out wr HB.out).mono ?_
            rintro e wa ⟨rfl, hb⟩
            have HBa := Aside0.mk hb
            clear hb k0 k1 k2 k3 k4 k5 k6 k7 k8 k9
            obtain ⟨k0, k1, k2, k3, k4, k5, k6, k7, k8, k9⟩ := box_cells (blk_below HK6.out (below_step HB.out HBa.out))
            go_wp2_with fail
            refine (HCNT1.out wa HBa.out).mono ?_
            rintro e wb ⟨rfl, hb⟩
            have HBb := Aside0.mk (below_step HBa.out hb)
            clear hb k0 k1 k2 k3 k4 k5 k6 k7 k8 k9
            obtain ⟨k0, k1, k2, k3, k4, k5, k6, k7, k8, k9⟩ := box_cells (blk_below HK6.out (below_step HB.out HBb.out))
            go_wp2_with fail
            refine (HCNT2.out wb HBb.out).mono ?_
            rintro e wd ⟨rfl, hb⟩
            have HBd := Aside0.mk (below_step HBb.out hb)
            have HBd6 := Aside0.mk (below_step HB.out HBd.out)
            clear hb k0 k1 k2 k3 k4 k5 k6 k7 k8 k9 HCNT HCNT1 HCNT2
            obtain ⟨k0, k1, k2, k3, k4, k5, k6, k7, k8, k9⟩ := box_cells (blk_below HK6.out HBd6.out)
            have hsum := sum_wrap hdiv hla
            have hsum2 := sum_wrap2 hdiv hla
            by_cases hz : na = 0
            · obtain ⟨hb0, hd0⟩ := sum_zero hdiv hz
              clear hdiv hla hsum hsum2 HFM HNA
              subst hb0
              subst hd0
              subst hz
              go_wp2_with fail
              go_ret
              exact ⟨rfl, below_step HB6.out HBd6.out⟩
            · obtain ⟨hz1, hz2, hz3⟩ := cast_ne0 hz
              have hfmz := HFM.out hz
              have HNZ := Aside0.mk hz
              obtain ⟨hne1, hne2⟩ := sum_ne hdiv
              clear hz hz3 hdiv hla HFM
              go_wp2_with fail
              refine (forced_calls D H Ac cc ch wd (HF6.out.below HBd6.out) (Kd.C_below HC6.out HBd6.out) HLc.out).mono ?_
              rintro e we ⟨Af, cf, fs, rfl, hfs, hcf2, hCf, hb⟩
              have hfe : forcedE D ch = 0 := by
                unfold forcedE
                rw [if_neg (by rw [HASK.out]; simp), if_neg]
                rw [List.isEmpty_iff]
                intro h
                apply HNZ.out
                rw [HNA.out, h]
                rfl
              rw [hfe] at hfs ⊢
              rw [if_pos rfl] at hfs
              rw [← hfs] at hfmz
              have hfl := fl_3000 D ch hfs hn6
              have HCf := Aside0.mk hCf
              have HLf := Aside0.mk hcf2
              have HBe := Aside0.mk (below_step HBd6.out hb)
              clear hb hCf hcf2 hfs hfe hz1 hz2 hsum hsum2 hne1 hne2
              go_wp2_with fail
              refine (dowellaw48_mentions.calls 4000 Af cf fs (o : Int) (ment fs (o : Int)) we HCf.out HLf.out (mentions_f _ hfl)).mono ?_
              rintro e w11 ⟨rfl, ⟨nd2, rfl⟩⟩
              rw [hfmz]
              clear hfmz hfl
              by_cases hb0 : nb = 0
              · obtain ⟨z1, z2, z3⟩ := cast_eq0 hb0
                clear hb0
                rw [z3]
                go_wp2_with fail
                go_ret
                exact ⟨rfl, pw_below_drewN (below_step HB6.out HBe.out) nd2⟩
              · obtain ⟨z1, z2, z3⟩ := cast_ne0 hb0
                clear hb0
                rw [z3]
                by_cases hd0 : nd = 0
                · obtain ⟨y1, y2, y3⟩ := cast_eq0 hd0
                  clear hd0
                  rw [y3]
                  go_wp2_with fail
                  go_ret
                  exact ⟨rfl, pw_below_drewN (below_step HB6.out HBe.out) nd2⟩
                · obtain ⟨y1, y2, y3⟩ := cast_ne0 hd0
                  clear hd0
                  rw [y3]
                  go_wp2_with fail
                  go_ret
                  exact ⟨rfl, pw_below_drewN (below_step HB6.out HBe.out) nd2⟩
end Go.Proofs.Ytbnmdlnpfikkcaa.PX
/- The row of the law VariantDivides: for every input it returns true, and its arguments read behind the call as they read before. -/
namespace Go.Proofs.Ytbnmdlnpfikkcaa.variantDivides
open Go.ChangeShapes Go.WideShapes Go.ChangeAt Go.RowKit
set_option linter.unusedVariables false
theorem own : ownKnob Try.prog.godebug = none := by kernel_rfl
theorem laidOut : laidOutB Try.prog = true := by kernel_rfl
set_option maxRecDepth 100000 in
theorem lifted (os : Os) (started : os.Started) (H : Type) (enc : TypeId × Value → H) :
    ReturnsInHanded {} Try.checked os 6 .any (Rows.variantDividesSpec.pre6 enc Try.prog Try.f6 Rows.variantDividesRow.domain false) (Rows.variantDividesSpec.post enc Try.prog Try.f6 false true false false) := by
  refine returnsInHanded_of_change_sized (C := Try.checked) own started (by kernel_rfl) Try.func6
    (ChangeSpec.witness6 (enc := enc) (C := Try.checked) false ⟨#[], #[.agg #[.int .u8 0, .slice none 0 0, .slice none 0 0, .slice none 0 0], .slice none 0 0, .int .u8 0], []⟩ 8 (by kernel_rfl) (by kernel_rfl) (by kernel_rfl) (by kernel_rfl)) ?_
  intro W base args ds gs before hval0 hW hcnd hsz0 _
  have hval : ∀ (j : Nat) t v, Try.f6.params[j]? = some t → args[j]? = some v → Value.okWide Try.prog W .any base t v := hval0
  have hW' := hW
  obtain ⟨p, q, hA0, hV, rfl, hfz, hnd⟩ := hW
  have hA : DataW.TrodAll enc Try.prog W 0 (fun _ => true) true Try.f6.params.toList args.toList ds p := hA0
  rw [Try.params6] at hA hval
  obtain ⟨v0, vs0, d0, ds0, p0, q0, hargs, rfl, rfl, h0, r0⟩ := trodAll_cons hA
  obtain ⟨v1, vs1, d1, ds1, p1, q1, rfl, rfl, rfl, h1, r1⟩ := trodAll_cons r0
  obtain ⟨v2, vs2, d2, ds2, p2, q2, rfl, rfl, rfl, h2, r2⟩ := trodAll_cons r1
  obtain ⟨rfl, rfl, rfl⟩ := trodAll_nil r2
  obtain rfl : args = #[v0, v1, v2] := by cases args; simp_all
  obtain ⟨rfl, rfl⟩ := trodVars_none hV
  have k0 := h0
  have lt0 : ∀ x ∈ p0, x.block < W.heap.size := by obtain ⟨m, hm⟩ := k0; exact DataW.trod_lt m _ _ _ hm
  obtain ⟨a, R, G, O, B1, B2, B3, e1, e2, e3, rfl, g0, g1, hk⟩ := PX.kin_open (hval 0 24 v0 rfl rfl) h0
  have k1 := h1
  have lt1 : ∀ x ∈ p1, x.block < W.heap.size := by obtain ⟨m, hm⟩ := k1; exact DataW.trod_lt m _ _ _ hm
  obtain ⟨a1, len1, cap1, rfl⟩ := okWide_slice Try.underlying57 (hval 1 57 v1 rfl rfl)
  obtain ⟨m1, hm1⟩ := h1
  obtain ⟨A1, ch1, c1, hv1, hl1, hc1, hz1⟩ := PX.i8s_open hm1
  injection hv1 with ea1 el1 ec1
  subst ea1; subst el1; subst ec1
  have k2 := h2
  have lt2 : ∀ x ∈ p2, x.block < W.heap.size := by obtain ⟨m, hm⟩ := k2; exact DataW.trod_lt m _ _ _ hm
  obtain ⟨z2, rfl, rfl, rfl, w2⟩ := open_int Try.underlying5 (hval 2 5 v2 rfl rfl) h2
  clear hA0 hval0 hsz0
  refine (PX.law6 a R G O B1 B2 B3 e1 e2 e3 a1 cap1 ch1 z2 W g0 g1 hk hc1 hl1 hz1 (PX.wf_u8 w2).1 (PX.wf_u8 w2).2).mono fun e W' ⟨he, bel⟩ => ?_
  subst he
  exact ⟨_, rfl, _, _, _, [], _, [], hW', trodAll_mk1 (shut_bool Try.underlying4 _), (trodAll_cons_mk (Below.trod laidOut (by kernel_rfl) (of_decide_eq_true (by kernel_rfl)) k0 bel lt0) (trodAll_cons_mk (Below.trod laidOut (by kernel_rfl) (of_decide_eq_true (by kernel_rfl)) k1 bel lt1) (trodAll_cons_mk (shut_int Try.underlying5 w2) trodAll_mk0))), rfl, bel.frame _, fun h => by cases h⟩
theorem over : Rows.variantDividesRow.holds Try.pinned (OpenSpec.ofChange Rows.variantDividesSpec) :=
  OpenClaim.holds_of_wide 6 Try.f6 rfl rfl rfl rfl rfl rfl rfl ⟨rfl, rfl, rfl, rfl, rfl⟩ rfl rfl rfl rfl rfl (by kernel_rfl) Try.func6 (by kernel_rfl)
    (of_decide_eq_true (by kernel_rfl)) (by unfold Func.isWrapper; first | (rw [if_pos (by decide +kernel)]; kernel_rfl) | (rw [if_neg (by decide +kernel)]; exact ⟨rfl, rfl⟩))
    (fun os started H enc _ => lifted os started H enc)
theorem proved : Rows.VariantDividesSaid := over
#print axioms proved
end Go.Proofs.Ytbnmdlnpfikkcaa.variantDivides
namespace Go.Proofs.Ytbnmdlnpfikkcaa
theorem variantDivides_holds : Rows.VariantDividesSaid := variantDivides.proved
end Go.Proofs.Ytbnmdlnpfikkcaa
