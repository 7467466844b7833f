/- VariantAllows returns true for every input, and its arguments read behind the call as they read before: no condition. -/
import Derived.Test.YtbnmdlnpfikkcaaMA
import Derived.Test.YtbnmdlnpfikkcaaM4
import Derived.Deep.RegionWith
import Derived.Test.YtbnmdlnpfikkcaaM3
import Derived.Maps.OwnSet
import Derived.Test.YtbnmdlnpfikkcaaM5
import Derived.Test.YtbnmdlnpfikkcaaM1
import Derived.Test.YtbnmdlnpfikkcaaRows
import Derived.WalkKit
import Derived.ProofKit
import Derived.OpenShut
import Derived.ChangeOld
import Derived.SizedLaws
import Derived.Deep.Matrix
import Derived.Deep.SlicePairs
import Derived.Lib.SmallJoins
import Derived.SliceStrings
/- What all laws' walks want: a description in a world; the reference's functions by their contracts. -/
namespace Go.Proofs.Ytbnmdlnpfikkcaa.PX
open Go.RowKit Go.Proofs.YtbnmdlnpfikkcaaW.PrintWords Go.Proofs.YtbnmdlnpfikkcaaW.PrintLast Go.Proofs.YtbnmdlnpfikkcaaW.PrintMore
set_option linter.unusedVariables false
set_option linter.unusedSimpArgs false
/-- A description, in a world. -/
structure KinAt (w : World) (R G O : List (List Int)) (B1 B2 B3 : Option Addr) (d1 d2 d3 : Nat) : Prop where
  r1 : Kd.C (Kd.slice 95 (Kd.int .i8)) w B1 R.length R
  l1 : R.length ≤ d1
  r2 : Kd.C (Kd.slice 95 (Kd.int .i8)) w B2 G.length G
  l2 : G.length ≤ d2
  r3 : Kd.C (Kd.slice 95 (Kd.int .i8)) w B3 O.length O
  l3 : O.length ≤ d3
  a1 : All8 R
  a2 : All8 G
  a3 : All8 O
theorem KinAt.below {w w1 : World} {R G O : List (List Int)} {B1 B2 B3 : Option Addr} {d1 d2 d3 : Nat} (h : KinAt w R G O B1 B2 B3 d1 d2 d3) (hb : Below w.heap.size w w1) : KinAt w1 R G O B1 B2 B3 d1 d2 d3 :=
  ⟨Kd.C_below h.r1 hb, h.l1, Kd.C_below h.r2 hb, h.l2, Kd.C_below h.r3 hb, h.l3, h.a1, h.a2, h.a3⟩
def kinV (a : Int) (R G O : List (List Int)) (B1 B2 B3 : Option Addr) (d1 d2 d3 : Nat) : Value := .agg #[.int .u8 a, .slice B1 R.length d1, .slice B2 G.length d2, .slice B3 O.length d3]
theorem kfam_calls {a : Int} {R G O : List (List Int)} {B1 B2 B3 : Option Addr} {d1 d2 d3 : Nat} {A1 A2 A3 A4 A5 : Option Addr} {c1 c2 c3 c4 c5 : Nat} {w : World} (h0 : 0 ≤ a) (h255 : a ≤ 255) (hk : KinAt w R G O B1 B2 B3 d1 d2 d3) (hb : BaseAt w A1 A2 A3 A4 A5 c1 c2 c3 c4 c5) :
    Calls Try.prog 12 #[kinV a R G O B1 B2 B3 d1 d2 d3, baseV A1 A2 A3 A4 A5 c1 c2 c3 c4 c5] w fun e w' => ∃ H : Hd, e = .returned (fv (famK a R G O) H) ∧ FamAt w' (famK a R G O) H ∧ Below w.heap.size w w' :=
  fam_calls a R G O B1 B2 B3 d1 d2 d3 A1 A2 A3 A4 A5 c1 c2 c3 c4 c5 w h0 h255 hk.a1 hk.a2 hk.a3 hk.r1 hk.l1 hk.r2 hk.l2 hk.r3 hk.l3 hb
def kinC (a : Int) (R G O : List (List Int)) (B1 B2 B3 : Option Addr) (d1 d2 d3 : Nat) : Array Value := #[.int .u8 a, .slice B1 R.length d1, .slice B2 G.length d2, .slice B3 O.length d3]
theorem kin_cells {w : World} {g : Nat} {a : Int} {R G O : List (List Int)} {B1 B2 B3 : Option Addr} {d1 d2 d3 : Nat} (h : w.heap[g]? = some (.cells (kinC a R G O B1 B2 B3 d1 d2 d3) 24 (0, 0))) :
    w.cell? ⟨g, 0, none⟩ = some (.int .u8 a) ∧ w.cell? ⟨g, 1, none⟩ = some (.slice B1 R.length d1) ∧ w.cell? ⟨g, 2, none⟩ = some (.slice B2 G.length d2) ∧ w.cell? ⟨g, 3, none⟩ = some (.slice B3 O.length d3) :=
  ⟨(blk_cell h 0).trans rfl, (blk_cell h 1).trans rfl, (blk_cell h 2).trans rfl, (blk_cell h 3).trans rfl⟩
theorem ref_none (D : Fam) (H : Hd) (w : World) (h : FamAt w D H) (hl : D.rules.length < 50) :
    Calls Try.prog 18 #[fv D H] w fun e w' => ∃ A cp, e = .returned (.slice A D.rules.length cp) ∧ D.rules.length ≤ cp ∧ Kd.C Kd.bool w' A D.rules.length (List.replicate D.rules.length false) ∧ Below w.heap.size w w' :=
  (dowellaw48_none.calls D.nm H.A1 H.c1 D.parts H.A2 H.c2 D.insts H.A3 H.c3 D.dims H.A4 H.c4 D.cons H.A5 H.c5 D.reqs H.A6 H.c6 D.opts H.A7 H.c7 D.rules H.A8 H.c8 D.guards H.A9 H.c9 D.overs (List.replicate D.rules.length false) w h.r1 h.l1 h.r2 h.l2 h.r3 h.l3 h.r4 h.l4 h.r5 h.l5 h.r6 h.l6 h.r7 h.l7 h.r8 h.l8 h.r9 h.l9
    (by unfold dowellaw48_none.f; rw [if_pos (by omega), if_pos (by omega), Int.toNat_natCast])).mono fun e w' ⟨v, he, hR, hb⟩ => by
      obtain ⟨A, cp, hv, hc, hC⟩ := Kd.R_reads hR
      subst hv
      rw [List.length_replicate] at he hc hC
      exact ⟨A, cp, he, hc, hC, hb⟩
/-- The allowed sets, as the reference lists them. -/
def allowedL (D : Fam) (o : List Bool) (ch : List S62) : List Int := (ks D.opts.length ch (kept D.rules o)).map fun k => ((setOf D.opts.length k : Nat) : Int)
theorem ref_allowed (D : Fam) (H : Hd) (A : Option Addr) (c : Nat) (m : Nat) (o : List Bool) (hm : o.length = m) (A2 : Option Addr) (c2 : Nat) (ch : List S62) (w : World) (h : FamAt w D H) (hs : Small D) (h1 : 1 ≤ D.opts.length) (h6 : D.opts.length ≤ 6) (ho : D.rules.length ≤ o.length) (hch : LitsIn D.opts.length ch) (hcl : ch.length < 100) (hrs : ∀ r ∈ D.rules, LitsIn D.opts.length r.f1)
    (hr : Kd.C Kd.bool w A m o) (hc : m ≤ c) (hr2 : Kd.C k62 w A2 ch.length ch) (hc2 : ch.length ≤ c2) :
    Calls Try.prog 17 #[fv D H, .slice A m c, .slice A2 ch.length c2] w fun e w' => ∃ A cp, e = .returned (.slice A (allowedL D o ch).length cp) ∧ (allowedL D o ch).length ≤ cp ∧ Kd.C (Kd.int .i64) w' A (allowedL D o ch).length (allowedL D o ch) ∧ Below w.heap.size w w' := by
  subst hm
  exact (dowellaw48_allowed.calls 4000 D.nm H.A1 H.c1 D.parts H.A2 H.c2 D.insts H.A3 H.c3 D.dims H.A4 H.c4 D.cons H.A5 H.c5 D.reqs H.A6 H.c6 D.opts H.A7 H.c7 D.rules H.A8 H.c8 D.guards H.A9 H.c9 D.overs A c o A2 c2 ch (allowedL D o ch) w h.r1 h.l1 h.r2 h.l2 h.r3 h.l3 h.r4 h.l4 h.r5 h.l5 h.r6 h.l6 h.r7 h.l7 h.r8 h.l8 h.r9 h.l9
    hr hc hr2 hc2 (allowed_f hs rfl h1 h6 ho hch hcl hrs)).mono fun e w' ⟨v, he, hR, hb⟩ => by
      obtain ⟨A, cp, hv, hc, hC⟩ := Kd.R_reads hR
      subst hv
      exact ⟨A, cp, he, hc, hC, hb⟩
theorem ref_names (D : Fam) (H : Hd) (k : Nat) (w : World) (h : FamAt w D H) (h6 : D.opts.length ≤ 6) (hk : k < 2 ^ D.opts.length) :
    Calls Try.prog 20 #[fv D H, .int .i64 ((setOf D.opts.length k : Nat) : Int)] w fun e w' => ∃ A cp, e = .returned (.slice A (cnames (cfg D.opts.length k) D.opts).length cp) ∧ (cnames (cfg D.opts.length k) D.opts).length ≤ cp ∧ Kd.C Kd.string w' A (cnames (cfg D.opts.length k) D.opts).length (cnames (cfg D.opts.length k) D.opts) ∧ Below w.heap.size w w' :=
  (dowellaw48_names.calls 4000 D.nm H.A1 H.c1 D.parts H.A2 H.c2 D.insts H.A3 H.c3 D.dims H.A4 H.c4 D.cons H.A5 H.c5 D.reqs H.A6 H.c6 D.opts H.A7 H.c7 D.rules H.A8 H.c8 D.guards H.A9 H.c9 D.overs _ (cnames (cfg D.opts.length k) D.opts) w h.r1 h.l1 h.r2 h.l2 h.r3 h.l3 h.r4 h.l4 h.r5 h.l5 h.r6 h.l6 h.r7 h.l7 h.r8 h.l8 h.r9 h.l9
    (refnames_f rfl h6 hk)).mono fun e w' ⟨v, he, hR, hb⟩ => by
      obtain ⟨A, cp, hv, hc, hC⟩ := Kd.R_reads hR
      subst hv
      exact ⟨A, cp, he, hc, hC, hb⟩
end Go.Proofs.Ytbnmdlnpfikkcaa.PX
/- read: the map of the options' places. -/
namespace Go.Proofs.Ytbnmdlnpfikkcaa.PX
open Go.RowKit Go.Maps Go.Proofs.YtbnmdlnpfikkcaaW.PrintWords Go.Proofs.YtbnmdlnpfikkcaaW.PrintLast Go.Proofs.YtbnmdlnpfikkcaaW.PrintMore
set_option linter.unusedVariables false
set_option linter.unusedSimpArgs false
theorem zero3 (w : World) : (zeroValue 3).run Try.prog w = .ok (.int .i64 0) w := by kernel_rfl
/-- The last place of a name among the first k. -/
def lastI (l : List ByteArray) (s : ByteArray) : Nat → Int
  | 0 => -1
  | k + 1 => if (l.getD k ByteArray.empty).data.toList == s.data.toList then (k : Int) else lastI l s k
theorem lastI_lt (l : List ByteArray) (s : ByteArray) : ∀ k, -1 ≤ lastI l s k ∧ lastI l s k < (k : Int)
  | 0 => by simp [lastI]
  | k + 1 => by
    have := lastI_lt l s k
    unfold lastI
    split <;> omega
/-- A map from the first k names to their places. -/
def PlaceAt (w : World) (b : Nat) (l : List ByteArray) (k : Nat) : Prop := ∃ D : DataW Unit, w.ownsMap Try.prog 9 (plainElem Try.prog 3) b k D ∧ IsMap D ∧ ∀ s, has D (skey s) = decide (0 ≤ lastI l s k) ∧ (0 ≤ lastI l s k → ∀ z, D.atKey (skey s) z = .lit (.int .i64 (lastI l s k)))
theorem place_made (w : World) (l : List ByteArray) : PlaceAt (w.alloc (.map #[] 0)) w.heap.size l 0 := ⟨.map [], World.ownsMap_made w _ _ _, ⟨[], rfl⟩, fun s => ⟨rfl, fun h => by simp [lastI] at h⟩⟩
theorem place_kept {w w' : World} {b : Nat} {l : List ByteArray} {k : Nat} (h : PlaceAt w b l k) (hb : Below w.heap.size w w') : PlaceAt w' b l k := by
  obtain ⟨D, h1, h2, h3⟩ := h
  exact ⟨D, h1.kept (row := none) ⟨hb.os, hb.tape, hb.output, hb.size, fun i hi _ => hb.block i hi⟩ (by simp), h2, h3⟩
theorem place_look {w : World} {b : Nat} {l : List ByteArray} {k : Nat} (h : PlaceAt w b l k) (s : ByteArray) (hs : s.size ≤ maxLen) :
    (Instr.lookup 141 (.map (some b)) (.string s) true).run Try.prog w = .ok (.tuple #[.int .i64 (if 0 ≤ lastI l s k then lastI l s k else 0), .bool (decide (0 ≤ lastI l s k))]) w := by
  obtain ⟨D, h1, _, h3⟩ := h
  obtain ⟨v, ps, hrun, hv⟩ := h1.look_ok keyLaw Try.underlying141 (zero3 w) (plainElem_int (H := Unit) Try.underlying3 (a := 0) (by decide)) (Go.WideMaps.keyOf_string_mk Try.underlying9 hs)
  obtain ⟨c, rfl, hc, _⟩ := plainElem_int_inv Try.underlying3 hv
  have hc1 := congrArg Prod.fst hc
  obtain ⟨h4, h5⟩ := h3 s
  rw [hrun]
  have hh : has D (.string s.data.toList) = decide (0 ≤ lastI l s k) := h4
  have key : ∀ x y : Int, (DataW.lit (.int .i64 x) : DataW Unit) = .lit (.int .i64 y) → x = y := fun x y h => by cases h; rfl
  by_cases hk : 0 ≤ lastI l s k
  · have h7 := key _ _ ((h5 hk (.lit (.int .i64 0))).symm.trans hc1)
    rw [if_pos hk, hh, ← h7]
  · have h7 : has D (skey s) = false := by rw [h4]; exact decide_eq_false hk
    have h8 := key _ _ ((atKey_of_not_has h7 (.lit (.int .i64 0))).symm.trans hc1)
    rw [if_neg hk, hh, ← h8]
theorem place_put {w : World} {b : Nat} {l : List ByteArray} {k : Nat} (h : PlaceAt w b l k) (hs : (l.getD k ByteArray.empty).size ≤ maxLen) (hn : k < maxLen) (hk : k < 1000) :
    ∃ w', (Instr.mapUpdate 141 (.map (some b)) (.string (l.getD k ByteArray.empty)) (.int .i64 (k : Int))).run Try.prog w = .ok () w' ∧ PlaceAt w' b l (k + 1) ∧ w.grownBy w' (some b) := by
  obtain ⟨D, h1, h2, h3⟩ := h
  have hwf : (Lit.int .i64 (k : Int)).wf = true := by simp [Lit.wf, IntKind.min, IntKind.max, IntKind.bits, IntKind.signed]; omega
  obtain ⟨w', hrun, hown, hg⟩ := h1.update keyLaw Try.underlying141 hn (Go.WideMaps.keyOf_string_mk Try.underlying9 hs) (plainElem_int (H := Unit) Try.underlying3 hwf)
  refine ⟨w', hrun, ⟨_, hown, ?_, fun t => ?_⟩, hg⟩
  · obtain ⟨es, rfl⟩ := h2; exact ⟨_, rfl⟩
  · obtain ⟨h4, h5⟩ := h3 t
    by_cases e : l.getD k ByteArray.empty = t
    · subst e
      have hl : lastI l (l.getD k ByteArray.empty) (k + 1) = (k : Int) := by simp only [lastI]; rw [if_pos (by simp)]
      rw [hl]
      refine ⟨?_, fun _ z => ?_⟩
      · have := has_put_same h2 (k := skey (l.getD k ByteArray.empty)) (by trivial) (.lit (.int .i64 (k : Int)))
        rw [show decide (0 ≤ (k : Int)) = true by simp]
        exact this
      · exact atKey_put_same h2 (by trivial) _ _
    · have hne : skey t ≠ skey (l.getD k ByteArray.empty) := fun he => e (skey_inj he).symm
      have hl : lastI l t (k + 1) = lastI l t k := by
        simp only [lastI]
        rw [if_neg]
        intro he
        apply hne
        unfold skey
        rw [eq_of_beq he]
      rw [hl]
      refine ⟨(has_put_other hne _).trans h4, fun h6 z => (atKey_put_other hne _ _).trans (h5 h6 z)⟩
/-- What becomes of a list of names: the first error, or the places. -/
def rdN (o l : List ByteArray) : Nat → Int × List Nat
  | 0 => (0, [])
  | i + 1 => if (rdN o l i).1 ≠ 0 then rdN o l i else
    if lastI o (l.getD i ByteArray.empty) o.length < 0 then (16, []) else
    if 0 < i ∧ leB (l.getD i ByteArray.empty) (l.getD (i - 1) ByteArray.empty) = true then (8, []) else
    (0, (rdN o l i).2 ++ [(lastI o (l.getD i ByteArray.empty) o.length).toNat])
def cfgL (a : List Nat) : Nat := a.foldl (fun c k => c ||| 2 ^ (11 - k)) 0
def setL (a : List Nat) : Nat := a.foldl (fun c k => c ||| 2 ^ k) 0
theorem rdN_lt (o l : List ByteArray) : ∀ i, ∀ x ∈ (rdN o l i).2, x < o.length
  | 0 => by simp [rdN]
  | i + 1 => by
    have ih := rdN_lt o l i
    have h := lastI_lt o (l.getD i ByteArray.empty) o.length
    unfold rdN
    split
    · exact ih
    · split
      · simp
      · split
        · simp
        · intro x hx
          rcases List.mem_append.1 hx with hx | hx
          · exact ih x hx
          · rw [List.mem_singleton.1 hx]; omega
theorem rdN_stay (o l : List ByteArray) : ∀ d i, (rdN o l i).1 ≠ 0 → (rdN o l (i + d)).1 = (rdN o l i).1
  | 0, _, _ => rfl
  | d + 1, i, h => by
    have ih := rdN_stay o l d i h
    rw [← Nat.add_assoc]
    have e : rdN o l (i + d + 1) = rdN o l (i + d) := by
      conv => lhs; unfold rdN
      rw [if_pos (by rw [ih]; exact h)]
    rw [e, ih]
theorem cfgL_lt (a : List Nat) : cfgL a < 2 ^ 12 := by
  have key : ∀ (a : List Nat) (c : Nat), c < 2 ^ 12 → a.foldl (fun c k => c ||| 2 ^ (11 - k)) c < 2 ^ 12 := by
    intro a
    induction a with
    | nil => intro c hc; exact hc
    | cons x a ih =>
      intro c hc
      exact ih _ (Nat.or_lt_two_pow hc (Nat.pow_lt_pow_right (by decide) (by omega)))
  exact key a 0 (by decide)
theorem or_u64 {cc p : Nat} (hc : cc < 2 ^ 12) : Go.bits .or .u64 (cc : Int) (IntKind.u64.wrap (2 ^ (11 - p))) = ((cc ||| 2 ^ (11 - p) : Nat) : Int) := by
  have h1 : (2 : Nat) ^ (11 - p) < 2 ^ 12 := Nat.pow_lt_pow_right (by decide) (by omega)
  have e : IntKind.u64.wrap (2 ^ (11 - p)) = ((2 ^ (11 - p) : Nat) : Int) := by
    rw [IntKind.wrap_u64]
    have : ((2 ^ (11 - p) : Nat) : Int) = (2 : Int) ^ (11 - p) := by simp
    rw [← this]
    generalize (2 : Nat) ^ (11 - p) = m at h1
    omega
  rw [e]
  exact bits_or_u64_nat cc _ (by omega) (by omega)
theorem cfgL_snoc (a : List Nat) (p : Nat) : cfgL (a ++ [p]) = cfgL a ||| 2 ^ (11 - p) := by simp [cfgL]
/-- The error, and the configuration, of a whole list. -/
def rdE (o l : List ByteArray) : Int := (rdN o l l.length).1
def rdC (o l : List ByteArray) : Nat := if rdE o l = 0 then cfgL (rdN o l l.length).2 else 0
/-- Adding an option: in the configuration and in the set. -/
theorem or_both : ∀ n, n < 7 → ∀ k, k < 2 ^ n → ∀ a, a < n → cfg n k ||| 2 ^ (11 - a) = cfg n (k ||| 2 ^ (n - 1 - a)) ∧ setOf n k ||| 2 ^ a = setOf n (k ||| 2 ^ (n - 1 - a)) ∧ k ||| 2 ^ (n - 1 - a) < 2 ^ n := by decide +kernel
theorem zero_both : ∀ n, n < 7 → cfg n 0 = 0 ∧ setOf n 0 = 0 := by decide +kernel
theorem both_k {n : Nat} (h6 : n ≤ 6) (a : List Nat) (h : ∀ x ∈ a, x < n) : ∃ k, k < 2 ^ n ∧ cfgL a = cfg n k ∧ setL a = setOf n k := by
  have key : ∀ (a : List Nat) (k c s : Nat), (∀ x ∈ a, x < n) → k < 2 ^ n → c = cfg n k → s = setOf n k → ∃ k', k' < 2 ^ n ∧ a.foldl (fun c k => c ||| 2 ^ (11 - k)) c = cfg n k' ∧ a.foldl (fun c k => c ||| 2 ^ k) s = setOf n k' := by
    intro a
    induction a with
    | nil => intro k c s _ hk hc hs; exact ⟨k, hk, hc, hs⟩
    | cons x a ih =>
      intro k c s hx hk hc hs
      obtain ⟨h1, h2, h3⟩ := or_both n (by omega) k hk x (hx x List.mem_cons_self)
      refine ih (k ||| 2 ^ (n - 1 - x)) _ _ (fun y hy => hx y (List.mem_cons_of_mem _ hy)) h3 ?_ ?_
      · rw [hc]; exact h1
      · rw [hs]; exact h2
  obtain ⟨h1, h2⟩ := zero_both n (by omega)
  exact key a 0 0 0 h (Nat.two_pow_pos n) h1.symm h2.symm
end Go.Proofs.Ytbnmdlnpfikkcaa.PX
/- read: what it returns. -/
namespace Go.Proofs.Ytbnmdlnpfikkcaa.PX
open Go.RowKit Go.Maps Go.Proofs.YtbnmdlnpfikkcaaW.PrintWords Go.Proofs.YtbnmdlnpfikkcaaW.PrintLast Go.Proofs.YtbnmdlnpfikkcaaW.PrintMore
set_option linter.unusedVariables false
set_option linter.unusedSimpArgs false
set_option maxHeartbeats 2000000 in
set_option maxRecDepth 100000 in
theorem read_calls (D : Fam) (H : Hd) (A : Option Addr) (c : Nat) (l : List ByteArray) (w : World) (HF : FamAt w D H) (hr : Kd.C Kd.string w A l.length l) (hc : l.length ≤ c) (h12 : D.opts.length ≤ 12) (ho : ∀ x ∈ D.opts, x.size ≤ maxLen) (hl : ∀ x ∈ l, x.size ≤ maxLen) (hll : l.length ≤ 100) :
    Calls Try.prog 68 #[fv D H, .slice A l.length c] w fun e w' => e = .returned (.tuple #[.int .u64 ((rdC D.opts l : Nat) : Int), .int .i64 (rdE D.opts l)]) ∧ Below w.heap.size w w' := by
  have hu41 := Try.underlying41
  unfold fv
  have HB0 : Aside0 (Below w.heap.size w (w.alloc (.cells (fcells D H) 41))) := ⟨below_alloc (Below.refl _ _) _⟩
  have HK0 := Aside0.mk (heap_alloc_new w (.cells (fcells D H) 41))
  have HFA := Aside0.mk HF
  have HR := Aside0.mk hr
  have HC := Aside0.mk hc
  have HOS := Aside0.mk ho
  have HLS := Aside0.mk hl
  clear HF hr hc ho hl
  have hmm := @run_makeMap Try.prog
  have HM0 := Aside0.mk (place_made (w.alloc (.cells (fcells D H) 41)) D.opts)
  have HK1 := Aside0.mk (blk_alloc HK0.out (.map #[] 0))
  have HB1 := Aside0.mk (below_alloc HB0.out (.map #[] 0))
  obtain ⟨k0, k1, k2, k3, k4, k5, k6, k7, k8, k9⟩ := box_cells HK1.out
  go_enter Try.func68, Try.ntmps68
  go_wp2_with fail
  clear hmm k0 k1 k2 k3 k4 k5 k6 k7 k8 k9
  obtain ⟨w1, hw1⟩ : ∃ w1, w1 = (w.alloc (.cells (fcells D H) 41)).alloc (.map #[] 0) := ⟨_, rfl⟩
  rw [show (w.alloc (.cells (fcells D H) 41)).heap.size = w.heap.size + 1 by simp] at HM0
  rw [← hw1] at HM0 HK1 HB1
  unfold fcells at hw1
  rw [← hw1]
  have HM1 := HM0
  clear HM0 HB0 HK0 hw1
  go_loopg [18] D.opts.length (fun gk v18 w' => ∃ k : Nat, v18 = .int .i64 (k : Int) ∧ Aside0 (k ≤ D.opts.length) ∧ Aside0 (D.opts.length - k ≤ gk) ∧ Aside0 (Below w.heap.size w w') ∧ Aside0 (PlaceAt w' (w.heap.size + 1) D.opts k))
  case atStart => exact ⟨0, rfl, ⟨Nat.zero_le _⟩, ⟨Nat.sub_le _ _⟩, HB1, HM1⟩
  case round =>
    obtain ⟨k, rfl, HL, HG, HB, HM⟩ := hrel
    by_cases hk : k < D.opts.length
    · have q0 : decide ((k : Int) < (D.opts.length : Int)) = true := by simpa using hk
      have q1 : decide (k < D.opts.length) = true := by simpa using hk
      have p0 : 0 ≤ (k : Int) := by omega
      have p1 : (k : Int) < (D.opts.length : Int) := by omega
      obtain ⟨ad, hA, hx⟩ := Kd.at_string (Kd.C_below HFA.out.r6 HB.out) (k : Int) p0 p1
      have hx' : wr.cell? (ad.add k) = some (.string (D.opts.getD k ByteArray.empty)) := by
        rw [Int.toNat_natCast] at hx
        exact hx
      clear hx
      have hsz : (D.opts.getD k ByteArray.empty).size ≤ maxLen := HOS.out _ (by rw [List.getD_eq_getElem?_getD, List.getElem?_eq_getElem hk]; exact List.getElem_mem hk)
      obtain ⟨w3, hput, hkn, hgr⟩ := place_put HM.out hsz (by unfold maxLen; omega) (by omega)
      have HKN := Aside0.mk hkn
      have HB3 := Aside0.mk (pw_below_grown HB.out (some (w.heap.size + 1)) HB.out.size hgr (fun q hq => by cases hq; omega))
      clear hkn hgr hsz
      generalize D.opts.getD k ByteArray.empty = s at hx' hput
      go_wp2_with fail
      go_roundg (D.opts.length - (k + 1))
      case measure => have := HG.out; omega
      case rel => exact ⟨k + 1, by go_num, ⟨hk⟩, ⟨Nat.le_refl _⟩, HB3, HKN⟩
    · have q0 : decide ((k : Int) < (D.opts.length : Int)) = false := by simpa using hk
      have q1 : decide (k < D.opts.length) = false := by simpa using hk
      have hkn : k = D.opts.length := by have := HL.out; omega
      rw [hkn] at HM
      clear hkn hk HL HG
      go_wp2_with fail
      clear q0 q1
      obtain ⟨w4, hw4⟩ : ∃ W, W = wr := ⟨_, rfl⟩
      rw [← hw4] at HB HM ⊢
      clear hw4
      go_loopg [29, 9] l.length (fun gk v29 v9 w' => ∃ i : Nat, v29 = .int .i64 (i : Int) ∧ v9 = .int .u64 ((cfgL (rdN D.opts l i).2 : Nat) : Int) ∧ Aside0 (i ≤ l.length) ∧ Aside0 (l.length - i ≤ gk) ∧ Aside0 ((rdN D.opts l i).1 = 0) ∧ Aside0 (Below w4.heap.size w4 w'))
      case atStart => exact ⟨0, rfl, rfl, ⟨Nat.zero_le _⟩, ⟨Nat.sub_le _ _⟩, ⟨rfl⟩, ⟨Below.refl _ _⟩⟩
      case round =>
        obtain ⟨i, rfl, rfl, HI, HGI, HZ, HB5⟩ := hrel
        obtain ⟨cc, hcc⟩ : ∃ cc, cc = cfgL (rdN D.opts l i).2 := ⟨_, rfl⟩
        rw [← hcc]
        have HCL : Aside0 (cc < 2 ^ 12) := ⟨by rw [hcc]; exact cfgL_lt _⟩
        have HCC := Aside0.mk hcc
        clear hcc
        have HBW := Aside0.mk (below_step HB.out HB5.out)
        by_cases hi : i < l.length
        · have q0 : decide ((i : Int) < (l.length : Int)) = true := by simpa using hi
          have q1 : decide (i < l.length) = true := by simpa using hi
          have p0 : 0 ≤ (i : Int) := by omega
          have p1 : (i : Int) < (l.length : Int) := by omega
          obtain ⟨ad, hA, hx⟩ := Kd.at_string (Kd.C_below HR.out HBW.out) (i : Int) p0 p1
          subst hA
          have hx' : wr.cell? (ad.add i) = some (.string (l.getD i ByteArray.empty)) := by
            rw [Int.toNat_natCast] at hx
            exact hx
          clear hx
          have hsz : (l.getD i ByteArray.empty).size ≤ maxLen := HLS.out _ (by rw [List.getD_eq_getElem?_getD, List.getElem?_eq_getElem hi]; exact List.getElem_mem hi)
          have hlook := place_look (place_kept HM.out HB5.out) (l.getD i ByteArray.empty) hsz
          have hLT := lastI_lt D.opts (l.getD i ByteArray.empty) D.opts.length
          have hE16 : lastI D.opts (l.getD i ByteArray.empty) D.opts.length < 0 → rdN D.opts l (i + 1) = (16, []) := fun h => by
            unfold rdN; rw [if_neg (by rw [HZ.out]; simp), if_pos h]
          have hE8 : ¬ lastI D.opts (l.getD i ByteArray.empty) D.opts.length < 0 → (0 < i ∧ leB (l.getD i ByteArray.empty) (l.getD (i - 1) ByteArray.empty) = true) → rdN D.opts l (i + 1) = (8, []) := fun h h2 => by
            unfold rdN; rw [if_neg (by rw [HZ.out]; simp), if_neg h, if_pos h2]
          have hOK : ¬ lastI D.opts (l.getD i ByteArray.empty) D.opts.length < 0 → ¬ (0 < i ∧ leB (l.getD i ByteArray.empty) (l.getD (i - 1) ByteArray.empty) = true) → rdN D.opts l (i + 1) = (0, (rdN D.opts l i).2 ++ [(lastI D.opts (l.getD i ByteArray.empty) D.opts.length).toNat]) := fun h h2 => by
            conv => lhs; unfold rdN
            rw [if_neg (by rw [HZ.out]; simp), if_neg h, if_neg h2]
          have hEND : ∀ e : Int, e ≠ 0 → rdN D.opts l (i + 1) = (e, []) → rdE D.opts l = e := fun e he h => by
            unfold rdE
            have := rdN_stay D.opts l (l.length - (i + 1)) (i + 1) (by rw [h]; exact he)
            rw [show i + 1 + (l.length - (i + 1)) = l.length by omega] at this
            rw [this, h]
          have HE16 := Aside0.mk hE16
          have HE8 := Aside0.mk hE8
          have HOKK := Aside0.mk hOK
          have HEND := Aside0.mk hEND
          clear hE16 hE8 hOK hEND hsz
          by_cases hP : 0 ≤ lastI D.opts (l.getD i ByteArray.empty) D.opts.length
          · rw [if_pos hP, decide_eq_true hP] at hlook
            obtain ⟨p, hp⟩ : ∃ p : Nat, lastI D.opts (l.getD i ByteArray.empty) D.opts.length = (p : Int) := ⟨(lastI D.opts (l.getD i ByteArray.empty) D.opts.length).toNat, by omega⟩
            have HP := Aside0.mk hp
            rw [hp] at hlook hLT
            have hp12 : (p : Int) < 12 := by omega
            have hpp : 0 ≤ (p : Int) := by omega
            clear hp hP hLT
            have hP0 : ¬ lastI D.opts (l.getD i ByteArray.empty) D.opts.length < 0 := by rw [HP.out]; omega
            have HNP := Aside0.mk hP0
            clear hP0
            by_cases hk : 0 < i
            · have q2 : decide (0 < (i : Int)) = true := by simpa using hk
              have q3 : decide (0 < i) = true := by simpa using hk
              obtain ⟨q, hq⟩ : ∃ q : Int, IntKind.i64.wrap ((i : Int) - 1) = q := ⟨_, rfl⟩
              have hqe : q = (i : Int) - 1 := by rw [← hq]; exact IntWalk.i64_in _ (by omega)
              have r0 : 0 ≤ q := by omega
              have r1 : q < (l.length : Int) := by omega
              obtain ⟨ad2, e2, hx2⟩ := Kd.at_string (Kd.C_below HR.out HBW.out) q r0 r1
              cases e2
              have HT : Aside0 (rdOf ByteArray.empty l q = l.getD (i - 1) ByteArray.empty) := ⟨by unfold rdOf; rw [hqe, show ((i : Int) - 1).toNat = i - 1 by omega]⟩
              rw [HT.out] at hx2
              have HKP := Aside0.mk hk
              have HQE := Aside0.mk hqe
              clear hqe hk
              obtain ⟨t, ht⟩ : ∃ t, t = l.getD (i - 1) ByteArray.empty := ⟨_, rfl⟩
              obtain ⟨s, hs⟩ : ∃ s, s = l.getD i ByteArray.empty := ⟨_, rfl⟩
              rw [← ht] at hx2
              rw [← hs] at hx' hlook
              have HTT := Aside0.mk ht
              have HSS := Aside0.mk hs
              clear ht hs
              have hbad : leB s t = true → rdE D.opts l = 8 := fun h => HEND.out 8 (by decide) (HE8.out HNP.out ⟨HKP.out, by rw [← HSS.out, ← HTT.out]; exact h⟩)
              have HBAD := Aside0.mk hbad
              clear hbad
              cases h1 : Op.bytesLess s.toList t.toList with
              | true =>
                have HZE := Aside0.mk (HBAD.out (by simp [leB, h1]))
                go_wp2_with fail
                go_ret2
                exact ⟨by rw [show rdC D.opts l = 0 by unfold rdC; rw [HZE.out]; rfl, HZE.out]; rfl, HBW.out⟩
              | false =>
                cases h2 : (s.toList == t.toList) with
                | true =>
                  have HZE := Aside0.mk (HBAD.out (by simp [leB, h2]))
                  go_wp2_with fail
                  go_ret2
                  exact ⟨by rw [show rdC D.opts l = 0 by unfold rdC; rw [HZE.out]; rfl, HZE.out]; rfl, HBW.out⟩
                | false =>
                  have HOK2 := Aside0.mk (HOKK.out HNP.out (fun h => by have := h.2; rw [← HSS.out, ← HTT.out] at this; simp [leB, h1, h2] at this))
                  go_wp2_with fail
                  rw [or_u64 HCL.out]
                  go_roundg (l.length - (i + 1))
                  case measure => have := HGI.out; omega
                  case rel => exact ⟨i + 1, by go_num, by rw [HOK2.out, cfgL_snoc, ← HCC.out, HP.out, Int.toNat_natCast], ⟨hi⟩, ⟨Nat.le_refl _⟩, ⟨by rw [HOK2.out]⟩, HB5⟩
            · have q2 : decide (0 < (i : Int)) = false := by simpa using hk
              have q3 : decide (0 < i) = false := by simpa using hk
              have HOK2 := Aside0.mk (HOKK.out HNP.out (fun h => hk h.1))
              clear hk
              generalize l.getD i ByteArray.empty = s at hx' hlook
              go_wp2_with fail
              rw [or_u64 HCL.out]
              go_roundg (l.length - (i + 1))
              case measure => have := HGI.out; omega
              case rel => exact ⟨i + 1, by go_num, by rw [HOK2.out, cfgL_snoc, ← HCC.out, HP.out, Int.toNat_natCast], ⟨hi⟩, ⟨Nat.le_refl _⟩, ⟨by rw [HOK2.out]⟩, HB5⟩
          · rw [if_neg hP, decide_eq_false hP] at hlook
            have hz := HEND.out 16 (by decide) (HE16.out (by omega))
            have HZE := Aside0.mk hz
            clear hz hP hLT
            generalize l.getD i ByteArray.empty = s at hx' hlook
            go_wp2_with fail
            go_ret2
            exact ⟨by rw [show rdC D.opts l = 0 by unfold rdC; rw [HZE.out]; rfl, HZE.out]; rfl, HBW.out⟩
        · have q0 : decide ((i : Int) < (l.length : Int)) = false := by simpa using hi
          have q1 : decide (i < l.length) = false := by simpa using hi
          have hin : i = l.length := by have := HI.out; omega
          go_wp2_with fail
          go_ret2
          have h1 := HZ.out
          have h2 := HCC.out
          rw [hin] at h1 h2
          have h3 : rdE D.opts l = 0 := h1
          exact ⟨by rw [show rdC D.opts l = cc by unfold rdC; rw [h3, h2]; rfl, h3]; rfl, HBW.out⟩
end Go.Proofs.Ytbnmdlnpfikkcaa.PX
/- configured, Allowed: what they return for a valid family. -/
namespace Go.Proofs.Ytbnmdlnpfikkcaa.PX
open Go.RowKit Go.Proofs.YtbnmdlnpfikkcaaW.PrintWords Go.Proofs.YtbnmdlnpfikkcaaW.PrintLast Go.Proofs.YtbnmdlnpfikkcaaW.PrintMore
set_option linter.unusedVariables false
set_option linter.unusedSimpArgs false
/-- The options' names are of a length that a map bears. -/
def OptsSz (D : Fam) : Prop := ∀ x ∈ D.opts, x.size ≤ maxLen
set_option maxHeartbeats 2000000 in
set_option maxRecDepth 100000 in
theorem conf_calls (D : Fam) (H : Hd) (A : Option Addr) (c : Nat) (l : List ByteArray) (w : World) (HF : FamAt w D H) (hck : chk D = 0) (hr : Kd.C Kd.string w A l.length l) (hc : l.length ≤ c) (ho : OptsSz D) (hl : ∀ x ∈ l, x.size ≤ maxLen) (hll : l.length ≤ 100) :
    Calls Try.prog 57 #[fv D H, .slice A l.length c] w fun e w' => e = .returned (.tuple #[.int .u64 ((rdC D.opts l : Nat) : Int), .int .i64 (rdE D.opts l)]) ∧ Below w.heap.size w w' := by
  have hu41 := Try.underlying41
  unfold fv
  have HB0 : Aside0 (Below w.heap.size w (w.alloc (.cells (fcells D H) 41))) := ⟨below_alloc (Below.refl _ _) _⟩
  have HK0 := Aside0.mk (heap_alloc_new w (.cells (fcells D H) 41))
  have CK := Lib.hid (fun W (hW : Below w.heap.size w W) => (check_calls D H W (HF.below hW)).mono (fun e w' h => (⟨by rw [h.1, hck], h.2⟩ : e = .returned (.int .i64 0) ∧ Below W.heap.size W w')))
  have CR := Lib.hid (fun W (hW : Below w.heap.size w W) => read_calls D H A c l W (HF.below hW) (Kd.C_below hr hW) hc (chk_ok hck).opts ho hl hll)
  clear HF hck hr hc ho hl
  unfold fcells at HB0 HK0
  go_enter Try.func57, Try.ntmps57
  go_wp2_with fail
  refine (CK.out _ HB0.out).mono ?_
  rintro e w2 ⟨rfl, hb⟩
  have HB2 := Aside0.mk (below_step HB0.out hb)
  have HK2 := Aside0.mk (blk_below HK0.out hb)
  clear hb CK HB0 HK0
  obtain ⟨k0, k1, k2, k3, k4, k5, k6, k7, k8, k9⟩ := box_cells HK2.out
  go_wp2_with fail
  refine (CR.out w2 HB2.out).mono ?_
  rintro e w3 ⟨rfl, hb⟩
  have HB3 := Aside0.mk (below_step HB2.out hb)
  go_wp2_with fail
  go_ret2
  exact ⟨rfl, HB3.out⟩
/-- What Allowed hands back. -/
def alV (D : Fam) (l : List ByteArray) : Int := if rdE D.opts l = 0 then idxP (fun x => !satR (rdC D.opts l) x) D.rules else 0
def alB (D : Fam) (l : List ByteArray) : Bool := if rdE D.opts l = 0 then decide (alV D l < 0) else false
theorem rdC_lt (o l : List ByteArray) : rdC o l < 4096 := by
  unfold rdC
  split
  · exact cfgL_lt _
  · decide
set_option maxHeartbeats 2000000 in
set_option maxRecDepth 100000 in
theorem allow_calls (D : Fam) (H : Hd) (A : Option Addr) (c : Nat) (l : List ByteArray) (w : World) (HF : FamAt w D H) (hck : chk D = 0) (hr : Kd.C Kd.string w A l.length l) (hc : l.length ≤ c) (ho : OptsSz D) (hl : ∀ x ∈ l, x.size ≤ maxLen) (hll : l.length ≤ 100) :
    Calls Try.prog 31 #[fv D H, .slice A l.length c] w fun e w' => e = .returned (.tuple #[.bool (alB D l), .int .i64 (alV D l), .int .i64 (rdE D.opts l)]) ∧ Below w.heap.size w w' := by
  have hu41 := Try.underlying41
  have CC := Lib.hid (fun W (hW : Below w.heap.size w W) => conf_calls D H A c l W (HF.below hW) hck (Kd.C_below hr hW) hc ho hl hll)
  have CV := Lib.hid (fun W (hW : Below w.heap.size w W) => viol_calls (rdC D.opts l) H.A7 H.c7 D.rules W (Nat.lt_trans (rdC_lt _ _) (by decide)) (Kd.C_below HF.r7 hW) HF.l7 (chk_ok hck).rules)
  unfold fv
  have HB0 : Aside0 (Below w.heap.size w (w.alloc (.cells (fcells D H) 41))) := ⟨below_alloc (Below.refl _ _) _⟩
  have HK0 := Aside0.mk (heap_alloc_new w (.cells (fcells D H) 41))
  clear HF hck hr hc ho hl
  obtain ⟨q, hq⟩ : ∃ q, q = rdE D.opts l := ⟨_, rfl⟩
  have HQ := Aside0.mk hq
  rw [← hq] at CC ⊢
  clear hq
  unfold fcells at HB0 HK0
  go_enter Try.func31, Try.ntmps31
  go_wp2_with fail
  refine (CC.out _ HB0.out).mono ?_
  rintro e w2 ⟨rfl, hb⟩
  have HB2 := Aside0.mk (below_step HB0.out hb)
  have HK2 := Aside0.mk (blk_below HK0.out hb)
  clear hb CC HB0 HK0
  obtain ⟨k0, k1, k2, k3, k4, k5, k6, k7, k8, k9⟩ := box_cells HK2.out
  by_cases h : q = 0
  · subst h
    have HV : Aside0 (alV D l = idxP (fun x => !satR (rdC D.opts l) x) D.rules) := ⟨by unfold alV; rw [if_pos HQ.out.symm]⟩
    have HW : Aside0 (alB D l = decide (idxP (fun x => !satR (rdC D.opts l) x) D.rules < 0)) := ⟨by unfold alB; rw [if_pos HQ.out.symm, HV.out]⟩
    go_wp2_with fail
    refine (CV.out w2 HB2.out).mono ?_
    rintro e w3 ⟨rfl, hb⟩
    have HB3 := Aside0.mk (below_step HB2.out hb)
    obtain ⟨v, hv⟩ : ∃ v, v = idxP (fun x => !satR (rdC D.opts l) x) D.rules := ⟨_, rfl⟩
    rw [← hv]
    have HVV := Aside0.mk hv
    clear hv CV
    go_wp2_with fail
    go_ret3
    exact ⟨by rw [HV.out, HW.out, ← HVV.out]; rfl, HB3.out⟩
  · have HV : Aside0 (alV D l = 0) := ⟨by unfold alV; rw [← HQ.out, if_neg h]⟩
    have HW : Aside0 (alB D l = false) := ⟨by unfold alB; rw [← HQ.out, if_neg h]⟩
    have z1 : (q == 0) = false := by simpa using h
    have z2 : (q != 0) = true := by simpa using h
    clear h CV
    go_wp2_with fail
    go_ret3
    exact ⟨by rw [HV.out, HW.out]; rfl, HB2.out⟩
end Go.Proofs.Ytbnmdlnpfikkcaa.PX
/- parse of the reference: what it returns. -/
namespace Go.Proofs.Ytbnmdlnpfikkcaa.PX
open Go.RowKit Go.Proofs.YtbnmdlnpfikkcaaW.PrintWords Go.Proofs.YtbnmdlnpfikkcaaW.PrintLast Go.Proofs.YtbnmdlnpfikkcaaW.PrintMore
set_option linter.unusedVariables false
set_option linter.unusedSimpArgs false
theorem bits_or_i64_nat (a b : Nat) (ha : a < 9223372036854775808) (hb : b < 9223372036854775808) :
    Go.bits .or .i64 (a : Int) (b : Int) = ((a ||| b : Nat) : Int) := by
  have hx : a ||| b < 2 ^ 63 := Nat.or_lt_two_pow (by omega) (by omega)
  have h1 : (BitVec.ofInt 64 (a : Int)).toNat = a := by
    rw [BitVec.ofInt_natCast, BitVec.toNat_ofNat]; exact Nat.mod_eq_of_lt (by omega)
  have h2 : (BitVec.ofInt 64 (b : Int)).toNat = b := by
    rw [BitVec.ofInt_natCast, BitVec.toNat_ofNat]; exact Nat.mod_eq_of_lt (by omega)
  show IntKind.i64.wrap ((BitVec.ofInt 64 (a : Int) ||| BitVec.ofInt 64 (b : Int)).toNat : Int) = _
  rw [BitVec.toNat_or, h1, h2, IntKind.wrap_i64]
  omega
theorem or_i64 {cc p : Nat} (hc : cc < 2 ^ 12) (hp : p < 12) : Go.bits .or .i64 (cc : Int) (wrap64 (2 ^ p)) = ((cc ||| 2 ^ p : Nat) : Int) := by
  have h1 : (2 : Nat) ^ p < 2 ^ 12 := Nat.pow_lt_pow_right (by decide) hp
  have e : wrap64 (2 ^ p) = ((2 ^ p : Nat) : Int) := by
    unfold wrap64
    have : ((2 ^ p : Nat) : Int) = (2 : Int) ^ p := by simp
    rw [← this]
    generalize (2 : Nat) ^ p = m at h1
    omega
  rw [e]
  exact bits_or_i64_nat cc _ (by omega) (by omega)
theorem setL_lt (a : List Nat) (h : ∀ x ∈ a, x < 12) : setL a < 2 ^ 12 := by
  have key : ∀ (a : List Nat) (c : Nat), (∀ x ∈ a, x < 12) → c < 2 ^ 12 → a.foldl (fun c k => c ||| 2 ^ k) c < 2 ^ 12 := by
    intro a
    induction a with
    | nil => intro c _ hc; exact hc
    | cons x a ih =>
      intro c hx hc
      exact ih _ (fun y hy => hx y (List.mem_cons_of_mem _ hy)) (Nat.or_lt_two_pow hc (Nat.pow_lt_pow_right (by decide) (hx x List.mem_cons_self)))
  exact key a 0 h (by decide)
theorem setL_snoc (a : List Nat) (p : Nat) : setL (a ++ [p]) = setL a ||| 2 ^ p := by simp [setL]
def rdT (o l : List ByteArray) : Nat := if rdE o l = 0 then setL (rdN o l l.length).2 else 0
set_option maxHeartbeats 2000000 in
set_option maxRecDepth 100000 in
theorem parse_calls (D : Fam) (H : Hd) (A : Option Addr) (c : Nat) (l : List ByteArray) (w : World) (HF : FamAt w D H) (hr : Kd.C Kd.string w A l.length l) (hc : l.length ≤ c) (h12 : D.opts.length ≤ 12) (hll : l.length ≤ 100) :
    Calls Try.prog 30 #[fv D H, .slice A l.length c] w fun e w' => e = .returned (.tuple #[.int .i64 ((rdT D.opts l : Nat) : Int), .int .i64 (rdE D.opts l)]) ∧ Below w.heap.size w w' := by
  have hu41 := Try.underlying41
  unfold fv
  have HB0 : Aside0 (Below w.heap.size w (w.alloc (.cells (fcells D H) 41))) := ⟨below_alloc (Below.refl _ _) _⟩
  have HK0 := Aside0.mk (heap_alloc_new w (.cells (fcells D H) 41))
  have HFA := Aside0.mk HF
  have HR := Aside0.mk hr
  clear HF hr hc
  unfold fcells at HB0 HK0
  go_enter Try.func30, Try.ntmps30
  go_wp2_with fail
  go_loopg [7, 6, 8, 9] l.length (fun gk v7 v6 v8 v9 w' => ∃ i : Nat, v7 = .int .i64 (i : Int) ∧ v6 = .int .i64 ((setL (rdN D.opts l i).2 : Nat) : Int) ∧ Aside0 (i ≤ l.length) ∧ Aside0 (l.length - i ≤ gk) ∧ Aside0 ((rdN D.opts l i).1 = 0) ∧ Aside0 (Below w.heap.size w w') ∧ Aside0 (w'.heap[w.heap.size]? = some (.cells (fcells D H) 41 (0, 0))))
  case atStart => exact ⟨0, rfl, rfl, ⟨Nat.zero_le _⟩, ⟨Nat.sub_le _ _⟩, ⟨rfl⟩, HB0, HK0⟩
  case round =>
    clear HB0 HK0
    obtain ⟨i, rfl, rfl, HI, HGI, HZ, HB, HK⟩ := hrel
    obtain ⟨cc, hcc⟩ : ∃ cc, cc = setL (rdN D.opts l i).2 := ⟨_, rfl⟩
    rw [← hcc]
    have HCL : Aside0 (cc < 2 ^ 12) := ⟨by rw [hcc]; exact setL_lt _ (fun x hx => Nat.lt_of_lt_of_le (rdN_lt _ _ _ x hx) h12)⟩
    have HCC := Aside0.mk hcc
    clear hcc
    by_cases hi : i < l.length
    · have q0 : decide ((i : Int) < (l.length : Int)) = true := by simpa using hi
      have q1 : decide (i < l.length) = true := by simpa using hi
      have p0 : 0 ≤ (i : Int) := by omega
      have p1 : (i : Int) < (l.length : Int) := by omega
      obtain ⟨s, hs⟩ : ∃ s, s = l.getD i ByteArray.empty := ⟨_, rfl⟩
      have HSS := Aside0.mk hs
      clear hs
      go_wp2_with fail
      go_loopg [9, 8] D.opts.length (fun gk v9 v8 w' => ∃ k : Nat, v9 = .int .i64 (k : Int) ∧ v8 = .int .i64 (lastI D.opts s k) ∧ Aside0 (k ≤ D.opts.length) ∧ Aside0 (D.opts.length - k ≤ gk) ∧ Aside0 (Below w.heap.size w w') ∧ Aside0 (w'.heap[w.heap.size]? = some (.cells (fcells D H) 41 (0, 0))))
      case atStart => exact ⟨0, rfl, rfl, ⟨Nat.zero_le _⟩, ⟨Nat.sub_le _ _⟩, HB, HK⟩
      case round =>
        clear HB HK
        obtain ⟨k, rfl, rfl, HL, HGK, HB, HK⟩ := hrel
        obtain ⟨k0, k1, k2, k3, k4, k5, k6, k7, k8, k9⟩ := box_cells HK.out
        obtain ⟨ad, hA, hx⟩ := Kd.at_string (Kd.C_below HR.out HB.out) (i : Int) p0 p1
        subst hA
        have hx' : wr.cell? (ad.add i) = some (.string s) := by
          rw [Int.toNat_natCast] at hx
          rw [HSS.out]
          exact hx
        clear hx
        have hLT := lastI_lt D.opts s k
        obtain ⟨P, hP⟩ : ∃ P, P = lastI D.opts s k := ⟨_, rfl⟩
        rw [← hP] at hLT ⊢
        have HP := Aside0.mk hP
        clear hP
        by_cases hk : k < D.opts.length
        · have r0 : decide ((k : Int) < (D.opts.length : Int)) = true := by simpa using hk
          have r1 : decide (k < D.opts.length) = true := by simpa using hk
          have s0 : 0 ≤ (k : Int) := by omega
          have s1 : (k : Int) < (D.opts.length : Int) := by omega
          obtain ⟨ad2, hA2, hy⟩ := Kd.at_string (Kd.C_below HFA.out.r6 HB.out) (k : Int) s0 s1
          rw [hA2] at k6
          obtain ⟨t, ht⟩ : ∃ t, t = D.opts.getD k ByteArray.empty := ⟨_, rfl⟩
          have hy' : wr.cell? (ad2.add k) = some (.string t) := by
            rw [Int.toNat_natCast] at hy
            rw [ht]
            exact hy
          have HT := Aside0.mk ht
          have HA2 := Aside0.mk hA2
          clear hy ht hA2
          cases h2 : (t.toList == s.toList) with
          | true =>
            have HY : Aside0 (lastI D.opts s (k + 1) = (k : Int)) := ⟨by simp only [lastI]; rw [← HT.out, if_pos (by rw [← ByteArray.toList_eq, ← ByteArray.toList_eq]; exact h2)]⟩
            go_wp2_with fail
            repeat (go_quiet (fail); try go_wp2_with fail)
            go_roundg (D.opts.length - (k + 1))
            case measure => have := HGK.out; omega
            case rel => exact ⟨k + 1, by go_num, by rw [HY.out], ⟨hk⟩, ⟨Nat.le_refl _⟩, ⟨pw_below_drewN HB.out _⟩, ⟨blk_drewN HK.out _⟩⟩
          | false =>
            have HY : Aside0 (lastI D.opts s (k + 1) = lastI D.opts s k) := ⟨by simp only [lastI]; rw [← HT.out, if_neg (by rw [← ByteArray.toList_eq, ← ByteArray.toList_eq, h2]; decide)]⟩
            go_wp2_with fail
            repeat (go_quiet (fail); try go_wp2_with fail)
            go_roundg (D.opts.length - (k + 1))
            case measure => have := HGK.out; omega
            case rel => exact ⟨k + 1, by go_num, by rw [HY.out, HP.out], ⟨hk⟩, ⟨Nat.le_refl _⟩, ⟨pw_below_drewN HB.out _⟩, ⟨blk_drewN HK.out _⟩⟩
        · have r0 : decide ((k : Int) < (D.opts.length : Int)) = false := by simpa using hk
          have r1 : decide (k < D.opts.length) = false := by simpa using hk
          have hkn : k = D.opts.length := by have := HL.out; omega
          rw [hkn] at HP hLT
          clear hkn hk HL HGK
          have hE16 : P < 0 → rdN D.opts l (i + 1) = (16, []) := fun h => by
            rw [HP.out, HSS.out] at h
            unfold rdN; rw [if_neg (by rw [HZ.out]; simp), if_pos h]
          have hE8 : ¬ P < 0 → (0 < i ∧ leB s (l.getD (i - 1) ByteArray.empty) = true) → rdN D.opts l (i + 1) = (8, []) := fun h h2 => by
            rw [HP.out, HSS.out] at h
            rw [HSS.out] at h2
            unfold rdN; rw [if_neg (by rw [HZ.out]; simp), if_neg h, if_pos h2]
          have hOK : ¬ P < 0 → ¬ (0 < i ∧ leB s (l.getD (i - 1) ByteArray.empty) = true) → rdN D.opts l (i + 1) = (0, (rdN D.opts l i).2 ++ [P.toNat]) := fun h h2 => by
            rw [HP.out, HSS.out] at h ⊢
            rw [HSS.out] at h2
            conv => lhs; unfold rdN
            rw [if_neg (by rw [HZ.out]; simp), if_neg h, if_neg h2]
          have hEND : ∀ e : Int, e ≠ 0 → rdN D.opts l (i + 1) = (e, []) → rdE D.opts l = e := fun e he h => by
            unfold rdE
            have := rdN_stay D.opts l (l.length - (i + 1)) (i + 1) (by rw [h]; exact he)
            rw [show i + 1 + (l.length - (i + 1)) = l.length by omega] at this
            rw [this, h]
          have HE16 := Aside0.mk hE16
          have HE8 := Aside0.mk hE8
          have HOKK := Aside0.mk hOK
          have HEND := Aside0.mk hEND
          clear hE16 hE8 hOK hEND
          by_cases hP0 : P < 0
          · have d0 : decide (P < 0) = true := by simpa using hP0
            have HZE := Aside0.mk (HEND.out 16 (by decide) (HE16.out hP0))
            clear hP0 hLT
            go_wp2_with fail
            go_ret2
            exact ⟨by rw [show rdT D.opts l = 0 by unfold rdT; rw [HZE.out]; rfl, HZE.out]; rfl, HB.out⟩
          · have d0 : decide (P < 0) = false := by simpa using hP0
            have HNP := Aside0.mk hP0
            obtain ⟨p, hp⟩ : ∃ p : Nat, P = (p : Int) := ⟨P.toNat, by omega⟩
            subst hp
            have hp12 : (p : Int) < 12 := by omega
            have hpp : 0 ≤ (p : Int) := by omega
            clear hP0 hLT
            by_cases hk : 0 < i
            · have q2 : decide (0 < (i : Int)) = true := by simpa using hk
              have q3 : decide (0 < i) = true := by simpa using hk
              obtain ⟨q, hq⟩ : ∃ q : Int, IntKind.i64.wrap ((i : Int) - 1) = q := ⟨_, rfl⟩
              have hqe : q = (i : Int) - 1 := by rw [← hq]; exact IntWalk.i64_in _ (by omega)
              have r2 : 0 ≤ q := by omega
              have r3 : q < (l.length : Int) := by omega
              obtain ⟨ad2, e2, hx2⟩ := Kd.at_string (Kd.C_below HR.out HB.out) q r2 r3
              cases e2
              have HT : Aside0 (rdOf ByteArray.empty l q = l.getD (i - 1) ByteArray.empty) := ⟨by unfold rdOf; rw [hqe, show ((i : Int) - 1).toNat = i - 1 by omega]⟩
              rw [HT.out] at hx2
              have HKP := Aside0.mk hk
              have HQE := Aside0.mk hqe
              clear hqe hk
              obtain ⟨t, ht⟩ : ∃ t, t = l.getD (i - 1) ByteArray.empty := ⟨_, rfl⟩
              rw [← ht] at hx2
              have HTT := Aside0.mk ht
              clear ht
              have hbad : leB s t = true → rdE D.opts l = 8 := fun h => HEND.out 8 (by decide) (HE8.out HNP.out ⟨HKP.out, by rw [← HTT.out]; exact h⟩)
              have HBAD := Aside0.mk hbad
              clear hbad
              cases h1 : Op.bytesLess s.toList t.toList with
              | true =>
                have HZE := Aside0.mk (HBAD.out (by simp [leB, h1]))
                go_wp2_with fail
                repeat (go_quiet (fail); try go_wp2_with fail)
                go_ret2
                exact ⟨by rw [show rdT D.opts l = 0 by unfold rdT; rw [HZE.out]; rfl, HZE.out]; rfl, pw_below_drewN HB.out _⟩
              | false =>
                cases h2 : (s.toList == t.toList) with
                | true =>
                  have HZE := Aside0.mk (HBAD.out (by simp [leB, h2]))
                  go_wp2_with fail
                  repeat (go_quiet (fail); try go_wp2_with fail)
                  go_ret2
                  exact ⟨by rw [show rdT D.opts l = 0 by unfold rdT; rw [HZE.out]; rfl, HZE.out]; rfl, pw_below_drewN HB.out _⟩
                | false =>
                  have HOK2 := Aside0.mk (HOKK.out HNP.out (fun h => by have := h.2; rw [← HTT.out] at this; simp [leB, h1, h2] at this))
                  go_wp2_with fail
                  repeat (go_quiet (fail); try go_wp2_with fail)
                  rw [or_i64 HCL.out (by omega)]
                  go_roundg (l.length - (i + 1))
                  case measure => have := HGI.out; omega
                  case rel => exact ⟨i + 1, by go_num, by rw [HOK2.out, setL_snoc, ← HCC.out, Int.toNat_natCast], ⟨hi⟩, ⟨Nat.le_refl _⟩, ⟨by rw [HOK2.out]⟩, ⟨pw_below_drewN HB.out _⟩, ⟨blk_drewN HK.out _⟩⟩
            · have q2 : decide (0 < (i : Int)) = false := by simpa using hk
              have q3 : decide (0 < i) = false := by simpa using hk
              have HOK2 := Aside0.mk (HOKK.out HNP.out (fun h => hk h.1))
              clear hk
              go_wp2_with fail
              repeat (go_quiet (fail); try go_wp2_with fail)
              rw [or_i64 HCL.out (by omega)]
              go_roundg (l.length - (i + 1))
              case measure => have := HGI.out; omega
              case rel => exact ⟨i + 1, by go_num, by rw [HOK2.out, setL_snoc, ← HCC.out, Int.toNat_natCast], ⟨hi⟩, ⟨Nat.le_refl _⟩, ⟨by rw [HOK2.out]⟩, ⟨pw_below_drewN HB.out _⟩, ⟨blk_drewN HK.out _⟩⟩
    · have q0 : decide ((i : Int) < (l.length : Int)) = false := by simpa using hi
      have q1 : decide (i < l.length) = false := by simpa using hi
      have hin : i = l.length := by have := HI.out; omega
      go_wp2_with fail
      go_ret2
      have h1 := HZ.out
      have h2 := HCC.out
      rw [hin] at h1 h2
      have h3 : rdE D.opts l = 0 := h1
      exact ⟨by rw [show rdT D.opts l = cc by unfold rdT; rw [h3, h2]; rfl, h3]; rfl, HB.out⟩
end Go.Proofs.Ytbnmdlnpfikkcaa.PX
/- Allows' law: the pure part. -/
namespace Go.Proofs.Ytbnmdlnpfikkcaa.PX
open Go.RowKit Go.Proofs.YtbnmdlnpfikkcaaW.PrintWords Go.Proofs.YtbnmdlnpfikkcaaW.PrintLast Go.Proofs.YtbnmdlnpfikkcaaW.PrintMore
set_option linter.unusedVariables false
set_option linter.unusedSimpArgs false
theorem brk_from {n k : Nat} (h6 : n ≤ 6) (hk : k < 2 ^ n) (m : Nat) : ∀ (rs : List S70) (o : List Bool) (i : Nat), (∀ r ∈ rs, LitsIn n r.f1) → (∀ x ∈ o, x = false) → brk (setOf n k : Nat) rs o i = match rs.findIdx? (fun x => !satR (cfg n k) x) with | some j => ((i + j : Nat) : Int) | none => -1
  | [], _, _, _, _ => rfl
  | r :: rs, o, i, h, ho => by
    have ih := brk_from h6 hk m rs o.tail (i + 1) (fun x hx => h x (List.mem_cons_of_mem _ hx)) (fun x hx => ho x (List.mem_of_mem_tail hx))
    have hd : o.headD false = false := by
      cases o with
      | nil => rfl
      | cons x o => exact ho x List.mem_cons_self
    have hs : r.f1.any (holdsR (setOf n k : Nat)) = satR (cfg n k) r := by
      unfold satR
      exact any_set h6 hk r.f1 (h r List.mem_cons_self)
    unfold brk
    rw [hd, hs, List.findIdx?_cons, if_neg (by decide)]
    cases hq : satR (cfg n k) r with
    | true =>
      rw [if_pos rfl, ih]
      simp only [Bool.not_true, Bool.false_eq_true, if_false]
      cases List.findIdx? (fun x => !satR (cfg n k) x) rs with
      | none => rfl
      | some j =>
        show ((i + 1 + j : Nat) : Int) = ((i + (j + 1) : Nat) : Int)
        congr 1
        omega
    | false => simp
theorem brk_idx {n k : Nat} (h6 : n ≤ 6) (hk : k < 2 ^ n) (rs : List S70) (m : Nat) (h : ∀ r ∈ rs, LitsIn n r.f1) : brk (setOf n k : Nat) rs (List.replicate m false) 0 = idxP (fun x => !satR (cfg n k) x) rs := by
  rw [brk_from h6 hk m rs _ 0 h (fun x hx => List.eq_of_mem_replicate hx)]
  unfold idxP
  cases List.findIdx? (fun x => !satR (cfg n k) x) rs with
  | none => rfl
  | some j => simp
def rdD (o l : List ByteArray) : Nat → Int × List Nat
  | 0 => (0, [])
  | i + 1 => if (rdD o l i).1 ≠ 0 then rdD o l i else
    if lastI o (l.getD i ByteArray.empty) o.length < 0 then (16, []) else
    if 0 < i ∧ leD (l.getD i ByteArray.empty) (l.getD (i - 1) ByteArray.empty) = true then (8, []) else
    (0, (rdD o l i).2 ++ [(lastI o (l.getD i ByteArray.empty) o.length).toNat])
theorem rdN_rdD (o l : List ByteArray) : ∀ i, rdN o l i = rdD o l i
  | 0 => rfl
  | i + 1 => by
    unfold rdN rdD
    rw [rdN_rdD o l i, leB_leD]
theorem read_names : ∀ n, n < 7 → ∀ k, k < 2 ^ n → (rdD (optsF n) (cnames (cfg n k) (optsF n)) (cnames (cfg n k) (optsF n)).length).1 = 0 ∧ cfgL (rdD (optsF n) (cnames (cfg n k) (optsF n)) (cnames (cfg n k) (optsF n)).length).2 = cfg n k := by decide +kernel
theorem names_E {n k : Nat} (h6 : n ≤ 6) (hk : k < 2 ^ n) : rdE (optsF n) (cnames (cfg n k) (optsF n)) = 0 ∧ rdC (optsF n) (cnames (cfg n k) (optsF n)) = cfg n k := by
  obtain ⟨h1, h2⟩ := read_names n (by omega) k hk
  rw [← rdN_rdD] at h1 h2
  have e : rdE (optsF n) (cnames (cfg n k) (optsF n)) = 0 := h1
  exact ⟨e, by unfold rdC; rw [if_pos e]; exact h2⟩
theorem optN_sz : ∀ i, i < 6 → (optN i).size ≤ 100 := by decide +kernel
theorem optsF_sz {n : Nat} (h6 : n ≤ 6) : ∀ x ∈ optsF n, x.size ≤ maxLen := by
  intro x hx
  unfold optsF at hx
  obtain ⟨i, hi, rfl⟩ := List.mem_map.1 hx
  rw [List.mem_range] at hi
  exact Nat.le_trans (optN_sz i (by omega)) (by decide)
theorem cn_in (c : Nat) (l : List ByteArray) : ∀ k, k ≤ l.length → ∀ x ∈ cn c l k, x ∈ l
  | 0, _ => by simp [cn]
  | k + 1, hk => by
    have ih := cn_in c l k (by omega)
    intro x hx
    unfold cn at hx
    split at hx
    · rcases List.mem_append.1 hx with hx | hx
      · exact ih x hx
      · rw [List.mem_singleton.1 hx]
        unfold rdS rdOf
        rw [Int.toNat_natCast, List.getD_eq_getElem?_getD, List.getElem?_eq_getElem (by omega)]
        exact List.getElem_mem _
    · exact ih x hx
theorem rd_sets {n i : Nat} (h : i < 2 ^ n) : ∃ k, k < 2 ^ n ∧ rd (setsL n) (i : Int) = ((setOf n k : Nat) : Int) := by
  have hl := setsL_length n
  have hg : rd (setsL n) (i : Int) = (setsL n)[i]'(by omega) := by
    unfold rd
    rw [Int.toNat_natCast, List.getD_eq_getElem?_getD, List.getElem?_eq_getElem (by omega)]
    rfl
  rw [hg]
  refine ⟨2 ^ n - 1 - i, by have := Nat.two_pow_pos n; omega, ?_⟩
  simp [setsL]
/-- What Allowed says of a list without an error is what the reference's broken says of its set. -/
theorem allow_brk {D : Fam} (h6 : D.opts.length ≤ 6) (hrs : ∀ r ∈ D.rules, LitsIn D.opts.length r.f1) {l : List ByteArray} (he : rdE D.opts l = 0) (m : Nat) : ∃ k, k < 2 ^ D.opts.length ∧ rdT D.opts l = setOf D.opts.length k ∧ alV D l = brk ((rdT D.opts l : Nat) : Int) D.rules (List.replicate m false) 0 := by
  obtain ⟨k, hk, h1, h2⟩ := both_k h6 (rdN D.opts l l.length).2 (rdN_lt _ _ _)
  refine ⟨k, hk, by unfold rdT; rw [if_pos he, h2], ?_⟩
  have e1 : rdC D.opts l = cfg D.opts.length k := by unfold rdC; rw [if_pos he, h1]
  have e2 : rdT D.opts l = setOf D.opts.length k := by unfold rdT; rw [if_pos he, h2]
  unfold alV
  rw [if_pos he, e1, e2, brk_idx h6 hk _ _ hrs]
end Go.Proofs.Ytbnmdlnpfikkcaa.PX
/- Allows' law: the reference's calls. -/
namespace Go.Proofs.Ytbnmdlnpfikkcaa.PX
open Go.RowKit Go.Proofs.YtbnmdlnpfikkcaaW.PrintWords Go.Proofs.YtbnmdlnpfikkcaaW.PrintLast Go.Proofs.YtbnmdlnpfikkcaaW.PrintMore
set_option linter.unusedVariables false
set_option linter.unusedSimpArgs false
theorem cell_keep {w W : World} (hb : Below w.heap.size w W) {a : Addr} {v : Value} (hc : w.cell? a = some v) : W.cell? a = some v := (hb.cell (World.block_lt_of_cell? w a hc)).trans hc
theorem ref_broken (D : Fam) (H : Hd) (A : Option Addr) (c : Nat) (s : Int) (w : World) (h : FamAt w D H) (hs : Small D)
    (hr : Kd.C Kd.bool w A D.rules.length (List.replicate D.rules.length false)) (hc : D.rules.length ≤ c) :
    Calls Try.prog 32 #[fv D H, .slice A D.rules.length c, .int .i64 s] w fun e w' => e = .returned (.int .i64 (brk s D.rules (List.replicate D.rules.length false) 0)) ∧ Below w.heap.size w w' := by
  have hl : (List.replicate D.rules.length false).length = D.rules.length := List.length_replicate
  have h1 : Kd.C Kd.bool w A (List.replicate D.rules.length false).length (List.replicate D.rules.length false) := by rw [hl]; exact hr
  have := dowellaw48_broken.calls 4000 D.nm H.A1 H.c1 D.parts H.A2 H.c2 D.insts H.A3 H.c3 D.dims H.A4 H.c4 D.cons H.A5 H.c5 D.reqs H.A6 H.c6 D.opts H.A7 H.c7 D.rules H.A8 H.c8 D.guards H.A9 H.c9 D.overs A c (List.replicate D.rules.length false) s (brk s D.rules (List.replicate D.rules.length false) 0) w h.r1 h.l1 h.r2 h.l2 h.r3 h.l3 h.r4 h.l4 h.r5 h.l5 h.r6 h.l6 h.r7 h.l7 h.r8 h.l8 h.r9 h.l9 h1 (by rw [hl]; exact hc) (broken_f hs (by rw [hl]; exact Nat.le_refl _) (by decide))
  rw [hl] at this
  exact this
theorem ref_sets (n : Nat) (w : World) (h1 : 1 ≤ n) (h6 : n ≤ 6) : Calls Try.prog 33 #[.int .i64 (n : Int)] w fun e w' => ∃ A cp, e = .returned (.slice A (setsL n).length cp) ∧ (setsL n).length ≤ cp ∧ Kd.C (Kd.int .i64) w' A (setsL n).length (setsL n) ∧ Below w.heap.size w w' :=
  (dowellaw48_sets.calls 4000 n (setsL n) w (sets_f h1 h6)).mono fun e w' ⟨v, he, hR, hb⟩ => by
    obtain ⟨A, cp, hv, hc, hC⟩ := Kd.R_reads hR
    subst hv
    exact ⟨A, cp, he, hc, hC, hb⟩
end Go.Proofs.Ytbnmdlnpfikkcaa.PX
/- The laws' arguments, opened: a description, a choice, a list of small numbers. -/
namespace Go.Proofs.Ytbnmdlnpfikkcaa.PX
open Go.ChangeShapes Go.WideShapes Go.RowKit Go.Proofs.YtbnmdlnpfikkcaaW.PrintWords Go.Proofs.YtbnmdlnpfikkcaaW.PrintLast Go.Proofs.YtbnmdlnpfikkcaaW.PrintMore
set_option linter.unusedVariables false
set_option linter.unusedSimpArgs false
theorem wf_i8 {n : Int} (h : (Lit.int .i8 n).wf = true) : -128 ≤ n ∧ n ≤ 127 := by
  simp [Lit.wf, IntKind.min, IntKind.max, IntKind.bits, IntKind.signed] at h
  omega
theorem wf_u8 {n : Int} (h : (Lit.int .u8 n).wf = true) : 0 ≤ n ∧ n ≤ 255 := by
  simp [Lit.wf, IntKind.min, IntKind.max, IntKind.bits, IntKind.signed] at h
  omega
theorem i8s_of {l : List Int} (h : ∀ n ∈ l, (Lit.int .i8 n).wf = true) : i8s l = true := by
  unfold i8s
  rw [List.all_eq_true]
  intro x hx
  simpa using wf_i8 (h x hx)
section
variable {H : Type} {enc : TypeId × Value → H} {w : World} {fuel : Nat} {v : Value} {x : DataW H × List MemPlace}
theorem rows_open (h : DataW.trod enc Try.prog w 0 (fun _ => true) true fuel 22 [v] = some x) : ∃ A R c, v = .slice A R.length c ∧ R.length ≤ c ∧ Kd.C (Kd.slice 95 (Kd.int .i8)) w A R.length R ∧ All8 R := by
  rcases Go.Deep.open_int_rows Try.underlying22 Try.underlying57 Try.underlying95 (by kernel_rfl) (by kernel_rfl) h with ⟨hcs, _⟩ | ⟨a, len, cap, A, L, C, Z, hcs, _, hl, hm, _, hr⟩
  · simp only [List.cons.injEq, and_true] at hcs
    exact ⟨none, [], 0, hcs, Nat.le_refl _, C_zero _ _ _, fun r hr => by cases hr⟩
  · simp only [List.cons.injEq, and_true] at hcs
    have hlen : ((List.range len).map fun r => (Z r).take (L r)).length = len := by simp
    refine ⟨some a, (List.range len).map fun r => (Z r).take (L r), cap, by rw [hlen]; exact hcs, by rw [hlen]; exact hl, ?_, ?_⟩
    · refine ⟨rfl, by rw [hlen]; exact Nat.le_trans hl hm, fun _ => ⟨a, rfl, fun j p hj => ?_⟩⟩
      have hjl : j < len := by have := (List.getElem?_eq_some_iff.1 hj).1; omega
      have hp : p = (Z j).take (L j) := by
        rw [List.getElem?_map, List.getElem?_range hjl] at hj
        simpa using hj.symm
      obtain ⟨h1, h2, h3, h4, h5, h6, h7⟩ := hr j (by omega)
      have hpl : p.length = L j := by rw [hp, List.length_take]; omega
      have hmx : maxLen = 9223372036854775807 := rfl
      refine ⟨[.slice (A j) (L j) (C j)], rfl, ⟨A j, C j, by rw [hpl], by rw [hpl]; exact h2, rfl, by omega, fun hpos => ?_⟩, fun i u hu => ?_⟩
      · cases hA : A j with
        | none => have := h6 hA; omega
        | some a' =>
          obtain ⟨_, hc⟩ := h7 a' hA
          refine ⟨a', rfl, fun i n hn => ⟨[.int .i8 n], rfl, rfl, fun q u hu => ?_⟩⟩
          have hil : i < p.length := (List.getElem?_eq_some_iff.1 hn).1
          rcases q with _ | q
          · simp only [List.getElem?_cons_zero, Option.some.injEq] at hu
            have e : (Kd.int .i8).sz = 1 := rfl
            rw [e, Nat.mul_one, Nat.add_zero, hc i (by omega), ← hu]
            congr 2
            rw [hp, List.getElem?_take, if_pos (by omega)] at hn
            rw [List.getD_eq_getElem?_getD, hn]
            rfl
          · simp at hu
      · rcases i with _ | i
        · simp only [List.getElem?_cons_zero, Option.some.injEq] at hu
          have e : (Kd.slice 95 (Kd.int .i8)).sz = 1 := rfl
          rw [e, Nat.mul_one, Nat.add_zero, h1, hu]
        · simp at hu
    · intro r hrm
      obtain ⟨j, hj, rfl⟩ := List.mem_map.1 hrm
      obtain ⟨_, _, _, _, h5, _, _⟩ := hr j (by have := List.mem_range.1 hj; omega)
      exact i8s_of fun n hn => h5 n (List.mem_of_mem_take hn)
theorem lits_open (h : DataW.trod enc Try.prog w 0 (fun _ => true) true fuel 25 [v] = some x) : ∃ A ch c, v = .slice A ch.length c ∧ ch.length ≤ c ∧ Kd.C k62 w A ch.length ch := by
  rcases Go.Deep.open_slice_pairs Try.underlying25 Try.underlying62 (by kernel_rfl) rfl rfl (by kernel_rfl) (by kernel_rfl) h with ⟨hcs, _⟩ | ⟨a, len, cap, m, n, V0, V1, D0, D1, P0, P1, hcs, _, hl, hm, hmm, _, hr⟩
  · simp only [List.cons.injEq, and_true] at hcs
    exact ⟨none, [], 0, hcs, Nat.le_refl _, C_zero _ _ _⟩
  · simp only [List.cons.injEq, and_true] at hcs
    have hlm : len ≤ m := by rw [hmm]; split <;> omega
    have each : ∀ i, i < len → ∃ q : Int × Bool, w.cell? (a.add (i * 2)) = some (.int .i64 q.1) ∧ w.cell? (a.add (i * 2 + 1)) = some (.bool q.2) := by
      intro i hi
      obtain ⟨h1, h2, h3, h4⟩ := hr i (by omega)
      obtain ⟨z, hz, _, _⟩ := DataW.trod_int Try.underlying3 h3
      obtain ⟨b, hb, _⟩ := DataW.trod_bool Try.underlying4 h4
      simp only [List.cons.injEq, and_true] at hz hb
      exact ⟨(z, b), by rw [h1, hz], by rw [h2, hb]⟩
    obtain ⟨q, hq⟩ := Go.Deep.choose_lt each
    have hlen : ((List.range len).map fun i => (⟨(q i).1, (q i).2⟩ : S62)).length = len := by simp
    refine ⟨some a, (List.range len).map fun i => ⟨(q i).1, (q i).2⟩, cap, by rw [hlen]; exact hcs, by rw [hlen]; exact hl, rfl, by rw [hlen]; exact Nat.le_trans hl hm, fun _ => ⟨a, rfl, fun j p hj => ?_⟩⟩
    have hjl : j < len := by have := (List.getElem?_eq_some_iff.1 hj).1; omega
    have hp : p = ⟨(q j).1, (q j).2⟩ := by
      rw [List.getElem?_map, List.getElem?_range hjl] at hj
      simpa using hj.symm
    obtain ⟨h1, h2⟩ := hq j hjl
    subst hp
    refine ⟨_, rfl, k62_mk w _, fun i u hu => ?_⟩
    have e : k62.sz = 2 := rfl
    rw [e]
    rcases i with _ | _ | i
    · simp only [List.getElem?_cons_zero, Option.some.injEq] at hu
      rw [← hu]
      exact h1
    · simp only [List.getElem?_cons_succ, List.getElem?_cons_zero, Option.some.injEq] at hu
      rw [← hu]
      exact h2
    · simp at hu
theorem i8s_open (h : DataW.trod enc Try.prog w 0 (fun _ => true) true fuel 57 [v] = some x) : ∃ A l c, v = .slice A l.length c ∧ l.length ≤ c ∧ Kd.C (Kd.int .i8) w A l.length l ∧ i8s l = true := by
  rcases open_ints Try.underlying57 Try.underlying95 (by kernel_rfl) h with ⟨hcs, _⟩ | ⟨a, len, cap, zs, hcs, _, hl, hm, hz, _, hcell, hwz⟩
  · simp only [List.cons.injEq, and_true] at hcs
    exact ⟨none, [], 0, hcs, Nat.le_refl _, C_zero _ _ _, rfl⟩
  · simp only [List.cons.injEq, and_true] at hcs
    simp only [if_true] at hz
    have hlen : (zs.take len).length = len := by rw [List.length_take]; omega
    have hmx : maxLen = 9223372036854775807 := rfl
    refine ⟨some a, zs.take len, cap, by rw [hlen]; exact hcs, by rw [hlen]; exact hl, ⟨rfl, by omega, fun _ => ⟨a, rfl, fun i n hn => ⟨[.int .i8 n], rfl, rfl, fun q u hu => ?_⟩⟩⟩, i8s_of fun n hn => hwz n (List.mem_of_mem_take hn)⟩
    have hil : i < len := by have := (List.getElem?_eq_some_iff.1 hn).1; omega
    rcases q with _ | q
    · simp only [List.getElem?_cons_zero, Option.some.injEq] at hu
      have e : (Kd.int .i8).sz = 1 := rfl
      rw [e, Nat.mul_one, Nat.add_zero, hcell i (by omega), ← hu]
      congr 2
      rw [List.getElem?_take, if_pos hil] at hn
      rw [List.getD_eq_getElem?_getD, hn]
      rfl
    · simp at hu
set_option maxRecDepth 100000 in
theorem kin_open {base : Nat} {d : DataW H} {p : List MemPlace} (hv : Value.okWide Try.prog w .any base 24 v) (h : DataW.Trod enc Try.prog w 0 (fun _ => true) true 24 v d p) :
    ∃ a R G O B1 B2 B3 d1 d2 d3, v = kinV a R G O B1 B2 B3 d1 d2 d3 ∧ 0 ≤ a ∧ a ≤ 255 ∧ KinAt w R G O B1 B2 B3 d1 d2 d3 := by
  obtain ⟨v0, v1, v2, v3, y0, y1, y2, y3, n, rfl, _, _, t0, t1, t2, t3⟩ := Go.Joins.open_agg4 Try.underlying24 (by kernel_rfl) (by kernel_rfl) hv h
  obtain ⟨a, h0, _, hw⟩ := DataW.trod_int Try.underlying5 t0
  simp only [List.cons.injEq, and_true] at h0
  subst h0
  obtain ⟨B1, R, d1, rfl, l1, c1, r1⟩ := rows_open t1
  obtain ⟨B2, G, d2, rfl, l2, c2, r2⟩ := rows_open t2
  obtain ⟨B3, O, d3, rfl, l3, c3, r3⟩ := rows_open t3
  obtain ⟨g0, g1⟩ := wf_u8 hw
  exact ⟨a, R, G, O, B1, B2, B3, d1, d2, d3, rfl, g0, g1, ⟨c1, l1, c2, l2, c3, l3, r1, r2, r3⟩⟩
end
end Go.Proofs.Ytbnmdlnpfikkcaa.PX
/- A list of names, opened. -/
namespace Go.Proofs.Ytbnmdlnpfikkcaa.PX
open Go.ChangeShapes Go.WideShapes Go.RowKit Go.Proofs.YtbnmdlnpfikkcaaW.PrintWords Go.Proofs.YtbnmdlnpfikkcaaW.PrintLast Go.Proofs.YtbnmdlnpfikkcaaW.PrintMore
set_option linter.unusedVariables false
section
variable {H : Type} {enc : TypeId × Value → H} {w : World} {fuel : Nat} {v : Value} {x : DataW H × List MemPlace}
theorem strs_open (h : DataW.trod enc Try.prog w 0 (fun _ => true) true fuel 36 [v] = some x) : ∃ A l c, v = .slice A l.length c ∧ l.length ≤ c ∧ Kd.C Kd.string w A l.length l := by
  rcases open_strings Try.underlying36 Try.underlying9 (by kernel_rfl) h with ⟨hcs, _⟩ | ⟨a, len, cap, zs, hcs, _, hl, hm, hz, _, hcell, _⟩
  · simp only [List.cons.injEq, and_true] at hcs
    exact ⟨none, [], 0, hcs, Nat.le_refl _, C_zero _ _ _⟩
  · simp only [List.cons.injEq, and_true] at hcs
    simp only [if_true] at hz
    have hlen : (zs.take len).length = len := by rw [List.length_take]; omega
    have hmx : maxLen = 9223372036854775807 := rfl
    refine ⟨some a, zs.take len, cap, by rw [hlen]; exact hcs, by rw [hlen]; exact hl, ⟨rfl, by omega, fun _ => ⟨a, rfl, fun i n hn => ⟨[.string n], rfl, rfl, fun q u hu => ?_⟩⟩⟩⟩
    have hil : i < len := by have := (List.getElem?_eq_some_iff.1 hn).1; omega
    rcases q with _ | q
    · simp only [List.getElem?_cons_zero, Option.some.injEq] at hu
      have e : Kd.string.sz = 1 := rfl
      rw [e, Nat.mul_one, Nat.add_zero, hcell i (by omega), ← hu]
      congr 2
      rw [List.getElem?_take, if_pos hil] at hn
      rw [List.getD_eq_getElem?_getD, hn]
      rfl
    · simp at hu
end
end Go.Proofs.Ytbnmdlnpfikkcaa.PX
/- VariantAllows: the walk. -/
namespace Go.Proofs.Ytbnmdlnpfikkcaa.PX
open Go.RowKit Go.Proofs.YtbnmdlnpfikkcaaW.PrintWords Go.Proofs.YtbnmdlnpfikkcaaW.PrintLast Go.Proofs.YtbnmdlnpfikkcaaW.PrintMore
set_option linter.unusedVariables false
set_option linter.unusedSimpArgs false
set_option maxRecDepth 100000 in
set_option maxHeartbeats 16000000 in
theorem law9 (a : Int) (R G O : List (List Int)) (B1 B2 B3 : Option Addr) (d1 d2 d3 : Nat) (A : Option Addr) (c : Nat) (l : List ByteArray) (w : World) (h0 : 0 ≤ a) (h255 : a ≤ 255) (hk : KinAt w R G O B1 B2 B3 d1 d2 d3)
    (hr : Kd.C Kd.string w A l.length l) (hc : l.length ≤ c) :
    Calls Try.prog 9 #[kinV a R G O B1 B2 B3 d1 d2 d3, .slice A l.length c] w fun e w' => e = .returned (.bool true) ∧ Below w.heap.size w w' := by
  have hu41 := Try.underlying41
  unfold kinV
  have HK := Aside0.mk hk
  have HR := Aside0.mk hr
  have HC := Aside0.mk hc
  have HB0 := Aside0.mk ((Below.refl _ w).alloc (Nat.le_refl _) (.cells (kinC a R G O B1 B2 B3 d1 d2 d3) 24))
  have HK0 := Aside0.mk (heap_alloc_new w (.cells (kinC a R G O B1 B2 B3 d1 d2 d3) 24))
  clear hk hr hc
  go_enter Try.func9, Try.ntmps9
  go_wp2_with fail
  refine (known_calls _).mono ?_
  rintro e w2 ⟨rfl, hb⟩
  have HB2 := Aside0.mk (below_step HB0.out hb)
  have HK2 := Aside0.mk (blk_below HK0.out hb)
  clear hb
  by_cases hl8 : l.length ≤ 8
  · have z0 : decide (8 < (l.length : Int)) = false := by simp; omega
    have z1 : decide ((l.length : Int) > 8) = false := z0
    go_wp2_with fail
    clear z0 z1
    go_loopg [5] l.length (fun gk v5 w' => ∃ i : Nat, v5 = .int .i64 (i : Int) ∧ Aside0 (i ≤ l.length) ∧ Aside0 (l.length - i ≤ gk) ∧ Aside0 (∀ j, j < i → (l.getD j ByteArray.empty).size ≤ 80) ∧ w' = w2)
    case atStart => exact ⟨0, rfl, ⟨Nat.zero_le _⟩, ⟨Nat.sub_le _ _⟩, ⟨fun j hj => absurd hj (Nat.not_lt_zero _)⟩, rfl⟩
    case round =>
      obtain ⟨i, rfl, HI, HG, HSZ, rfl⟩ := hrel
      by_cases hi : i < l.length
      · have q0 : decide ((i : Int) < (l.length : Int)) = true := by simpa using hi
        have q1 : decide (i < l.length) = true := by simpa using hi
        have p0 : 0 ≤ (i : Int) := by omega
        have p1 : (i : Int) < (l.length : Int) := by omega
        obtain ⟨ad, hA, hx⟩ := Kd.at_string (Kd.C_below HR.out HB2.out) (i : Int) p0 p1
        have hx' : wr.cell? (ad.add i) = some (.string (l.getD i ByteArray.empty)) := by
          rw [Int.toNat_natCast] at hx
          exact hx
        clear hx
        by_cases hz : (l.getD i ByteArray.empty).size ≤ 80
        · have HZ : Aside0 (∀ j, j < i + 1 → (l.getD j ByteArray.empty).size ≤ 80) := ⟨fun j hj => by
            by_cases hji : j = i
            · rw [hji]; exact hz
            · exact HSZ.out j (by omega)⟩
          generalize l.getD i ByteArray.empty = s at hx' hz
          have z0 : decide (80 < (s.size : Int)) = false := by simp; omega
          have z1 : decide ((s.size : Int) > 80) = false := z0
          go_wp2_with fail
          go_roundg (l.length - (i + 1))
          case measure => have := HG.out; omega
          case rel => exact ⟨i + 1, by go_num, ⟨hi⟩, ⟨Nat.le_refl _⟩, HZ, rfl⟩
        · generalize l.getD i ByteArray.empty = s at hx' hz
          have z0 : decide (80 < (s.size : Int)) = true := by simp; omega
          have z1 : decide ((s.size : Int) > 80) = true := z0
          go_wp2_with fail
          go_ret
          exact ⟨rfl, HB2.out⟩
      · have q0 : decide ((i : Int) < (l.length : Int)) = false := by simpa using hi
        have q1 : decide (i < l.length) = false := by simpa using hi
        have hin : i = l.length := by have := HI.out; omega
        rw [hin] at HSZ
        clear hin HI HG
        go_upto_region 8 with (fail)
        clear q0 q1 hi
        go_cut [6] (fun v6 wc => ∃ g H, v6 = .pointer (some ⟨g, 0, none⟩) ∧ Aside0 (Laid w wc (famK a R G O) g H))
        case first =>
          obtain ⟨k0, k1, k2, k3⟩ := kin_cells HK2.out
          obtain ⟨a0, a1, a2, a3⟩ := kin_cells (blk_alloc HK2.out (.cells zeroC 41))
          unfold zeroC at a0 a1 a2 a3
          go_region_with (first
            | (go_at_call 13; refine (plain_ft _).mono ?_; rintro e w3 ⟨A1, A2, A3, A4, A5, c1, c2, c3, c4, c5, rfl, hbase, hb⟩; have hb2 := below_step (show Below wr.heap.size wr _ from (by first | exact below_drew (Below.refl _ _) | exact below_alloc (below_drew (Below.refl _ _)) _)) hb; have HB3 := Aside0.mk (below_step HB2.out hb2); have HK3 := Aside0.mk (blk_below HK2.out hb2); obtain ⟨m0, m1, m2, m3⟩ := kin_cells HK3.out; obtain ⟨n0, n1, n2, n3⟩ := kin_cells (blk_alloc HK3.out (.cells zeroC 41)); unfold zeroC at n0 n1 n2 n3; have HBase := Aside0.mk hbase; have hs3 := hb.size; (try have HG3 := Aside0.mk (blk_below (show (wr.drew.alloc (.cells zeroC 41)).heap[wr.heap.size]? = _ from heap_alloc_new wr.drew (.cells zeroC 41)) hb)); clear hbase hb hb2)
            | (go_at_call 12; refine (fam_ft h0 h255 HK.out.a1 HK.out.a2 HK.out.a3 (HK.out.below (below_step HB3.out ?b1)).r1 HK.out.l1 (HK.out.below (below_step HB3.out ?b2)).r2 HK.out.l2 (HK.out.below (below_step HB3.out ?b3)).r3 HK.out.l3 (HBase.out.below ?b4)).mono ?_; (case b1 => first | exact Below.refl _ _ | exact below_alloc (Below.refl _ _) _); (case b2 => first | exact Below.refl _ _ | exact below_alloc (Below.refl _ _) _); (case b3 => first | exact Below.refl _ _ | exact below_alloc (Below.refl _ _) _); (case b4 => first | exact Below.refl _ _ | exact below_alloc (Below.refl _ _) _); rintro e w4 ⟨H, rfl, hF, hb⟩; unfold fv; have HB4 := Aside0.mk (below_step HB3.out (below_step (show Below w3.heap.size w3 _ from (by first | exact Below.refl _ _ | exact below_alloc (Below.refl _ _) _)) hb)); have HF4 := Aside0.mk hF; (first | (have HG4 := Aside0.mk (blk_below HG3.out hb); obtain ⟨z0, z1, z2, z3, z4, z5, z6, z7, z8, z9⟩ := zero_cells HG4.out; obtain ⟨y0, y1, y2, y3, y4, y5, y6, y7, y8, y9⟩ := zero_frozen HG4.out) | (have HG4 := Aside0.mk (blk_below (heap_alloc_new w3 (.cells zeroC 41)) hb); obtain ⟨z0, z1, z2, z3, z4, z5, z6, z7, z8, z9⟩ := zero_cells HG4.out; obtain ⟨y0, y1, y2, y3, y4, y5, y6, y7, y8, y9⟩ := zero_frozen HG4.out) | skip)))
          all_goals
            go_wp2_with fail
            go_meet
            case rel => first
              | (refine ⟨_, H, rfl, ⟨?_⟩⟩; (with_reducible exact laid_allocX HB4.out HF4.out))
              | (refine ⟨_, H, rfl, ⟨?_⟩⟩; (with_reducible refine laid_setX HB4.out HF4.out HB2.out.size HG4.out ?_); intro h; simp at h hs3; omega)
              | (refine ⟨_, H, rfl, ⟨?_⟩⟩; (with_reducible refine laid_setX HB4.out HF4.out HB3.out.size HG4.out ?_); intro h; simp at h hs3; omega)
        case rest =>
          obtain ⟨g, H, rfl, HL⟩ := hcut
          obtain ⟨hn1, hn6, _⟩ := nOf_ok h0 h255
          obtain ⟨D, hD⟩ : ∃ D, D = famK a R G O := ⟨_, rfl⟩
          have hDo : D.opts.length = nOf a := by rw [hD]; exact famK_opts a R G O
          have hDc : chk D = 0 := by rw [hD]; exact famK_chk R G O h0 h255
          have hDr : ∀ r ∈ D.rules, LitsIn D.opts.length r.f1 := by rw [hDo, hD]; exact famK_rules R G O
          have hDs : Small D := by rw [hD]; exact famK_small R G O h0 h255
          have hDp : D.opts = optsF D.opts.length := by rw [hDo, hD]; rfl
          rw [← hD] at HL
          rw [← hDo] at hn1 hn6
          have HDc := Aside0.mk hDc
          have HDr := Aside0.mk hDr
          have HDs := Aside0.mk hDs
          clear hD hDo hDc hDr hDs
          have HKc := Aside0.mk HL.out.box
          have HFc := Aside0.mk HL.out.fam
          have HBc := Aside0.mk HL.out.low
          clear HL
          have HDp := Aside0.mk hDp
          have hOS : OptsSz D := by unfold OptsSz; rw [HDp.out]; exact optsF_sz hn6
          have hLS : ∀ x ∈ l, x.size ≤ maxLen := fun x hx => by
            obtain ⟨j, hj, rfl⟩ := List.getElem_of_mem hx
            have := HSZ.out j hj
            rw [List.getD_eq_getElem?_getD, List.getElem?_eq_getElem hj] at this
            exact Nat.le_trans this (by decide)
          have HOS := Aside0.mk hOS
          have HLS := Aside0.mk hLS
          clear hDp hOS hLS
          obtain ⟨k0, k1, k2, k3, k4, k5, k6, k7, k8, k9⟩ := box_cells HKc.out
          go_wp2_with fail
          refine (parse_calls D H A c l wc HFc.out (Kd.C_below HR.out HBc.out) HC.out (by omega) (by omega)).mono ?_
          rintro e w5 ⟨rfl, hb⟩
          have HB5 := Aside0.mk (below_step HBc.out hb)
          have HK5 := Aside0.mk (blk_below HKc.out hb)
          have HF5 := Aside0.mk (HFc.out.below hb)
          clear hb k0 k1 k2 k3 k4 k5 k6 k7 k8 k9
          obtain ⟨k0, k1, k2, k3, k4, k5, k6, k7, k8, k9⟩ := box_cells HK5.out
          go_wp2_with fail
          refine (allow_calls D H A c l w5 HF5.out HDc.out (Kd.C_below HR.out HB5.out) HC.out HOS.out HLS.out (by omega)).mono ?_
          rintro e wq ⟨rfl, hb⟩
          have HBq := Aside0.mk (below_step HB5.out hb)
          have HKq := Aside0.mk (blk_below HK5.out hb)
          have HFq := Aside0.mk (HF5.out.below hb)
          clear hb k0 k1 k2 k3 k4 k5 k6 k7 k8 k9
          obtain ⟨T, hT⟩ : ∃ T, T = rdT D.opts l := ⟨_, rfl⟩
          obtain ⟨q, hq⟩ : ∃ q, q = rdE D.opts l := ⟨_, rfl⟩
          obtain ⟨V, hV⟩ : ∃ V, V = alV D l := ⟨_, rfl⟩
          obtain ⟨bb, hbb⟩ : ∃ bb, bb = alB D l := ⟨_, rfl⟩
          rw [← hq, ← hV, ← hbb, ← hT]
          have HT := Aside0.mk hT
          have HQ := Aside0.mk hq
          have HV := Aside0.mk hV
          have HBB := Aside0.mk hbb
          clear hT hq hV hbb
          by_cases he : q = 0
          · subst he
            obtain ⟨kk, hkk, hTk, hVk⟩ := allow_brk hn6 HDr.out HQ.out.symm D.rules.length
            rw [← HV.out, ← HT.out] at hVk
            have hbv : bb = decide (V < 0) := by rw [HBB.out, HV.out]; unfold alB; rw [if_pos HQ.out.symm]
            subst hbv
            have HVK := Aside0.mk hVk
            clear hVk hTk hkk HBB HV
            have HNONE : Aside0 (∀ W, Below wq.heap.size wq W → Calls Try.prog 18 #[.agg #[.string D.nm, .slice H.A1 D.parts.length H.c1, .slice H.A2 D.insts.length H.c2, .slice H.A3 D.dims.length H.c3, .slice H.A4 D.cons.length H.c4, .slice H.A5 D.reqs.length H.c5, .slice H.A6 D.opts.length H.c6, .slice H.A7 D.rules.length H.c7, .slice H.A8 D.guards.length H.c8, .slice H.A9 D.overs.length H.c9]] W fun e w' => ∃ A cp, e = .returned (.slice A D.rules.length cp) ∧ D.rules.length ≤ cp ∧ Kd.C Kd.bool w' A D.rules.length (List.replicate D.rules.length false) ∧ Below W.heap.size W w') := ⟨fun W hW => ref_none D H W (HFq.out.below hW) HDs.out.rules⟩
            have HBRK : Aside0 (∀ W A cp (s : Int), Below wq.heap.size wq W → Kd.C Kd.bool W A D.rules.length (List.replicate D.rules.length false) → D.rules.length ≤ cp → Calls Try.prog 32 #[.agg #[.string D.nm, .slice H.A1 D.parts.length H.c1, .slice H.A2 D.insts.length H.c2, .slice H.A3 D.dims.length H.c3, .slice H.A4 D.cons.length H.c4, .slice H.A5 D.reqs.length H.c5, .slice H.A6 D.opts.length H.c6, .slice H.A7 D.rules.length H.c7, .slice H.A8 D.guards.length H.c8, .slice H.A9 D.overs.length H.c9], .slice A D.rules.length cp, .int .i64 s] W fun e w' => e = .returned (.int .i64 (brk s D.rules (List.replicate D.rules.length false) 0)) ∧ Below W.heap.size W w') := ⟨fun W A cp s hW hC hc => ref_broken D H A cp s W (HFq.out.below hW) HDs.out hC hc⟩
            go_upto_region 13 with (fail)
            refine start_ (n := 6) (S := fun w' => Below wq.heap.size wq w') (ds := []) #[false, false, false, false, false, false] (by kernel_rfl) rfl rfl (below_drew (Below.refl _ _)) (fun hHeld => ?_)
            generalize wq.drew = w19 at hHeld ⊢
            refine take_ (i := 0) (N := some 68) (v := ?_) (a' := ?_) #[true, false, false, false, false, false] rfl rfl (by kernel_rfl) (fun _ _ _ h => h) (Or.inl ⟨by rfl, ?_⟩) hHeld ?_ ?_
            rotate_left
            · intro w' hS
              obtain ⟨k0, k1, k2, k3, k4, k5, k6, k7, k8, k9⟩ := box_cells (blk_below HKq.out hS)
              go_simp
              with_reducible rfl
            rotate_left
            · simp only [Act.put, List.setIfInBounds_toArray, List.set_cons_zero, List.set_cons_succ, i64_w, i32_w]
              rfl
            refine take_ (i := 1) (N := some 69) (v := ?_) (a' := ?_) #[true, true, false, false, false, false] rfl rfl (by kernel_rfl) (fun _ _ _ h => h) (Or.inl ⟨by rfl, ?_⟩) hHeld ?_ ?_
            rotate_left
            · intro w' hS
              obtain ⟨k0, k1, k2, k3, k4, k5, k6, k7, k8, k9⟩ := box_cells (blk_below HKq.out hS)
              go_simp
              with_reducible rfl
            rotate_left
            · simp only [Act.put, List.setIfInBounds_toArray, List.set_cons_zero, List.set_cons_succ, i64_w, i32_w]
              rfl
            refine pure_ (i := 3) (N := some 71) (v := ?_) (a' := ?_) #[true, true, false, true, false, false] rfl rfl (by kernel_rfl) (fun _ _ _ h => h) (Or.inl ⟨by rfl, ?_⟩) ?_ ?_
            rotate_left
            · intro w'
              go_simp
              with_reducible rfl
            rotate_left
            · simp only [Act.put, List.setIfInBounds_toArray, List.set_cons_zero, List.set_cons_succ, i64_w, i32_w]
              rfl
            refine one_ (i := 2) (N := some 70) #[true, true, true, true, false, false] rfl rfl (by kernel_rfl) (by decide) (fun K hK => ?_)
            refine goes_ Try.func18 (by kernel_rfl) rfl #[.agg #[.string D.nm, .slice H.A1 D.parts.length H.c1, .slice H.A2 D.insts.length H.c2, .slice H.A3 D.dims.length H.c3, .slice H.A4 D.cons.length H.c4, .slice H.A5 D.reqs.length H.c5, .slice H.A6 D.opts.length H.c6, .slice H.A7 D.rules.length H.c7, .slice H.A8 D.guards.length H.c8, .slice H.A9 D.overs.length H.c9]] (by rfl) rfl rfl (by (try simp only [List.map_toArray, List.map_cons, List.map_nil]); first | done | rfl) ?_
            refine (HNONE.out w19 hHeld).mono ?_
            rintro e wx1 ⟨A1, c1, rfl, hc1, hC1, hb1⟩
            refine ⟨_, rfl, ?_⟩
            have HX1 := Aside0.mk hC1
            have HY1 := Aside0.mk hc1
            clear hC1 hc1
            have hS1 := below_step hHeld hb1
            refine hK.out _ _ hS1 (fun hH1 => ?_)
            clear hK K hb1
            refine norm_ (a' := ?_) ?_ ?_
            rotate_left
            · show Act.put _ (some 70) _ = _
              simp only [Act.put, List.setIfInBounds_toArray, List.set_cons_zero, List.set_cons_succ, i64_w, i32_w]
              rfl
            refine one_ (i := 4) (N := some 72) #[true, true, true, true, true, false] rfl rfl (by kernel_rfl) (by decide) (fun K hK => ?_)
            refine goes_ Try.func32 (by kernel_rfl) rfl #[.agg #[.string D.nm, .slice H.A1 D.parts.length H.c1, .slice H.A2 D.insts.length H.c2, .slice H.A3 D.dims.length H.c3, .slice H.A4 D.cons.length H.c4, .slice H.A5 D.reqs.length H.c5, .slice H.A6 D.opts.length H.c6, .slice H.A7 D.rules.length H.c7, .slice H.A8 D.guards.length H.c8, .slice H.A9 D.overs.length H.c9], .slice A1 D.rules.length c1, .int .i64 (T : Int)] (by rfl) rfl rfl (by (try simp only [List.map_toArray, List.map_cons, List.map_nil]); first | done | rfl) ?_
            refine (HBRK.out wx1 A1 c1 (T : Int) hH1 HX1.out HY1.out).mono ?_
            rintro e wx2 ⟨rfl, hb2⟩
            rw [← HVK.out]
            refine ⟨_, rfl, ?_⟩
            have hS2 := below_step hH1 hb2
            refine hK.out _ _ hS2 (fun hH2 => ?_)
            clear hK K hb2
            refine norm_ (a' := ?_) ?_ ?_
            rotate_left
            · show Act.put _ (some 72) _ = _
              simp only [Act.put, List.setIfInBounds_toArray, List.set_cons_zero, List.set_cons_succ, i64_w, i32_w]
              rfl
            refine pure_ (i := 5) (N := some 12) (v := ?_) (a' := ?_) #[true, true, true, true, true, true] rfl rfl (by kernel_rfl) (fun _ _ _ h => h) (Or.inl ⟨by rfl, ?_⟩) ?_ ?_
            rotate_left
            · intro w'
              go_simp
              with_reducible rfl
            rotate_left
            · simp only [Act.put, List.setIfInBounds_toArray, List.set_cons_zero, List.set_cons_succ, i64_w, i32_w]
              rfl
            refine done_ (by kernel_rfl) ?_
            have HBx := Aside0.mk hH2
            obtain ⟨k0, k1, k2, k3, k4, k5, k6, k7, k8, k9⟩ := box_cells (blk_below HKq.out HBx.out)
            go_wp2_with fail
            refine (ref_sets D.opts.length wx2 hn1 hn6).mono ?_
            rintro e w7 ⟨As, cs, rfl, hcs, hCs, hb⟩
            have HB7 := Aside0.mk (below_step HBx.out hb)
            have HCS := Aside0.mk hCs
            have hsl := setsL_length D.opts.length
            obtain ⟨SL, hSL⟩ : ∃ s, s = setsL D.opts.length := ⟨_, rfl⟩
            rw [← hSL] at HCS hcs hsl ⊢
            have HSL := Aside0.mk hSL
            have h64 : 2 ^ D.opts.length ≤ 2 ^ 6 := Nat.pow_le_pow_right (by decide) hn6
            have hs64 : SL.length ≤ 64 := by omega
            have HSLN := Aside0.mk hsl
            clear hb hCs hcs hSL hsl h64 k0 k1 k2 k3 k4 k5 k6 k7 k8 k9
            go_wp2_with fail
            go_loopg [14] SL.length (fun gk v14 w' => ∃ i : Nat, v14 = .int .i64 (i : Int) ∧ Aside0 (i ≤ SL.length) ∧ Aside0 (SL.length - i ≤ gk) ∧ Aside0 (Below w7.heap.size w7 w'))
            case atStart => exact ⟨0, rfl, ⟨Nat.zero_le _⟩, ⟨Nat.sub_le _ _⟩, ⟨Below.refl _ _⟩⟩
            case round =>
              obtain ⟨i, rfl, HI, HGI, HBi⟩ := hrel
              by_cases hi : i < SL.length
              · have q0 : decide ((i : Int) < (SL.length : Int)) = true := by simpa using hi
                have q1 : decide (i < SL.length) = true := by simpa using hi
                have p0 : 0 ≤ (i : Int) := by omega
                have p1 : (i : Int) < (SL.length : Int) := by omega
                obtain ⟨ad, hA, hx⟩ := Kd.at_int (Kd.C_below HCS.out HBi.out) (i : Int) p0 p1
                rw [Int.toNat_natCast] at hx
                subst hA
                obtain ⟨k, hk, hrd⟩ := rd_sets (n := D.opts.length) (i := i) (by have := HSLN.out; omega)
                rw [← HSL.out] at hrd
                obtain ⟨sv, hsv⟩ : ∃ s : Int, s = rd SL (i : Int) := ⟨_, rfl⟩
                rw [← hsv] at hx hrd
                have HCI := Aside0.mk hx
                obtain ⟨NL, hNL⟩ : ∃ n, n = cnames (cfg D.opts.length k) D.opts := ⟨_, rfl⟩
                have hbrk : alV D NL = brk sv D.rules (List.replicate D.rules.length false) 0 := by
                  have h := names_E hn6 hk
                  rw [← HDp.out, ← hNL] at h
                  unfold alV
                  rw [if_pos h.1, h.2, hrd, brk_idx hn6 hk _ _ HDr.out]
                have hE0 : rdE D.opts NL = 0 := by
                  have h := names_E hn6 hk
                  rw [← HDp.out, ← hNL] at h
                  exact h.1
                have hnin : ∀ x ∈ NL, x.size ≤ maxLen := fun x hx => HOS.out x (cn_in _ _ _ (Nat.le_refl _) x (by rw [hNL] at hx; exact hx))
                have hnl : NL.length ≤ 100 := by rw [hNL]; have := cn_length (cfg D.opts.length k) D.opts D.opts.length; unfold cnames; omega
                obtain ⟨V2, hV2⟩ : ∃ v, v = alV D NL := ⟨_, rfl⟩
                have hB2 : alB D NL = decide (V2 < 0) := by unfold alB; rw [if_pos hE0, hV2]
                have HUP : Aside0 (∀ W, Below wr.heap.size wr W → Below wq.heap.size wq W) := ⟨fun W hW => below_step (below_step HB7.out HBi.out) hW⟩
                have HNAM : Aside0 (∀ W, Below wq.heap.size wq W → Calls Try.prog 20 #[.agg #[.string D.nm, .slice H.A1 D.parts.length H.c1, .slice H.A2 D.insts.length H.c2, .slice H.A3 D.dims.length H.c3, .slice H.A4 D.cons.length H.c4, .slice H.A5 D.reqs.length H.c5, .slice H.A6 D.opts.length H.c6, .slice H.A7 D.rules.length H.c7, .slice H.A8 D.guards.length H.c8, .slice H.A9 D.overs.length H.c9], .int .i64 sv] W fun e w' => ∃ A cp, e = .returned (.slice A NL.length cp) ∧ NL.length ≤ cp ∧ Kd.C Kd.string w' A NL.length NL ∧ Below W.heap.size W w') := ⟨fun W hW => by
                  have h := ref_names D H k W (HFq.out.below hW) hn6 hk
                  rw [← hNL, ← hrd] at h
                  exact h⟩
                have HALL : Aside0 (∀ W A cp, Below wq.heap.size wq W → Kd.C Kd.string W A NL.length NL → NL.length ≤ cp → Calls Try.prog 31 #[.agg #[.string D.nm, .slice H.A1 D.parts.length H.c1, .slice H.A2 D.insts.length H.c2, .slice H.A3 D.dims.length H.c3, .slice H.A4 D.cons.length H.c4, .slice H.A5 D.reqs.length H.c5, .slice H.A6 D.opts.length H.c6, .slice H.A7 D.rules.length H.c7, .slice H.A8 D.guards.length H.c8, .slice H.A9 D.overs.length H.c9], .slice A NL.length cp] W fun e w' => e = .returned (.tuple #[.bool (decide (V2 < 0)), .int .i64 V2, .int .i64 0]) ∧ Below W.heap.size W w') := ⟨fun W A cp hW hC hc => by
                  have h := allow_calls D H A cp NL W (HFq.out.below hW) HDc.out hC hc HOS.out hnin hnl
                  rw [hB2, ← hV2, hE0] at h
                  exact h⟩
                have HBV : Aside0 (brk sv D.rules (List.replicate D.rules.length false) 0 = V2) := ⟨by rw [hV2, hbrk]⟩
                clear hbrk hE0 hnin hnl hV2 hB2 hNL hrd hsv hk hx
                go_upto_region 20 with (fail)
                refine start_ (n := 9) (S := fun w' => Below wr.heap.size wr w') (ds := []) #[false, false, false, false, false, false, false, false, false] (by kernel_rfl) rfl rfl (below_drew (Below.refl _ _)) (fun hHeld => ?_)
                generalize wr.drew = w19 at hHeld ⊢
                refine take_ (i := 0) (N := some 96) (v := ?_) (a' := ?_) #[true, false, false, false, false, false, false, false, false] rfl rfl (by kernel_rfl) (fun _ _ _ h => h) (Or.inl ⟨by rfl, ?_⟩) hHeld ?_ ?_
                rotate_left
                · intro w' hS
                  obtain ⟨k0, k1, k2, k3, k4, k5, k6, k7, k8, k9⟩ := box_cells (blk_below HKq.out (HUP.out _ hS))
                  go_simp
                  with_reducible rfl
                rotate_left
                · simp only [Act.put, List.setIfInBounds_toArray, List.set_cons_zero, List.set_cons_succ, i64_w, i32_w]
                  rfl
                refine take_ (i := 1) (N := some 97) (v := ?_) (a' := ?_) #[true, true, false, false, false, false, false, false, false] rfl rfl (by kernel_rfl) (fun _ _ _ h => h) (Or.inl ⟨by rfl, ?_⟩) hHeld ?_ ?_
                rotate_left
                · intro w' hS
                  obtain ⟨k0, k1, k2, k3, k4, k5, k6, k7, k8, k9⟩ := box_cells (blk_below HKq.out (HUP.out _ hS))
                  go_simp
                  with_reducible rfl
                rotate_left
                · simp only [Act.put, List.setIfInBounds_toArray, List.set_cons_zero, List.set_cons_succ, i64_w, i32_w]
                  rfl
                refine pure_ (i := 3) (N := some 99) (v := ?_) (a' := ?_) #[true, true, false, true, false, false, false, false, false] rfl rfl (by kernel_rfl) (fun _ _ _ h => h) (Or.inl ⟨by rfl, ?_⟩) ?_ ?_
                rotate_left
                · intro w'
                  go_simp
                  with_reducible rfl
                rotate_left
                · simp only [Act.put, List.setIfInBounds_toArray, List.set_cons_zero, List.set_cons_succ, i64_w, i32_w]
                  rfl
                refine pure_ (i := 4) (N := some 100) (v := ?_) (a' := ?_) #[true, true, false, true, true, false, false, false, false] rfl rfl (by kernel_rfl) (fun _ _ _ h => h) (Or.inl ⟨by rfl, ?_⟩) ?_ ?_
                rotate_left
                · intro w'
                  go_simp
                  with_reducible rfl
                rotate_left
                · simp only [Act.put, List.setIfInBounds_toArray, List.set_cons_zero, List.set_cons_succ, i64_w, i32_w]
                  rfl
                refine pure_ (i := 5) (N := some 101) (v := ?_) (a' := ?_) #[true, true, false, true, true, true, false, false, false] rfl rfl (by kernel_rfl) (fun _ _ _ h => h) (Or.inl ⟨by rfl, ?_⟩) ?_ ?_
                rotate_left
                · intro w'
                  go_simp
                  with_reducible rfl
                rotate_left
                · simp only [Act.put, List.setIfInBounds_toArray, List.set_cons_zero, List.set_cons_succ, i64_w, i32_w]
                  rfl
                refine take_ (i := 6) (N := some 102) (v := ?_) (a' := ?_) #[true, true, false, true, true, true, true, false, false] rfl rfl (by kernel_rfl) (fun _ _ _ h => h) (Or.inl ⟨by rfl, ?_⟩) hHeld ?_ ?_
                rotate_left
                · intro w' hS
                  have hx := cell_keep hS HCI.out
                  go_simp
                  with_reducible rfl
                rotate_left
                · simp only [Act.put, List.setIfInBounds_toArray, List.set_cons_zero, List.set_cons_succ, i64_w, i32_w]
                  rfl
                refine one_ (i := 2) (N := some 98) #[true, true, true, true, true, true, true, false, false] rfl rfl (by kernel_rfl) (by decide) (fun K hK => ?_)
                refine goes_ Try.func18 (by kernel_rfl) rfl #[.agg #[.string D.nm, .slice H.A1 D.parts.length H.c1, .slice H.A2 D.insts.length H.c2, .slice H.A3 D.dims.length H.c3, .slice H.A4 D.cons.length H.c4, .slice H.A5 D.reqs.length H.c5, .slice H.A6 D.opts.length H.c6, .slice H.A7 D.rules.length H.c7, .slice H.A8 D.guards.length H.c8, .slice H.A9 D.overs.length H.c9]] (by rfl) rfl rfl (by (try simp only [List.map_toArray, List.map_cons, List.map_nil]); first | done | rfl) ?_
                refine (HNONE.out w19 (HUP.out _ hHeld)).mono ?_
                rintro e wx1 ⟨A1, c1, rfl, hc1, hC1, hb1⟩
                refine ⟨_, rfl, ?_⟩
                have HX1 := Aside0.mk hC1
                have HY1 := Aside0.mk hc1
                clear hC1 hc1
                have hS1 := below_step hHeld hb1
                refine hK.out _ _ hS1 (fun hH1 => ?_)
                clear hK K hb1
                refine norm_ (a' := ?_) ?_ ?_
                rotate_left
                · show Act.put _ (some 98) _ = _
                  simp only [Act.put, List.setIfInBounds_toArray, List.set_cons_zero, List.set_cons_succ, i64_w, i32_w]
                  rfl
                refine one_ (i := 7) (N := some 103) #[true, true, true, true, true, true, true, true, false] rfl rfl (by kernel_rfl) (by decide) (fun K hK => ?_)
                refine goes_ Try.func32 (by kernel_rfl) rfl #[.agg #[.string D.nm, .slice H.A1 D.parts.length H.c1, .slice H.A2 D.insts.length H.c2, .slice H.A3 D.dims.length H.c3, .slice H.A4 D.cons.length H.c4, .slice H.A5 D.reqs.length H.c5, .slice H.A6 D.opts.length H.c6, .slice H.A7 D.rules.length H.c7, .slice H.A8 D.guards.length H.c8, .slice H.A9 D.overs.length H.c9], .slice A1 D.rules.length c1, .int .i64 sv] (by rfl) rfl rfl (by (try simp only [List.map_toArray, List.map_cons, List.map_nil]); first | done | rfl) ?_
                refine (HBRK.out wx1 A1 c1 sv (HUP.out _ hH1) HX1.out HY1.out).mono ?_
                rintro e wx2 ⟨rfl, hb2⟩
                rw [HBV.out]
                refine ⟨_, rfl, ?_⟩
                have hS2 := below_step hH1 hb2
                refine hK.out _ _ hS2 (fun hH2 => ?_)
                clear hK K hb2
                refine norm_ (a' := ?_) ?_ ?_
                rotate_left
                · show Act.put _ (some 103) _ = _
                  simp only [Act.put, List.setIfInBounds_toArray, List.set_cons_zero, List.set_cons_succ, i64_w, i32_w]
                  rfl
                refine pure_ (i := 8) (N := some 15) (v := ?_) (a' := ?_) #[true, true, true, true, true, true, true, true, true] rfl rfl (by kernel_rfl) (fun _ _ _ h => h) (Or.inl ⟨by rfl, ?_⟩) ?_ ?_
                rotate_left
                · intro w'
                  go_simp
                  with_reducible rfl
                rotate_left
                · simp only [Act.put, List.setIfInBounds_toArray, List.set_cons_zero, List.set_cons_succ, i64_w, i32_w]
                  rfl
                refine done_ (by kernel_rfl) ?_
                obtain ⟨wy, hwy⟩ : ∃ W, W = wx2 := ⟨_, rfl⟩
                rw [← hwy] at hH2 ⊢
                clear hwy
                have HBY := Aside0.mk hH2
                have HUP0 := HUP
                clear HUP
                have HUP : Aside0 (∀ W, Below wy.heap.size wy W → Below wq.heap.size wq W) := ⟨fun W hW => HUP0.out W (below_step HBY.out hW)⟩
                have HCI0 := HCI
                clear HCI
                have HCI := Aside0.mk (cell_keep HBY.out HCI0.out)
                go_upto_region 21 with (fail)
                refine start_ (n := 15) (S := fun w' => Below wy.heap.size wy w') (ds := []) #[false, false, false, false, false, false, false, false, false, false, false, false, false, false, false] (by kernel_rfl) rfl rfl (below_drew (Below.refl _ _)) (fun hHeld => ?_)
                generalize wy.drew = w19 at hHeld ⊢
                refine take_ (i := 0) (N := some 105) (v := ?_) (a' := ?_) #[true, false, false, false, false, false, false, false, false, false, false, false, false, false, false] rfl rfl (by kernel_rfl) (fun _ _ _ h => h) (Or.inl ⟨by rfl, ?_⟩) hHeld ?_ ?_
                rotate_left
                · intro w' hS
                  obtain ⟨k0, k1, k2, k3, k4, k5, k6, k7, k8, k9⟩ := box_cells (blk_below HKq.out (HUP.out _ hS))
                  go_simp
                  with_reducible rfl
                rotate_left
                · simp only [Act.put, List.setIfInBounds_toArray, List.set_cons_zero, List.set_cons_succ, i64_w, i32_w]
                  rfl
                refine take_ (i := 1) (N := some 106) (v := ?_) (a' := ?_) #[true, true, false, false, false, false, false, false, false, false, false, false, false, false, false] rfl rfl (by kernel_rfl) (fun _ _ _ h => h) (Or.inl ⟨by rfl, ?_⟩) hHeld ?_ ?_
                rotate_left
                · intro w' hS
                  obtain ⟨k0, k1, k2, k3, k4, k5, k6, k7, k8, k9⟩ := box_cells (blk_below HKq.out (HUP.out _ hS))
                  go_simp
                  with_reducible rfl
                rotate_left
                · simp only [Act.put, List.setIfInBounds_toArray, List.set_cons_zero, List.set_cons_succ, i64_w, i32_w]
                  rfl
                refine pure_ (i := 2) (N := some 107) (v := ?_) (a' := ?_) #[true, true, true, false, false, false, false, false, false, false, false, false, false, false, false] rfl rfl (by kernel_rfl) (fun _ _ _ h => h) (Or.inl ⟨by rfl, ?_⟩) ?_ ?_
                rotate_left
                · intro w'
                  go_simp
                  with_reducible rfl
                rotate_left
                · simp only [Act.put, List.setIfInBounds_toArray, List.set_cons_zero, List.set_cons_succ, i64_w, i32_w]
                  rfl
                refine pure_ (i := 3) (N := some 108) (v := ?_) (a' := ?_) #[true, true, true, true, false, false, false, false, false, false, false, false, false, false, false] rfl rfl (by kernel_rfl) (fun _ _ _ h => h) (Or.inl ⟨by rfl, ?_⟩) ?_ ?_
                rotate_left
                · intro w'
                  go_simp
                  with_reducible rfl
                rotate_left
                · simp only [Act.put, List.setIfInBounds_toArray, List.set_cons_zero, List.set_cons_succ, i64_w, i32_w]
                  rfl
                refine pure_ (i := 4) (N := some 109) (v := ?_) (a' := ?_) #[true, true, true, true, true, false, false, false, false, false, false, false, false, false, false] rfl rfl (by kernel_rfl) (fun _ _ _ h => h) (Or.inl ⟨by rfl, ?_⟩) ?_ ?_
                rotate_left
                · intro w'
                  go_simp
                  with_reducible rfl
                rotate_left
                · simp only [Act.put, List.setIfInBounds_toArray, List.set_cons_zero, List.set_cons_succ, i64_w, i32_w]
                  rfl
                refine take_ (i := 5) (N := some 110) (v := ?_) (a' := ?_) #[true, true, true, true, true, true, false, false, false, false, false, false, false, false, false] rfl rfl (by kernel_rfl) (fun _ _ _ h => h) (Or.inl ⟨by rfl, ?_⟩) hHeld ?_ ?_
                rotate_left
                · intro w' hS
                  have hx := cell_keep hS HCI.out
                  go_simp
                  with_reducible rfl
                rotate_left
                · simp only [Act.put, List.setIfInBounds_toArray, List.set_cons_zero, List.set_cons_succ, i64_w, i32_w]
                  rfl
                refine one_ (i := 6) (N := some 111) #[true, true, true, true, true, true, true, false, false, false, false, false, false, false, false] rfl rfl (by kernel_rfl) (by decide) (fun K hK => ?_)
                refine goes_ Try.func20 (by kernel_rfl) rfl #[.agg #[.string D.nm, .slice H.A1 D.parts.length H.c1, .slice H.A2 D.insts.length H.c2, .slice H.A3 D.dims.length H.c3, .slice H.A4 D.cons.length H.c4, .slice H.A5 D.reqs.length H.c5, .slice H.A6 D.opts.length H.c6, .slice H.A7 D.rules.length H.c7, .slice H.A8 D.guards.length H.c8, .slice H.A9 D.overs.length H.c9], .int .i64 sv] (by rfl) rfl rfl (by (try simp only [List.map_toArray, List.map_cons, List.map_nil]); first | done | rfl) ?_
                refine (HNAM.out w19 (HUP.out _ hHeld)).mono ?_
                rintro e wx1 ⟨A1, c1, rfl, hc1, hC1, hb1⟩
                refine ⟨_, rfl, ?_⟩
                have HX1 := Aside0.mk hC1
                have HY1 := Aside0.mk hc1
                clear hC1 hc1
                have hS1 := below_step hHeld hb1
                refine hK.out _ _ hS1 (fun hH1 => ?_)
                clear hK K hb1
                refine norm_ (a' := ?_) ?_ ?_
                rotate_left
                · show Act.put _ (some 111) _ = _
                  simp only [Act.put, List.setIfInBounds_toArray, List.set_cons_zero, List.set_cons_succ, i64_w, i32_w]
                  rfl
                refine one_ (i := 7) (N := some 112) #[true, true, true, true, true, true, true, true, false, false, false, false, false, false, false] rfl rfl (by kernel_rfl) (by decide) (fun K hK => ?_)
                refine goes_ Try.func31 (by kernel_rfl) rfl #[.agg #[.string D.nm, .slice H.A1 D.parts.length H.c1, .slice H.A2 D.insts.length H.c2, .slice H.A3 D.dims.length H.c3, .slice H.A4 D.cons.length H.c4, .slice H.A5 D.reqs.length H.c5, .slice H.A6 D.opts.length H.c6, .slice H.A7 D.rules.length H.c7, .slice H.A8 D.guards.length H.c8, .slice H.A9 D.overs.length H.c9], .slice A1 NL.length c1] (by rfl) rfl rfl (by (try simp only [List.map_toArray, List.map_cons, List.map_nil]); first | done | rfl) ?_
                refine (HALL.out wx1 A1 c1 (HUP.out _ hH1) HX1.out HY1.out).mono ?_
                rintro e wx2 ⟨rfl, hb2⟩
                refine ⟨_, rfl, ?_⟩
                have hS2 := below_step hH1 hb2
                refine hK.out _ _ hS2 (fun hH2 => ?_)
                clear hK K hb2
                refine norm_ (a' := ?_) ?_ ?_
                rotate_left
                · show Act.put _ (some 112) _ = _
                  simp only [Act.put, List.setIfInBounds_toArray, List.set_cons_zero, List.set_cons_succ, i64_w, i32_w]
                  rfl
                refine pure_ (i := 8) (N := some 104) (v := ?_) (a' := ?_) #[true, true, true, true, true, true, true, true, true, false, false, false, false, false, false] rfl rfl (by kernel_rfl) (fun _ _ _ h => h) (Or.inl ⟨by rfl, ?_⟩) ?_ ?_
                rotate_left
                · intro w'
                  go_simp
                  with_reducible rfl
                rotate_left
                · simp only [Act.put, List.setIfInBounds_toArray, List.set_cons_zero, List.set_cons_succ, i64_w, i32_w]
                  rfl
                refine pure_ (i := 9) (N := some 113) (v := ?_) (a' := ?_) #[true, true, true, true, true, true, true, true, true, true, false, false, false, false, false] rfl rfl (by kernel_rfl) (fun _ _ _ h => h) (Or.inl ⟨by rfl, ?_⟩) ?_ ?_
                rotate_left
                · intro w'
                  go_simp
                  with_reducible rfl
                rotate_left
                · simp only [Act.put, List.setIfInBounds_toArray, List.set_cons_zero, List.set_cons_succ, i64_w, i32_w]
                  rfl
                refine pure_ (i := 10) (N := some 114) (v := ?_) (a' := ?_) #[true, true, true, true, true, true, true, true, true, true, true, false, false, false, false] rfl rfl (by kernel_rfl) (fun _ _ _ h => h) (Or.inl ⟨by rfl, ?_⟩) ?_ ?_
                rotate_left
                · intro w'
                  go_simp
                  with_reducible rfl
                rotate_left
                · simp only [Act.put, List.setIfInBounds_toArray, List.set_cons_zero, List.set_cons_succ, i64_w, i32_w]
                  rfl
                refine pure_ (i := 11) (N := some 115) (v := ?_) (a' := ?_) #[true, true, true, true, true, true, true, true, true, true, true, true, false, false, false] rfl rfl (by kernel_rfl) (fun _ _ _ h => h) (Or.inl ⟨by rfl, ?_⟩) ?_ ?_
                rotate_left
                · intro w'
                  go_simp
                  with_reducible rfl
                rotate_left
                · simp only [Act.put, List.setIfInBounds_toArray, List.set_cons_zero, List.set_cons_succ, i64_w, i32_w]
                  rfl
                refine pure_ (i := 12) (N := some 16) (v := ?_) (a' := ?_) #[true, true, true, true, true, true, true, true, true, true, true, true, true, false, false] rfl rfl (by kernel_rfl) (fun _ _ _ h => h) (Or.inl ⟨by rfl, ?_⟩) ?_ ?_
                rotate_left
                · intro w'
                  go_simp
                  with_reducible rfl
                rotate_left
                · simp only [Act.put, List.setIfInBounds_toArray, List.set_cons_zero, List.set_cons_succ, i64_w, i32_w]
                  rfl
                refine pure_ (i := 13) (N := some 17) (v := ?_) (a' := ?_) #[true, true, true, true, true, true, true, true, true, true, true, true, true, true, false] rfl rfl (by kernel_rfl) (fun _ _ _ h => h) (Or.inl ⟨by rfl, ?_⟩) ?_ ?_
                rotate_left
                · intro w'
                  go_simp
                  with_reducible rfl
                rotate_left
                · simp only [Act.put, List.setIfInBounds_toArray, List.set_cons_zero, List.set_cons_succ, i64_w, i32_w]
                  rfl
                refine pure_ (i := 14) (N := some 18) (v := ?_) (a' := ?_) #[true, true, true, true, true, true, true, true, true, true, true, true, true, true, true] rfl rfl (by kernel_rfl) (fun _ _ _ h => h) (Or.inl ⟨by rfl, ?_⟩) ?_ ?_
                rotate_left
                · intro w'
                  go_simp
                  with_reducible rfl
                rotate_left
                · simp only [Act.put, List.setIfInBounds_toArray, List.set_cons_zero, List.set_cons_succ, i64_w, i32_w]
                  rfl
                refine done_ (by kernel_rfl) ?_
                go_wp2_with fail
                go_roundg (SL.length - (i + 1))
                case measure => have := HGI.out; omega
                case rel => exact ⟨i + 1, by go_num, ⟨hi⟩, ⟨Nat.le_refl _⟩, ⟨below_step (below_step HBi.out HBY.out) hH2⟩⟩
              · have q0 : decide ((i : Int) < (SL.length : Int)) = false := by simpa using hi
                have q1 : decide (i < SL.length) = false := by simpa using hi
                go_wp2_with fail
                go_ret
                exact ⟨rfl, below_step HBq.out (below_step HB7.out HBi.out)⟩
          · have z1 : (q == 0) = false := by simpa using he
            have z2 : (q != 0) = true := by simpa using he
            have hV0 : V = 0 := by rw [HV.out]; unfold alV; rw [← HQ.out, if_neg he]
            have hB0 : bb = false := by rw [HBB.out]; unfold alB; rw [← HQ.out, if_neg he]
            subst hV0
            subst hB0
            clear he
            go_wp2_with fail
            go_ret
            exact ⟨rfl, HBq.out⟩
  · have z0 : decide (8 < (l.length : Int)) = true := by simp; omega
    have z1 : decide ((l.length : Int) > 8) = true := z0
    go_wp2_with fail
    refine (known_calls _).mono ?_
    rintro e w3 ⟨rfl, hb⟩
    go_wp2_with fail
    go_ret
    exact ⟨rfl, below_step HB2.out hb⟩
end Go.Proofs.Ytbnmdlnpfikkcaa.PX
/- The row of the law VariantAllows: for every input it returns true, and its arguments read behind the call as they read before. -/
namespace Go.Proofs.Ytbnmdlnpfikkcaa.variantAllows
open Go.ChangeShapes Go.WideShapes Go.ChangeAt Go.RowKit
set_option linter.unusedVariables false
theorem own : ownKnob Try.prog.godebug = none := by kernel_rfl
theorem laidOut : laidOutB Try.prog = true := by kernel_rfl
set_option maxRecDepth 100000 in
theorem lifted (os : Os) (started : os.Started) (H : Type) (enc : TypeId × Value → H) :
    ReturnsInHanded {} Try.checked os 9 .any (Rows.variantAllowsSpec.pre6 enc Try.prog Try.f9 Rows.variantAllowsRow.domain false) (Rows.variantAllowsSpec.post enc Try.prog Try.f9 false true false false) := by
  refine returnsInHanded_of_change_sized (C := Try.checked) own started (by kernel_rfl) Try.func9
    (ChangeSpec.witness6 (enc := enc) (C := Try.checked) false ⟨#[], #[.agg #[.int .u8 0, .slice none 0 0, .slice none 0 0, .slice none 0 0], .slice none 0 0], []⟩ 8 (by kernel_rfl) (by kernel_rfl) (by kernel_rfl) (by kernel_rfl)) ?_
  intro W base args ds gs before hval0 hW hcnd hsz0 _
  have hval : ∀ (j : Nat) t v, Try.f9.params[j]? = some t → args[j]? = some v → Value.okWide Try.prog W .any base t v := hval0
  have hW' := hW
  obtain ⟨p, q, hA0, hV, rfl, hfz, hnd⟩ := hW
  have hA : DataW.TrodAll enc Try.prog W 0 (fun _ => true) true Try.f9.params.toList args.toList ds p := hA0
  rw [Try.params9] at hA hval
  obtain ⟨v0, vs0, d0, ds0, p0, q0, hargs, rfl, rfl, h0, r0⟩ := trodAll_cons hA
  obtain ⟨v1, vs1, d1, ds1, p1, q1, rfl, rfl, rfl, h1, r1⟩ := trodAll_cons r0
  obtain ⟨rfl, rfl, rfl⟩ := trodAll_nil r1
  obtain rfl : args = #[v0, v1] := by cases args; simp_all
  obtain ⟨rfl, rfl⟩ := trodVars_none hV
  have k0 := h0
  have lt0 : ∀ x ∈ p0, x.block < W.heap.size := by obtain ⟨m, hm⟩ := k0; exact DataW.trod_lt m _ _ _ hm
  obtain ⟨a, R, G, O, B1, B2, B3, e1, e2, e3, rfl, g0, g1, hk⟩ := PX.kin_open (hval 0 24 v0 rfl rfl) h0
  have k1 := h1
  have lt1 : ∀ x ∈ p1, x.block < W.heap.size := by obtain ⟨m, hm⟩ := k1; exact DataW.trod_lt m _ _ _ hm
  obtain ⟨a1, len1, cap1, rfl⟩ := okWide_slice Try.underlying36 (hval 1 36 v1 rfl rfl)
  obtain ⟨m1, hm1⟩ := h1
  obtain ⟨A1, ch1, c1, hv1, hl1, hc1⟩ := PX.strs_open hm1
  injection hv1 with ea1 el1 ec1
  subst ea1; subst el1; subst ec1
  clear hA0 hval0 hsz0
  refine (PX.law9 a R G O B1 B2 B3 e1 e2 e3 a1 cap1 ch1 W g0 g1 hk hc1 hl1).mono fun e W' ⟨he, bel⟩ => ?_
  subst he
  exact ⟨_, rfl, _, _, _, [], _, [], hW', trodAll_mk1 (shut_bool Try.underlying4 _), (trodAll_cons_mk (Below.trod laidOut (by kernel_rfl) (of_decide_eq_true (by kernel_rfl)) k0 bel lt0) (trodAll_cons_mk (Below.trod laidOut (by kernel_rfl) (of_decide_eq_true (by kernel_rfl)) k1 bel lt1) trodAll_mk0)), rfl, bel.frame _, fun h => by cases h⟩
theorem over : Rows.variantAllowsRow.holds Try.pinned (OpenSpec.ofChange Rows.variantAllowsSpec) :=
  OpenClaim.holds_of_wide 9 Try.f9 rfl rfl rfl rfl rfl rfl rfl ⟨rfl, rfl, rfl, rfl, rfl⟩ rfl rfl rfl rfl rfl (by kernel_rfl) Try.func9 (by kernel_rfl)
    (of_decide_eq_true (by kernel_rfl)) (by unfold Func.isWrapper; first | (rw [if_pos (by decide +kernel)]; kernel_rfl) | (rw [if_neg (by decide +kernel)]; exact ⟨rfl, rfl⟩))
    (fun os started H enc _ => lifted os started H enc)
theorem proved : Rows.VariantAllowsSaid := over
#print axioms proved
end Go.Proofs.Ytbnmdlnpfikkcaa.variantAllows
namespace Go.Proofs.Ytbnmdlnpfikkcaa
theorem variantAllows_holds : Rows.VariantAllowsSaid := variantAllows.proved
end Go.Proofs.Ytbnmdlnpfikkcaa
