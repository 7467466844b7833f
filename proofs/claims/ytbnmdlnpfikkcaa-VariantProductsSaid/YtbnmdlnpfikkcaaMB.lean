/- The program's reads, uses and comparisons of products' parts: what they return. -/
import Derived.Test.YtbnmdlnpfikkcaaMA
import Derived.Test.YtbnmdlnpfikkcaaM4
import Derived.Deep.RegionWith
import Derived.Test.YtbnmdlnpfikkcaaM3
import Derived.Maps.OwnSet
import Derived.Test.YtbnmdlnpfikkcaaM5
import Derived.Test.YtbnmdlnpfikkcaaM1
import Derived.Test.YtbnmdlnpfikkcaaK0
import Derived.ChangeKeysEq
/- What all laws' walks want: a description in a world; the reference's functions by their contracts. -/
namespace Go.Proofs.Ytbnmdlnpfikkcaa.PX
open Go.RowKit Go.Proofs.YtbnmdlnpfikkcaaW.PrintWords Go.Proofs.YtbnmdlnpfikkcaaW.PrintLast Go.Proofs.YtbnmdlnpfikkcaaW.PrintMore
set_option linter.unusedVariables false
set_option linter.unusedSimpArgs false
/-- A description, in a world. -/
structure KinAt (w : World) (R G O : List (List Int)) (B1 B2 B3 : Option Addr) (d1 d2 d3 : Nat) : Prop where
  r1 : Kd.C (Kd.slice 95 (Kd.int .i8)) w B1 R.length R
  l1 : R.length ≤ d1
  r2 : Kd.C (Kd.slice 95 (Kd.int .i8)) w B2 G.length G
  l2 : G.length ≤ d2
  r3 : Kd.C (Kd.slice 95 (Kd.int .i8)) w B3 O.length O
  l3 : O.length ≤ d3
  a1 : All8 R
  a2 : All8 G
  a3 : All8 O
theorem KinAt.below {w w1 : World} {R G O : List (List Int)} {B1 B2 B3 : Option Addr} {d1 d2 d3 : Nat} (h : KinAt w R G O B1 B2 B3 d1 d2 d3) (hb : Below w.heap.size w w1) : KinAt w1 R G O B1 B2 B3 d1 d2 d3 :=
  ⟨Kd.C_below h.r1 hb, h.l1, Kd.C_below h.r2 hb, h.l2, Kd.C_below h.r3 hb, h.l3, h.a1, h.a2, h.a3⟩
def kinV (a : Int) (R G O : List (List Int)) (B1 B2 B3 : Option Addr) (d1 d2 d3 : Nat) : Value := .agg #[.int .u8 a, .slice B1 R.length d1, .slice B2 G.length d2, .slice B3 O.length d3]
def kinC (a : Int) (R G O : List (List Int)) (B1 B2 B3 : Option Addr) (d1 d2 d3 : Nat) : Array Value := #[.int .u8 a, .slice B1 R.length d1, .slice B2 G.length d2, .slice B3 O.length d3]
theorem kin_cells {w : World} {g : Nat} {a : Int} {R G O : List (List Int)} {B1 B2 B3 : Option Addr} {d1 d2 d3 : Nat} (h : w.heap[g]? = some (.cells (kinC a R G O B1 B2 B3 d1 d2 d3) 24 (0, 0))) :
    w.cell? ⟨g, 0, none⟩ = some (.int .u8 a) ∧ w.cell? ⟨g, 1, none⟩ = some (.slice B1 R.length d1) ∧ w.cell? ⟨g, 2, none⟩ = some (.slice B2 G.length d2) ∧ w.cell? ⟨g, 3, none⟩ = some (.slice B3 O.length d3) :=
  ⟨(blk_cell h 0).trans rfl, (blk_cell h 1).trans rfl, (blk_cell h 2).trans rfl, (blk_cell h 3).trans rfl⟩
theorem ref_none (D : Fam) (H : Hd) (w : World) (h : FamAt w D H) (hl : D.rules.length < 50) :
    Calls Try.prog 18 #[fv D H] w fun e w' => ∃ A cp, e = .returned (.slice A D.rules.length cp) ∧ D.rules.length ≤ cp ∧ Kd.C Kd.bool w' A D.rules.length (List.replicate D.rules.length false) ∧ Below w.heap.size w w' :=
  (dowellaw48_none.calls D.nm H.A1 H.c1 D.parts H.A2 H.c2 D.insts H.A3 H.c3 D.dims H.A4 H.c4 D.cons H.A5 H.c5 D.reqs H.A6 H.c6 D.opts H.A7 H.c7 D.rules H.A8 H.c8 D.guards H.A9 H.c9 D.overs (List.replicate D.rules.length false) w h.r1 h.l1 h.r2 h.l2 h.r3 h.l3 h.r4 h.l4 h.r5 h.l5 h.r6 h.l6 h.r7 h.l7 h.r8 h.l8 h.r9 h.l9
    (by unfold dowellaw48_none.f; rw [if_pos (by omega), if_pos (by omega), Int.toNat_natCast])).mono fun e w' ⟨v, he, hR, hb⟩ => by
      obtain ⟨A, cp, hv, hc, hC⟩ := Kd.R_reads hR
      subst hv
      rw [List.length_replicate] at he hc hC
      exact ⟨A, cp, he, hc, hC, hb⟩
theorem ref_names (D : Fam) (H : Hd) (k : Nat) (w : World) (h : FamAt w D H) (h6 : D.opts.length ≤ 6) (hk : k < 2 ^ D.opts.length) :
    Calls Try.prog 20 #[fv D H, .int .i64 ((setOf D.opts.length k : Nat) : Int)] w fun e w' => ∃ A cp, e = .returned (.slice A (cnames (cfg D.opts.length k) D.opts).length cp) ∧ (cnames (cfg D.opts.length k) D.opts).length ≤ cp ∧ Kd.C Kd.string w' A (cnames (cfg D.opts.length k) D.opts).length (cnames (cfg D.opts.length k) D.opts) ∧ Below w.heap.size w w' :=
  (dowellaw48_names.calls 4000 D.nm H.A1 H.c1 D.parts H.A2 H.c2 D.insts H.A3 H.c3 D.dims H.A4 H.c4 D.cons H.A5 H.c5 D.reqs H.A6 H.c6 D.opts H.A7 H.c7 D.rules H.A8 H.c8 D.guards H.A9 H.c9 D.overs _ (cnames (cfg D.opts.length k) D.opts) w h.r1 h.l1 h.r2 h.l2 h.r3 h.l3 h.r4 h.l4 h.r5 h.l5 h.r6 h.l6 h.r7 h.l7 h.r8 h.l8 h.r9 h.l9
    (refnames_f rfl h6 hk)).mono fun e w' ⟨v, he, hR, hb⟩ => by
      obtain ⟨A, cp, hv, hc, hC⟩ := Kd.R_reads hR
      subst hv
      exact ⟨A, cp, he, hc, hC, hb⟩
end Go.Proofs.Ytbnmdlnpfikkcaa.PX
/- read: the map of the options' places. -/
namespace Go.Proofs.Ytbnmdlnpfikkcaa.PX
open Go.RowKit Go.Maps Go.Proofs.YtbnmdlnpfikkcaaW.PrintWords Go.Proofs.YtbnmdlnpfikkcaaW.PrintLast Go.Proofs.YtbnmdlnpfikkcaaW.PrintMore
set_option linter.unusedVariables false
set_option linter.unusedSimpArgs false
theorem zero3 (w : World) : (zeroValue 3).run Try.prog w = .ok (.int .i64 0) w := by kernel_rfl
/-- The last place of a name among the first k. -/
def lastI (l : List ByteArray) (s : ByteArray) : Nat → Int
  | 0 => -1
  | k + 1 => if (l.getD k ByteArray.empty).data.toList == s.data.toList then (k : Int) else lastI l s k
theorem lastI_lt (l : List ByteArray) (s : ByteArray) : ∀ k, -1 ≤ lastI l s k ∧ lastI l s k < (k : Int)
  | 0 => by simp [lastI]
  | k + 1 => by
    have := lastI_lt l s k
    unfold lastI
    split <;> omega
/-- A map from the first k names to their places. -/
def PlaceAt (w : World) (b : Nat) (l : List ByteArray) (k : Nat) : Prop := ∃ D : DataW Unit, w.ownsMap Try.prog 9 (plainElem Try.prog 3) b k D ∧ IsMap D ∧ ∀ s, has D (skey s) = decide (0 ≤ lastI l s k) ∧ (0 ≤ lastI l s k → ∀ z, D.atKey (skey s) z = .lit (.int .i64 (lastI l s k)))
theorem place_made (w : World) (l : List ByteArray) : PlaceAt (w.alloc (.map #[] 0)) w.heap.size l 0 := ⟨.map [], World.ownsMap_made w _ _ _, ⟨[], rfl⟩, fun s => ⟨rfl, fun h => by simp [lastI] at h⟩⟩
theorem place_kept {w w' : World} {b : Nat} {l : List ByteArray} {k : Nat} (h : PlaceAt w b l k) (hb : Below w.heap.size w w') : PlaceAt w' b l k := by
  obtain ⟨D, h1, h2, h3⟩ := h
  exact ⟨D, h1.kept (row := none) ⟨hb.os, hb.tape, hb.output, hb.size, fun i hi _ => hb.block i hi⟩ (by simp), h2, h3⟩
theorem place_look {w : World} {b : Nat} {l : List ByteArray} {k : Nat} (h : PlaceAt w b l k) (s : ByteArray) (hs : s.size ≤ maxLen) :
    (Instr.lookup 141 (.map (some b)) (.string s) true).run Try.prog w = .ok (.tuple #[.int .i64 (if 0 ≤ lastI l s k then lastI l s k else 0), .bool (decide (0 ≤ lastI l s k))]) w := by
  obtain ⟨D, h1, _, h3⟩ := h
  obtain ⟨v, ps, hrun, hv⟩ := h1.look_ok keyLaw Try.underlying141 (zero3 w) (plainElem_int (H := Unit) Try.underlying3 (a := 0) (by decide)) (Go.WideMaps.keyOf_string_mk Try.underlying9 hs)
  obtain ⟨c, rfl, hc, _⟩ := plainElem_int_inv Try.underlying3 hv
  have hc1 := congrArg Prod.fst hc
  obtain ⟨h4, h5⟩ := h3 s
  rw [hrun]
  have hh : has D (.string s.data.toList) = decide (0 ≤ lastI l s k) := h4
  have key : ∀ x y : Int, (DataW.lit (.int .i64 x) : DataW Unit) = .lit (.int .i64 y) → x = y := fun x y h => by cases h; rfl
  by_cases hk : 0 ≤ lastI l s k
  · have h7 := key _ _ ((h5 hk (.lit (.int .i64 0))).symm.trans hc1)
    rw [if_pos hk, hh, ← h7]
  · have h7 : has D (skey s) = false := by rw [h4]; exact decide_eq_false hk
    have h8 := key _ _ ((atKey_of_not_has h7 (.lit (.int .i64 0))).symm.trans hc1)
    rw [if_neg hk, hh, ← h8]
theorem place_put {w : World} {b : Nat} {l : List ByteArray} {k : Nat} (h : PlaceAt w b l k) (hs : (l.getD k ByteArray.empty).size ≤ maxLen) (hn : k < maxLen) (hk : k < 1000) :
    ∃ w', (Instr.mapUpdate 141 (.map (some b)) (.string (l.getD k ByteArray.empty)) (.int .i64 (k : Int))).run Try.prog w = .ok () w' ∧ PlaceAt w' b l (k + 1) ∧ w.grownBy w' (some b) := by
  obtain ⟨D, h1, h2, h3⟩ := h
  have hwf : (Lit.int .i64 (k : Int)).wf = true := by simp [Lit.wf, IntKind.min, IntKind.max, IntKind.bits, IntKind.signed]; omega
  obtain ⟨w', hrun, hown, hg⟩ := h1.update keyLaw Try.underlying141 hn (Go.WideMaps.keyOf_string_mk Try.underlying9 hs) (plainElem_int (H := Unit) Try.underlying3 hwf)
  refine ⟨w', hrun, ⟨_, hown, ?_, fun t => ?_⟩, hg⟩
  · obtain ⟨es, rfl⟩ := h2; exact ⟨_, rfl⟩
  · obtain ⟨h4, h5⟩ := h3 t
    by_cases e : l.getD k ByteArray.empty = t
    · subst e
      have hl : lastI l (l.getD k ByteArray.empty) (k + 1) = (k : Int) := by simp only [lastI]; rw [if_pos (by simp)]
      rw [hl]
      refine ⟨?_, fun _ z => ?_⟩
      · have := has_put_same h2 (k := skey (l.getD k ByteArray.empty)) (by trivial) (.lit (.int .i64 (k : Int)))
        rw [show decide (0 ≤ (k : Int)) = true by simp]
        exact this
      · exact atKey_put_same h2 (by trivial) _ _
    · have hne : skey t ≠ skey (l.getD k ByteArray.empty) := fun he => e (skey_inj he).symm
      have hl : lastI l t (k + 1) = lastI l t k := by
        simp only [lastI]
        rw [if_neg]
        intro he
        apply hne
        unfold skey
        rw [eq_of_beq he]
      rw [hl]
      refine ⟨(has_put_other hne _).trans h4, fun h6 z => (atKey_put_other hne _ _).trans (h5 h6 z)⟩
/-- What becomes of a list of names: the first error, or the places. -/
def rdN (o l : List ByteArray) : Nat → Int × List Nat
  | 0 => (0, [])
  | i + 1 => if (rdN o l i).1 ≠ 0 then rdN o l i else
    if lastI o (l.getD i ByteArray.empty) o.length < 0 then (16, []) else
    if 0 < i ∧ leB (l.getD i ByteArray.empty) (l.getD (i - 1) ByteArray.empty) = true then (8, []) else
    (0, (rdN o l i).2 ++ [(lastI o (l.getD i ByteArray.empty) o.length).toNat])
def cfgL (a : List Nat) : Nat := a.foldl (fun c k => c ||| 2 ^ (11 - k)) 0
theorem rdN_stay (o l : List ByteArray) : ∀ d i, (rdN o l i).1 ≠ 0 → (rdN o l (i + d)).1 = (rdN o l i).1
  | 0, _, _ => rfl
  | d + 1, i, h => by
    have ih := rdN_stay o l d i h
    rw [← Nat.add_assoc]
    have e : rdN o l (i + d + 1) = rdN o l (i + d) := by
      conv => lhs; unfold rdN
      rw [if_pos (by rw [ih]; exact h)]
    rw [e, ih]
theorem cfgL_lt (a : List Nat) : cfgL a < 2 ^ 12 := by
  have key : ∀ (a : List Nat) (c : Nat), c < 2 ^ 12 → a.foldl (fun c k => c ||| 2 ^ (11 - k)) c < 2 ^ 12 := by
    intro a
    induction a with
    | nil => intro c hc; exact hc
    | cons x a ih =>
      intro c hc
      exact ih _ (Nat.or_lt_two_pow hc (Nat.pow_lt_pow_right (by decide) (by omega)))
  exact key a 0 (by decide)
theorem or_u64 {cc p : Nat} (hc : cc < 2 ^ 12) : Go.bits .or .u64 (cc : Int) (IntKind.u64.wrap (2 ^ (11 - p))) = ((cc ||| 2 ^ (11 - p) : Nat) : Int) := by
  have h1 : (2 : Nat) ^ (11 - p) < 2 ^ 12 := Nat.pow_lt_pow_right (by decide) (by omega)
  have e : IntKind.u64.wrap (2 ^ (11 - p)) = ((2 ^ (11 - p) : Nat) : Int) := by
    rw [IntKind.wrap_u64]
    have : ((2 ^ (11 - p) : Nat) : Int) = (2 : Int) ^ (11 - p) := by simp
    rw [← this]
    generalize (2 : Nat) ^ (11 - p) = m at h1
    omega
  rw [e]
  exact bits_or_u64_nat cc _ (by omega) (by omega)
theorem cfgL_snoc (a : List Nat) (p : Nat) : cfgL (a ++ [p]) = cfgL a ||| 2 ^ (11 - p) := by simp [cfgL]
/-- The error, and the configuration, of a whole list. -/
def rdE (o l : List ByteArray) : Int := (rdN o l l.length).1
def rdC (o l : List ByteArray) : Nat := if rdE o l = 0 then cfgL (rdN o l l.length).2 else 0
end Go.Proofs.Ytbnmdlnpfikkcaa.PX
/- read: what it returns. -/
namespace Go.Proofs.Ytbnmdlnpfikkcaa.PX
open Go.RowKit Go.Maps Go.Proofs.YtbnmdlnpfikkcaaW.PrintWords Go.Proofs.YtbnmdlnpfikkcaaW.PrintLast Go.Proofs.YtbnmdlnpfikkcaaW.PrintMore
set_option linter.unusedVariables false
set_option linter.unusedSimpArgs false
set_option maxHeartbeats 2000000 in
set_option maxRecDepth 100000 in
theorem read_calls (D : Fam) (H : Hd) (A : Option Addr) (c : Nat) (l : List ByteArray) (w : World) (HF : FamAt w D H) (hr : Kd.C Kd.string w A l.length l) (hc : l.length ≤ c) (h12 : D.opts.length ≤ 12) (ho : ∀ x ∈ D.opts, x.size ≤ maxLen) (hl : ∀ x ∈ l, x.size ≤ maxLen) (hll : l.length ≤ 100) :
    Calls Try.prog 68 #[fv D H, .slice A l.length c] w fun e w' => e = .returned (.tuple #[.int .u64 ((rdC D.opts l : Nat) : Int), .int .i64 (rdE D.opts l)]) ∧ Below w.heap.size w w' := by
  have hu41 := Try.underlying41
  unfold fv
  have HB0 : Aside0 (Below w.heap.size w (w.alloc (.cells (fcells D H) 41))) := ⟨below_alloc (Below.refl _ _) _⟩
  have HK0 := Aside0.mk (heap_alloc_new w (.cells (fcells D H) 41))
  have HFA := Aside0.mk HF
  have HR := Aside0.mk hr
  have HC := Aside0.mk hc
  have HOS := Aside0.mk ho
  have HLS := Aside0.mk hl
  clear HF hr hc ho hl
  have hmm := @run_makeMap Try.prog
  have HM0 := Aside0.mk (place_made (w.alloc (.cells (fcells D H) 41)) D.opts)
  have HK1 := Aside0.mk (blk_alloc HK0.out (.map #[] 0))
  have HB1 := Aside0.mk (below_alloc HB0.out (.map #[] 0))
  obtain ⟨k0, k1, k2, k3, k4, k5, k6, k7, k8, k9⟩ := box_cells HK1.out
  go_enter Try.func68, Try.ntmps68
  go_wp2_with fail
  clear hmm k0 k1 k2 k3 k4 k5 k6 k7 k8 k9
  obtain ⟨w1, hw1⟩ : ∃ w1, w1 = (w.alloc (.cells (fcells D H) 41)).alloc (.map #[] 0) := ⟨_, rfl⟩
  rw [show (w.alloc (.cells (fcells D H) 41)).heap.size = w.heap.size + 1 by simp] at HM0
  rw [← hw1] at HM0 HK1 HB1
  unfold fcells at hw1
  rw [← hw1]
  have HM1 := HM0
  clear HM0 HB0 HK0 hw1
  go_loopg [18] D.opts.length (fun gk v18 w' => ∃ k : Nat, v18 = .int .i64 (k : Int) ∧ Aside0 (k ≤ D.opts.length) ∧ Aside0 (D.opts.length - k ≤ gk) ∧ Aside0 (Below w.heap.size w w') ∧ Aside0 (PlaceAt w' (w.heap.size + 1) D.opts k))
  case atStart => exact ⟨0, rfl, ⟨Nat.zero_le _⟩, ⟨Nat.sub_le _ _⟩, HB1, HM1⟩
  case round =>
    obtain ⟨k, rfl, HL, HG, HB, HM⟩ := hrel
    by_cases hk : k < D.opts.length
    · have q0 : decide ((k : Int) < (D.opts.length : Int)) = true := by simpa using hk
      have q1 : decide (k < D.opts.length) = true := by simpa using hk
      have p0 : 0 ≤ (k : Int) := by omega
      have p1 : (k : Int) < (D.opts.length : Int) := by omega
      obtain ⟨ad, hA, hx⟩ := Kd.at_string (Kd.C_below HFA.out.r6 HB.out) (k : Int) p0 p1
      have hx' : wr.cell? (ad.add k) = some (.string (D.opts.getD k ByteArray.empty)) := by
        rw [Int.toNat_natCast] at hx
        exact hx
      clear hx
      have hsz : (D.opts.getD k ByteArray.empty).size ≤ maxLen := HOS.out _ (by rw [List.getD_eq_getElem?_getD, List.getElem?_eq_getElem hk]; exact List.getElem_mem hk)
      obtain ⟨w3, hput, hkn, hgr⟩ := place_put HM.out hsz (by unfold maxLen; omega) (by omega)
      have HKN := Aside0.mk hkn
      have HB3 := Aside0.mk (pw_below_grown HB.out (some (w.heap.size + 1)) HB.out.size hgr (fun q hq => by cases hq; omega))
      clear hkn hgr hsz
      generalize D.opts.getD k ByteArray.empty = s at hx' hput
      go_wp2_with fail
      go_roundg (D.opts.length - (k + 1))
      case measure => have := HG.out; omega
      case rel => exact ⟨k + 1, by go_num, ⟨hk⟩, ⟨Nat.le_refl _⟩, HB3, HKN⟩
    · have q0 : decide ((k : Int) < (D.opts.length : Int)) = false := by simpa using hk
      have q1 : decide (k < D.opts.length) = false := by simpa using hk
      have hkn : k = D.opts.length := by have := HL.out; omega
      rw [hkn] at HM
      clear hkn hk HL HG
      go_wp2_with fail
      clear q0 q1
      obtain ⟨w4, hw4⟩ : ∃ W, W = wr := ⟨_, rfl⟩
      rw [← hw4] at HB HM ⊢
      clear hw4
      go_loopg [29, 9] l.length (fun gk v29 v9 w' => ∃ i : Nat, v29 = .int .i64 (i : Int) ∧ v9 = .int .u64 ((cfgL (rdN D.opts l i).2 : Nat) : Int) ∧ Aside0 (i ≤ l.length) ∧ Aside0 (l.length - i ≤ gk) ∧ Aside0 ((rdN D.opts l i).1 = 0) ∧ Aside0 (Below w4.heap.size w4 w'))
      case atStart => exact ⟨0, rfl, rfl, ⟨Nat.zero_le _⟩, ⟨Nat.sub_le _ _⟩, ⟨rfl⟩, ⟨Below.refl _ _⟩⟩
      case round =>
        obtain ⟨i, rfl, rfl, HI, HGI, HZ, HB5⟩ := hrel
        obtain ⟨cc, hcc⟩ : ∃ cc, cc = cfgL (rdN D.opts l i).2 := ⟨_, rfl⟩
        rw [← hcc]
        have HCL : Aside0 (cc < 2 ^ 12) := ⟨by rw [hcc]; exact cfgL_lt _⟩
        have HCC := Aside0.mk hcc
        clear hcc
        have HBW := Aside0.mk (below_step HB.out HB5.out)
        by_cases hi : i < l.length
        · have q0 : decide ((i : Int) < (l.length : Int)) = true := by simpa using hi
          have q1 : decide (i < l.length) = true := by simpa using hi
          have p0 : 0 ≤ (i : Int) := by omega
          have p1 : (i : Int) < (l.length : Int) := by omega
          obtain ⟨ad, hA, hx⟩ := Kd.at_string (Kd.C_below HR.out HBW.out) (i : Int) p0 p1
          subst hA
          have hx' : wr.cell? (ad.add i) = some (.string (l.getD i ByteArray.empty)) := by
            rw [Int.toNat_natCast] at hx
            exact hx
          clear hx
          have hsz : (l.getD i ByteArray.empty).size ≤ maxLen := HLS.out _ (by rw [List.getD_eq_getElem?_getD, List.getElem?_eq_getElem hi]; exact List.getElem_mem hi)
          have hlook := place_look (place_kept HM.out HB5.out) (l.getD i ByteArray.empty) hsz
          have hLT := lastI_lt D.opts (l.getD i ByteArray.empty) D.opts.length
          have hE16 : lastI D.opts (l.getD i ByteArray.empty) D.opts.length < 0 → rdN D.opts l (i + 1) = (16, []) := fun h => by
            unfold rdN; rw [if_neg (by rw [HZ.out]; simp), if_pos h]
          have hE8 : ¬ lastI D.opts (l.getD i ByteArray.empty) D.opts.length < 0 → (0 < i ∧ leB (l.getD i ByteArray.empty) (l.getD (i - 1) ByteArray.empty) = true) → rdN D.opts l (i + 1) = (8, []) := fun h h2 => by
            unfold rdN; rw [if_neg (by rw [HZ.out]; simp), if_neg h, if_pos h2]
          have hOK : ¬ lastI D.opts (l.getD i ByteArray.empty) D.opts.length < 0 → ¬ (0 < i ∧ leB (l.getD i ByteArray.empty) (l.getD (i - 1) ByteArray.empty) = true) → rdN D.opts l (i + 1) = (0, (rdN D.opts l i).2 ++ [(lastI D.opts (l.getD i ByteArray.empty) D.opts.length).toNat]) := fun h h2 => by
            conv => lhs; unfold rdN
            rw [if_neg (by rw [HZ.out]; simp), if_neg h, if_neg h2]
          have hEND : ∀ e : Int, e ≠ 0 → rdN D.opts l (i + 1) = (e, []) → rdE D.opts l = e := fun e he h => by
            unfold rdE
            have := rdN_stay D.opts l (l.length - (i + 1)) (i + 1) (by rw [h]; exact he)
            rw [show i + 1 + (l.length - (i + 1)) = l.length by omega] at this
            rw [this, h]
          have HE16 := Aside0.mk hE16
          have HE8 := Aside0.mk hE8
          have HOKK := Aside0.mk hOK
          have HEND := Aside0.mk hEND
          clear hE16 hE8 hOK hEND hsz
          by_cases hP : 0 ≤ lastI D.opts (l.getD i ByteArray.empty) D.opts.length
          · rw [if_pos hP, decide_eq_true hP] at hlook
            obtain ⟨p, hp⟩ : ∃ p : Nat, lastI D.opts (l.getD i ByteArray.empty) D.opts.length = (p : Int) := ⟨(lastI D.opts (l.getD i ByteArray.empty) D.opts.length).toNat, by omega⟩
            have HP := Aside0.mk hp
            rw [hp] at hlook hLT
            have hp12 : (p : Int) < 12 := by omega
            have hpp : 0 ≤ (p : Int) := by omega
            clear hp hP hLT
            have hP0 : ¬ lastI D.opts (l.getD i ByteArray.empty) D.opts.length < 0 := by rw [HP.out]; omega
            have HNP := Aside0.mk hP0
            clear hP0
            by_cases hk : 0 < i
            · have q2 : decide (0 < (i : Int)) = true := by simpa using hk
              have q3 : decide (0 < i) = true := by simpa using hk
              obtain ⟨q, hq⟩ : ∃ q : Int, IntKind.i64.wrap ((i : Int) - 1) = q := ⟨_, rfl⟩
              have hqe : q = (i : Int) - 1 := by rw [← hq]; exact IntWalk.i64_in _ (by omega)
              have r0 : 0 ≤ q := by omega
              have r1 : q < (l.length : Int) := by omega
              obtain ⟨ad2, e2, hx2⟩ := Kd.at_string (Kd.C_below HR.out HBW.out) q r0 r1
              cases e2
              have HT : Aside0 (rdOf ByteArray.empty l q = l.getD (i - 1) ByteArray.empty) := ⟨by unfold rdOf; rw [hqe, show ((i : Int) - 1).toNat = i - 1 by omega]⟩
              rw [HT.out] at hx2
              have HKP := Aside0.mk hk
              have HQE := Aside0.mk hqe
              clear hqe hk
              obtain ⟨t, ht⟩ : ∃ t, t = l.getD (i - 1) ByteArray.empty := ⟨_, rfl⟩
              obtain ⟨s, hs⟩ : ∃ s, s = l.getD i ByteArray.empty := ⟨_, rfl⟩
              rw [← ht] at hx2
              rw [← hs] at hx' hlook
              have HTT := Aside0.mk ht
              have HSS := Aside0.mk hs
              clear ht hs
              have hbad : leB s t = true → rdE D.opts l = 8 := fun h => HEND.out 8 (by decide) (HE8.out HNP.out ⟨HKP.out, by rw [← HSS.out, ← HTT.out]; exact h⟩)
              have HBAD := Aside0.mk hbad
              clear hbad
              cases h1 : Op.bytesLess s.toList t.toList with
              | true =>
                have HZE := Aside0.mk (HBAD.out (by simp [leB, h1]))
                go_wp2_with fail
                go_ret2
                exact ⟨by rw [show rdC D.opts l = 0 by unfold rdC; rw [HZE.out]; rfl, HZE.out]; rfl, HBW.out⟩
              | false =>
                cases h2 : (s.toList == t.toList) with
                | true =>
                  have HZE := Aside0.mk (HBAD.out (by simp [leB, h2]))
                  go_wp2_with fail
                  go_ret2
                  exact ⟨by rw [show rdC D.opts l = 0 by unfold rdC; rw [HZE.out]; rfl, HZE.out]; rfl, HBW.out⟩
                | false =>
                  have HOK2 := Aside0.mk (HOKK.out HNP.out (fun h => by have := h.2; rw [← HSS.out, ← HTT.out] at this; simp [leB, h1, h2] at this))
                  go_wp2_with fail
                  rw [or_u64 HCL.out]
                  go_roundg (l.length - (i + 1))
                  case measure => have := HGI.out; omega
                  case rel => exact ⟨i + 1, by go_num, by rw [HOK2.out, cfgL_snoc, ← HCC.out, HP.out, Int.toNat_natCast], ⟨hi⟩, ⟨Nat.le_refl _⟩, ⟨by rw [HOK2.out]⟩, HB5⟩
            · have q2 : decide (0 < (i : Int)) = false := by simpa using hk
              have q3 : decide (0 < i) = false := by simpa using hk
              have HOK2 := Aside0.mk (HOKK.out HNP.out (fun h => hk h.1))
              clear hk
              generalize l.getD i ByteArray.empty = s at hx' hlook
              go_wp2_with fail
              rw [or_u64 HCL.out]
              go_roundg (l.length - (i + 1))
              case measure => have := HGI.out; omega
              case rel => exact ⟨i + 1, by go_num, by rw [HOK2.out, cfgL_snoc, ← HCC.out, HP.out, Int.toNat_natCast], ⟨hi⟩, ⟨Nat.le_refl _⟩, ⟨by rw [HOK2.out]⟩, HB5⟩
          · rw [if_neg hP, decide_eq_false hP] at hlook
            have hz := HEND.out 16 (by decide) (HE16.out (by omega))
            have HZE := Aside0.mk hz
            clear hz hP hLT
            generalize l.getD i ByteArray.empty = s at hx' hlook
            go_wp2_with fail
            go_ret2
            exact ⟨by rw [show rdC D.opts l = 0 by unfold rdC; rw [HZE.out]; rfl, HZE.out]; rfl, HBW.out⟩
        · have q0 : decide ((i : Int) < (l.length : Int)) = false := by simpa using hi
          have q1 : decide (i < l.length) = false := by simpa using hi
          have hin : i = l.length := by have := HI.out; omega
          go_wp2_with fail
          go_ret2
          have h1 := HZ.out
          have h2 := HCC.out
          rw [hin] at h1 h2
          have h3 : rdE D.opts l = 0 := h1
          exact ⟨by rw [show rdC D.opts l = cc by unfold rdC; rw [h3, h2]; rfl, h3]; rfl, HBW.out⟩
end Go.Proofs.Ytbnmdlnpfikkcaa.PX
/- configured, Allowed: what they return for a valid family. -/
namespace Go.Proofs.Ytbnmdlnpfikkcaa.PX
open Go.RowKit Go.Proofs.YtbnmdlnpfikkcaaW.PrintWords Go.Proofs.YtbnmdlnpfikkcaaW.PrintLast Go.Proofs.YtbnmdlnpfikkcaaW.PrintMore
set_option linter.unusedVariables false
set_option linter.unusedSimpArgs false
/-- The options' names are of a length that a map bears. -/
def OptsSz (D : Fam) : Prop := ∀ x ∈ D.opts, x.size ≤ maxLen
set_option maxHeartbeats 2000000 in
set_option maxRecDepth 100000 in
theorem conf_calls (D : Fam) (H : Hd) (A : Option Addr) (c : Nat) (l : List ByteArray) (w : World) (HF : FamAt w D H) (hck : chk D = 0) (hr : Kd.C Kd.string w A l.length l) (hc : l.length ≤ c) (ho : OptsSz D) (hl : ∀ x ∈ l, x.size ≤ maxLen) (hll : l.length ≤ 100) :
    Calls Try.prog 57 #[fv D H, .slice A l.length c] w fun e w' => e = .returned (.tuple #[.int .u64 ((rdC D.opts l : Nat) : Int), .int .i64 (rdE D.opts l)]) ∧ Below w.heap.size w w' := by
  have hu41 := Try.underlying41
  unfold fv
  have HB0 : Aside0 (Below w.heap.size w (w.alloc (.cells (fcells D H) 41))) := ⟨below_alloc (Below.refl _ _) _⟩
  have HK0 := Aside0.mk (heap_alloc_new w (.cells (fcells D H) 41))
  have CK := Lib.hid (fun W (hW : Below w.heap.size w W) => (check_calls D H W (HF.below hW)).mono (fun e w' h => (⟨by rw [h.1, hck], h.2⟩ : e = .returned (.int .i64 0) ∧ Below W.heap.size W w')))
  have CR := Lib.hid (fun W (hW : Below w.heap.size w W) => read_calls D H A c l W (HF.below hW) (Kd.C_below hr hW) hc (chk_ok hck).opts ho hl hll)
  clear HF hck hr hc ho hl
  unfold fcells at HB0 HK0
  go_enter Try.func57, Try.ntmps57
  go_wp2_with fail
  refine (CK.out _ HB0.out).mono ?_
  rintro e w2 ⟨rfl, hb⟩
  have HB2 := Aside0.mk (below_step HB0.out hb)
  have HK2 := Aside0.mk (blk_below HK0.out hb)
  clear hb CK HB0 HK0
  obtain ⟨k0, k1, k2, k3, k4, k5, k6, k7, k8, k9⟩ := box_cells HK2.out
  go_wp2_with fail
  refine (CR.out w2 HB2.out).mono ?_
  rintro e w3 ⟨rfl, hb⟩
  have HB3 := Aside0.mk (below_step HB2.out hb)
  go_wp2_with fail
  go_ret2
  exact ⟨rfl, HB3.out⟩
theorem rdC_lt (o l : List ByteArray) : rdC o l < 4096 := by
  unfold rdC
  split
  · exact cfgL_lt _
  · decide
end Go.Proofs.Ytbnmdlnpfikkcaa.PX
/- parse of the reference: what it returns. -/
namespace Go.Proofs.Ytbnmdlnpfikkcaa.PX
open Go.RowKit Go.Proofs.YtbnmdlnpfikkcaaW.PrintWords Go.Proofs.YtbnmdlnpfikkcaaW.PrintLast Go.Proofs.YtbnmdlnpfikkcaaW.PrintMore
set_option linter.unusedVariables false
set_option linter.unusedSimpArgs false
theorem bits_or_i64_nat (a b : Nat) (ha : a < 9223372036854775808) (hb : b < 9223372036854775808) :
    Go.bits .or .i64 (a : Int) (b : Int) = ((a ||| b : Nat) : Int) := by
  have hx : a ||| b < 2 ^ 63 := Nat.or_lt_two_pow (by omega) (by omega)
  have h1 : (BitVec.ofInt 64 (a : Int)).toNat = a := by
    rw [BitVec.ofInt_natCast, BitVec.toNat_ofNat]; exact Nat.mod_eq_of_lt (by omega)
  have h2 : (BitVec.ofInt 64 (b : Int)).toNat = b := by
    rw [BitVec.ofInt_natCast, BitVec.toNat_ofNat]; exact Nat.mod_eq_of_lt (by omega)
  show IntKind.i64.wrap ((BitVec.ofInt 64 (a : Int) ||| BitVec.ofInt 64 (b : Int)).toNat : Int) = _
  rw [BitVec.toNat_or, h1, h2, IntKind.wrap_i64]
  omega
theorem or_i64 {cc p : Nat} (hc : cc < 2 ^ 12) (hp : p < 12) : Go.bits .or .i64 (cc : Int) (wrap64 (2 ^ p)) = ((cc ||| 2 ^ p : Nat) : Int) := by
  have h1 : (2 : Nat) ^ p < 2 ^ 12 := Nat.pow_lt_pow_right (by decide) hp
  have e : wrap64 (2 ^ p) = ((2 ^ p : Nat) : Int) := by
    unfold wrap64
    have : ((2 ^ p : Nat) : Int) = (2 : Int) ^ p := by simp
    rw [← this]
    generalize (2 : Nat) ^ p = m at h1
    omega
  rw [e]
  exact bits_or_i64_nat cc _ (by omega) (by omega)
end Go.Proofs.Ytbnmdlnpfikkcaa.PX
/- Allows' law: the pure part. -/
namespace Go.Proofs.Ytbnmdlnpfikkcaa.PX
open Go.RowKit Go.Proofs.YtbnmdlnpfikkcaaW.PrintWords Go.Proofs.YtbnmdlnpfikkcaaW.PrintLast Go.Proofs.YtbnmdlnpfikkcaaW.PrintMore
set_option linter.unusedVariables false
set_option linter.unusedSimpArgs false
theorem brk_from {n k : Nat} (h6 : n ≤ 6) (hk : k < 2 ^ n) (m : Nat) : ∀ (rs : List S70) (o : List Bool) (i : Nat), (∀ r ∈ rs, LitsIn n r.f1) → (∀ x ∈ o, x = false) → brk (setOf n k : Nat) rs o i = match rs.findIdx? (fun x => !satR (cfg n k) x) with | some j => ((i + j : Nat) : Int) | none => -1
  | [], _, _, _, _ => rfl
  | r :: rs, o, i, h, ho => by
    have ih := brk_from h6 hk m rs o.tail (i + 1) (fun x hx => h x (List.mem_cons_of_mem _ hx)) (fun x hx => ho x (List.mem_of_mem_tail hx))
    have hd : o.headD false = false := by
      cases o with
      | nil => rfl
      | cons x o => exact ho x List.mem_cons_self
    have hs : r.f1.any (holdsR (setOf n k : Nat)) = satR (cfg n k) r := by
      unfold satR
      exact any_set h6 hk r.f1 (h r List.mem_cons_self)
    unfold brk
    rw [hd, hs, List.findIdx?_cons, if_neg (by decide)]
    cases hq : satR (cfg n k) r with
    | true =>
      rw [if_pos rfl, ih]
      simp only [Bool.not_true, Bool.false_eq_true, if_false]
      cases List.findIdx? (fun x => !satR (cfg n k) x) rs with
      | none => rfl
      | some j =>
        show ((i + 1 + j : Nat) : Int) = ((i + (j + 1) : Nat) : Int)
        congr 1
        omega
    | false => simp
theorem brk_idx {n k : Nat} (h6 : n ≤ 6) (hk : k < 2 ^ n) (rs : List S70) (m : Nat) (h : ∀ r ∈ rs, LitsIn n r.f1) : brk (setOf n k : Nat) rs (List.replicate m false) 0 = idxP (fun x => !satR (cfg n k) x) rs := by
  rw [brk_from h6 hk m rs _ 0 h (fun x hx => List.eq_of_mem_replicate hx)]
  unfold idxP
  cases List.findIdx? (fun x => !satR (cfg n k) x) rs with
  | none => rfl
  | some j => simp
def rdD (o l : List ByteArray) : Nat → Int × List Nat
  | 0 => (0, [])
  | i + 1 => if (rdD o l i).1 ≠ 0 then rdD o l i else
    if lastI o (l.getD i ByteArray.empty) o.length < 0 then (16, []) else
    if 0 < i ∧ leD (l.getD i ByteArray.empty) (l.getD (i - 1) ByteArray.empty) = true then (8, []) else
    (0, (rdD o l i).2 ++ [(lastI o (l.getD i ByteArray.empty) o.length).toNat])
theorem rdN_rdD (o l : List ByteArray) : ∀ i, rdN o l i = rdD o l i
  | 0 => rfl
  | i + 1 => by
    unfold rdN rdD
    rw [rdN_rdD o l i, leB_leD]
theorem read_names : ∀ n, n < 7 → ∀ k, k < 2 ^ n → (rdD (optsF n) (cnames (cfg n k) (optsF n)) (cnames (cfg n k) (optsF n)).length).1 = 0 ∧ cfgL (rdD (optsF n) (cnames (cfg n k) (optsF n)) (cnames (cfg n k) (optsF n)).length).2 = cfg n k := by decide +kernel
theorem names_E {n k : Nat} (h6 : n ≤ 6) (hk : k < 2 ^ n) : rdE (optsF n) (cnames (cfg n k) (optsF n)) = 0 ∧ rdC (optsF n) (cnames (cfg n k) (optsF n)) = cfg n k := by
  obtain ⟨h1, h2⟩ := read_names n (by omega) k hk
  rw [← rdN_rdD] at h1 h2
  have e : rdE (optsF n) (cnames (cfg n k) (optsF n)) = 0 := h1
  exact ⟨e, by unfold rdC; rw [if_pos e]; exact h2⟩
theorem optN_sz : ∀ i, i < 6 → (optN i).size ≤ 100 := by decide +kernel
theorem optsF_sz {n : Nat} (h6 : n ≤ 6) : ∀ x ∈ optsF n, x.size ≤ maxLen := by
  intro x hx
  unfold optsF at hx
  obtain ⟨i, hi, rfl⟩ := List.mem_map.1 hx
  rw [List.mem_range] at hi
  exact Nat.le_trans (optN_sz i (by omega)) (by decide)
theorem cn_in (c : Nat) (l : List ByteArray) : ∀ k, k ≤ l.length → ∀ x ∈ cn c l k, x ∈ l
  | 0, _ => by simp [cn]
  | k + 1, hk => by
    have ih := cn_in c l k (by omega)
    intro x hx
    unfold cn at hx
    split at hx
    · rcases List.mem_append.1 hx with hx | hx
      · exact ih x hx
      · rw [List.mem_singleton.1 hx]
        unfold rdS rdOf
        rw [Int.toNat_natCast, List.getD_eq_getElem?_getD, List.getElem?_eq_getElem (by omega)]
        exact List.getElem_mem _
    · exact ih x hx
theorem rd_sets {n i : Nat} (h : i < 2 ^ n) : ∃ k, k < 2 ^ n ∧ rd (setsL n) (i : Int) = ((setOf n k : Nat) : Int) := by
  have hl := setsL_length n
  have hg : rd (setsL n) (i : Int) = (setsL n)[i]'(by omega) := by
    unfold rd
    rw [Int.toNat_natCast, List.getD_eq_getElem?_getD, List.getElem?_eq_getElem (by omega)]
    rfl
  rw [hg]
  refine ⟨2 ^ n - 1 - i, by have := Nat.two_pow_pos n; omega, ?_⟩
  simp [setsL]
end Go.Proofs.Ytbnmdlnpfikkcaa.PX
/- Allows' law: the reference's calls. -/
namespace Go.Proofs.Ytbnmdlnpfikkcaa.PX
open Go.RowKit Go.Proofs.YtbnmdlnpfikkcaaW.PrintWords Go.Proofs.YtbnmdlnpfikkcaaW.PrintLast Go.Proofs.YtbnmdlnpfikkcaaW.PrintMore
set_option linter.unusedVariables false
set_option linter.unusedSimpArgs false
theorem cell_keep {w W : World} (hb : Below w.heap.size w W) {a : Addr} {v : Value} (hc : w.cell? a = some v) : W.cell? a = some v := (hb.cell (World.block_lt_of_cell? w a hc)).trans hc
theorem ref_broken (D : Fam) (H : Hd) (A : Option Addr) (c : Nat) (s : Int) (w : World) (h : FamAt w D H) (hs : Small D)
    (hr : Kd.C Kd.bool w A D.rules.length (List.replicate D.rules.length false)) (hc : D.rules.length ≤ c) :
    Calls Try.prog 32 #[fv D H, .slice A D.rules.length c, .int .i64 s] w fun e w' => e = .returned (.int .i64 (brk s D.rules (List.replicate D.rules.length false) 0)) ∧ Below w.heap.size w w' := by
  have hl : (List.replicate D.rules.length false).length = D.rules.length := List.length_replicate
  have h1 : Kd.C Kd.bool w A (List.replicate D.rules.length false).length (List.replicate D.rules.length false) := by rw [hl]; exact hr
  have := dowellaw48_broken.calls 4000 D.nm H.A1 H.c1 D.parts H.A2 H.c2 D.insts H.A3 H.c3 D.dims H.A4 H.c4 D.cons H.A5 H.c5 D.reqs H.A6 H.c6 D.opts H.A7 H.c7 D.rules H.A8 H.c8 D.guards H.A9 H.c9 D.overs A c (List.replicate D.rules.length false) s (brk s D.rules (List.replicate D.rules.length false) 0) w h.r1 h.l1 h.r2 h.l2 h.r3 h.l3 h.r4 h.l4 h.r5 h.l5 h.r6 h.l6 h.r7 h.l7 h.r8 h.l8 h.r9 h.l9 h1 (by rw [hl]; exact hc) (broken_f hs (by rw [hl]; exact Nat.le_refl _) (by decide))
  rw [hl] at this
  exact this
theorem ref_sets (n : Nat) (w : World) (h1 : 1 ≤ n) (h6 : n ≤ 6) : Calls Try.prog 33 #[.int .i64 (n : Int)] w fun e w' => ∃ A cp, e = .returned (.slice A (setsL n).length cp) ∧ (setsL n).length ≤ cp ∧ Kd.C (Kd.int .i64) w' A (setsL n).length (setsL n) ∧ Below w.heap.size w w' :=
  (dowellaw48_sets.calls 4000 n (setsL n) w (sets_f h1 h6)).mono fun e w' ⟨v, he, hR, hb⟩ => by
    obtain ⟨A, cp, hv, hc, hC⟩ := Kd.R_reads hR
    subst hv
    exact ⟨A, cp, he, hc, hC, hb⟩
end Go.Proofs.Ytbnmdlnpfikkcaa.PX
/- Used: the guards and the overrides that name an option. -/
namespace Go.Proofs.Ytbnmdlnpfikkcaa.PX
open Go.RowKit Go.Proofs.YtbnmdlnpfikkcaaW.PrintWords Go.Proofs.YtbnmdlnpfikkcaaW.PrintLast Go.Proofs.YtbnmdlnpfikkcaaW.PrintMore
set_option linter.unusedVariables false
set_option linter.unusedSimpArgs false
/-- A literal of the option stands in the list. -/
def ment (l : List S62) (o : Int) : Bool := l.any fun x => x.f0 == o
theorem enters56 : Enters Try.prog 56 := enters_of Try.func56 (by kernel_rfl) rfl
set_option maxHeartbeats 1000000 in
theorem used1 (B : Nat) (o : Int) (x : S62) (w : World) (hcell : w.cell? ⟨B, 0, none⟩ = some (.int .i64 o)) :
    Calls Try.prog 56 #[.agg #[.int .i64 x.f0, .bool x.f1], .pointer (some ⟨B, 0, none⟩)] w fun e w' => e = .returned (.bool (x.f0 == o)) ∧ Below w.heap.size w w' := by
  have hu62 := Try.underlying62
  have hB : B < w.heap.size := World.block_lt_of_cell? w _ hcell
  obtain ⟨q, b⟩ := x
  go_enter Try.func56, Try.ntmps56
  go_wp2
  go_ret
  exact ⟨rfl, below_alloc (Below.refl _ _) _⟩
set_option maxHeartbeats 1000000 in
theorem named_calls (B : Nat) (o : Int) (A : Option Addr) (c : Nat) (l : List S62) (w : World) (hcell : w.cell? ⟨B, 0, none⟩ = some (.int .i64 o)) (hr : Kd.C k62 w A l.length l) (hc : l.length ≤ c) :
    Calls Try.prog 54 #[.slice A l.length c, .pointer (some ⟨B, 0, none⟩)] w fun e w' => e = .returned (.bool (ment l o)) ∧ Below w.heap.size w w' := by
  have HC := Lib.hid (has55 56 #[.pointer (some ⟨B, 0, none⟩)] (fun x : S62 => x.f0 == o) A c l w enters56 hr hc (fun W1 x hb hx => used1 B o x W1 (pw_cell_below hb hcell)))
  clear hr
  go_enter Try.func54, Try.ntmps54
  go_wp2_with (go_at_call 55; refine HC.out.mono ?_; rintro e w2 ⟨rfl, hb⟩)
  go_ret
  exact ⟨rfl, hb⟩
theorem chk_lens {D : Fam} (h : chk D = 0) : D.guards.length ≤ 48 ∧ D.overs.length ≤ 48 := by
  unfold chk at h
  split at h
  · exact absurd h (by decide)
  · rename_i hn; omega
/-- The numbers of the first lists that name an option. -/
def useL (e : Nat → List S62) (o : Int) : Nat → List Int
  | 0 => []
  | i + 1 => if ment (e i) o then useL e o i ++ [(i : Int)] else useL e o i
theorem useL_length (e : Nat → List S62) (o : Int) : ∀ i, (useL e o i).length ≤ i
  | 0 => Nat.le_refl _
  | i + 1 => by
    have := useL_length e o i
    unfold useL
    split
    · simp; omega
    · omega
def gUse (D : Fam) (i : Nat) : List S62 := (rd_T79 D.guards (i : Int)).f1
def oUse (D : Fam) (i : Nat) : List S62 := (rd_T83 D.overs (i : Int)).f0
set_option maxHeartbeats 4000000 in
set_option maxRecDepth 100000 in
theorem used_calls (D : Fam) (H : Hd) (o : Int) (w : World) (HF : FamAt w D H) (hck : chk D = 0) (h0 : 0 ≤ o) (h1 : o < (D.opts.length : Int)) :
    Calls Try.prog 29 #[fv D H, .int .i64 o] w fun e w' => ∃ A1 c1 A2 c2 L1 L2, e = .returned (.tuple #[.slice A1 L1.length c1, .slice A2 L2.length c2, .int .i64 0]) ∧ L1 = useL (gUse D) o D.guards.length ∧ L2 = useL (oUse D) o D.overs.length ∧ L1.length ≤ c1 ∧ L2.length ≤ c2 ∧ Kd.C (Kd.int .i64) w' A1 L1.length L1 ∧ Kd.C (Kd.int .i64) w' A2 L2.length L2 ∧ Below w.heap.size w w' := by
  have hu41 := Try.underlying41
  unfold fv
  obtain ⟨w1, hw1⟩ : ∃ w1, w1 = (w.alloc (.cells (fcells D H) 41)).alloc (.cells #[.int .i64 o] 3) := ⟨_, rfl⟩
  have HB0 : Aside0 (Below w.heap.size w w1) := ⟨by rw [hw1]; exact below_alloc (below_alloc (Below.refl _ _) _) _⟩
  have HK0 : Aside0 (w1.heap[w.heap.size]? = some (.cells (fcells D H) 41 (0, 0))) := ⟨by rw [hw1]; exact blk_alloc (heap_alloc_new w (.cells (fcells D H) 41)) _⟩
  have HO0 : Aside0 (w1.heap[w.heap.size + 1]? = some (.cells #[.int .i64 o] 3 (0, 0))) := ⟨by
    have h := heap_alloc_new (w.alloc (.cells (fcells D H) 41)) (.cells #[.int .i64 o] 3)
    rw [show (w.alloc (.cells (fcells D H) 41)).heap.size = w.heap.size + 1 by simp] at h
    rw [hw1]; exact h⟩
  have CK := Lib.hid (fun W (hW : Below w.heap.size w W) => (check_calls D H W (HF.below hW)).mono (fun e w' h => (⟨by rw [h.1, hck], h.2⟩ : e = .returned (.int .i64 0) ∧ Below W.heap.size W w')))
  have HFA := Aside0.mk HF
  have q0 : decide (o < 0) = false := by simp; omega
  have q1 : decide (o ≥ (D.opts.length : Int)) = false := by simp; omega
  have q2 : decide ((D.opts.length : Int) ≤ o) = false := by simp; omega
  clear HF
  unfold fcells at hw1 HK0
  go_enter Try.func29, Try.ntmps29
  go_wp2_with fail
  rw [← hw1]
  clear hw1
  refine (CK.out w1 HB0.out).mono ?_
  rintro e w2 ⟨rfl, hb⟩
  have HB2 := Aside0.mk (below_step HB0.out hb)
  have HK2 := Aside0.mk (blk_below HK0.out hb)
  have HO2 := Aside0.mk (blk_below HO0.out hb)
  clear hb CK HB0 HK0 HO0
  obtain ⟨k0, k1, k2, k3, k4, k5, k6, k7, k8, k9⟩ := box_cells HK2.out
  have ko : w2.cell? ⟨w.heap.size + 1, 0, none⟩ = some (.int .i64 o) := (blk_cell HO2.out 0).trans rfl
  go_wp2_with fail
  have hck2 : D.guards.length ≤ 48 ∧ D.overs.length ≤ 48 := chk_lens hck
  have HL48 := Aside0.mk hck2
  clear hck hck2 k0 k1 k2 k3 k4 k5 k6 k7 k8 k9 ko q0 q1 q2 h0 h1
  go_loopg [33, 9] D.guards.length (fun gk v33 v9 w' => ∃ i : Nat, v33 = .int .i64 (i : Int) ∧ Aside0 (i ≤ D.guards.length) ∧ Aside0 (D.guards.length - i ≤ gk) ∧ Aside0 (Below w2.heap.size w2 w') ∧ Aside0 (Kd.R (Kd.int .i64) 3 w' w2.heap.size (fun _ => True) v9 (useL (gUse D) o i)))
  case atStart => exact ⟨0, rfl, ⟨Nat.zero_le _⟩, ⟨Nat.sub_le _ _⟩, ⟨Below.refl _ _⟩, ⟨Kd.R_nil _ _ _ _ _⟩⟩
  case round =>
    obtain ⟨i, rfl, HI, HG, HB, HR⟩ := hrel
    by_cases hi : i < D.guards.length
    · have q0 : decide ((i : Int) < (D.guards.length : Int)) = true := by simpa using hi
      have q1 : decide (i < D.guards.length) = true := by simpa using hi
      have p0 : 0 ≤ (i : Int) := by omega
      have p1 : (i : Int) < (D.guards.length : Int) := by omega
      have hi48 : i < 48 := by have := HL48.out.1; omega
      obtain ⟨ad, A1, c1, hA, hx0, hx1, hl1, hc1⟩ := at_T79 (Kd.C_below HFA.out.r8 (below_step HB2.out HB.out)) (i : Int) p0 p1
      rw [Int.toNat_natCast] at hx0 hx1
      go_wp2_with fail
      obtain ⟨wg, hwg⟩ : ∃ wg, wg = wr.alloc (.cells #[.int .i64 (rd_T79 D.guards (i : Int)).f0, .slice A1 (rd_T79 D.guards (i : Int)).f1.length c1] 79) := ⟨_, rfl⟩
      have hbg : Below wr.heap.size wr wg := by rw [hwg]; exact below_alloc (Below.refl _ _) _
      rw [← hwg]
      clear hwg
      have hun := useL_length (gUse D) o i
      refine (named_calls (w.heap.size + 1) o A1 c1 (rd_T79 D.guards (i : Int)).f1 wg ((blk_cell (blk_below HO2.out (below_step HB.out hbg)) 0).trans rfl) (Kd.C_below hc1 hbg) hl1).mono ?_
      rintro e w3 ⟨rfl, hb⟩
      have HB3 := Aside0.mk (below_step (below_step HB.out hbg) hb)
      have HR3 := Aside0.mk (Kd.R_below (Kd.R_below HR.out hbg) hb)
      clear hbg hb hx0 hx1 hl1 hc1 hA
      cases hm : ment (rd_T79 D.guards (i : Int)).f1 o with
      | true =>
        have HY : Aside0 (useL (gUse D) o (i + 1) = useL (gUse D) o i ++ [(i : Int)]) := ⟨by simp only [useL]; rw [if_pos (show ment (gUse D i) o = true from hm)]⟩
        clear hm
        go_wp2_with ((with_reducible refine gate_builtin (b := .append) (xs := #[.tmp 42, .tmp 44]) rfl ?_); at_builtin; refine Kd.R_append (Kd.int .i64) (w0 := w2) w2.heap.size rfl (.tmp 42) (.tmp 44) 50 3 (.int .i64 0) 8 rfl Try.underlying50 info3 rfl (by decide) (by decide) u9 (useL (gUse D) o i) (i : Int) [.int .i64 (i : Int)] (fun _ => True) (fun _ => False) rfl rfl ?aP (fun _ hk => hk.elim) ?aF ?aO ?aB ?aS ?aL ?_; (case aP => exact rfl); (case aB => exact HB3.out); (case aF => exact (fun _ _ => trivial)); (case aO => exact HR3.out); (case aS => exact HB3.out.size); (case aL => omega); intro v1 w5 ho hb hg hat)
        go_roundg (D.guards.length - (i + 1))
        case measure => have := HG.out; omega
        case rel => exact ⟨i + 1, by go_num, ⟨hi⟩, ⟨Nat.le_refl _⟩, ⟨hb⟩, ⟨by rw [HY.out]; exact ho⟩⟩
      | false =>
        have HY : Aside0 (useL (gUse D) o (i + 1) = useL (gUse D) o i) := ⟨by simp only [useL]; rw [if_neg (by unfold gUse; rw [hm]; decide)]⟩
        clear hm
        go_wp2_with fail
        go_roundg (D.guards.length - (i + 1))
        case measure => have := HG.out; omega
        case rel => exact ⟨i + 1, by go_num, ⟨hi⟩, ⟨Nat.le_refl _⟩, HB3, ⟨by rw [HY.out]; exact HR3.out⟩⟩
    · have q0 : decide ((i : Int) < (D.guards.length : Int)) = false := by simpa using hi
      have q1 : decide (i < D.guards.length) = false := by simpa using hi
      have hin : i = D.guards.length := by have := HI.out; omega
      rw [hin] at HR
      clear hin hi
      have HB4 := Aside0.mk (below_step HB2.out HB.out)
      have HO4 := Aside0.mk (blk_below HO2.out HB.out)
      have HK4 := Aside0.mk (blk_below HK2.out HB.out)
      clear HI HG
      obtain ⟨k0, k1, k2, k3, k4, k5, k6, k7, k8, k9⟩ := box_cells HK4.out
      go_wp2_with fail
      obtain ⟨w4, hw4⟩ : ∃ W, W = wr := ⟨_, rfl⟩
      rw [← hw4] at HB HR HB4 HO4 HK4 ⊢
      clear hw4 k0 k1 k2 k3 k4 k5 k6 k7 k8 k9 q0 q1
      go_loopg [50, 10] D.overs.length (fun gk v50 v10 w' => ∃ i : Nat, v50 = .int .i64 (i : Int) ∧ Aside0 (i ≤ D.overs.length) ∧ Aside0 (D.overs.length - i ≤ gk) ∧ Aside0 (Below w4.heap.size w4 w') ∧ Aside0 (Kd.R (Kd.int .i64) 3 w' w4.heap.size (fun _ => True) v10 (useL (oUse D) o i)))
      case atStart => exact ⟨0, rfl, ⟨Nat.zero_le _⟩, ⟨Nat.sub_le _ _⟩, ⟨Below.refl _ _⟩, ⟨Kd.R_nil _ _ _ _ _⟩⟩
      case round =>
        obtain ⟨i, rfl, HI, HG, HB5, HR5⟩ := hrel
        by_cases hi : i < D.overs.length
        · have q0 : decide ((i : Int) < (D.overs.length : Int)) = true := by simpa using hi
          have q1 : decide (i < D.overs.length) = true := by simpa using hi
          have p0 : 0 ≤ (i : Int) := by omega
          have p1 : (i : Int) < (D.overs.length : Int) := by omega
          have hi48 : i < 48 := by have := HL48.out.2; omega
          obtain ⟨ad, A1, c1, hA, hx0, hx1, hx2, hx3, hx4, hx5, hl1, hc1⟩ := at_T83 (Kd.C_below HFA.out.r9 (below_step HB4.out HB5.out)) (i : Int) p0 p1
          rw [Int.toNat_natCast] at hx0 hx1 hx2 hx3 hx4 hx5
          go_wp2_with fail
          obtain ⟨wg, hwg⟩ : ∃ wg, wg = wr.alloc (.cells #[.slice A1 (rd_T83 D.overs (i : Int)).f0.length c1, .int .i64 (rd_T83 D.overs (i : Int)).f1, .string (rd_T83 D.overs (i : Int)).f2.f0, .int .i64 (rd_T83 D.overs (i : Int)).f2.f1, .int .i64 (rd_T83 D.overs (i : Int)).f2.f2, .int .i64 (rd_T83 D.overs (i : Int)).f2.f3] 83) := ⟨_, rfl⟩
          have hbg : Below wr.heap.size wr wg := by rw [hwg]; exact below_alloc (Below.refl _ _) _
          rw [← hwg]
          clear hwg
          have hun := useL_length (oUse D) o i
          refine (named_calls (w.heap.size + 1) o A1 c1 (rd_T83 D.overs (i : Int)).f0 wg ((blk_cell (blk_below HO4.out (below_step HB5.out hbg)) 0).trans rfl) (Kd.C_below hc1 hbg) hl1).mono ?_
          rintro e w3 ⟨rfl, hb⟩
          have HB3 := Aside0.mk (below_step (below_step HB5.out hbg) hb)
          have HR3 := Aside0.mk (Kd.R_below (Kd.R_below HR5.out hbg) hb)
          clear hbg hb hx0 hx1 hx2 hx3 hx4 hx5 hl1 hc1 hA
          cases hm : ment (rd_T83 D.overs (i : Int)).f0 o with
          | true =>
            have HY : Aside0 (useL (oUse D) o (i + 1) = useL (oUse D) o i ++ [(i : Int)]) := ⟨by simp only [useL]; rw [if_pos (show ment (oUse D i) o = true from hm)]⟩
            clear hm
            go_wp2_with ((with_reducible refine gate_builtin (b := .append) (xs := #[.tmp 59, .tmp 61]) rfl ?_); at_builtin; refine Kd.R_append (Kd.int .i64) (w0 := w4) w4.heap.size rfl (.tmp 59) (.tmp 61) 50 3 (.int .i64 0) 8 rfl Try.underlying50 info3 rfl (by decide) (by decide) u10 (useL (oUse D) o i) (i : Int) [.int .i64 (i : Int)] (fun _ => True) (fun _ => False) rfl rfl ?aP (fun _ hk => hk.elim) ?aF ?aO ?aB ?aS ?aL ?_; (case aP => exact rfl); (case aB => exact HB3.out); (case aF => exact (fun _ _ => trivial)); (case aO => exact HR3.out); (case aS => exact HB3.out.size); (case aL => omega); intro v1 w5 ho hb hg hat)
            go_roundg (D.overs.length - (i + 1))
            case measure => have := HG.out; omega
            case rel => exact ⟨i + 1, by go_num, ⟨hi⟩, ⟨Nat.le_refl _⟩, ⟨hb⟩, ⟨by rw [HY.out]; exact ho⟩⟩
          | false =>
            have HY : Aside0 (useL (oUse D) o (i + 1) = useL (oUse D) o i) := ⟨by simp only [useL]; rw [if_neg (by unfold oUse; rw [hm]; decide)]⟩
            clear hm
            go_wp2_with fail
            go_roundg (D.overs.length - (i + 1))
            case measure => have := HG.out; omega
            case rel => exact ⟨i + 1, by go_num, ⟨hi⟩, ⟨Nat.le_refl _⟩, HB3, ⟨by rw [HY.out]; exact HR3.out⟩⟩
        · have q0 : decide ((i : Int) < (D.overs.length : Int)) = false := by simpa using hi
          have q1 : decide (i < D.overs.length) = false := by simpa using hi
          have hin : i = D.overs.length := by have := HI.out; omega
          rw [hin] at HR5
          clear hin hi HI HG
          obtain ⟨A1, c1, hv1, hc1, hC1⟩ := Kd.R_reads HR.out
          obtain ⟨A2, c2, hv2, hc2, hC2⟩ := Kd.R_reads HR5.out
          subst hv1
          subst hv2
          go_wp2_with fail
          go_ret3
          exact ⟨A1, c1, A2, c2, _, _, rfl, rfl, rfl, hc1, hc2, Kd.C_below hC1 HB5.out, hC2, below_step HB4.out HB5.out⟩
end Go.Proofs.Ytbnmdlnpfikkcaa.PX
namespace Go.Proofs.Ytbnmdlnpfikkcaa.PX
open Go.RowKit Go.Proofs.YtbnmdlnpfikkcaaW.PrintWords Go.Proofs.YtbnmdlnpfikkcaaW.PrintLast Go.Proofs.YtbnmdlnpfikkcaaW.PrintMore
attribute [local go_sem] max2_int min2_int max_two min_two max_three min_three max_four min_four   -- for this text's walks alone
set_option linter.unusedVariables false
set_option linter.unusedSimpArgs false

/-! ### dowellaw48_mentions: function 27 -/
def dowellaw48_mentions.l0 : Nat → List (S62) → Int → Int → Option (Bool)
 | 0, _, _, _ => none
 | k + 1, x0, x1, x5 => if x5 < (x0.length : Int) then (if 0 ≤ x5 then (if ((rd_T62 x0 x5).f0) = x1 then (some true) else (dowellaw48_mentions.l0 k x0 x1 (wrap64 (x5 + 1)))) else (none)) else (some false)
def dowellaw48_mentions.f (k : Nat) (l0 : List (S62)) (a1 : Int) : Option (Bool) := dowellaw48_mentions.l0 k l0 a1 0
theorem dowellaw48_mentions.mono_l : ∀ k, (∀ y0 y1 y2, LeO (dowellaw48_mentions.l0 k y0 y1 y2) (dowellaw48_mentions.l0 (k + 1) y0 y1 y2))
 | 0 => fun _ _ _ r h => by simp [dowellaw48_mentions.l0] at h
 | k + 1 => by
  have ih0 := dowellaw48_mentions.mono_l k
  ·intro y0 y1 y2
   unfold dowellaw48_mentions.l0
   repeat' first
   | (with_reducible exact ih0 _ _ _)
   | (with_reducible exact LeO.refl _)
   | (with_reducible exact LeO.none _)
   | (with_reducible refine LeO.ite ?_ ?_)
   | (with_reducible refine LeO.bind ?_ (fun _ => ?_))
   | exact ih0 _ _ _
   | exact LeO.none _
   | refine LeO.ite ?_ ?_
   | refine LeO.bind ?_ (fun _ => ?_)
theorem dowellaw48_mentions.mono : ∀ a0 a1 k, LeO (dowellaw48_mentions.f k a0 a1) (dowellaw48_mentions.f (k + 1) a0 a1) := by
 intro a0 a1 k
 have ih0 := dowellaw48_mentions.mono_l k
 unfold dowellaw48_mentions.f
 repeat' first
   | (with_reducible exact ih0 _ _ _)
   | (with_reducible exact LeO.refl _)
   | (with_reducible exact LeO.none _)
   | (with_reducible refine LeO.ite ?_ ?_)
   | (with_reducible refine LeO.bind ?_ (fun _ => ?_))
   | exact ih0 _ _ _
   | exact LeO.none _
   | refine LeO.ite ?_ ?_
   | refine LeO.bind ?_ (fun _ => ?_)
set_option maxHeartbeats 8000000 in
set_option maxRecDepth 100000 in
theorem dowellaw48_mentions.calls (k : Nat) (A0 : Option Addr) (c0 : Nat) (l0 : List (S62)) (a1 : Int) (r : Bool) (w : World) (hr0 : Kd.C k62 w A0 l0.length l0) (hc0 : l0.length ≤ c0) (h : dowellaw48_mentions.f k l0 a1 = some r) :
  Calls Try.prog 27 #[.slice A0 l0.length c0, .int .i64 a1] w fun e w' => e = .returned (.bool r) ∧ Drawn0 w w' := by
 have HR0 := Aside0.mk hr0
 have HC0 := Aside0.mk hc0
 clear hr0 hc0
 have H : (dowellaw48_mentions.l0 k l0 a1 0) = some r := h
 clear h
 have H' := Aside0.mk H
 clear H
 go_enter Try.func27, Try.ntmps27
 go_wp2
 go_loopg [5] k (fun kq v5 w' => ∃ (x5_1 : Int), v5 = .int .i64 x5_1 ∧ Aside0 (dowellaw48_mentions.l0 kq l0 a1 x5_1 = some r) ∧ Aside0 (kq ≤ k) ∧ Drawn0 w w')
 case atStart => exact ⟨(0), (by first | rfl | (simp; done) | (simp [*]; done)), H', ⟨Nat.le_refl _⟩, by repeat (first | exact Drawn0.refl _ | apply Drawn0.step)⟩
 case round =>
  clear H'
  try clear c2
  try clear p2
  obtain ⟨x5_1, rfl, HA, HK1, ⟨m1, rfl⟩⟩ := hrel
  cases gk with
  | zero => exact absurd HA.out (by simp [dowellaw48_mentions.l0])
  | succ k1 =>
   have H := HA.out
   clear HA
   simp only [dowellaw48_mentions.l0] at H
   by_cases c3 : x5_1 < (l0.length : Int)
   ·rw [if_pos c3] at H
    have c3b0 : decide (x5_1 < (l0.length : Int)) = true := decide_eq_true c3
    clear c3
    by_cases c4 : 0 ≤ x5_1
    ·rw [if_pos c4] at H
     have c4b0 : decide (0 ≤ x5_1) = true := decide_eq_true c4
     clear c4
     by_cases c5 : ((rd_T62 l0 x5_1).f0) = a1
     ·rw [if_pos c5] at H
      have c5b0 : (((rd_T62 l0 x5_1).f0) == a1) = true := beq_iff_eq.mpr c5
      have c5b1 : (((rd_T62 l0 x5_1).f0) != a1) = false := bne_eq_false_iff_eq.mpr c5
      clear c5
      obtain rfl := Option.some.inj H
      have p308 : 0 ≤ (x5_1 : Int) := of_decide_eq_true (by first | (with_reducible assumption) | assumption)
      have q308 : x5_1 < (l0.length : Int) := of_decide_eq_true (by first | (with_reducible assumption) | assumption)
      obtain ⟨ad308, e308, hx308_0, hx308_1⟩ := at_T62 HR0.out x5_1 p308 q308
      cases e308
      replace p308 := eq_true p308
      replace q308 := eq_true q308
      go_wp2
      go_ret
      exact ⟨by first | rfl | (simp; done) | (simp [*]; done), by repeat (first | exact Drawn0.refl _ | apply Drawn0.step)⟩
     ·rw [if_neg c5] at H
      have c5b0 : (((rd_T62 l0 x5_1).f0) == a1) = false := beq_eq_false_iff_ne.mpr c5
      have c5b1 : (((rd_T62 l0 x5_1).f0) != a1) = true := bne_iff_ne.mpr c5
      have H' := Aside0.mk H
      clear H
      have p308 : 0 ≤ (x5_1 : Int) := of_decide_eq_true (by first | (with_reducible assumption) | assumption)
      have q308 : x5_1 < (l0.length : Int) := of_decide_eq_true (by first | (with_reducible assumption) | assumption)
      obtain ⟨ad308, e308, hx308_0, hx308_1⟩ := at_T62 HR0.out x5_1 p308 q308
      cases e308
      replace p308 := eq_true p308
      replace q308 := eq_true q308
      go_wp2
      go_roundg k1
      case measure => have := HK1.out; omega
      case rel => exact ⟨(wrap64 (x5_1 + 1)), (by first | rfl | (simp; done) | (simp [*]; done)), H', ⟨by have := HK1.out; omega⟩, by repeat (first | exact Drawn0.refl _ | apply Drawn0.step)⟩
    ·rw [if_neg c4] at H
     exact absurd H (by simp)
   ·rw [if_neg c3] at H
    have c3b0 : decide (x5_1 < (l0.length : Int)) = false := decide_eq_false c3
    clear c3
    obtain rfl := Option.some.inj H
    go_wp2
    go_ret
    exact ⟨by first | rfl | (simp; done) | (simp [*]; done), by repeat (first | exact Drawn0.refl _ | apply Drawn0.step)⟩

end Go.Proofs.Ytbnmdlnpfikkcaa.PX
namespace Go.Proofs.Ytbnmdlnpfikkcaa.PX
open Go.RowKit Go.Proofs.YtbnmdlnpfikkcaaW.PrintWords Go.Proofs.YtbnmdlnpfikkcaaW.PrintLast Go.Proofs.YtbnmdlnpfikkcaaW.PrintMore
attribute [local go_sem] max2_int min2_int max_two min_two max_three min_three max_four min_four   -- for this text's walks alone
set_option linter.unusedVariables false
set_option linter.unusedSimpArgs false

theorem eqA81 (d : Nat) (w : World) (x0 y0 : ByteArray) (x1 y1 : Int) (x2 y2 : Int) (x3 y3 : Int) :
    (Op.equalIn (d + 2) 81 (.agg #[.string x0, .int .i64 x1, .int .i64 x2, .int .i64 x3]) (.agg #[.string y0, .int .i64 y1, .int .i64 y2, .int .i64 y3])).run Try.prog w = .ok (x0.toList == y0.toList && (x1 == y1 && (x2 == y2 && (x3 == y3)))) w := by
  refine eqA_of Try.underlying81 (by kernel_rfl) ?_
  refine eqf_cons (by rfl) (by go_simp; rfl) (by go_simp; rfl) (by go_simp) ?_
  refine eqf_cons (by rfl) (by go_simp; rfl) (by go_simp; rfl) (by go_simp) ?_
  refine eqf_cons (by rfl) (by go_simp; rfl) (by go_simp; rfl) (by go_simp) ?_
  exact eqf_last (by rfl) (by go_simp; rfl) (by go_simp; rfl) (by go_simp)
end Go.Proofs.Ytbnmdlnpfikkcaa.PX
/- '==' of instances, with the arrays in them. -/
namespace Go.Proofs.Ytbnmdlnpfikkcaa.PX
open Go.RowKit Go.Proofs.YtbnmdlnpfikkcaaW.PrintWords Go.Proofs.YtbnmdlnpfikkcaaW.PrintLast Go.Proofs.YtbnmdlnpfikkcaaW.PrintMore
set_option linter.unusedVariables false
set_option linter.unusedSimpArgs false
/-- '==' of arrays, item by item. -/
theorem items_one {d : Nat} {e : TypeId} {c : Nat} {xs ys : Array Value} {j : Nat} {a b : Value} {r : Bool} {w : World} (ha : (part e xs (j * c)).run Try.prog w = .ok a w) (hb : (part e ys (j * c)).run Try.prog w = .ok b w) (he : (Op.equalIn d e a b).run Try.prog w = .ok r w) : (Op.eqItems d e c xs ys [j]).run Try.prog w = .ok r w := by
  simp only [Op.eqItems, Sem.run_bind, ha, hb, he, Result.andThen_ok]
  cases r <;> simp
theorem items_cons {d : Nat} {e : TypeId} {c : Nat} {xs ys : Array Value} {j : Nat} {js : List Nat} {a b : Value} {r s : Bool} {w : World} (ha : (part e xs (j * c)).run Try.prog w = .ok a w) (hb : (part e ys (j * c)).run Try.prog w = .ok b w) (he : (Op.equalIn d e a b).run Try.prog w = .ok r w) (hr : (Op.eqItems d e c xs ys js).run Try.prog w = .ok s w) : (Op.eqItems d e c xs ys (j :: js)).run Try.prog w = .ok (r && s) w := by
  rw [Op.eqItems]
  simp only [Sem.run_bind, ha, hb, he, Result.andThen_ok]
  cases r
  · simp
  · simpa using hr
theorem arr_of {d : Nat} {t e : TypeId} {n : Nat} {i : TypeInfo} {xs ys : Array Value} {r : Bool} {w : World} (hu : Try.prog.underlying t = some (.array n e)) (hi : Try.prog.info? e = some i) (h : (Op.eqItems d e (Try.prog.cellsOf e) xs ys (List.range n)).run Try.prog w = .ok r w) : (Op.equalIn (d + 1) t (.agg xs) (.agg ys)).run Try.prog w = .ok r w := by
  rw [run_equalIn_array w d xs ys hu hi]; exact h
theorem infoI3 : ∃ i, Try.prog.info? 3 = some i := info_of_underlying Try.underlying3
theorem infoI99 : ∃ i, Try.prog.info? 99 = some i := info_of_underlying Try.underlying99
theorem cells3 : Try.prog.cellsOf 3 = 1 := by kernel_rfl
theorem cells99 : Try.prog.cellsOf 99 = 1 := by kernel_rfl
theorem range4 : List.range 4 = [0, 1, 2, 3] := by decide
theorem range3 : List.range 3 = [0, 1, 2] := by decide
theorem eqA98 (d : Nat) (w : World) (x0 y0 : Int) (x1 y1 : Int) (x2 y2 : Int) (x3 y3 : Int) :
    (Op.equalIn (d + 2) 98 (.agg #[.int .i64 x0, .int .i64 x1, .int .i64 x2, .int .i64 x3]) (.agg #[.int .i64 y0, .int .i64 y1, .int .i64 y2, .int .i64 y3])).run Try.prog w = .ok (x0 == y0 && (x1 == y1 && (x2 == y2 && (x3 == y3)))) w := by
  obtain ⟨i, hi⟩ := infoI3
  refine arr_of (n := 4) (e := 3) Try.underlying98 hi ?_
  rw [cells3, range4]
  refine items_cons (by go_simp; rfl) (by go_simp; rfl) (by go_simp) ?_
  refine items_cons (by go_simp; rfl) (by go_simp; rfl) (by go_simp) ?_
  refine items_cons (by go_simp; rfl) (by go_simp; rfl) (by go_simp) ?_
  exact items_one (by go_simp; rfl) (by go_simp; rfl) (by go_simp)
theorem eqA101 (d : Nat) (w : World) (x0 y0 : ByteArray) (x1 y1 : ByteArray) (x2 y2 : ByteArray) :
    (Op.equalIn (d + 2) 101 (.agg #[.string x0, .string x1, .string x2]) (.agg #[.string y0, .string y1, .string y2])).run Try.prog w = .ok (x0.toList == y0.toList && (x1.toList == y1.toList && (x2.toList == y2.toList))) w := by
  obtain ⟨i, hi⟩ := infoI99
  refine arr_of (n := 3) (e := 99) Try.underlying101 hi ?_
  rw [cells99, range3]
  refine items_cons (by go_simp; rfl) (by go_simp; rfl) (by go_simp) ?_
  refine items_cons (by go_simp; rfl) (by go_simp; rfl) (by go_simp) ?_
  exact items_one (by go_simp; rfl) (by go_simp; rfl) (by go_simp)
theorem eqA103 (d : Nat) (w : World) (x0 y0 : Int) (x1 y1 : Int) (x2 y2 : Int) (x3 y3 : Int) (x4 y4 : ByteArray) (x5 y5 : ByteArray) (x6 y6 : ByteArray) :
    (Op.equalIn (d + 3) 103 (.agg #[.int .i64 x0, .int .i64 x1, .int .i64 x2, .int .i64 x3, .string x4, .string x5, .string x6]) (.agg #[.int .i64 y0, .int .i64 y1, .int .i64 y2, .int .i64 y3, .string y4, .string y5, .string y6])).run Try.prog w = .ok ((x0 == y0 && (x1 == y1 && (x2 == y2 && (x3 == y3)))) && ((x4.toList == y4.toList && (x5.toList == y5.toList && (x6.toList == y6.toList))))) w := by
  refine eqA_of Try.underlying103 (by kernel_rfl) ?_
  refine eqf_cons (by rfl) (by go_simp) (by go_simp) (eqA98 (d + 0) w _ _ _ _ _ _ _ _) ?_
  exact eqf_last (by rfl) (by go_simp) (by go_simp) (eqA101 (d + 0) w _ _ _ _ _ _)
theorem eqA105 (d : Nat) (w : World) (x0 y0 : ByteArray) (x1 y1 : ByteArray) (x2 y2 : Int) (x3 y3 : Int) (x4 y4 : Int) (x5 y5 : Int) (x6 y6 : ByteArray) (x7 y7 : ByteArray) (x8 y8 : ByteArray) :
    (Op.equalIn (d + 4) 105 (.agg #[.string x0, .string x1, .int .i64 x2, .int .i64 x3, .int .i64 x4, .int .i64 x5, .string x6, .string x7, .string x8]) (.agg #[.string y0, .string y1, .int .i64 y2, .int .i64 y3, .int .i64 y4, .int .i64 y5, .string y6, .string y7, .string y8])).run Try.prog w = .ok (x0.toList == y0.toList && (x1.toList == y1.toList && (((x2 == y2 && (x3 == y3 && (x4 == y4 && (x5 == y5)))) && ((x6.toList == y6.toList && (x7.toList == y7.toList && (x8.toList == y8.toList)))))))) w := by
  refine eqA_of Try.underlying105 (by kernel_rfl) ?_
  refine eqf_cons (by rfl) (by go_simp; rfl) (by go_simp; rfl) (by go_simp) ?_
  refine eqf_cons (by rfl) (by go_simp; rfl) (by go_simp; rfl) (by go_simp) ?_
  exact eqf_last (by rfl) (by go_simp) (by go_simp) (eqA103 (d + 0) w _ _ _ _ _ _ _ _ _ _ _ _ _ _)
end Go.Proofs.Ytbnmdlnpfikkcaa.PX
