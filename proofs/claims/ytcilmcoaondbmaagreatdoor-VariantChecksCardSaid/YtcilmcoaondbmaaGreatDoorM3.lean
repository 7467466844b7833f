/- The program's searches, its satisfaction tests, visit, isName and the map of known names: what they return. -/
import Derived.Test.YtcilmcoaondbmaaGreatDoorK0
import Derived.Shelf.Abstract
import Derived.Lib.Hide
import Derived.Test.YtcilmcoaondbmaaGreatDoorM1
import Derived.Lib.OthersKept
import Derived.Lib.TrimU
import Derived.Deep.LoopGhost
import Derived.Maps.Own
import Derived.Maps.OwnOps
import Derived.Maps.Views
import Derived.StringKeys
namespace Go.Proofs.YtcilmcoaondbmaaGreatDoor.PX
open Go.RowKit Go.Proofs.YtcilmcoaondbmaaGreatDoorW.PrintWords Go.Proofs.YtcilmcoaondbmaaGreatDoorW.PrintLast Go.Proofs.YtcilmcoaondbmaaGreatDoorW.PrintMore
set_option linter.unusedVariables false
set_option linter.unusedSimpArgs false

/-- The index of the first element that meets a test, or -1. -/
def idxP {α : Type} (p : α → Bool) (l : List α) : Int := match l.findIdx? p with | some i => (i : Int) | none => -1

theorem idxP_hit {α : Type} (p : α → Bool) (l : List α) (k : Nat) (d : α) (hk : k < l.length) (hp : p (l.getD k d) = true) (h : ∀ j, j < k → p (l.getD j d) = false) : idxP p l = k := by
  have : l.findIdx? p = some k := by
    rw [List.findIdx?_eq_some_iff_getElem]
    refine ⟨hk, by simpa [List.getD_eq_getElem?_getD, hk] using hp, fun j hj => ?_⟩
    have := h j hj
    simp [List.getD_eq_getElem?_getD, Nat.lt_trans hj hk] at this
    simp [this]
  simp [idxP, this]
theorem idxP_miss {α : Type} (p : α → Bool) (l : List α) (d : α) (h : ∀ j, j < l.length → p (l.getD j d) = false) : idxP p l = -1 := by
  have : l.findIdx? p = none := by
    rw [List.findIdx?_eq_none_iff]
    intro x hx
    obtain ⟨j, hj, rfl⟩ := List.getElem_of_mem hx
    have := h j hj
    simpa [List.getD_eq_getElem?_getD, hj] using this
  simp [idxP, this]
theorem idxP_nonneg {α : Type} (p : α → Bool) (l : List α) : decide (0 ≤ idxP p l) = l.any p := by
  unfold idxP
  cases h : l.findIdx? p with
  | none =>
    rw [List.findIdx?_eq_none_iff] at h
    symm
    simp
    exact h
  | some i =>
    obtain ⟨hi, hp, _⟩ := List.findIdx?_eq_some_iff_getElem.1 h
    simp
    exact ⟨_, List.getElem_mem hi, hp⟩
theorem C_block {α : Type} (d : Kd α) {W : World} {g : Nat} {t : TypeId} {x : α} {cs : List Value} (hK : d.K W x cs) (hb : W.heap[g]? = some (.cells cs.toArray t (0, 0))) : Kd.C d W (some ⟨g, 0, none⟩) 1 [x] := by
  refine ⟨rfl, by decide, fun _ => ⟨_, rfl, fun j p hj => ?_⟩⟩
  cases j with
  | succ j => simp at hj
  | zero =>
    have hp : x = p := by simpa using hj
    subst hp
    refine ⟨cs, d.K_len hK, hK, fun i u hu => ?_⟩
    rw [Nat.zero_mul, Nat.zero_add, add_plain, blk_cell hb]
    simpa using hu
theorem rd62_mem {l : List S62} {k : Nat} (h : k < l.length) : rd_T62 l (k : Int) ∈ l := by
  unfold rd_T62; simp [List.getD_eq_getElem?_getD, h]
set_option maxHeartbeats 4000000 in
set_option maxRecDepth 100000 in
theorem idx67 (g : FuncId) (lb : Array Value) (p : S62 → Bool) (A : Option Addr) (c : Nat) (l : List S62) (w : World) (eg : Enters Tryz.prog g)
    (hr : Kd.C k62 w A l.length l) (hc : l.length ≤ c)
    (hp : ∀ (W : World) (x : S62), Below w.heap.size w W → x ∈ l → Calls Tryz.prog g (#[.agg #[.int .i64 x.f0, .bool x.f1]] ++ lb) W fun e w' => e = .returned (.bool (p x)) ∧ Below W.heap.size W w') :
    Calls Tryz.prog 63 #[.slice A l.length c, .func (.func g) #[] lb] w fun e w' => e = .returned (.int .i64 (idxP p l)) ∧ Below w.heap.size w w' := by
  have hu62 := Tryz.underlying73
  have HR := Aside0.mk hr
  have HC := Aside0.mk hc
  have HP := Aside0.mk hp
  clear hr hc hp
  unfold Enters at eg
  have hl := Kd.C_max HR.out
  have HB := Aside0.mk (Below.refl w.heap.size w)
  go_enter Tryz.func63, Tryz.ntmps63
  go_wp2
  go_loopg [5, 8] l.length (fun gk _ v8 w' => ∃ k : Nat, v8 = .int .i64 k ∧ Aside0 (k ≤ l.length) ∧ Aside0 (l.length - k ≤ gk) ∧ Aside0 (∀ j, j < k → p (rd_T62 l (j : Int)) = false) ∧ Aside0 (Below w.heap.size w w'))
  case atStart => exact ⟨0, rfl, ⟨Nat.zero_le _⟩, ⟨by omega⟩, ⟨fun j hj => absurd hj (Nat.not_lt_zero _)⟩, HB⟩
  case round =>
    obtain ⟨k, rfl, HK, HG, HN, HB⟩ := hrel
    have hk0 := HK.out
    by_cases hlt : k < l.length
    · have c0 : decide ((k : Int) < (l.length : Int)) = true := by simpa using hlt
      have c1 : decide (k < l.length) = true := by simpa using hlt
      have p0 : 0 ≤ (k : Int) := by omega
      have q0 : (k : Int) < (l.length : Int) := by omega
      obtain ⟨ad, e0, hx0, hx1⟩ := at_T62 HR.out k p0 q0
      cases e0
      replace hx0 := (HB.out.cell (World.block_lt_of_cell? w _ hx0)).trans hx0
      replace hx1 := (HB.out.cell (World.block_lt_of_cell? w _ hx1)).trans hx1
      have hcall := HP.out wr (rd_T62 l k) HB.out (rd62_mem hlt)
      have HL := Aside0.mk hlt
      clear hlt
      simp only [Int.toNat_natCast] at hx0 hx1
      cases hq : p (rd_T62 l (k : Int)) with
      | true =>
        rw [hq] at hcall
        have HQ := Aside0.mk hq
        clear hq
        have HC := Lib.hid hcall
        clear hcall
        go_wp2_with (go_at_fn g; refine HC.out.mono ?_; rintro e w2 ⟨rfl, hb⟩)
        go_ret
        refine ⟨?_, below_step HB.out hb⟩
        rw [idxP_hit p l k z62 HL.out HQ.out (fun j hj => HN.out j hj)]
        rfl
      | false =>
        rw [hq] at hcall
        have HQ := Aside0.mk hq
        clear hq
        have HC := Lib.hid hcall
        clear hcall
        go_wp2_with (go_at_fn g; refine HC.out.mono ?_; rintro e w2 ⟨rfl, hb⟩)
        go_roundg (l.length - (k + 1))
        case measure => have := HL.out; have := HG.out; omega
        case rel =>
          refine ⟨k + 1, by go_num, ⟨HL.out⟩, ⟨Nat.le_refl _⟩, ⟨fun j hj => ?_⟩, ⟨below_step HB.out hb⟩⟩
          by_cases e : j = k
          · subst e; exact HQ.out
          · exact HN.out j (by omega)
    · have c0 : decide ((k : Int) < (l.length : Int)) = false := by simpa using hlt
      have c1 : decide (k < l.length) = false := by simpa using hlt
      have HL := Aside0.mk hlt
      clear hlt
      go_wp2
      go_ret
      refine ⟨?_, HB.out⟩
      rw [idxP_miss p l z62 (fun j hj => HN.out j (by have := HL.out; omega))]
      rfl

set_option maxHeartbeats 4000000 in
set_option maxRecDepth 100000 in
theorem has55 (g : FuncId) (lb : Array Value) (p : S62 → Bool) (A : Option Addr) (c : Nat) (l : List S62) (w : World) (eg : Enters Tryz.prog g)
    (hr : Kd.C k62 w A l.length l) (hc : l.length ≤ c)
    (hp : ∀ (W : World) (x : S62), Below w.heap.size w W → x ∈ l → Calls Tryz.prog g (#[.agg #[.int .i64 x.f0, .bool x.f1]] ++ lb) W fun e w' => e = .returned (.bool (p x)) ∧ Below W.heap.size W w') :
    Calls Tryz.prog 47 #[.slice A l.length c, .func (.func g) #[] lb] w fun e w' => e = .returned (.bool (l.any p)) ∧ Below w.heap.size w w' := by
  have HC := Lib.hid (idx67 g lb p A c l w eg hr hc hp)
  have HE := Lib.hid (idxP_nonneg p l)
  clear hr hc hp
  go_enter Tryz.func47, Tryz.ntmps47
  go_wp2_with (go_at_call 63; refine HC.out.mono ?_; rintro e w2 ⟨rfl, hb⟩)
  go_ret
  refine ⟨?_, hb⟩
  rw [← HE.out]
  rfl

theorem rd70_mem {l : List S70} {k : Nat} (h : k < l.length) : rd_T70 l (k : Int) ∈ l := by
  unfold rd_T70; simp [List.getD_eq_getElem?_getD, h]
set_option maxHeartbeats 4000000 in
set_option maxRecDepth 100000 in
theorem idx48 (g : FuncId) (lb : Array Value) (p : S70 → Bool) (A : Option Addr) (c : Nat) (l : List S70) (w : World) (eg : Enters Tryz.prog g)
    (hr : Kd.C k70 w A l.length l) (hc : l.length ≤ c)
    (hp : ∀ (W : World) (x : S70) (A1 : Option Addr) (c1 : Nat), Below w.heap.size w W → x ∈ l → x.f1.length ≤ c1 → Kd.C k62 W A1 x.f1.length x.f1 → Calls Tryz.prog g (#[.agg #[.string x.f0, .slice A1 x.f1.length c1]] ++ lb) W fun e w' => e = .returned (.bool (p x)) ∧ Below W.heap.size W w') :
    Calls Tryz.prog 38 #[.slice A l.length c, .func (.func g) #[] lb] w fun e w' => e = .returned (.int .i64 (idxP p l)) ∧ Below w.heap.size w w' := by
  have hu70 := Tryz.underlying40
  have HR := Aside0.mk hr
  have HC := Aside0.mk hc
  have HP := Aside0.mk hp
  clear hr hc hp
  unfold Enters at eg
  have hl := Kd.C_max HR.out
  have HB := Aside0.mk (Below.refl w.heap.size w)
  go_enter Tryz.func38, Tryz.ntmps38
  go_wp2
  go_loopg [5, 8] l.length (fun gk _ v8 w' => ∃ k : Nat, v8 = .int .i64 k ∧ Aside0 (k ≤ l.length) ∧ Aside0 (l.length - k ≤ gk) ∧ Aside0 (∀ j, j < k → p (rd_T70 l (j : Int)) = false) ∧ Aside0 (Below w.heap.size w w'))
  case atStart => exact ⟨0, rfl, ⟨Nat.zero_le _⟩, ⟨by omega⟩, ⟨fun j hj => absurd hj (Nat.not_lt_zero _)⟩, HB⟩
  case round =>
    obtain ⟨k, rfl, HK, HG, HN, HB⟩ := hrel
    have hk0 := HK.out
    by_cases hlt : k < l.length
    · have c0 : decide ((k : Int) < (l.length : Int)) = true := by simpa using hlt
      have c1 : decide (k < l.length) = true := by simpa using hlt
      have p0 : 0 ≤ (k : Int) := by omega
      have q0 : (k : Int) < (l.length : Int) := by omega
      obtain ⟨ad, A1, c1, e0, hx0, hx1, hl1, hC1⟩ := at_T70 HR.out k p0 q0
      cases e0
      replace hx0 := (HB.out.cell (World.block_lt_of_cell? w _ hx0)).trans hx0
      replace hx1 := (HB.out.cell (World.block_lt_of_cell? w _ hx1)).trans hx1
      have hcall := HP.out wr (rd_T70 l k) A1 c1 HB.out (rd70_mem hlt) hl1 (Kd.C_below hC1 HB.out)
      have HL1 := Aside0.mk hl1
      have HC1 := Aside0.mk hC1
      clear hl1 hC1
      have HL := Aside0.mk hlt
      clear hlt
      simp only [Int.toNat_natCast] at hx0 hx1
      cases hq : p (rd_T70 l (k : Int)) with
      | true =>
        rw [hq] at hcall
        have HQ := Aside0.mk hq
        clear hq
        have HC := Lib.hid hcall
        clear hcall
        go_wp2_with (go_at_fn g; refine HC.out.mono ?_; rintro e w2 ⟨rfl, hb⟩)
        go_ret
        refine ⟨?_, below_step HB.out hb⟩
        rw [idxP_hit p l k z70 HL.out HQ.out (fun j hj => HN.out j hj)]
        rfl
      | false =>
        rw [hq] at hcall
        have HQ := Aside0.mk hq
        clear hq
        have HC := Lib.hid hcall
        clear hcall
        go_wp2_with (go_at_fn g; refine HC.out.mono ?_; rintro e w2 ⟨rfl, hb⟩)
        go_roundg (l.length - (k + 1))
        case measure => have := HL.out; have := HG.out; omega
        case rel =>
          refine ⟨k + 1, by go_num, ⟨HL.out⟩, ⟨Nat.le_refl _⟩, ⟨fun j hj => ?_⟩, ⟨below_step HB.out hb⟩⟩
          by_cases e : j = k
          · subst e; exact HQ.out
          · exact HN.out j (by omega)
    · have c0 : decide ((k : Int) < (l.length : Int)) = false := by simpa using hlt
      have c1 : decide (k < l.length) = false := by simpa using hlt
      have HL := Aside0.mk hlt
      clear hlt
      go_wp2
      go_ret
      refine ⟨?_, HB.out⟩
      rw [idxP_miss p l z70 (fun j hj => HN.out j (by have := HL.out; omega))]
      rfl

end Go.Proofs.YtcilmcoaondbmaaGreatDoor.PX
namespace Go.Proofs.YtcilmcoaondbmaaGreatDoor.PX
open Go.RowKit Go.Proofs.YtcilmcoaondbmaaGreatDoorW.PrintWords Go.Proofs.YtcilmcoaondbmaaGreatDoorW.PrintLast Go.Proofs.YtcilmcoaondbmaaGreatDoorW.PrintMore
set_option linter.unusedVariables false
set_option linter.unusedSimpArgs false

/-- Is an option on in a configuration. -/
def onI (c : Nat) (i : Int) : Bool := c.testBit (11 - i).toNat
theorem bits_and_u64_nat (a b : Nat) (ha : a < 18446744073709551616) (hb : b < 18446744073709551616) :
    Go.bits .and .u64 (a : Int) (b : Int) = ((a &&& b : Nat) : Int) := by
  have hx : a &&& b ≤ a := Nat.and_le_left
  have h1 : (BitVec.ofInt 64 (a : Int)).toNat = a := by
    rw [BitVec.ofInt_natCast, BitVec.toNat_ofNat]; exact Nat.mod_eq_of_lt (by omega)
  have h2 : (BitVec.ofInt 64 (b : Int)).toNat = b := by
    rw [BitVec.ofInt_natCast, BitVec.toNat_ofNat]; exact Nat.mod_eq_of_lt (by omega)
  show IntKind.u64.wrap ((BitVec.ofInt 64 (a : Int) &&& BitVec.ofInt 64 (b : Int)).toNat : Int) = _
  rw [BitVec.toNat_and, h1, h2, IntKind.wrap_u64]
  omega
theorem onI_eq (c : Nat) (i : Int) (hc : c < 18446744073709551616) (h0 : 0 ≤ i) (h1 : i ≤ 11) : variant_configuration_on.f c i = some (onI c i) := by
  have hw : wrap64 (11 - i) = 11 - i := by unfold wrap64; omega
  unfold variant_configuration_on.f
  rw [hw, if_pos (by omega)]
  congr 1
  obtain ⟨j, hj⟩ : ∃ j : Nat, 11 - i = (j : Int) := ⟨(11 - i).toNat, by omega⟩
  have hj11 : j ≤ 11 := by omega
  unfold onI
  rw [hj]
  have hs : shr .u64 (c : Int) (j : Int) = ((c / 2 ^ j : Nat) : Int) := by
    unfold shr
    rw [Nat.min_eq_left (by simp [IntKind.bits]; omega)]
    simp
  rw [hs]
  show (Go.bits .and .u64 ((c / 2 ^ j : Nat) : Int) ((1 : Nat) : Int) == 1) = _
  rw [bits_and_u64_nat _ 1 (Nat.lt_of_le_of_lt (Nat.div_le_self _ _) hc) (by decide)]
  simp only [Int.toNat_natCast]
  rw [Nat.testBit_eq_decide_div_mod_eq, Nat.and_one_is_mod]
  have h2 : c / 2 ^ j % 2 < 2 := Nat.mod_lt _ (by decide)
  generalize c / 2 ^ j % 2 = m at h2
  obtain rfl | rfl : m = 0 ∨ m = 1 := by omega
  · rfl
  · rfl

theorem on_quiet (c : Nat) (i : Int) (hc : c < 18446744073709551616) (h0 : 0 ≤ i) (h1 : i ≤ 11) (w : World) :
    Calls Tryz.prog 35 #[.int .u64 c, .int .i64 i] w fun e w' => e = .returned (.bool (onI c i)) ∧ ∃ m, w' = w.drewN m :=
  (variant_configuration_on.calls c i (onI c i) w (onI_eq c i hc h0 h1)).mono fun _ _ ⟨he, hd⟩ => ⟨he, hd.out⟩

/-- A literal does not hold. -/
def nlit (c : Nat) (x : S62) : Bool := onI c x.f0 != x.f1
set_option maxHeartbeats 1000000 in
theorem holds1 (B : Nat) (c : Nat) (x : S62) (w : World) (hc : c < 18446744073709551616) (hcell : w.cell? ⟨B, 0, none⟩ = some (.int .u64 (c : Int))) (h0 : 0 ≤ x.f0) (h1 : x.f0 ≤ 11) :
    Calls Tryz.prog 65 #[.agg #[.int .i64 x.f0, .bool x.f1], .pointer (some ⟨B, 0, none⟩)] w fun e w' => e = .returned (.bool (nlit c x)) ∧ Below w.heap.size w w' := by
  have hu62 := Tryz.underlying73
  have hB : B < w.heap.size := World.block_lt_of_cell? w _ hcell
  obtain ⟨o, b⟩ := x
  have h0' : 0 ≤ o := h0
  have h1' : o ≤ 11 := h1
  clear h0 h1
  have HC := Lib.hid hc
  clear hc
  go_enter Tryz.func65, Tryz.ntmps65
  go_wp2
  go_quiet ((go_at_call 35; exact Calls.quiet_of (on_quiet _ _ HC.out (by omega) (by omega) _)))
  go_wp2
  go_ret
  exact ⟨rfl, pw_below_drewN ((Below.refl _ _).alloc (Nat.le_refl _) _) _⟩

/-- ContainsFunc's closure of 'holds', at every literal of a list. -/
theorem enters73 : Enters Tryz.prog 65 := enters_of Tryz.func65 (by kernel_rfl) rfl
/-- All literals name one of twelve options. -/
def LitsOk (l : List S62) : Prop := ∀ x ∈ l, 0 ≤ x.f0 ∧ x.f0 ≤ 11

set_option maxHeartbeats 1000000 in
/-- holds: all of some literals hold. -/
theorem holds_calls (c : Nat) (A : Option Addr) (cp : Nat) (l : List S62) (w : World) (hc : c < 18446744073709551616) (hr : Kd.C k62 w A l.length l) (hcp : l.length ≤ cp) (hok : LitsOk l) :
    Calls Tryz.prog 55 #[.int .u64 c, .slice A l.length cp] w fun e w' => e = .returned (.bool (!l.any (nlit c))) ∧ Below w.heap.size w w' := by
  have HC := Lib.hid (has55 65 #[.pointer (some ⟨w.heap.size, 0, none⟩)] (nlit c) A cp l (w.alloc (.cells #[.int .u64 (c : Int)] 88)) enters73 (Kd.C_below hr ((Below.refl _ _).alloc (Nat.le_refl _) _)) hcp (fun W1 x hb hx =>
    holds1 w.heap.size c x W1 hc (pw_cell_below hb (by simp)) (hok x hx).1 (hok x hx).2))
  clear hr hok
  go_enter Tryz.func55, Tryz.ntmps55
  go_wp2_with (go_at_call 47; refine HC.out.mono ?_; rintro e w2 ⟨rfl, hb⟩)
  go_ret
  exact ⟨rfl, below_step ((Below.refl _ _).alloc (Nat.le_refl _) _) hb⟩

/-- satisfies' closure: one literal holds. -/
theorem enters66 : Enters Tryz.prog 62 := enters_of Tryz.func62 (by kernel_rfl) rfl
theorem any_one (c : Nat) (x : S62) : (!([x] : List S62).any (nlit c)) = !nlit c x := by simp
set_option maxHeartbeats 1000000 in
theorem sat1 (B : Nat) (c : Nat) (x : S62) (w : World) (hc : c < 18446744073709551616) (hcell : w.cell? ⟨B, 0, none⟩ = some (.int .u64 (c : Int))) (h0 : 0 ≤ x.f0) (h1 : x.f0 ≤ 11) :
    Calls Tryz.prog 62 #[.agg #[.int .i64 x.f0, .bool x.f1], .pointer (some ⟨B, 0, none⟩)] w fun e w' => e = .returned (.bool (!nlit c x)) ∧ Below w.heap.size w w' := by
  have hu62 := Tryz.underlying73
  have hB : B < w.heap.size := World.block_lt_of_cell? w _ hcell
  have HK := Lib.hid (k62_mk w x)
  have HH := Lib.hid (holds_calls c)
  have HX := Lib.hid (any_one c x)
  obtain ⟨o, b⟩ := x
  have H0 : Aside0 (0 ≤ o ∧ o ≤ 11) := ⟨h0, h1⟩
  clear h0 h1
  have HC := Lib.hid hc
  clear hc
  go_enter Tryz.func62, Tryz.ntmps62
  go_wp2_with fail
  refine (HH.out (some _) 1 [⟨o, b⟩] _ HC.out (C_block (t := 73) (cs := [.int .i64 o, .bool b]) k62 (k62_mk _ (⟨o, b⟩ : S62)) (heap_alloc2_new _ _ _)) (by simp) (by intro y hy; obtain rfl : y = ⟨o, b⟩ := (by simpa using hy); exact H0.out)).mono ?_
  rintro e w2 ⟨rfl, hb⟩
  go_wp2
  go_ret
  refine ⟨?_, below_step (((Below.refl _ _).alloc (Nat.le_refl _) _).alloc (by simp) _) hb⟩
  rw [← HX.out]
  rfl

/-- satisfies: one of a rule's literals holds. -/
def satR (c : Nat) (x : S70) : Bool := x.f1.any fun y => !nlit c y
set_option maxHeartbeats 1000000 in
theorem sat_calls (c : Nat) (x : S70) (A1 : Option Addr) (c1 : Nat) (w : World) (hc : c < 18446744073709551616) (hr : Kd.C k62 w A1 x.f1.length x.f1) (hcp : x.f1.length ≤ c1) (hok : LitsOk x.f1) :
    Calls Tryz.prog 45 #[.int .u64 c, .agg #[.string x.f0, .slice A1 x.f1.length c1]] w fun e w' => e = .returned (.bool (satR c x)) ∧ Below w.heap.size w w' := by
  have hu70 := Tryz.underlying40
  have HC := Lib.hid (has55 62 #[.pointer (some ⟨w.heap.size, 0, none⟩)] (fun y => !nlit c y) A1 c1 x.f1 ((w.alloc (.cells #[.int .u64 (c : Int)] 88)).alloc (.cells #[.string x.f0, .slice A1 x.f1.length c1] 40)) enters66 (Kd.C_below hr (((Below.refl _ _).alloc (Nat.le_refl _) _).alloc (by simp) _)) hcp (fun W1 y hb hy =>
    sat1 w.heap.size c y W1 hc (pw_cell_below hb (by simp)) (hok y hy).1 (hok y hy).2))
  clear hr hok
  go_enter Tryz.func45, Tryz.ntmps45
  go_wp2_with (go_at_call 47; refine HC.out.mono ?_; rintro e w2 ⟨rfl, hb⟩)
  go_ret
  exact ⟨rfl, below_step (((Below.refl _ _).alloc (Nat.le_refl _) _).alloc (by simp) _) hb⟩

/-- violated's closure. -/
theorem enters69 : Enters Tryz.prog 54 := enters_of Tryz.func54 (by kernel_rfl) rfl
set_option maxHeartbeats 1000000 in
theorem viol1 (B : Nat) (c : Nat) (x : S70) (A1 : Option Addr) (c1 : Nat) (w : World) (hc : c < 18446744073709551616) (hcell : w.cell? ⟨B, 0, none⟩ = some (.int .u64 (c : Int))) (hr : Kd.C k62 w A1 x.f1.length x.f1) (hcp : x.f1.length ≤ c1) (hok : LitsOk x.f1) :
    Calls Tryz.prog 54 #[.agg #[.string x.f0, .slice A1 x.f1.length c1], .pointer (some ⟨B, 0, none⟩)] w fun e w' => e = .returned (.bool (!satR c x)) ∧ Below w.heap.size w w' := by
  have hu70 := Tryz.underlying40
  have hB : B < w.heap.size := World.block_lt_of_cell? w _ hcell
  have HC := Lib.hid (sat_calls c x A1 c1 (w.alloc (.cells #[.string x.f0, .slice A1 x.f1.length c1] 40)) hc (Kd.C_alloc hr _) hcp hok)
  clear hr hok
  have HH := Lib.hid hc
  clear hc
  go_enter Tryz.func54, Tryz.ntmps54
  go_wp2_with (go_at_call 45; refine HC.out.mono ?_; rintro e w2 ⟨rfl, hb⟩)
  go_ret
  exact ⟨rfl, below_step ((Below.refl _ _).alloc (Nat.le_refl _) _) hb⟩

/-- violated: the first rule that a configuration breaks, or -1. -/
def RulesOk (l : List S70) : Prop := ∀ x ∈ l, LitsOk x.f1
set_option maxHeartbeats 1000000 in
theorem viol_calls (c : Nat) (A : Option Addr) (cp : Nat) (l : List S70) (w : World) (hc : c < 18446744073709551616) (hr : Kd.C k70 w A l.length l) (hcp : l.length ≤ cp) (hok : RulesOk l) :
    Calls Tryz.prog 28 #[.int .u64 c, .slice A l.length cp] w fun e w' => e = .returned (.int .i64 (idxP (fun x => !satR c x) l)) ∧ Below w.heap.size w w' := by
  have HC := Lib.hid (idx48 54 #[.pointer (some ⟨w.heap.size, 0, none⟩)] (fun x => !satR c x) A cp l (w.alloc (.cells #[.int .u64 (c : Int)] 88)) enters69 (Kd.C_alloc hr _) hcp (fun W1 x A1 c1 hb hx hl hC =>
    viol1 w.heap.size c x A1 c1 W1 hc (pw_cell_below hb (by simp)) hC hl (hok x hx)))
  clear hr hok
  go_enter Tryz.func28, Tryz.ntmps28
  go_wp2_with (go_at_call 38; refine HC.out.mono ?_; rintro e w2 ⟨rfl, hb⟩)
  go_ret
  exact ⟨rfl, below_step ((Below.refl _ _).alloc (Nat.le_refl _) _) hb⟩
end Go.Proofs.YtcilmcoaondbmaaGreatDoor.PX
namespace Go.Proofs.YtcilmcoaondbmaaGreatDoor.PX
open Go.RowKit Go.Proofs.YtcilmcoaondbmaaGreatDoorW.PrintWords Go.Proofs.YtcilmcoaondbmaaGreatDoorW.PrintLast Go.Proofs.YtcilmcoaondbmaaGreatDoorW.PrintMore
set_option linter.unusedVariables false
set_option linter.unusedSimpArgs false

/-- A family's content. -/
structure Fam where
  nm : ByteArray
  parts : List S129
  insts : List S105
  dims : List S81
  cons : List S158
  reqs : List S165
  opts : List ByteArray
  rules : List S70
  guards : List S79
  overs : List S83
/-- Where a family's rows lie. -/
structure Hd where
  A1 : Option Addr
  A2 : Option Addr
  A3 : Option Addr
  A4 : Option Addr
  A5 : Option Addr
  A6 : Option Addr
  A7 : Option Addr
  A8 : Option Addr
  A9 : Option Addr
  c1 : Nat
  c2 : Nat
  c3 : Nat
  c4 : Nat
  c5 : Nat
  c6 : Nat
  c7 : Nat
  c8 : Nat
  c9 : Nat
/-- A family as a value. -/
abbrev fv (D : Fam) (H : Hd) : Value := .agg #[.string D.nm, .slice H.A1 D.parts.length H.c1, .slice H.A2 D.insts.length H.c2, .slice H.A3 D.dims.length H.c3, .slice H.A4 D.cons.length H.c4, .slice H.A5 D.reqs.length H.c5, .slice H.A6 D.opts.length H.c6, .slice H.A7 D.rules.length H.c7, .slice H.A8 D.guards.length H.c8, .slice H.A9 D.overs.length H.c9]
abbrev fcells (D : Fam) (H : Hd) : Array Value := #[.string D.nm, .slice H.A1 D.parts.length H.c1, .slice H.A2 D.insts.length H.c2, .slice H.A3 D.dims.length H.c3, .slice H.A4 D.cons.length H.c4, .slice H.A5 D.reqs.length H.c5, .slice H.A6 D.opts.length H.c6, .slice H.A7 D.rules.length H.c7, .slice H.A8 D.guards.length H.c8, .slice H.A9 D.overs.length H.c9]
/-- The family's rows read as its content. -/
structure FamAt (w : World) (D : Fam) (H : Hd) : Prop where
  r1 : True
  l1 : D.parts.length ≤ H.c1
  r2 : True
  l2 : D.insts.length ≤ H.c2
  r3 : Kd.C k81 w H.A3 D.dims.length D.dims
  l3 : D.dims.length ≤ H.c3
  r4 : True
  l4 : D.cons.length ≤ H.c4
  r5 : True
  l5 : D.reqs.length ≤ H.c5
  r6 : Kd.C Kd.string w H.A6 D.opts.length D.opts
  l6 : D.opts.length ≤ H.c6
  r7 : Kd.C k70 w H.A7 D.rules.length D.rules
  l7 : D.rules.length ≤ H.c7
  r8 : Kd.C k79 w H.A8 D.guards.length D.guards
  l8 : D.guards.length ≤ H.c8
  r9 : Kd.C k83 w H.A9 D.overs.length D.overs
  l9 : D.overs.length ≤ H.c9
theorem FamAt.below {w w1 : World} {D : Fam} {H : Hd} (h : FamAt w D H) (hb : Below w.heap.size w w1) : FamAt w1 D H :=
  ⟨trivial, h.l1, trivial, h.l2, Kd.C_below h.r3 hb, h.l3, trivial, h.l4, trivial, h.l5, Kd.C_below h.r6 hb, h.l6, Kd.C_below h.r7 hb, h.l7, Kd.C_below h.r8 hb, h.l8, Kd.C_below h.r9 hb, h.l9⟩

/-- Configuration number k of m options. -/
def cfg (m k : Nat) : Nat := k * 2 ^ (12 - m)
def okC (ch : List S62) (rs : List S70) (c : Nat) : Bool := !ch.any (nlit c) && decide (idxP (fun x => !satR c x) rs < 0)
/-- The first k configurations that are visited, the greatest first. -/
def down (m : Nat) (ch : List S62) (rs : List S70) : Nat → List Nat
  | 0 => []
  | k + 1 => if okC ch rs (cfg m k) then cfg m k :: down m ch rs k else down m ch rs k
/-- What the visitor comes to. -/
def runV {σ : Type} (step : σ → Nat → σ) (cont : σ → Nat → Bool) : σ → List Nat → σ
  | s, [] => s
  | s, c :: cs => if cont s c then runV step cont (step s c) cs else step s c
theorem cfg_lt (m k : Nat) (hm : m ≤ 12) (hk : k < 2 ^ m) : cfg m k < 4096 := by
  unfold cfg
  have h1 : k * 2 ^ (12 - m) < 2 ^ m * 2 ^ (12 - m) := Nat.mul_lt_mul_of_pos_right hk (Nat.pow_pos (by decide))
  rwa [← Nat.pow_add, Nat.add_sub_cancel' hm] at h1

theorem low_eq (m : Nat) (hm : m ≤ 12) : wrap64 (12 - (m : Int)) = ((12 - m : Nat) : Int) := by unfold wrap64; omega
theorem two_le (m : Nat) (hm : m ≤ 12) : 2 ^ m ≤ 4096 := Nat.pow_le_pow_right (by decide) hm
theorem top_eq (m : Nat) (hm : m ≤ 12) : wrap64 (wrap64 (2 ^ min m 64) - 1) = ((2 ^ m : Nat) : Int) - 1 := by
  rw [Nat.min_eq_left (by omega)]
  have h := two_le m hm
  have e : ((2 : Int) ^ m) = ((2 ^ m : Nat) : Int) := by simp
  rw [e]
  generalize 2 ^ m = t at h
  unfold wrap64; omega
theorem cfg_int (m k : Nat) (hm : m ≤ 12) (hk : k < 2 ^ m) : IntKind.u64.wrap (wrap64 ((k : Int) * 2 ^ (12 - m))) = ((cfg m k : Nat) : Int) := by
  have h := cfg_lt m k hm hk
  have e : ((k : Int) * 2 ^ (12 - m)) = ((cfg m k : Nat) : Int) := by simp [cfg]
  rw [e, IntKind.wrap_u64]
  unfold wrap64; omega
theorem down_succ (m : Nat) (ch : List S62) (rs : List S70) (k : Nat) : down m ch rs (k + 1) = if okC ch rs (cfg m k) then cfg m k :: down m ch rs k else down m ch rs k := rfl
set_option maxHeartbeats 4000000 in
set_option maxRecDepth 100000 in
theorem visit_calls {σ : Type} (step : σ → Nat → σ) (cont : σ → Nat → Bool) (Inv : σ → World → Prop) (g : FuncId) (lb : Array Value) (eg : Enters Tryz.prog g)
    (D : Fam) (H : Hd) (A2 : Option Addr) (c2 : Nat) (ch : List S62) (A3 : Option Addr) (c3 : Nat) (rs : List S70) (w0 w : World) (s0 : σ)
    (hm : D.opts.length ≤ 12) (hr2 : Kd.C k62 w0 A2 ch.length ch) (hl2 : ch.length ≤ c2) (hr3 : Kd.C k70 w0 A3 rs.length rs) (hl3 : rs.length ≤ c3) (hch : LitsOk ch) (hrs : RulesOk rs)
    (hb : Below w0.heap.size w0 w) (hi : Inv s0 w) (hstay : ∀ s W W', Below w0.heap.size w0 W → Inv s W → Below W.heap.size W W' → Inv s W')
    (hstep : ∀ s c W, c < 4096 → Below w0.heap.size w0 W → Inv s W → Calls Tryz.prog g (#[.int .u64 (c : Int)] ++ lb) W fun e W' => e = .returned (.bool (cont s c)) ∧ Below w0.heap.size w0 W' ∧ Inv (step s c) W') :
    Calls Tryz.prog 30 #[fv D H, .slice A2 ch.length c2, .slice A3 rs.length c3, .func (.func g) #[] lb] w fun e W' => e = .returned (.tuple #[]) ∧ Below w0.heap.size w0 W' ∧ Inv (runV step cont s0 (down D.opts.length ch rs (2 ^ D.opts.length))) W' := by
  have hu41 := Tryz.underlying36
  unfold fv
  unfold Enters at eg
  have HM := Lib.hid hm
  clear hm
  go_enter Tryz.func30, Tryz.ntmps30
  go_wp2_with fail
  rw [low_eq _ HM.out, top_eq _ HM.out]
  have HI := Lib.hid hi
  have HB := Lib.hid hb
  have HST := Lib.hid hstay
  have HSTEP := Lib.hid hstep
  have HR2 := Lib.hid hr2
  have HR3 := Lib.hid hr3
  have HCH := Lib.hid hch
  have HRS := Lib.hid hrs
  have HL2 := Lib.hid hl2
  have HL3 := Lib.hid hl3
  clear hi hb hstay hstep hr2 hr3 hch hrs hl2 hl3
  go_loopg [9] (2 ^ D.opts.length) (fun gk v9 w' => ∃ (k : Nat) (s : σ), v9 = .int .i64 ((k : Int) - 1) ∧ Aside0 (k ≤ 2 ^ D.opts.length) ∧ Aside0 (k ≤ gk) ∧ Aside0 (Below w0.heap.size w0 w') ∧ Aside0 (Inv s w') ∧ Aside0 (runV step cont s0 (down D.opts.length ch rs (2 ^ D.opts.length)) = runV step cont s (down D.opts.length ch rs k)))
  case atStart => exact ⟨2 ^ D.opts.length, s0, rfl, ⟨Nat.le_refl _⟩, ⟨Nat.le_refl _⟩, ⟨HB.out.alloc HB.out.size _⟩, ⟨HST.out _ _ _ HB.out HI.out ((Below.refl _ _).alloc (Nat.le_refl _) _)⟩, ⟨rfl⟩⟩
  case round =>
    obtain ⟨k, s, rfl, HK, HG, HB, HI, HE⟩ := hrel
    cases k with
    | zero =>
      rw [show (((0 : Nat) : Int) - 1) = -1 from rfl]
      go_wp2
      go_end0
      exact ⟨rfl, HB.out, by rw [HE.out]; exact HI.out⟩
    | succ k =>
      rw [show (((k + 1 : Nat) : Int) - 1) = (k : Int) from by omega]
      have hk := HK.out
      have hcl := cfg_lt D.opts.length k HM.out (by omega)
      have HCI := Lib.hid (cfg_int D.opts.length k HM.out (by omega))
      have C62 := Lib.hid (holds_calls (cfg D.opts.length k) A2 c2 ch wr (by omega) (Kd.C_below HR2.out HB.out) HL2.out HCH.out)
      have C58 := Lib.hid (fun W (hW : Below wr.heap.size wr W) => viol_calls (cfg D.opts.length k) A3 c3 rs W (by omega) (Kd.C_below (Kd.C_below HR3.out HB.out) hW) HL3.out HRS.out)
      have CG := Lib.hid (fun W (hW : Below wr.heap.size wr W) => HSTEP.out s (cfg D.opts.length k) W hcl (below_step HB.out hW) (HST.out _ _ _ HB.out HI.out hW))
      have HD := Lib.hid (down_succ D.opts.length ch rs k)
      have hpos : 0 ≤ (k : Int) := by omega
      have htop : (k : Int) ≤ 4096 := by have := two_le D.opts.length HM.out; omega
      clear hk hcl
      generalize hc : cfg D.opts.length k = c at *
      have HCC := Lib.hid hc
      clear hc
      cases ha : ch.any (nlit c) with
      | true =>
        go_wp2_with fail
        rw [HCI.out]
        refine C62.out.mono ?_
        rintro e w2 ⟨rfl, hb⟩
        go_wp2_with fail
        go_roundg k
        case measure => have := HG.out; omega
        case rel => exact ⟨k, s, rfl, ⟨by have := HK.out; omega⟩, ⟨Nat.le_refl _⟩, ⟨below_step HB.out hb⟩, ⟨HST.out _ _ _ HB.out HI.out hb⟩, ⟨by rw [HE.out, HD.out]; simp [okC, ha]⟩⟩
      | false =>
        by_cases hv : idxP (fun x => !satR c x) rs < 0
        · have hv0 : decide (idxP (fun x => !satR c x) rs < 0) = true := by simpa using hv
          have HV := Lib.hid hv
          have HA := Lib.hid ha
          clear hv
          have HOK : Hid (okC ch rs c = true) := Lib.hid (by simp [okC, HA.out, HV.out])
          cases hq : cont s c with
          | true =>
            go_wp2_with fail
            rw [HCI.out]
            refine C62.out.mono ?_
            rintro e w2 ⟨rfl, hb⟩
            go_wp2_with fail
            refine (C58.out w2 hb).mono ?_
            rintro e w3 ⟨rfl, hb3⟩
            have hb3' := below_step hb hb3
            have CG' := Lib.hid (CG.out w3 hb3')
            go_wp2_with (go_at_fn g; refine CG'.out.mono ?_; rintro e w4 ⟨rfl, hb4, hi4⟩)
            go_roundg k
            case measure => have := HG.out; omega
            case rel => exact ⟨k, step s c, rfl, ⟨by have := HK.out; omega⟩, ⟨Nat.le_refl _⟩, ⟨hb4⟩, ⟨hi4⟩, ⟨by rw [HE.out, HD.out, HOK.out]; simp [runV, hq]⟩⟩
          | false =>
            go_wp2_with fail
            rw [HCI.out]
            refine C62.out.mono ?_
            rintro e w2 ⟨rfl, hb⟩
            go_wp2_with fail
            refine (C58.out w2 hb).mono ?_
            rintro e w3 ⟨rfl, hb3⟩
            have hb3' := below_step hb hb3
            have CG' := Lib.hid (CG.out w3 hb3')
            go_wp2_with (go_at_fn g; refine CG'.out.mono ?_; rintro e w4 ⟨rfl, hb4, hi4⟩)
            refine bodyPost_ret (results_none rfl _ _ _) rfl ?_
            refine ⟨rfl, hb4, ?_⟩
            rw [HE.out, HD.out, HOK.out]
            simp only [if_true, runV, hq, Bool.false_eq_true, if_false]
            exact hi4
        · have hv0 : decide (idxP (fun x => !satR c x) rs < 0) = false := by simpa using hv
          have HV := Lib.hid hv
          have HA := Lib.hid ha
          clear hv
          have HOK : Hid (okC ch rs c = false) := Lib.hid (by have := HV.out; simp [okC, HA.out]; omega)
          go_wp2_with fail
          rw [HCI.out]
          refine C62.out.mono ?_
          rintro e w2 ⟨rfl, hb⟩
          go_wp2_with fail
          refine (C58.out w2 hb).mono ?_
          rintro e w3 ⟨rfl, hb3⟩
          have hb3' := below_step hb hb3
          go_wp2_with fail
          go_roundg k
          case measure => have := HG.out; omega
          case rel => exact ⟨k, s, rfl, ⟨by have := HK.out; omega⟩, ⟨Nat.le_refl _⟩, ⟨below_step HB.out hb3'⟩, ⟨HST.out _ _ _ HB.out HI.out hb3'⟩, ⟨by rw [HE.out, HD.out, HOK.out]; simp⟩⟩
end Go.Proofs.YtcilmcoaondbmaaGreatDoor.PX
namespace Go.Proofs.YtcilmcoaondbmaaGreatDoor.PX
open Go.RowKit Go.Lib Go.Proofs.YtcilmcoaondbmaaGreatDoorW.PrintWords Go.Proofs.YtcilmcoaondbmaaGreatDoorW.PrintLast Go.Proofs.YtcilmcoaondbmaaGreatDoorW.PrintMore
set_option linter.unusedVariables false
set_option linter.unusedSimpArgs false

/-- A rune that no name has. -/
def badR (r : Nat) : Bool := decide (r < 33) || decide (126 < r)
/-- The place of the first such rune from a place on, or -1. -/
def idxBad (s : ByteArray) : Nat → Nat → Int
  | 0, _ => -1
  | f + 1, pos => if pos < s.size then (if badR (Utf8.decode s pos).1 = true then (pos : Int) else idxBad s f (pos + (Utf8.decode s pos).2)) else -1
theorem idxBad_end (s : ByteArray) (f pos : Nat) (h : ¬ pos < s.size) : idxBad s f pos = -1 := by cases f <;> simp [idxBad, h]
/-- Every byte of a text is one that a name may have. -/
def goodB (s : ByteArray) : Bool := s.data.toList.all fun b => decide (33 ≤ b.toNat) && decide (b.toNat ≤ 126)
theorem goodB_iff (s : ByteArray) : goodB s = true ↔ ∀ i, (h : i < s.size) → 33 ≤ (s[i]'h).toNat ∧ (s[i]'h).toNat ≤ 126 := by
  unfold goodB
  rw [List.all_eq_true]
  constructor
  · intro h i hi
    have := h (s[i]'hi) (by
      have : s[i]'hi = s.data[i]'hi := rfl
      rw [this]
      exact Array.getElem_mem_toList hi)
    simpa using this
  · intro h b hb
    obtain ⟨i, hi, rfl⟩ := List.getElem_of_mem hb
    have hi' : i < s.size := by simpa using hi
    have := h i hi'
    have e : s.data.toList[i] = s[i]'hi' := by simp; rfl
    rw [e]; simpa using this
theorem idxBad_good (s : ByteArray) : ∀ (f pos : Nat), (∀ i, (h : i < s.size) → pos ≤ i → 33 ≤ (s[i]'h).toNat ∧ (s[i]'h).toNat ≤ 126) → idxBad s f pos = -1
  | 0, _, _ => rfl
  | f + 1, pos, h => by
    unfold idxBad
    by_cases hp : pos < s.size
    · rw [if_pos hp]
      obtain ⟨h1, h2⟩ := h pos hp (Nat.le_refl _)
      rw [decode_ascii s pos hp (by omega)]
      rw [if_neg (by simp [badR]; omega)]
      exact idxBad_good s f (pos + 1) fun i hi hle => h i hi (by omega)
    · rw [if_neg hp]
theorem idxBad_bad (s : ByteArray) : ∀ (f pos q : Nat), (hq : q < s.size) → ¬ (33 ≤ (s[q]'hq).toNat ∧ (s[q]'hq).toNat ≤ 126) → pos ≤ q → q < pos + f → 0 ≤ idxBad s f pos
  | 0, pos, q, _, _, _, h => by omega
  | f + 1, pos, q, hq, hb, hle, hlt => by
    unfold idxBad
    have hp : pos < s.size := by omega
    rw [if_pos hp]
    by_cases hbad : badR (Utf8.decode s pos).1 = true
    · rw [if_pos hbad]; omega
    · rw [if_neg hbad]
      rcases Nat.lt_or_ge (s[pos]'hp).toNat 128 with ha | ha
      · rw [decode_ascii s pos hp ha] at hbad ⊢
        have hne : pos ≠ q := by
          rintro rfl
          simp [badR] at hbad
          omega
        exact idxBad_bad s f (pos + 1) q hq hb (by omega) (by omega)
      · have := (decode_high s pos hp ha).1
        simp [badR] at hbad
        omega
theorem idxBad_eq (s : ByteArray) : decide (0 ≤ idxBad s s.size 0) = !goodB s := by
  cases h : goodB s with
  | true =>
    rw [idxBad_good s s.size 0 fun i hi _ => (goodB_iff s).1 h i hi]
    rfl
  | false =>
    have : ∃ q, ∃ hq : q < s.size, ¬ (33 ≤ (s[q]'hq).toNat ∧ (s[q]'hq).toNat ≤ 126) := by
      apply Classical.byContradiction
      intro hn
      have : goodB s = true := (goodB_iff s).2 fun i hi => Classical.byContradiction fun hc => hn ⟨i, hi, hc⟩
      rw [h] at this; exact absurd this (by decide)
    obtain ⟨q, hq, hb⟩ := this
    have := idxBad_bad s s.size 0 q hq hb (by omega) (by omega)
    simpa using this

theorem enters75 : Enters Tryz.prog 52 := enters_of Tryz.func52 (by kernel_rfl) rfl
theorem badR_lo {r : Nat} (h : r < 33) : badR r = true := by simp [badR, h]
theorem badR_hi {r : Nat} (h : 126 < r) : badR r = true := by simp [badR, h]
theorem badR_no {r : Nat} (h : 33 ≤ r) (h' : r ≤ 126) : badR r = false := by simp [badR]; omega
theorem name1 (r : Nat) (w : World) : Calls Tryz.prog 52 #[.int .i32 (r : Int)] w fun e w' => e = .returned (.bool (badR r)) ∧ w' = w := by
  by_cases h1 : r < 33
  · rw [badR_lo h1]
    have c1 : decide ((r : Int) < 33) = true := by simp; omega
    clear h1
    go_enter Tryz.func52, Tryz.ntmps52
    go_wp2
    go_ret
    exact ⟨rfl, rfl⟩
  · by_cases h2 : 126 < r
    · rw [badR_hi h2]
      have c1 : decide ((r : Int) < 33) = false := by simp; omega
      have c2 : decide (126 < (r : Int)) = true := by simp; omega
      clear h1 h2
      go_enter Tryz.func52, Tryz.ntmps52
      go_wp2
      go_ret
      exact ⟨rfl, rfl⟩
    · rw [badR_no (by omega) (by omega)]
      have c1 : decide ((r : Int) < 33) = false := by simp; omega
      have c2 : decide (126 < (r : Int)) = false := by simp; omega
      clear h1 h2
      go_enter Tryz.func52, Tryz.ntmps52
      go_wp2
      go_ret
      exact ⟨rfl, rfl⟩

set_option maxHeartbeats 2000000 in
set_option maxRecDepth 100000 in
theorem idx89 (s : ByteArray) (w : World) :
    Calls Tryz.prog 80 #[.string s, .func (.func 52) #[] #[], .bool true] w fun e w' => e = .returned (.int .i64 (idxBad s s.size 0)) ∧ Below w.heap.size w w' := by
  have eg := enters75
  unfold Enters at eg
  have hp := Lib.hid name1
  go_enter Tryz.func80, Tryz.ntmps80
  go_wp2
  go_loopg [] s.size (fun gf wx => ∃ pos : Nat, Aside0 (wx.heap[w.heap.size]? = some (.stringIter s pos)) ∧ Aside0 (Below w.heap.size w wx) ∧ Aside0 (idxBad s gf pos = idxBad s s.size 0) ∧ Aside0 (s.size ≤ pos + gf))
  case atStart => exact ⟨0, ⟨World.iter_heap w s 0⟩, ⟨(Below.refl _ w).alloc (Nat.le_refl _) _⟩, ⟨rfl⟩, ⟨by omega⟩⟩
  case round =>
    obtain ⟨pos, hit, hbw, hleft, hfu⟩ := hrel
    by_cases hps : pos < s.size
    · obtain ⟨g', rfl⟩ : ∃ g', gk = g' + 1 := ⟨gk - 1, by have := hfu.out; omega⟩
      have hnx : ∀ ty, (Instr.next (.pointer (some ⟨w.heap.size, 0, none⟩)) true ty).run Tryz.prog wr = _ := fun ty => Lib.run_next_any_at wr w.heap.size s pos ty hit.out hps
      have hwd := Lib.width_pos s pos
      obtain ⟨R, hR⟩ : ∃ R, (Utf8.decode s pos).1 = R := ⟨_, rfl⟩
      obtain ⟨K, hK⟩ : ∃ K, (Utf8.decode s pos).2 = K := ⟨_, rfl⟩
      have hl := hleft.out
      simp only [idxBad, hps, if_true, hR, hK] at hl
      rw [hR, hK] at hnx
      rw [hK] at hwd
      have hit2 := Aside0.mk (Lib.iterAt_heap wr w.heap.size s pos (pos + K) hit.out)
      have hbw2 := Aside0.mk (Lib.below_iterAt hbw.out (k := w.heap.size) (Nat.le_refl _) s (pos + K))
      obtain ⟨W, hWd⟩ : ∃ W, wr.iterAt w.heap.size s (pos + K) = W := ⟨_, rfl⟩
      rw [hWd] at hnx hit2 hbw2
      have HWD := Aside0.mk hWd
      have HKR := Aside0.mk hR
      have HKK := Aside0.mk hK
      have HPS := Aside0.mk hps
      have HWP := Aside0.mk hwd
      clear hWd hR hK hps hwd
      cases hsp : badR R with
      | true =>
        rw [hsp] at hl
        have hl' := Aside0.mk hl
        clear hl
        have C := Lib.hid (hp.out R W)
        go_wp2_with fail
        refine C.out.mono ?_
        rintro e W' ⟨rfl, hW'⟩
        rw [hsp]
        obtain rfl := hW'
        go_wp2
        go_ret
        refine ⟨?_, hbw2.out⟩
        rw [← hl'.out]
        rfl
      | false =>
        rw [hsp] at hl
        have hl' := Aside0.mk hl
        clear hl
        have C := Lib.hid (hp.out R W)
        go_wp2_with fail
        refine C.out.mono ?_
        rintro e W' ⟨rfl, hW'⟩
        rw [hsp]
        obtain rfl := hW'
        go_wp2
        go_roundg g'
        case measure => omega
        case rel => exact ⟨pos + K, hit2, hbw2, ⟨by simpa using hl'.out⟩, ⟨by have := hfu.out; have := HWP.out; omega⟩⟩
    · have hnx : ∀ ty, (Instr.next (.pointer (some ⟨w.heap.size, 0, none⟩)) true ty).run Tryz.prog wr = _ := fun ty => Lib.run_next_end_at wr w.heap.size s pos ty hit.out hps
      have hl := hleft.out
      rw [idxBad_end s gk pos hps] at hl
      have hl' := Aside0.mk hl
      have HPS := Aside0.mk hps
      clear hl hps
      go_wp2
      go_ret
      refine ⟨?_, hbw.out⟩
      rw [← hl'.out]
      rfl

theorem has74 (s : ByteArray) (w : World) :
    Calls Tryz.prog 51 #[.string s, .func (.func 52) #[] #[]] w fun e w' => e = .returned (.bool (!goodB s)) ∧ Below w.heap.size w w' := by
  have HC := Lib.hid (idx89 s)
  have HE := Lib.hid (idxBad_eq s)
  have H86 : Hid (∀ W, Calls Tryz.prog 64 #[.string s, .func (.func 52) #[] #[]] W fun e w' => e = .returned (.int .i64 (idxBad s s.size 0)) ∧ Below W.heap.size W w') := Lib.hid fun W => by
    generalize idxBad s s.size 0 = I at *
    go_enter Tryz.func64, Tryz.ntmps64
    go_wp2_with (go_at_call 80; refine (HC.out _).mono ?_; rintro e w2 ⟨rfl, hb⟩)
    go_ret
    exact ⟨rfl, hb⟩
  rw [← HE.out]
  clear HE
  generalize idxBad s s.size 0 = I at *
  go_enter Tryz.func51, Tryz.ntmps51
  go_wp2_with (go_at_call 64; refine (H86.out _).mono ?_; rintro e w2 ⟨rfl, hb⟩)
  go_ret
  exact ⟨rfl, hb⟩

/-- A text is a name. -/
def nameB (s : ByteArray) : Bool := (decide (0 < s.size) && decide (s.size ≤ 40)) && goodB s
theorem isName_calls (s : ByteArray) (w : World) : Calls Tryz.prog 25 #[.string s] w fun e w' => e = .returned (.bool (nameB s)) ∧ Below w.heap.size w w' := by
  have HC := Lib.hid (has74 s)
  have hlen : s.toList.length = s.size := by rw [ByteArray.toList_eq]; simp
  by_cases h0 : 0 < s.size
  · have hne : ¬ s.toList = [] := fun h => by rw [h] at hlen; simp at hlen; omega
    by_cases h1 : s.size ≤ 40
    · have e : nameB s = goodB s := by simp [nameB, h0, h1]
      rw [e]
      have c1 : decide ((s.size : Int) ≤ 40) = true := by simp; omega
      have c2 : decide (s.size ≤ 40) = true := by simp; omega
      have c3 : s.toList.isEmpty = false := by simpa using hne
      clear hlen h0 h1 hne e
      go_enter Tryz.func25, Tryz.ntmps25
      go_wp2_with (go_at_call 51; refine (HC.out _).mono ?_; rintro e w2 ⟨rfl, hb⟩)
      go_ret
      refine ⟨?_, hb⟩
      simp
    · have e : nameB s = false := by simp [nameB, h1]
      rw [e]
      have c1 : decide ((s.size : Int) ≤ 40) = false := by simp; omega
      have c2 : decide (s.size ≤ 40) = false := by simp; omega
      have c3 : s.toList.isEmpty = false := by simpa using hne
      clear hlen h0 h1 hne e HC
      go_enter Tryz.func25, Tryz.ntmps25
      go_wp2_with fail
      go_ret
      exact ⟨rfl, Below.refl _ _⟩
  · have e : nameB s = false := by simp [nameB, h0]
    rw [e]
    have hz : s.toList = [] := List.length_eq_zero_iff.1 (by omega)
    have c3 : s.toList.isEmpty = true := by simpa using hz
    clear hlen h0 e HC
    go_enter Tryz.func25, Tryz.ntmps25
    go_wp2_with fail
    go_ret
    exact ⟨rfl, Below.refl _ _⟩
end Go.Proofs.YtcilmcoaondbmaaGreatDoor.PX
namespace Go.Proofs.YtcilmcoaondbmaaGreatDoor.PX
open Go.RowKit Go.Maps Go.Proofs.YtcilmcoaondbmaaGreatDoorW.PrintWords Go.Proofs.YtcilmcoaondbmaaGreatDoorW.PrintLast Go.Proofs.YtcilmcoaondbmaaGreatDoorW.PrintMore
set_option linter.unusedVariables false
set_option linter.unusedSimpArgs false

theorem keyLaw : Keyed Tryz.prog 9 := string_keyed Tryz.underlying9
theorem zero4 (w : World) : (zeroValue 4).run Tryz.prog w = .ok (.bool false) w := by kernel_rfl
abbrev skey (s : ByteArray) : Lit := .string s.data.toList
/-- Is a name among some. -/
def memB (ns : List ByteArray) (s : ByteArray) : Bool := ns.any fun t => t.data.toList == s.data.toList
/-- A map that holds true at just these names. -/
def KnownAt (w : World) (b : Nat) (ns : List ByteArray) : Prop := ∃ D : DataW Unit, w.ownsMap Tryz.prog 9 (plainElem Tryz.prog 4) b ns.length D ∧ IsMap D ∧ ∀ s, D.atKey (skey s) (.lit (.bool false)) = .lit (.bool (memB ns s))
theorem bool_inv {P : Program} {e : TypeId} (he : P.underlying e = some .bool) {v : Value} {x : Bool} {ps : List MemPlace} (h : plainElem (H := Unit) P e v = some (.lit (.bool x), ps)) : v = .bool x := by
  unfold plainElem at h
  rw [he] at h
  cases v <;> simp at h
  rw [h.1]
theorem known_made (w : World) : KnownAt (w.alloc (.map #[] 0)) w.heap.size [] := ⟨.map [], World.ownsMap_made w _ _ _, ⟨[], rfl⟩, fun s => rfl⟩
theorem known_kept {w w' : World} {b : Nat} {ns : List ByteArray} (h : KnownAt w b ns) (hb : Below w.heap.size w w') : KnownAt w' b ns := by
  obtain ⟨D, h1, h2, h3⟩ := h
  exact ⟨D, h1.kept (row := none) ⟨hb.os, hb.tape, hb.output, hb.size, fun i hi _ => hb.block i hi⟩ (by simp), h2, h3⟩
theorem known_look {w : World} {b : Nat} {ns : List ByteArray} (h : KnownAt w b ns) (s : ByteArray) (hs : s.size ≤ maxLen) : (Instr.lookup 81 (.map (some b)) (.string s) false).run Tryz.prog w = .ok (.bool (memB ns s)) w := by
  obtain ⟨D, h1, _, h3⟩ := h
  obtain ⟨v, ps, hrun, hv⟩ := h1.lookup keyLaw Tryz.underlying81 (zero4 w) (plainElem_bool Tryz.underlying4 false) (Go.WideMaps.keyOf_string_mk Tryz.underlying9 hs)
  rw [h3 s] at hv
  rw [hrun, bool_inv Tryz.underlying4 hv]
theorem skey_inj {s t : ByteArray} (h : skey s = skey t) : s = t := by
  injection h with h
  have : s.data = t.data := Array.toList_inj.1 h
  cases s; cases t; simp_all
theorem known_put {w : World} {b : Nat} {ns : List ByteArray} (h : KnownAt w b ns) (s : ByteArray) (hs : s.size ≤ maxLen) (hn : ns.length < maxLen) : ∃ w', (Instr.mapUpdate 81 (.map (some b)) (.string s) (.bool true)).run Tryz.prog w = .ok () w' ∧ KnownAt w' b (ns ++ [s]) ∧ w.grownBy w' (some b) := by
  obtain ⟨D, h1, h2, h3⟩ := h
  obtain ⟨w', hrun, hown, hg⟩ := h1.update keyLaw Tryz.underlying81 hn (Go.WideMaps.keyOf_string_mk Tryz.underlying9 hs) (plainElem_bool Tryz.underlying4 true)
  refine ⟨w', hrun, ⟨_, by rw [List.length_append]; exact hown, ?_, fun t => ?_⟩, hg⟩
  · obtain ⟨es, rfl⟩ := h2; exact ⟨_, rfl⟩
  · by_cases e : s = t
    · subst e
      rw [atKey_put_same h2 (by trivial)]
      simp [memB]
    · have hne : skey t ≠ skey s := fun he => e (skey_inj he).symm
      rw [atKey_put_other hne, h3]
      have : (s.data.toList == t.data.toList) = false := by
        rw [beq_eq_false_iff_ne]
        intro he
        exact hne (by unfold skey; rw [he])
      unfold memB
      rw [List.any_append]
      simp only [List.any_cons, List.any_nil, this, Bool.or_false]
end Go.Proofs.YtcilmcoaondbmaaGreatDoor.PX
