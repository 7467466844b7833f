/- Forced, possible, Clone, Delete and Conflict: what they return. -/
import Derived.Test.YtcilmcoaondbmaaGreatDoorM4
import Derived.Lib.SliceRun
import Derived.Shelf.RegionOpenPlain
namespace Go.Proofs.YtcilmcoaondbmaaGreatDoor.PX
open Go.RowKit Go.Proofs.YtcilmcoaondbmaaGreatDoorW.PrintWords Go.Proofs.YtcilmcoaondbmaaGreatDoorW.PrintLast Go.Proofs.YtcilmcoaondbmaaGreatDoorW.PrintMore
set_option linter.unusedVariables false
set_option linter.unusedSimpArgs false

theorem bits_or_u64_nat (a b : Nat) (ha : a < 18446744073709551616) (hb : b < 18446744073709551616) :
    Go.bits .or .u64 (a : Int) (b : Int) = ((a ||| b : Nat) : Int) := by
  have hx : a ||| b < 2 ^ 64 := Nat.or_lt_two_pow (by omega) (by omega)
  have h1 : (BitVec.ofInt 64 (a : Int)).toNat = a := by
    rw [BitVec.ofInt_natCast, BitVec.toNat_ofNat]; exact Nat.mod_eq_of_lt (by omega)
  have h2 : (BitVec.ofInt 64 (b : Int)).toNat = b := by
    rw [BitVec.ofInt_natCast, BitVec.toNat_ofNat]; exact Nat.mod_eq_of_lt (by omega)
  show IntKind.u64.wrap ((BitVec.ofInt 64 (a : Int) ||| BitVec.ofInt 64 (b : Int)).toNat : Int) = _
  rw [BitVec.toNat_or, h1, h2, IntKind.wrap_u64]
  omega
/-- What Forced holds while it looks. -/
structure FState where
  some : Nat
  every : Nat
  found : Bool
structure ForcedInv (B1 B2 B3 : Nat) (s : FState) (W : World) : Prop where
  b1 : W.heap[B1]? = Option.some (.cells #[.int .u64 (s.some : Int)] 88 (0, 0))
  b2 : W.heap[B2]? = Option.some (.cells #[.int .u64 (s.every : Int)] 88 (0, 0))
  b3 : W.heap[B3]? = Option.some (.cells #[.bool s.found] 4 (0, 0))
  l1 : s.some < 18446744073709551616
  l2 : s.every < 18446744073709551616
theorem ForcedInv.stay {B1 B2 B3 : Nat} {s : FState} {W W' : World} (h : ForcedInv B1 B2 B3 s W) (hb : Below W.heap.size W W') : ForcedInv B1 B2 B3 s W' :=
  ⟨blk_below h.b1 hb, blk_below h.b2 hb, blk_below h.b3 hb, h.l1, h.l2⟩
def fstep (s : FState) (c : Nat) : FState := ⟨s.some ||| c, s.every &&& c, true⟩
theorem enters44 : Enters Tryz.prog 34 := enters_of Tryz.func34 (by kernel_rfl) rfl
set_option maxHeartbeats 2000000 in
theorem forced1 (B1 B2 B3 : Nat) (c : Nat) (s : FState) (w : World) (hc : c < 4096) (h : ForcedInv B1 B2 B3 s w) (h12 : B1 ≠ B2) (h13 : B1 ≠ B3) (h23 : B2 ≠ B3) :
    Calls Tryz.prog 34 #[.int .u64 c, .pointer (some ⟨B1, 0, none⟩), .pointer (some ⟨B2, 0, none⟩), .pointer (some ⟨B3, 0, none⟩)] w fun e w' => e = .returned (.bool true) ∧ w' = (((w.setCell ⟨B1, 0, none⟩ (.int .u64 ((s.some ||| c : Nat) : Int))).setCell ⟨B2, 0, none⟩ (.int .u64 ((s.every &&& c : Nat) : Int))).setCell ⟨B3, 0, none⟩ (.bool true)).drew := by
  have e1 := Lib.hid (bits_or_u64_nat s.some c h.l1 (by omega))
  have e2 := Lib.hid (bits_and_u64_nat s.every c h.l2 (by omega))
  have q1 : w.cell? ⟨B1, 0, none⟩ = some _ := (blk_cell h.b1 0).trans rfl
  have q2 : w.cell? ⟨B2, 0, none⟩ = some _ := (blk_cell h.b2 0).trans rfl
  have q3 : w.cell? ⟨B3, 0, none⟩ = some _ := (blk_cell h.b3 0).trans rfl
  have f1 := blk_frozen h.b1 0
  have f2 := blk_frozen h.b2 0
  have f3 := blk_frozen h.b3 0
  have HH := Aside0.mk h
  clear h hc
  go_enter Tryz.func34, Tryz.ntmps34
  go_wp2_with fail
  go_region
  rw [e1.out, e2.out]
  go_wp2
  go_ret
  exact ⟨rfl, rfl⟩

theorem forced_step {B1 B2 B3 : Nat} {c : Nat} {s : FState} {w0 W : World} (hc : c < 4096) (hb : Below w0.heap.size w0 W) (h : ForcedInv B1 B2 B3 s W) (h12 : B1 ≠ B2) (h13 : B1 ≠ B3) (h23 : B2 ≠ B3) (g1 : w0.heap.size ≤ B1) (g2 : w0.heap.size ≤ B2) (g3 : w0.heap.size ≤ B3) :
    Calls Tryz.prog 34 (#[.int .u64 (c : Int)] ++ #[.pointer (some ⟨B1, 0, none⟩), .pointer (some ⟨B2, 0, none⟩), .pointer (some ⟨B3, 0, none⟩)]) W fun e W' => e = .returned (.bool true) ∧ Below w0.heap.size w0 W' ∧ ForcedInv B1 B2 B3 (fstep s c) W' := by
  refine (forced1 B1 B2 B3 c s W hc h h12 h13 h23).mono ?_
  rintro e W' ⟨rfl, rfl⟩
  refine ⟨rfl, (((hb.setCell g1 _).setCell g2 _).setCell g3 _).drew, ?_, ?_, ?_, ?_, ?_⟩
  · exact blk_far (p := ⟨B3, 0, none⟩) (blk_far (p := ⟨B2, 0, none⟩) ((blk_set h.b1 0 _).trans rfl) h12 _) h13 _
  · exact blk_far (p := ⟨B3, 0, none⟩) ((blk_set (blk_far (p := ⟨B1, 0, none⟩) h.b2 (fun e => h12 e.symm) _) 0 _).trans rfl) h23 _
  · exact (blk_set (blk_far (p := ⟨B2, 0, none⟩) (blk_far (p := ⟨B1, 0, none⟩) h.b3 (fun e => h13 e.symm) _) (fun e => h23 e.symm) _) 0 _).trans rfl
  · have := h.l1
    exact Nat.or_lt_two_pow (n := 64) (x := s.some) (y := c) (by omega) (by omega)
  · exact Nat.lt_of_le_of_lt Nat.and_le_left h.l2

/-- All options on: what Forced begins with. -/
def allOn : Nat := 18446744073709551615
def fstate (D : Fam) (l : List Nat) : FState := runV fstep (fun _ _ => true) ⟨0, allOn, false⟩ l
theorem runV_found (l : List Nat) : ∀ s : FState, (runV fstep (fun _ _ => true) s l).found = (s.found || !l.isEmpty) := by
  induction l with
  | nil => intro s; simp [runV]
  | cons c l ih => intro s; simp [runV, ih, fstep]
/-- The literals of the first k options that are forced. -/
def fl (s : FState) : Nat → List S62
  | 0 => []
  | k + 1 => if onI s.some k == onI s.every k then fl s k ++ [⟨k, onI s.every k⟩] else fl s k
theorem fl_length (s : FState) : ∀ k, (fl s k).length ≤ k
  | 0 => Nat.le_refl _
  | k + 1 => by
    have := fl_length s k
    unfold fl
    split
    · simp; omega
    · omega
theorem forced_start (w : World) : Below w.heap.size w (((w.alloc (.cells #[.int .u64 0] 88)).alloc (.cells #[.int .u64 18446744073709551615] 88)).alloc (.cells #[.bool false] 4)) ∧
    ForcedInv w.heap.size (w.heap.size + 1) (w.heap.size + 2) ⟨0, allOn, false⟩ (((w.alloc (.cells #[.int .u64 0] 88)).alloc (.cells #[.int .u64 18446744073709551615] 88)).alloc (.cells #[.bool false] 4)) := by
  have e1 : (w.alloc (.cells #[.int .u64 0] 88)).heap.size = w.heap.size + 1 := by simp
  have e2 : ((w.alloc (.cells #[.int .u64 0] 88)).alloc (.cells #[.int .u64 18446744073709551615] 88)).heap.size = w.heap.size + 2 := by simp
  refine ⟨below_alloc (below_alloc ((Below.refl _ w).alloc (Nat.le_refl _) _) _) _, ?_, ?_, ?_, by decide, by unfold allOn; decide⟩
  · exact blk_alloc (blk_alloc (heap_alloc_new w _) _) _
  · have := blk_alloc (heap_alloc_new (w.alloc (.cells #[.int .u64 0] 88)) (.cells #[.int .u64 18446744073709551615] 88)) (.cells #[.bool false] 4)
    rw [e1] at this
    exact this
  · have := heap_alloc_new ((w.alloc (.cells #[.int .u64 0] 88)).alloc (.cells #[.int .u64 18446744073709551615] 88)) (.cells #[.bool false] 4)
    rwa [e2] at this
def forcedL (D : Fam) (ch : List S62) : List S62 := fl (fstate D (confs D ch D.rules)) D.opts.length
def forcedE (D : Fam) (ch : List S62) : Int := if askE D ch ≠ 0 then askE D ch else if (confs D ch D.rules).isEmpty then 21 else 0

theorem fl_yes {s : FState} {k : Nat} (h : (onI s.some k == onI s.every k) = true) : fl s (k + 1) = fl s k ++ [⟨k, onI s.every k⟩] := by simp only [fl]; rw [if_pos h]
theorem fl_no {s : FState} {k : Nat} (h : (onI s.some k == onI s.every k) = false) : fl s (k + 1) = fl s k := by simp only [fl]; rw [if_neg (by rw [h]; decide)]
/-- What Forced hands back. -/
def ForcedPost (D : Fam) (ch : List S62) (w : World) (e : Ending) (w' : World) : Prop := ∃ A' cp fs, e = .returned (.tuple #[.slice A' fs.length cp, .int .i64 (forcedE D ch)]) ∧ fs = (if forcedE D ch = 0 then forcedL D ch else []) ∧ fs.length ≤ cp ∧ Kd.C k62 w' A' fs.length fs ∧ Below w.heap.size w w'
set_option maxHeartbeats 4000000 in
set_option maxRecDepth 100000 in
theorem forced_calls (D : Fam) (H : Hd) (A : Option Addr) (c : Nat) (ch : List S62) (w : World) (HF : FamAt w D H) (hr : Kd.C k62 w A ch.length ch) (hc : ch.length ≤ c) :
    Calls Tryz.prog 10 #[fv D H, .slice A ch.length c] w (ForcedPost D ch w) := by
  have hu41 := Tryz.underlying36
  have hu62 := Tryz.underlying73
  unfold fv
  have CK := Lib.hid (fun W (hW : Below w.heap.size w W) => asked_calls D H A c ch W (HF.below hW) (Kd.C_below hr hW) hc)
  have HB0 := Aside0.mk ((Below.refl _ w).alloc (Nat.le_refl _) (.cells (fcells D H) 36))
  have HK0 := Aside0.mk (heap_alloc_new w (.cells (fcells D H) 36))
  by_cases hz : askE D ch = 0
  · obtain ⟨hok, hlit⟩ := ask_ok hz
    have CV := Lib.hid (fun (w0 : World) (hW : Below w.heap.size w w0) (W : World) (hWW : Below w0.heap.size w0 W) (hi : ForcedInv w0.heap.size (w0.heap.size + 1) (w0.heap.size + 2) ⟨0, allOn, false⟩ W) =>
      visit_calls fstep (fun _ _ => true) (ForcedInv w0.heap.size (w0.heap.size + 1) (w0.heap.size + 2)) 34 #[.pointer (some ⟨w0.heap.size, 0, none⟩), .pointer (some ⟨w0.heap.size + 1, 0, none⟩), .pointer (some ⟨w0.heap.size + 2, 0, none⟩)] enters44 D H A c ch H.A7 H.c7 D.rules w0 W ⟨0, allOn, false⟩
        hok.opts (Kd.C_below hr hW) hc (HF.below hW).r7 HF.l7 hlit hok.rules hWW hi (fun s W W' _ h1 h2 => ForcedInv.stay h1 h2)
        (fun s cc W hcc hb hi => forced_step hcc hb hi (by omega) (by omega) (by omega) (Nat.le_refl _) (by omega) (by omega)))
    have HZ := Aside0.mk hz
    clear hr hc hlit
    go_enter Tryz.func10, Tryz.ntmps10
    go_wp2_with fail
    refine (CK.out _ HB0.out).mono ?_
    rintro e w2 ⟨rfl, hb⟩
    rw [HZ.out]
    have HB2 := Aside0.mk (below_step HB0.out hb)
    have HK2 := Aside0.mk (blk_below HK0.out hb)
    have hlt : w.heap.size < w2.heap.size := blk_lt HK2.out
    obtain ⟨k0, k1, k2, k3, k4, k5, k6, k7, k8, k9⟩ := box_cells HK2.out
    clear hb hz
    clear k0 k1 k2 k3 k4 k5 k6 k7 k8 k9
    have hst := forced_start w2
    go_upto_region 6 with (fail)
    generalize (((w2.alloc (.cells #[.int .u64 0] 88)).alloc (.cells #[.int .u64 18446744073709551615] 88)).alloc (.cells #[.bool false] 4)) = W at hst ⊢
    obtain ⟨hsb, hsi⟩ := hst
    have HSB := Aside0.mk hsb
    have HSI := Aside0.mk hsi
    have HKW := Aside0.mk (blk_below HK2.out hsb)
    clear hsb hsi
    obtain ⟨k0, k1, k2, k3, k4, k5, k6, k7, k8, k9⟩ := box_cells HKW.out
    go_wp2_with fail
    refine (CV.out w2 HB2.out W HSB.out HSI.out).mono ?_
    rintro e w3 ⟨rfl, hb3, hi3⟩
    have hS : ∃ S, S = fstate D (confs D ch D.rules) := ⟨_, rfl⟩
    obtain ⟨S, hS⟩ := hS
    have hi3' : ForcedInv w2.heap.size (w2.heap.size + 1) (w2.heap.size + 2) S w3 := by rw [hS]; exact hi3
    have hfd : S.found = !(confs D ch D.rules).isEmpty := by rw [hS]; exact (runV_found _ _).trans rfl
    have HI3 := Aside0.mk hi3'
    have HB3 := Aside0.mk (below_step HB2.out hb3)
    have HK3 := Aside0.mk ((hb3.block _ (blk_lt HK2.out)).trans HK2.out)
    have HS := Aside0.mk hS
    clear hi3 hi3' hb3 hS k0 k1 k2 k3 k4 k5 k6 k7 k8 k9 CV CK
    have q9 : w3.cell? ⟨w2.heap.size + 1 + 1, 0, none⟩ = some (.bool S.found) := (blk_cell HI3.out.b3 0).trans rfl
    have hc6 : w3.cell? ⟨w.heap.size, 6, none⟩ = some (.slice H.A6 D.opts.length H.c6) := (blk_cell HK3.out 6).trans rfl
    cases he : (confs D ch D.rules).isEmpty with
    | true =>
      rw [he] at hfd
      have HE := Aside0.mk he
      clear he
      rw [show S.found = false from hfd] at q9
      clear hfd
      go_wp2_with fail
      go_ret2
      have ef : forcedE D ch = 21 := by unfold forcedE; rw [if_neg (by rw [HZ.out]; simp), if_pos HE.out]
      exact ⟨none, 0, [], by rw [ef]; rfl, by rw [ef]; rfl, Nat.le_refl _, Kd.C_nil _ _, HB3.out⟩
    | false =>
      rw [he] at hfd
      have HE := Aside0.mk he
      clear he
      rw [show S.found = true from hfd] at q9
      clear hfd
      go_wp2_with fail
      clear q9 hc6
      have HOK := Aside0.mk hok.opts
      clear hok
      go_loopg [29, 10] D.opts.length (fun gk v29 v10 w' => ∃ k : Nat, v29 = .int .i64 k ∧ Aside0 (k ≤ D.opts.length) ∧ Aside0 (D.opts.length - k ≤ gk) ∧ Aside0 (Below w3.heap.size w3 w') ∧ Aside0 (Kd.R k62 73 w' w3.heap.size (fun _ => True) v10 (fl S k)))
      case atStart => exact ⟨0, rfl, ⟨Nat.zero_le _⟩, ⟨Nat.sub_le _ _⟩, ⟨Below.refl _ _⟩, ⟨Kd.R_nil _ _ _ _ _⟩⟩
      case round =>
        obtain ⟨k, rfl, HL, HG, HB, HR⟩ := hrel
        by_cases hlt : k < D.opts.length
        · have q0 : decide ((k : Int) < (D.opts.length : Int)) = true := by simpa using hlt
          have q1 : decide (k < D.opts.length) = true := by simpa using hlt
          have p0 : 0 ≤ (k : Int) := by omega
          have p1 : (k : Int) ≤ 11 := by have := HOK.out; omega
          have r1 : wr.cell? ⟨w2.heap.size, 0, none⟩ = some (.int .u64 (S.some : Int)) := (blk_cell (blk_below HI3.out.b1 HB.out) 0).trans rfl
          have r2 : wr.cell? ⟨w2.heap.size + 1, 0, none⟩ = some (.int .u64 (S.every : Int)) := (blk_cell (blk_below HI3.out.b2 HB.out) 0).trans rfl
          have O1 := Lib.hid (fun (W : World) => on_quiet S.some k HI3.out.l1 p0 p1 W)
          have O2 := Lib.hid (fun (W : World) => on_quiet S.every k HI3.out.l2 p0 p1 W)
          have HLT := Aside0.mk hlt
          clear hlt
          cases he : (onI S.some k == onI S.every k) with
          | true =>
            have HY := Aside0.mk (fl_yes he)
            go_wp2_with fail
            go_quiet ((first | (with_reducible exact Calls.quiet_of (O1.out _)) | (with_reducible exact Calls.quiet_of (O2.out _))))
            go_wp2_with fail
            refine (O2.out _).mono ?_
            rintro e w4 ⟨rfl, m, rfl⟩
            go_wp2_with ((with_reducible refine gate_builtin (b := .append) (xs := #[.tmp 39, .tmp 45]) rfl ?_); at_builtin; refine Kd.R_append k62 (w0 := w3) w3.heap.size rfl (.tmp 39) (.tmp 45) 38 73 (.agg #[.int .i64 0, .bool false]) 16 rfl Tryz.underlying38 info62 rfl (by decide) (by omega) u10 (fl S k) ⟨k, onI S.every k⟩ [.int .i64 k, .bool (onI S.every k)] (fun _ => True) (fun _ => False) rfl rfl ?aP (fun _ hk => hk.elim) ?aF ?aO ?aB ?aS ?aL ?_; (case aP => exact ⟨_, _, rfl, rfl, rfl⟩); (case aB => exact (by repeat (first | exact HB.out | apply pw_below_drewN | apply below_drew1))); (case aF => exact (fun _ _ => trivial)); (case aO => exact (by (with_reducible repeat (first | apply Kd.R_drewN | apply Kd.R_drew)); exact HR.out)); (case aS => exact (below_size (by repeat (first | exact HB.out | apply pw_below_drewN | apply below_drew1)))); (case aL => have := fl_length S k; have := HLT.out; have := HOK.out; omega); intro v1 w5 ho hb hg hat)
            rw [← HY.out] at ho
            go_roundg (D.opts.length - (k + 1))
            case measure => have := HLT.out; have := HG.out; omega
            case rel => exact ⟨k + 1, by go_num, ⟨HLT.out⟩, ⟨Nat.le_refl _⟩, ⟨hb⟩, ⟨ho⟩⟩
          | false =>
            have HY := Aside0.mk (fl_no he)
            go_wp2_with fail
            go_quiet ((first | (with_reducible exact Calls.quiet_of (O1.out _)) | (with_reducible exact Calls.quiet_of (O2.out _))))
            go_wp2_with fail
            go_roundg (D.opts.length - (k + 1))
            case measure => have := HLT.out; have := HG.out; omega
            case rel => exact ⟨k + 1, by go_num, ⟨HLT.out⟩, ⟨Nat.le_refl _⟩, ⟨pw_below_drewN HB.out _⟩, ⟨by rw [HY.out]; exact Kd.R_drewN HR.out _⟩⟩
        · have q0 : decide ((k : Int) < (D.opts.length : Int)) = false := by simpa using hlt
          have q1 : decide (k < D.opts.length) = false := by simpa using hlt
          have hk : k = D.opts.length := by have := HL.out; omega
          subst hk
          have HRR := HR.out
          obtain ⟨A', cp, hv, hcp, hCC⟩ := Kd.R_reads HRR
          subst hv
          go_wp2_with fail
          go_ret2
          have ef : forcedE D ch = 0 := by unfold forcedE; rw [if_neg (by rw [HZ.out]; simp), if_neg (by rw [HE.out]; decide)]
          refine ⟨A', cp, fl S D.opts.length, by rw [ef]; rfl, by rw [ef, if_pos rfl]; unfold forcedL; rw [← HS.out], hcp, ?_, ?_⟩
          · exact hCC
          · exact below_step HB3.out HB.out
  · have HZ := Aside0.mk hz
    have hE : forcedE D ch = askE D ch := by unfold forcedE; rw [if_pos hz]
    have HE := Aside0.mk hE
    generalize askE D ch = e at *
    have z1 : (e == 0) = false := by simpa using hz
    have z2 : (e != 0) = true := by simpa using hz
    clear hz HF hr hc hE
    go_enter Tryz.func10, Tryz.ntmps10
    go_wp2_with fail
    refine (CK.out _ HB0.out).mono ?_
    rintro e2 w2 ⟨rfl, hb⟩
    go_wp2_with fail
    go_ret2
    exact ⟨none, 0, [], by rw [HE.out]; rfl, by rw [HE.out, if_neg HZ.out], Nat.le_refl _, Kd.C_nil _ _, below_step HB0.out hb⟩
end Go.Proofs.YtcilmcoaondbmaaGreatDoor.PX
namespace Go.Proofs.YtcilmcoaondbmaaGreatDoor.PX
open Go.RowKit Go.Proofs.YtcilmcoaondbmaaGreatDoorW.PrintWords Go.Proofs.YtcilmcoaondbmaaGreatDoorW.PrintLast Go.Proofs.YtcilmcoaondbmaaGreatDoorW.PrintMore
set_option linter.unusedVariables false
set_option linter.unusedSimpArgs false

theorem enters64 : Enters Tryz.prog 56 := enters_of Tryz.func56 (by kernel_rfl) rfl
theorem poss1 (B : Nat) (c : Int) (u : Value) (w : World) (hb : w.heap[B]? = some (.cells #[u] 4 (0, 0))) :
    Calls Tryz.prog 56 #[.int .u64 c, .pointer (some ⟨B, 0, none⟩)] w fun e w' => e = .returned (.bool false) ∧ w' = w.setCell ⟨B, 0, none⟩ (.bool true) := by
  have h0 : w.cell? ⟨B, 0, none⟩ = some u := (blk_cell hb 0).trans rfl
  have f0 := blk_frozen hb 0
  go_enter Tryz.func56, Tryz.ntmps56
  go_wp2_with fail
  go_ret
  exact ⟨rfl, rfl⟩
theorem runV_any (l : List Nat) : runV (fun (_ : Bool) _ => true) (fun _ _ => false) false l = !l.isEmpty := by
  cases l <;> simp [runV]
set_option maxHeartbeats 2000000 in
set_option maxRecDepth 100000 in
theorem possible_calls (D : Fam) (H : Hd) (A : Option Addr) (c : Nat) (ch : List S62) (Ar : Option Addr) (cr : Nat) (rs : List S70) (w : World) (HF : FamAt w D H) (hr : Kd.C k62 w A ch.length ch) (hc : ch.length ≤ c)
    (hrr : Kd.C k70 w Ar rs.length rs) (hcr : rs.length ≤ cr) (ho : D.opts.length ≤ 12) (hl : LitsOk ch) (hk : RulesOk rs) :
    Calls Tryz.prog 36 #[fv D H, .slice A ch.length c, .slice Ar rs.length cr] w fun e w' => e = .returned (.bool !(confs D ch rs).isEmpty) ∧ Below w.heap.size w w' := by
  have hu41 := Tryz.underlying36
  unfold fv
  have HB0 := Aside0.mk ((Below.refl _ w).alloc (Nat.le_refl _) (.cells (fcells D H) 36))
  have hsz : (w.alloc (.cells (fcells D H) 36)).heap.size = w.heap.size + 1 := by simp
  have CV : Hid (∀ w0 : World, Below w.heap.size w w0 → _) := Lib.hid (fun (w0 : World) (hW : Below w.heap.size w w0) => visit_calls (fun (_ : Bool) _ => true) (fun _ _ => false) (fun s W => W.heap[w0.heap.size]? = some (.cells #[.bool s] 4 (0, 0))) 56 #[.pointer (some ⟨w0.heap.size, 0, none⟩)] enters64 D H A c ch Ar cr rs w0 (w0.alloc (.cells #[.bool false] 4)) false
        ho (Kd.C_below hr hW) hc (Kd.C_below hrr hW) hcr hl hk ((Below.refl _ _).alloc (Nat.le_refl _) _) (heap_alloc_new _ _) (fun s W W' _ h1 h2 => blk_below h1 h2)
        (fun s cc W hcc hb hi => (poss1 w0.heap.size cc (.bool s) W hi).mono fun e W' ⟨he, hw⟩ => ⟨he, by rw [hw]; exact hb.setCell (Nat.le_refl _) _, by rw [hw]; exact (blk_set hi 0 _).trans rfl⟩))
  have CW := CV.out _ HB0.out
  rw [hsz] at CW
  have CX := Lib.hid CW
  have HSZ := Aside0.mk hsz
  have HL : Hid ((!(confs D ch rs).isEmpty) = runV (fun (_ : Bool) _ => true) (fun _ _ => false) false (confs D ch rs)) := Lib.hid (runV_any _).symm
  clear HF hr hc hrr hcr ho hl hk CW CV hsz
  go_enter Tryz.func36, Tryz.ntmps36
  go_wp2_with fail
  refine CX.out.mono ?_
  rintro e w3 ⟨rfl, hb3, hi3⟩
  have hn3 := (blk_cell hi3 0).trans rfl
  go_wp2_with fail
  go_ret
  refine ⟨?_, below_step HB0.out (by rw [HSZ.out]; exact hb3)⟩
  rw [HL.out]
  rfl
end Go.Proofs.YtcilmcoaondbmaaGreatDoor.PX
namespace Go.Proofs.YtcilmcoaondbmaaGreatDoor.PX
open Go.RowKit Go.Proofs.YtcilmcoaondbmaaGreatDoorW.PrintWords Go.Proofs.YtcilmcoaondbmaaGreatDoorW.PrintLast Go.Proofs.YtcilmcoaondbmaaGreatDoorW.PrintMore
set_option linter.unusedVariables false
set_option linter.unusedSimpArgs false

/-- A row that is read, with what it leads to below the world's end. -/
theorem C_foot {α : Type} {d : Kd α} {w : World} {A : Option Addr} {n : Nat} {xs : List α} (hK : ∀ (W' : World) x c, (∀ k, k < w.heap.size → W'.heap[k]? = w.heap[k]?) → d.K w x c → d.K W' x c) (h : d.C w A n xs) : Kd.F d w (fun k => k < w.heap.size) A n xs := by
  intro W' hW
  have hW' : ∀ k, k < w.heap.size → W'.heap[k]? = w.heap[k]? := fun k hk => hW k hk hk
  refine ⟨h.1, h.2.1, fun hn => ?_⟩
  obtain ⟨ad, rfl, hc⟩ := h.2.2 hn
  refine ⟨ad, rfl, fun j p hj => ?_⟩
  obtain ⟨c, hs, hr, hcell⟩ := hc j p hj
  refine ⟨c, hs, hK W' p c hW' hr, fun i u hu => ?_⟩
  have h1 := hcell i u hu
  have h2 := hW' _ (World.block_lt_of_cell? w _ h1)
  rw [← h1]
  simp [World.cell?, h2]
theorem k62_foot {w : World} {A : Option Addr} {n : Nat} {xs : List S62} (h : Kd.C k62 w A n xs) : Kd.F k62 w (fun k => k < w.heap.size) A n xs :=
  C_foot (fun W' x c _ hk => by rw [k62_open hk]; exact k62_mk W' x) h
theorem k70_foot {w : World} {A : Option Addr} {n : Nat} {xs : List S70} (h : Kd.C k70 w A n xs) : Kd.F k70 w (fun k => k < w.heap.size) A n xs :=
  C_foot (fun W' x c hW hk => by
    obtain ⟨A1, c1, rfl, l1, g1⟩ := k70_open hk
    exact k70_mk W' x l1 (k62_foot g1 W' (fun k hk _ => hW k hk))) h
theorem N_fresh (w : World) (ok : Nat → Prop) (h : ∀ k, w.heap.size ≤ k → ok k) : Kd.N k70 40 (w.alloc (.cells #[] 40)) w.heap.size ok (.slice (some ⟨w.heap.size, 0, none⟩) 0 0) [] :=
  Kd.R_N ⟨fun k hk => h k (by simp [Value.ownBlock] at hk; omega), [], World.ownsRow_made w #[] 0 (Nat.le_refl _) (Nat.zero_le _) (by simp), Reps.none _ _⟩
set_option maxHeartbeats 2000000 in
set_option maxRecDepth 100000 in
/-- slices.Clone of rules. -/
theorem clone70 (A : Option Addr) (c : Nat) (l : List S70) (w : World) (okp : Nat → Prop) (hr : Kd.F k70 w okp A l.length l) (hc : l.length ≤ c) (hl : l.length ≤ 100) :
    Calls Tryz.prog 37 #[.slice A l.length c] w fun e w' => ∃ v, e = .returned v ∧ Kd.N k70 40 w' w.heap.size (fun k => (okp k ∧ k < w.heap.size) ∨ w.heap.size ≤ k) v l ∧ Below w.heap.size w w' := by
  have hu70 := Tryz.underlying40
  have HR := Aside0.mk (Kd.F_bound hr)
  have q37 : ∀ (w : World) (a : Option Addr) (n c n' c' : Nat), (binOp .eql 32 (.slice a n c) (.slice none n' c')).run Tryz.prog w = .ok (.bool a.isNone) w := fun w a n c n' c' => Lib.run_eql_slice_nil w 32 40 a n c n' c' Tryz.underlying32
  cases A with
  | none =>
    have h0 : l = [] := by
      cases l with
      | nil => rfl
      | cons x l =>
        obtain ⟨ad, h, _⟩ := (Kd.F_now hr).2.2 (by simp)
        cases h
    subst h0
    clear hr
    go_enter Tryz.func37, Tryz.ntmps37
    go_wp2_with fail
    go_ret
    exact ⟨_, rfl, Kd.N_nil _ _ _ _ _, Below.refl _ _⟩
  | some ad =>
    clear hr
    go_enter Tryz.func37, Tryz.ntmps37
    go_wp2_with ((with_reducible refine gate_builtin (b := .append) rfl ?_); at_builtin; refine Kd.N_append_rows k70 (w0 := w) w.heap.size rfl (.tmp 5) (.tmp 6) 32 40 (.agg #[(.string ⟨#[]⟩), (.slice none 0 0)]) 40 rfl Tryz.underlying32 info70 rfl (by decide) (by decide) (.slice (some ⟨w.heap.size, 0, none⟩) 0 0) [] l (some ad) l.length c (fun k => (okp k ∧ k < w.heap.size) ∨ w.heap.size ≤ k) (fun k => okp k ∧ k < w.heap.size) rfl rfl (N_fresh w _ (fun k hk => .inr hk)) (Kd.F_alloc HR.out _) (fun k hk => ⟨.inl hk, by simp [Value.ownBlock]; omega⟩) (fun k hk => .inr (by simp at hk; omega)) (below_alloc (Below.refl _ _) _) (by simp) (by simp; omega) ?_; intro v1 w5 ho hb hg hat; rw [List.nil_append] at ho)
    go_ret
    exact ⟨v1, rfl, ho, hb⟩
end Go.Proofs.YtcilmcoaondbmaaGreatDoor.PX
namespace Go.Proofs.YtcilmcoaondbmaaGreatDoor.PX
open Go.RowKit Go.Proofs.YtcilmcoaondbmaaGreatDoorW.PrintWords Go.Proofs.YtcilmcoaondbmaaGreatDoorW.PrintLast Go.Proofs.YtcilmcoaondbmaaGreatDoorW.PrintMore
theorem run_clear70 (ty : TypeId) (g o c : Nat) (w : World) (cur : Array Value) (hh : w.heap[g]? = some (.cells cur 40 (0, 0))) (ho : o + 2 ≤ cur.size) :
    (Builtin.clear_ #[32] ty #[.slice (some ⟨g, o, none⟩) 1 c]).run Tryz.prog w = .ok (.tuple #[]) (w.setCells g o [.string ⟨#[]⟩, .slice none 0 0]) := by
  have hst := run_storeCells_cells (P := Tryz.prog) g o [.string ⟨#[]⟩, .slice none 0 0] 0 w (by
    intro j hj
    rw [cell_of_row w g _ cur 40 (0, 0) hh]
    simp at hj ⊢
    omega) (fun j hj => blk_frozen hh _) (by simp [Value.oneCell'])
  have hz : (Builtin.zeroCells #[.string ⟨#[]⟩, .slice none 0 0] 1).toList = [.string ⟨#[]⟩, .slice none 0 0] := by
    unfold Builtin.zeroCells
    simp [List.range_succ]
  have hc : (Value.agg #[.string ⟨#[]⟩, .slice none 0 0]).cells = #[.string ⟨#[]⟩, .slice none 0 0] := rfl
  rw [Nat.add_zero] at hst
  simp only [Builtin.clear_]
  simp [run_underlying Tryz.underlying32, hc, hz, hst]
theorem N_block {w : World} {base : Nat} {ok : Nat → Prop} {g n c : Nat} {l : List S70} (h : Kd.N k70 40 w base ok (.slice (some ⟨g, 0, none⟩) n c) l) :
    ∃ cur, w.heap[g]? = some (.cells cur 40 (0, 0)) ∧ cur.size = c * 2 := by
  obtain ⟨_, rows, _, ⟨_, inner, ⟨_, ho⟩, _⟩, _⟩ := h
  rcases ho with ⟨h, _⟩ | ⟨g', cap, cur, hv, _, hh, _, _, hs, _⟩
  · cases h
  · injection hv with ha _ hc
    injection ha with ha
    injection ha with hg
    subst hg; subst hc
    exact ⟨cur, hh, hs⟩
/-- What is written behind a row's end in its block does not turn it. -/
theorem N_behind {w : World} {base : Nat} {ok : Nat → Prop} {g n c o : Nat} {vs : List Value} {l : List S70} (h : Kd.N k70 40 w base ok (.slice (some ⟨g, 0, none⟩) n c) l) (ho : n * 2 ≤ o) (hc : o + vs.length ≤ c * 2) :
    Kd.N k70 40 (w.setCells g o vs) base ok (.slice (some ⟨g, 0, none⟩) n c) l := by
  have hn := (Kd.N_reads' h).1
  obtain ⟨h0, rows, hl, ⟨h1, inner, ⟨hi, hown⟩, hr⟩, hf⟩ := h
  rcases hown with ⟨h, _⟩ | ⟨g', cap, cur, hv, hb, hh, q1, q2, hs, ht⟩
  · cases h
  · injection hv with ha _ hc'
    injection ha with ha
    injection ha with hg
    subst hg; subst hc'
    obtain ⟨cur', h3, h4, h5⟩ := setCells_row vs o w cur hh (by rw [hs]; exact hc)
    refine ⟨h0, rows, hl, ⟨h1, inner, ⟨hi, .inr ⟨g, c, cur', by rw [hl, ← hn], hb, h3, q1, q2, h4.trans hs, ?_⟩⟩, hr⟩, fun j x cs hx hcs => Kd.FK_step (hf j x cs hx hcs) (fun k hk _ => setCells_far vs o k (fun e => hk.2 (by rw [e]; simp [Value.ownBlock])))⟩
    have hz : (Kd.raw k70.sz).sz = 2 := rfl
    have hrl : rows.length = n := by omega
    rw [hz] at ht ⊢
    rw [← ht, h5, List.append_assoc, List.take_append_of_le_length, List.take_take, Nat.min_eq_left (by omega)]
    rw [List.length_take, show cur.toList.length = c * 2 by rw [Array.length_toList]; exact hs]
    omega
set_option maxHeartbeats 2000000 in
set_option maxRecDepth 100000 in
theorem delete70 (g n c k j : Nat) (base : Nat) (ok : Nat → Prop) (l : List S70) (w : World) (h : Kd.N k70 40 w base ok (.slice (some ⟨g, 0, none⟩) n c) l) (hk : k < n) (hj : j = k + 1) (hn : n ≤ 100) :
    Calls Tryz.prog 40 #[.slice (some ⟨g, 0, none⟩) n c, .int .i64 k, .int .i64 j] w fun e w' => e = .returned (.slice (some ⟨g, 0, none⟩) (n - 1) c) ∧ Kd.N k70 40 w' base ok (.slice (some ⟨g, 0, none⟩) (n - 1) c) (l.eraseIdx k) ∧ w.grownBy w' (some g) := by
  have hu70 := Tryz.underlying40
  have HN := Aside0.mk h
  have hnc := (Kd.N_reads' h).2.1
  clear h
  have hlt : k < j := by omega
  have hij : k ≤ j := by omega
  have hjn : j ≤ n := by omega
  have hic : k ≤ c := by omega
  have hjc : j ≤ c := by omega
  have HJ := Aside0.mk hj
  clear hj
  have mixed : Tryz.prog.follows .mixedOrders = true := by kernel_rfl
  go_enter Tryz.func40, Tryz.ntmps40
  go_wp2_with fail
  have hbase : base ≤ w.heap.size := Nat.le_trans (Kd.N_base HN.out g (by simp [Value.ownBlock])) (Nat.le_of_lt (Kd.N_lt HN.out g (by simp [Value.ownBlock])))
  go_region_law_o (refine Kd.N_delete_step (n := n) (k := k) (xs := l) (ok := ok) (g := g) k70 (w0 := w.drew) base rfl (.tmp 22) (.tmp 25) 32 40 rfl Tryz.underlying32 (by kernel_rfl) (by first | rfl | (simp [Act.eval, Act.put])) (by first | rfl | (simp [Act.eval, Act.put])) ?hA ?hm (Kd.N_drew HN.out) hk (Below.refl _ _) hbase ?_; (case hA => rw [← HJ.out]; show _ = if c = j then _ else some ((⟨g, 0, none⟩ : Addr).add (j * 2)); rw [add_at, Nat.zero_add]); (case hm => rw [← HJ.out]); intro w1 ho hb hg)
  obtain ⟨cur, hh, hsz⟩ := N_block ho
  have hcl : ∀ ty, (Builtin.clear_ #[32] ty #[.slice (some ⟨g, (n - 1) * 2, none⟩) (n - (n - 1)) (c - (n - 1))]).run Tryz.prog w1 = .ok (.tuple #[]) (w1.setCells g ((n - 1) * 2) [.string ⟨#[]⟩, .slice none 0 0]) := fun ty => by
    rw [show n - (n - 1) = 1 by omega]
    exact run_clear70 ty g _ _ w1 cur hh (by omega)
  have h1c : n - 1 ≤ c := by omega
  have h1n : n - 1 ≤ n := by omega
  have h1l : n - 1 < c := by omega
  have hq : (c = n - 1) = False := by simp; omega
  have HO := Aside0.mk (N_behind (o := (n - 1) * 2) (vs := [.string ⟨#[]⟩, .slice none 0 0]) ho (Nat.le_refl _) (by simp; omega))
  have HG : Hid (w.grownBy (w1.setCells g ((n - 1) * 2) [.string ⟨#[]⟩, .slice none 0 0]) (some g)) := Lib.hid (by
    obtain ⟨s1, s2, s3, s4⟩ := setCells_same g [.string ⟨#[]⟩, .slice none 0 0] ((n - 1) * 2) w1
    exact ⟨s1.trans hg.os, s2.trans hg.tape, s3.trans hg.output, by rw [s4]; exact hg.size, fun k hk hne => (setCells_far _ _ k (fun e => hne (by rw [e]))).trans (hg.block k hk hne)⟩)
  clear ho hb hg hh hsz
  go_wp2_with fail
  all_goals (go_ret; first | exact ⟨rfl, HO.out, HG.out⟩ | (rename_i h; subst h; exact ⟨rfl, HO.out, HG.out⟩))
end Go.Proofs.YtcilmcoaondbmaaGreatDoor.PX
namespace Go.Proofs.YtcilmcoaondbmaaGreatDoor.PX
open Go.RowKit Go.Proofs.YtcilmcoaondbmaaGreatDoorW.PrintWords Go.Proofs.YtcilmcoaondbmaaGreatDoorW.PrintLast Go.Proofs.YtcilmcoaondbmaaGreatDoorW.PrintMore
set_option linter.unusedVariables false
set_option linter.unusedSimpArgs false
theorem enters49 : Enters Tryz.prog 39 := enters_of Tryz.func39 (by kernel_rfl) rfl
/-- Two names are one. -/
def eqN (a b : ByteArray) : Bool := a.data.toList == b.data.toList
theorem eqn1 (x : ByteArray) (u : Value) (r : ByteArray) (v : Value) (B : Nat) (w : World) (hb : w.heap[B]? = some (.cells #[.string r, v] 40 (0, 0))) :
    Calls Tryz.prog 39 #[.agg #[.string x, u], .pointer (some ⟨B, 0, none⟩)] w fun e w' => e = .returned (.bool (eqN x r)) ∧ Below w.heap.size w w' := by
  have hu70 := Tryz.underlying40
  have HK := Aside0.mk (blk_alloc hb (.cells #[.string x, u] 40))
  have HB := Aside0.mk ((Below.refl _ w).alloc (Nat.le_refl _) (.cells #[.string x, u] 40))
  have h0 : (w.alloc (.cells #[.string x, u] 40)).cell? ⟨B, 0, none⟩ = some (.string r) := (blk_cell HK.out 0).trans rfl
  go_enter Tryz.func39, Tryz.ntmps39
  go_wp2_with fail
  go_ret
  exact ⟨by unfold eqN; rw [← ByteArray.toList_eq, ← ByteArray.toList_eq]; rfl, HB.out⟩
/-- The rules of other names. -/
def DistN (l : List S70) : Prop := ∀ i j : Nat, i < j → j < l.length → eqN (rd_T70 l i).f0 (rd_T70 l j).f0 = false
theorem chk_dist {D : Fam} (h : chk D = 0) : DistN D.rules ∧ D.rules.length ≤ 48 := by
  unfold chk at h
  split at h
  · exact absurd h (by decide)
  · rename_i hn
    split at h
    · rename_i h1; exact absurd h h1
    · split at h
      · rename_i h1; exact absurd h h1
      · rename_i h1
        have hr : fE (ruleE D.opts.length D.rules) D.rules.length = 0 := Classical.byContradiction h1
        refine ⟨fun i j hij hj => ?_, by omega⟩
        have h2 := fE_zero hr j hj
        unfold ruleE at h2
        split at h2
        · exact absurd h2 (by decide)
        · split at h2
          · exact absurd h2 (by decide)
          · rename_i h3
            have h4 := Bool.eq_false_iff.2 h3
            unfold memB at h4
            rw [List.any_eq_false] at h4
            have h5 := h4 (rd_T70 D.rules i).f0 (by
              rw [List.mem_map]
              refine ⟨rd_T70 D.rules i, ?_, rfl⟩
              have e : rd_T70 D.rules (i : Int) = D.rules[i] := by
                unfold rd_T70
                rw [Int.toNat_natCast, List.getD_eq_getElem?_getD, List.getElem?_eq_getElem (by omega)]
                rfl
              rw [e, List.mem_take_iff_getElem]
              exact ⟨i, by omega, rfl⟩)
            exact Bool.eq_false_iff.2 h5
theorem idx_self {k l : List S70} {r : S70} (hr : eqN r.f0 r.f0 = true) (h : ∀ x ∈ k, eqN x.f0 r.f0 = false) : idxP (fun x : S70 => eqN x.f0 r.f0) (k ++ r :: l) = k.length := by
  refine idxP_hit _ _ k.length z70 (by simp) ?_ (fun j hj => ?_)
  · simpa [List.getD_eq_getElem?_getD] using hr
  · have := h k[j] (List.getElem_mem hj)
    simpa [List.getD_eq_getElem?_getD, List.getElem?_append_left hj, hj] using this
/-- Conflict's state: the rules kept of the first i, and their numbers. -/
def cst (D : Fam) (ch : List S62) : Nat → List S70 × List Int
  | 0 => ([], [])
  | i + 1 => if (confs D ch ((cst D ch i).1 ++ D.rules.drop (i + 1))).isEmpty then cst D ch i else ((cst D ch i).1 ++ [rd_T70 D.rules i], (cst D ch i).2 ++ [(i : Int)])
theorem cst_length (D : Fam) (ch : List S62) : ∀ i, (cst D ch i).1.length ≤ i ∧ (cst D ch i).2.length ≤ i
  | 0 => by simp [cst]
  | i + 1 => by
    have := cst_length D ch i
    unfold cst
    split
    · omega
    · simp; omega
theorem cst_sub (D : Fam) (ch : List S62) : ∀ i, ∀ x ∈ (cst D ch i).1, ∃ j : Nat, j < i ∧ x = rd_T70 D.rules j
  | 0 => by simp [cst]
  | i + 1 => by
    have ih := cst_sub D ch i
    intro x hx
    unfold cst at hx
    split at hx
    · obtain ⟨j, h1, h2⟩ := ih x hx
      exact ⟨j, by omega, h2⟩
    · simp only [List.mem_append, List.mem_singleton] at hx
      rcases hx with hx | hx
      · obtain ⟨j, h1, h2⟩ := ih x hx
        exact ⟨j, by omega, h2⟩
      · exact ⟨i, by omega, hx⟩
theorem rd_drop {l : List S70} {i : Nat} (h : i < l.length) : l.drop i = rd_T70 l i :: l.drop (i + 1) := by
  rw [List.drop_eq_getElem_cons h]
  congr 1
  unfold rd_T70
  rw [Int.toNat_natCast, List.getD_eq_getElem?_getD, List.getElem?_eq_getElem h]
  rfl
theorem eqN_self (a : ByteArray) : eqN a a = true := by simp [eqN]
theorem cst_at {D : Fam} (ch : List S62) {i : Nat} (hi : i < D.rules.length) (hd : DistN D.rules) : idxP (fun x : S70 => eqN x.f0 (rd_T70 D.rules i).f0) ((cst D ch i).1 ++ D.rules.drop i) = (cst D ch i).1.length := by
  rw [rd_drop hi]
  refine idx_self (eqN_self _) (fun x hx => ?_)
  obtain ⟨j, h1, rfl⟩ := cst_sub D ch i x hx
  exact hd j i h1 hi
theorem cst_less {D : Fam} (ch : List S62) {i : Nat} (hi : i < D.rules.length) : ((cst D ch i).1 ++ D.rules.drop i).eraseIdx (cst D ch i).1.length = (cst D ch i).1 ++ D.rules.drop (i + 1) := by
  rw [rd_drop hi, List.eraseIdx_append_of_length_le (Nat.le_refl _), Nat.sub_self]
  rfl
theorem cst_rules {D : Fam} (ch : List S62) (i k : Nat) (h : RulesOk D.rules) (hi : i ≤ D.rules.length) : RulesOk ((cst D ch i).1 ++ D.rules.drop k) := by
  intro x hx
  rcases List.mem_append.1 hx with hx | hx
  · obtain ⟨j, h1, rfl⟩ := cst_sub D ch i x hx
    have hj : j < D.rules.length := by omega
    have e : rd_T70 D.rules (j : Int) = D.rules[j] := by
      unfold rd_T70
      rw [Int.toNat_natCast, List.getD_eq_getElem?_getD, List.getElem?_eq_getElem hj]
      rfl
    rw [e]
    exact h _ (List.getElem_mem hj)
  · exact h x (List.mem_of_mem_drop hx)
end Go.Proofs.YtcilmcoaondbmaaGreatDoor.PX
namespace Go.Proofs.YtcilmcoaondbmaaGreatDoor.PX
open Go.RowKit Go.Proofs.YtcilmcoaondbmaaGreatDoorW.PrintWords Go.Proofs.YtcilmcoaondbmaaGreatDoorW.PrintLast Go.Proofs.YtcilmcoaondbmaaGreatDoorW.PrintMore
set_option linter.unusedVariables false
set_option linter.unusedSimpArgs false
/-- What Conflict hands back. -/
def conflE (D : Fam) (ch : List S62) : Bool := (confs D ch D.rules).isEmpty
def conflL (D : Fam) (ch : List S62) : List Int := if askE D ch = 0 then (if conflE D ch then (cst D ch D.rules.length).2 else []) else []
def conflF (D : Fam) (ch : List S62) : Bool := if askE D ch = 0 then conflE D ch else false
def ConflPost (D : Fam) (ch : List S62) (w : World) (e : Ending) (w' : World) : Prop := ∃ A' cp, e = .returned (.tuple #[.slice A' (conflL D ch).length cp, .bool (conflF D ch), .int .i64 (askE D ch)]) ∧ (conflL D ch).length ≤ cp ∧ Kd.C (Kd.int .i64) w' A' (conflL D ch).length (conflL D ch) ∧ Below w.heap.size w w'
set_option maxHeartbeats 4000000 in
set_option maxRecDepth 100000 in
theorem confl_calls (D : Fam) (H : Hd) (A : Option Addr) (c : Nat) (ch : List S62) (w : World) (HF : FamAt w D H) (hr : Kd.C k62 w A ch.length ch) (hc : ch.length ≤ c) :
    Calls Tryz.prog 11 #[fv D H, .slice A ch.length c] w (ConflPost D ch w) := by
  have hu41 := Tryz.underlying36
  have hu70 := Tryz.underlying40
  unfold fv
  have CK := Lib.hid (fun W (hW : Below w.heap.size w W) => asked_calls D H A c ch W (HF.below hW) (Kd.C_below hr hW) hc)
  have HB0 := Aside0.mk ((Below.refl _ w).alloc (Nat.le_refl _) (.cells (fcells D H) 36))
  have HK0 := Aside0.mk (heap_alloc_new w (.cells (fcells D H) 36))
  by_cases hz : askE D ch = 0
  · obtain ⟨hok, hlit⟩ := ask_ok hz
    have hck : chk D = 0 := by
      unfold askE at hz
      split at hz
      · assumption
      · rename_i h1; exact Classical.byContradiction h1
    obtain ⟨hdist, h48⟩ := chk_dist hck
    have CP := Lib.hid (fun W (hW : Below w.heap.size w W) (Ar : Option Addr) (cr : Nat) (rs : List S70) (h1 : Kd.C k70 W Ar rs.length rs) (h2 : rs.length ≤ cr) (h3 : RulesOk rs) => possible_calls D H A c ch Ar cr rs W (HF.below hW) (Kd.C_below hr hW) hc h1 h2 hok.opts hlit h3)
    have HFR := Aside0.mk HF.r7
    have HFL := Aside0.mk HF.l7
    have HRO := Aside0.mk hok.rules
    have HD := Aside0.mk hdist
    have H48 := Aside0.mk h48
    have HZ := Aside0.mk hz
    clear hz HF hr hc hok hlit hck hdist h48
    go_enter Tryz.func11, Tryz.ntmps11
    go_wp2_with fail
    refine (CK.out _ HB0.out).mono ?_
    rintro e w2 ⟨rfl, hb⟩
    rw [HZ.out]
    have HB2 := Aside0.mk (below_step HB0.out hb)
    have HK2 := Aside0.mk (blk_below HK0.out hb)
    have hlt : w.heap.size < w2.heap.size := blk_lt HK2.out
    obtain ⟨k0, k1, k2, k3, k4, k5, k6, k7, k8, k9⟩ := box_cells HK2.out
    clear hb
    go_wp2_with fail
    refine (CP.out _ HB2.out _ _ _ (Kd.C_below HFR.out HB2.out) HFL.out HRO.out).mono ?_
    rintro e w3 ⟨rfl, hb⟩
    have HB3 := Aside0.mk (below_step HB2.out hb)
    have HK3 := Aside0.mk (blk_below HK2.out hb)
    clear hb k0 k1 k2 k3 k4 k5 k6 k7 k8 k9
    cases he : (confs D ch D.rules).isEmpty with
    | false =>
      have HE := Aside0.mk he
      go_wp2_with fail
      go_ret3
      refine ⟨none, 0, by rw [HZ.out]; unfold conflL conflF conflE; rw [if_pos HZ.out, if_pos HZ.out, HE.out]; rfl, by unfold conflL conflE; rw [if_pos HZ.out, HE.out]; exact Nat.le_refl _, by unfold conflL conflE; rw [if_pos HZ.out, HE.out]; exact Kd.C_nil _ _, HB3.out⟩
    | true =>
      have HE := Aside0.mk he
      obtain ⟨k0, k1, k2, k3, k4, k5, k6, k7, k8, k9⟩ := box_cells HK3.out
      go_wp2_with fail
      have CL := Lib.hid (clone70 H.A7 H.c7 D.rules w3 (fun _ => True) (Kd.F_mono (k70_foot (Kd.C_below HFR.out HB3.out)) (fun _ _ => trivial)) HFL.out (by have := H48.out; omega))
      refine CL.out.mono ?_
      rintro e w4 ⟨v8, rfl, hn, hb⟩
      have HB4 := Aside0.mk (below_step HB3.out hb)
      have hs34 : w3.heap.size ≤ w4.heap.size := hb.size
      have HN4 : Aside0 (Kd.N k70 40 w4 w3.heap.size (fun k => some k ≠ (Value.slice none 0 0).ownBlock) v8 ((cst D ch 0).1 ++ D.rules.drop 0)) := ⟨Kd.N_mono hn (fun k _ => by simp [Value.ownBlock])⟩
      have HB34 := Aside0.mk hb
      clear hb hn CL CK k0 k1 k2 k3 k4 k5 k6 k7 k8 k9
      obtain ⟨k0, k1, k2, k3, k4, k5, k6, k7, k8, k9⟩ := box_cells (blk_below HK3.out HB34.out)
      go_wp2_with fail
      clear k0 k1 k2 k3 k4 k5 k6 k7 k8 k9
      go_loopg [30, 8, 4] D.rules.length (fun gk u30 u8 u4 w' => ∃ k : Nat, u30 = .int .i64 k ∧ Aside0 (k ≤ D.rules.length) ∧ Aside0 (D.rules.length - k ≤ gk) ∧ Aside0 (Below w3.heap.size w3 w') ∧ Aside0 (Kd.N k70 40 w' w3.heap.size (fun j => some j ≠ u4.ownBlock) u8 ((cst D ch k).1 ++ D.rules.drop k)) ∧ Aside0 (Kd.R (Kd.int .i64) 3 w' w3.heap.size (fun _ => True) u4 (cst D ch k).2))
      case atStart => exact ⟨0, rfl, ⟨Nat.zero_le _⟩, ⟨Nat.sub_le _ _⟩, HB34, HN4, ⟨Kd.R_nil _ _ _ _ _⟩⟩
      case round =>
        obtain ⟨k, rfl, HL, HG, HB, HN, HR⟩ := hrel
        by_cases hlt : k < D.rules.length
        · have q0 : decide ((k : Int) < (D.rules.length : Int)) = true := by simpa using hlt
          have q1 : decide (k < D.rules.length) = true := by simpa using hlt
          have p0 : 0 ≤ (k : Int) := by omega
          have p1 : (k : Int) < (D.rules.length : Int) := by omega
          have hlen48 := H48.out
          have hk48 : k < 48 := by omega
          obtain ⟨L, hL⟩ : ∃ L, L = (cst D ch k).1 ++ D.rules.drop k := ⟨_, rfl⟩
          obtain ⟨L', hL'⟩ : ∃ L, L = (cst D ch k).1 ++ D.rules.drop (k + 1) := ⟨_, rfl⟩
          obtain ⟨q, hq⟩ : ∃ q, q = (cst D ch k).1.length := ⟨_, rfl⟩
          have hcl1 := cst_length D ch k
          have hLl : L.length = q + (D.rules.length - k) := by rw [hL, hq]; simp
          have hat := cst_at ch hlt HD.out
          have hle := cst_less ch hlt
          rw [← hL, ← hq] at hat hle
          rw [← hL'] at hle
          rw [← hL] at HN
          have hqL : q < L.length := by omega
          have hL100 : L.length ≤ 100 := by omega
          have hLl' : L'.length = L.length - 1 := by rw [← hle, List.length_eraseIdx, if_pos hqL]
          have HRL' : Aside0 (RulesOk L') := ⟨by rw [hL']; exact cst_rules ch k (k + 1) HRO.out HL.out⟩
          have HL1 := Aside0.mk hL'
          have HL0 := Aside0.mk hL
          have HLE := Aside0.mk hle
          have HAT := Aside0.mk hat
          have HQL := Aside0.mk hqL
          have HL100 := Aside0.mk hL100
          have HLl' := Aside0.mk hLl'
          have hq1 : IntKind.i64.wrap ((q : Int) + 1) = ((q + 1 : Nat) : Int) := by rw [IntKind.wrap_i64 _]; omega
          clear hL hL' hle hLl hLl' hq hat hcl1 hL100 hqL hlen48
          obtain ⟨ad, A1, c1, hA, hx0, hx1, hl1, hc1⟩ := at_T70 (Kd.C_below HFR.out (below_step HB3.out HB.out)) (k : Int) p0 p1
          simp only [Int.toNat_natCast] at hx0 hx1
          go_wp2_with fail
          have HA := Aside0.mk hA
          clear hA
          have HC0 := Aside0.mk (heap_alloc_new wr (.cells #[.string (rd_T70 D.rules k).f0, .slice A1 (rd_T70 D.rules k).f1.length c1] 40))
          have hbb := (Below.refl _ wr).alloc (Nat.le_refl _) (.cells #[.string (rd_T70 D.rules k).f0, .slice A1 (rd_T70 D.rules k).f1.length c1] 40)
          clear hx0 hx1 hl1 hc1
          generalize wr.alloc (.cells #[.string (rd_T70 D.rules k).f0, .slice A1 (rd_T70 D.rules k).f1.length c1] 40) = wa at hbb HC0 ⊢
          have HBa := Aside0.mk (below_step HB.out hbb)
          have HNa := Aside0.mk (Kd.N_below HN.out hbb)
          have HRa := Aside0.mk (Kd.R_below HR.out hbb)
          obtain ⟨Al, cl, hv8, hcl, hCl⟩ := Kd.N_reads HNa.out
          subst hv8
          refine (idx48 39 #[.pointer (some ⟨wr.heap.size, 0, none⟩)] (fun x : S70 => eqN x.f0 (rd_T70 D.rules k).f0) Al cl _ wa enters49 hCl hcl (fun W x A1 c1 hW _ _ _ => eqn1 x.f0 _ _ _ wr.heap.size W (blk_below HC0.out hW))).mono ?_
          rintro e wb ⟨rfl, hb⟩
          rw [HAT.out]
          have HBb := Aside0.mk (below_step HBa.out hb)
          have HNb := Aside0.mk (Kd.N_below HNa.out hb)
          have HRb := Aside0.mk (Kd.R_below HRa.out hb)
          clear hb hCl hbb
          go_wp2_with fail
          refine (clone70 Al cl L wb _ (Kd.N_F HNb.out) hcl HL100.out).mono ?_
          rintro e wc ⟨vc, rfl, hn, hb⟩
          have HBc := Aside0.mk (below_step HBb.out hb)
          obtain ⟨gc, cc, hvc, hgb, hgl, _⟩ := Kd.N_form hn (Nat.lt_of_le_of_lt (Nat.zero_le _) HQL.out)
          subst hvc
          have HNc := Aside0.mk hn
          have HGc := Aside0.mk hgb
          have HBbc := Aside0.mk hb
          clear hn hb hgl hgb
          go_wp2_with fail
          rw [show (q : Int) + 1 = ((q + 1 : Nat) : Int) from rfl]
          refine (delete70 gc L.length cc q (q + 1) _ _ L wc HNc.out HQL.out rfl HL100.out).mono ?_
          rintro e wd ⟨rfl, hn, hg⟩
          rw [HLE.out, ← HLl'.out] at hn
          have HBd := Aside0.mk (HBbc.out.grown hg HBbc.out.size (fun k hk => by injection hk with hk; rw [← hk]; exact HGc.out))
          have HND := Aside0.mk hn
          rw [← HLl'.out]
          have hsd : wb.heap.size ≤ wd.heap.size := HBd.out.size
          clear hn hg
          have HBd' := Aside0.mk (below_step HBb.out HBd.out)
          obtain ⟨_, hcd, hCd⟩ := Kd.N_reads' HND.out
          obtain ⟨k0, k1, k2, k3, k4, k5, k6, k7, k8, k9⟩ := box_cells (blk_below HK3.out HBd'.out)
          have HCD := Aside0.mk hCd
          have HcD := Aside0.mk hcd
          clear hCd hcd
          go_wp2_with fail
          refine (CP.out wd (below_step HB3.out HBd'.out) (some ⟨gc, 0, none⟩) cc L' HCD.out HcD.out HRL'.out).mono ?_
          rintro e we ⟨rfl, hb⟩
          have HBe := Aside0.mk (below_step HBd'.out hb)
          have HNE := Aside0.mk (Kd.N_below HND.out hb)
          have hbe : Below wb.heap.size wb we := HBd.out.trans (hb.mono hsd)
          have HNL := Aside0.mk (Kd.N_below HNb.out hbe)
          have HRe := Aside0.mk (Kd.R_below HRb.out hbe)
          clear hb hbe k0 k1 k2 k3 k4 k5 k6 k7 k8 k9
          cases hce : (confs D ch L').isEmpty with
          | true =>
            have HY : Aside0 (cst D ch (k + 1) = cst D ch k) := ⟨by rw [HL1.out] at hce; simp only [cst]; rw [if_pos hce]⟩
            clear hce
            go_wp2_with fail
            go_roundg (D.rules.length - (k + 1))
            case measure => have := HG.out; omega
            case rel => exact ⟨k + 1, by go_num, ⟨hlt⟩, ⟨Nat.le_refl _⟩, HBe, ⟨by rw [HY.out, ← HL1.out]; exact Kd.N_lower (Kd.N_mono HNE.out (fun j hj he => by rcases hj with hj | hj; exact hj.1 he; exact absurd (Kd.R_lt HRb.out j he.symm) (Nat.not_lt.2 hj))) HBb.out.size⟩, ⟨by rw [HY.out]; exact HRe.out⟩⟩
          | false =>
            have HY : Aside0 (cst D ch (k + 1) = ((cst D ch k).1 ++ [rd_T70 D.rules k], (cst D ch k).2 ++ [(k : Int)])) := ⟨by rw [HL1.out] at hce; simp only [cst]; rw [if_neg (by rw [hce]; decide)]⟩
            clear hce
            go_wp2_with ((with_reducible refine gate_builtin (b := .append) (xs := #[.tmp 48, .tmp 50]) rfl ?_); at_builtin; refine Kd.R_append (Kd.int .i64) (w0 := w3) w3.heap.size rfl (.tmp 48) (.tmp 50) 51 3 (.int .i64 0) 8 rfl Tryz.underlying51 info3 rfl (by decide) (by decide) u4 (cst D ch k).2 (k : Int) [.int .i64 k] (fun _ => True) (fun _ => False) rfl rfl ?aP (fun _ hk => hk.elim) ?aF ?aO ?aB ?aS ?aL ?_; (case aP => exact rfl); (case aB => exact (by repeat (first | exact HBe.out | apply below_alloc | apply pw_below_drewN | apply below_drew1))); (case aF => exact (fun _ _ => trivial)); (case aO => exact (by (with_reducible repeat (first | apply Kd.R_alloc | apply Kd.R_drewN | apply Kd.R_drew)); exact HRe.out)); (case aS => exact (below_size (by repeat (first | exact HBe.out | apply below_alloc | apply pw_below_drewN | apply below_drew1)))); (case aL => have := cst_length D ch k; have := H48.out; have := HL.out; omega); intro v1 w5 ho hb hg hat)
            go_roundg (D.rules.length - (k + 1))
            case measure => have := HG.out; omega
            case rel => exact ⟨k + 1, by go_num, ⟨hlt⟩, ⟨Nat.le_refl _⟩, ⟨hb⟩, ⟨by rw [HY.out, List.append_assoc, List.singleton_append, ← rd_drop hlt, ← HL0.out]; exact Kd.N_mono (Kd.N_after (ok := fun _ => True) (Kd.N_mono HNL.out (fun j hj => ⟨trivial, hj⟩)) hg hat) (fun j hj => hj.2)⟩, ⟨by rw [HY.out]; exact ho⟩⟩
        · have q0 : decide ((k : Int) < (D.rules.length : Int)) = false := by simpa using hlt
          have q1 : decide (k < D.rules.length) = false := by simpa using hlt
          have hk : k = D.rules.length := by have := HL.out; omega
          subst hk
          have HRR := HR.out
          obtain ⟨A', cp, hv, hcp, hCC⟩ := Kd.R_reads HRR
          subst hv
          go_wp2_with fail
          go_ret3
          have e1 : conflL D ch = (cst D ch D.rules.length).2 := by unfold conflL conflE; rw [if_pos HZ.out, HE.out]; rfl
          have e2 : conflF D ch = true := by unfold conflF conflE; rw [if_pos HZ.out, HE.out]
          exact ⟨A', cp, by rw [e1, e2, HZ.out]; rfl, by rw [e1]; exact hcp, by rw [e1]; exact hCC, below_step HB3.out HB.out⟩
  · have HL0 : Aside0 (conflL D ch = []) := ⟨by unfold conflL; rw [if_neg hz]⟩
    have HF0 : Aside0 (conflF D ch = false) := ⟨by unfold conflF; rw [if_neg hz]⟩
    obtain ⟨q, hq⟩ : ∃ q, q = askE D ch := ⟨_, rfl⟩
    rw [← hq] at hz CK
    have HQ := Aside0.mk hq
    have z1 : (q == 0) = false := by simpa using hz
    have z2 : (q != 0) = true := by simpa using hz
    clear hz HF hr hc hq
    go_enter Tryz.func11, Tryz.ntmps11
    go_wp2_with fail
    refine (CK.out _ HB0.out).mono ?_
    rintro e2 w2 ⟨rfl, hb⟩
    go_wp2_with fail
    go_ret3
    refine ⟨none, 0, by rw [HL0.out, HF0.out, ← HQ.out]; rfl, by rw [HL0.out]; exact Nat.le_refl _, by rw [HL0.out]; exact Kd.C_nil _ _, below_step HB0.out hb⟩
end Go.Proofs.YtcilmcoaondbmaaGreatDoor.PX
