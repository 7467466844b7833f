/- The law VariantChecks: it returns true. -/
import Derived.Test.YtcilmcoaondbmaaGreatDoorM4
import Derived.Test.YtcilmcoaondbmaaGreatDoorMX
import Derived.Test.YtcilmcoaondbmaaGreatDoorM5
import Derived.Test.YtcilmcoaondbmaaGreatDoorMA
/- What the other functions return for a family that has an error. -/
namespace Go.Proofs.YtcilmcoaondbmaaGreatDoor.PX
open Go.RowKit Go.Proofs.YtcilmcoaondbmaaGreatDoorW.PrintWords Go.Proofs.YtcilmcoaondbmaaGreatDoorW.PrintLast Go.Proofs.YtcilmcoaondbmaaGreatDoorW.PrintMore
set_option linter.unusedVariables false
set_option linter.unusedSimpArgs false
abbrev pcs (nm : ByteArray) (v1 v2 v3 v4 v5 : Value) : Array Value := #[.string nm, v1, v2, v3, v4, v5]
theorem p_cells {w : World} {g : Nat} {nm : ByteArray} {v1 v2 v3 v4 v5 : Value} (h : w.heap[g]? = some (.cells (pcs nm v1 v2 v3 v4 v5) 30 (0, 0))) :
    w.cell? ⟨g, 0, none⟩ = some (.string nm) ∧ w.cell? ⟨g, 1, none⟩ = some v1 ∧ w.cell? ⟨g, 2, none⟩ = some v2 ∧ w.cell? ⟨g, 3, none⟩ = some v3 ∧ w.cell? ⟨g, 4, none⟩ = some v4 ∧ w.cell? ⟨g, 5, none⟩ = some v5 :=
  ⟨(blk_cell h 0).trans rfl, (blk_cell h 1).trans rfl, (blk_cell h 2).trans rfl, (blk_cell h 3).trans rfl, (blk_cell h 4).trans rfl, (blk_cell h 5).trans rfl⟩
theorem res_ct {P : Program} {fn : Func} {p u : Tmp} {ty : TypeId} (h : fn.results = #[.cell p ty, .tmp u]) (tmps : Array Value) (w : World) (g : Nat) (t : TypeId) (cs : Array Value) (fr : Nat × Nat) (d : TypeDesc)
    (hp : tmps.getD p undef = .pointer (some ⟨g, 0, none⟩)) (hg : w.heap[g]? = some (.cells cs t fr))
    (hu : P.underlying ty = some d) (hd : (match d with | .struct _ | .array _ _ => true | _ => false) = true) (hi : (P.info? ty).map (·.size) = some cs.size) :
    (results fn tmps).run P w = .ok (.tuple #[.agg cs, tmps.getD u undef]) w := by
  have hp' : tmps[p]?.getD undef = .pointer (some ⟨g, 0, none⟩) := by simpa using hp
  simp [results, h, hp', asAddr, run_loadVar_row w g t ty cs fr d hg hu hd hi]
def zeroP : Array Value := pcs ⟨#[]⟩ (.slice none 0 0) (.slice none 0 0) (.slice none 0 0) (.slice none 0 0) (.slice none 0 0)
theorem check_err (D : Fam) (H : Hd) (w : World) (HF : FamAt w D H) {q : Int} (hq : q = chk D) : Calls Tryz.prog 6 #[fv D H] w fun e w' => e = .returned (.int .i64 q) ∧ Below w.heap.size w w' := by
  rw [hq]; exact check_calls D H w HF
theorem askE_bad {D : Fam} {ch : List S62} (h : chk D ≠ 0) : askE D ch = chk D := by unfold askE; rw [if_pos h]
set_option maxHeartbeats 2000000 in
set_option maxRecDepth 100000 in
/- configured. -/
theorem conf_err (D : Fam) (H : Hd) (A : Option Addr) (n c : Nat) (w : World) (HF : FamAt w D H) (hck : chk D ≠ 0) :
    Calls Tryz.prog 27 #[fv D H, .slice A n c] w fun e w' => e = .returned (.tuple #[.int .u64 0, .int .i64 (chk D)]) ∧ Below w.heap.size w w' := by
  have hu41 := Tryz.underlying36
  obtain ⟨q, hq⟩ : ∃ q, q = chk D := ⟨_, rfl⟩
  rw [← hq] at hck ⊢
  have CK := Lib.hid (fun W (hW : Below w.heap.size w W) => check_err D H W (HF.below hW) hq)
  unfold fv
  have z1 : (q == 0) = false := by simpa using hck
  have z2 : (q != 0) = true := by simpa using hck
  have HB0 : Aside0 (Below w.heap.size w (w.alloc (.cells (fcells D H) 36))) := ⟨below_alloc (Below.refl _ _) _⟩
  have HK0 := Aside0.mk (heap_alloc_new w (.cells (fcells D H) 36))
  clear HF hck hq
  unfold fcells at HB0 HK0
  go_enter Tryz.func27, Tryz.ntmps27
  obtain ⟨k0, k1, k2, k3, k4, k5, k6, k7, k8, k9⟩ := box_cells HK0.out
  go_wp2_with fail
  clear k0 k1 k2 k3 k4 k5 k6 k7 k8 k9
  refine (CK.out _ HB0.out).mono ?_
  rintro e w2 ⟨rfl, hb⟩
  have HB2 := Aside0.mk (below_step HB0.out hb)
  clear hb CK HB0 HK0
  go_wp2_with fail
  go_ret2
  exact ⟨rfl, HB2.out⟩
set_option maxHeartbeats 2000000 in
set_option maxRecDepth 100000 in
/- Allowed. -/
theorem allow_err (D : Fam) (H : Hd) (w : World) (HF : FamAt w D H) (hck : chk D ≠ 0) :
    Calls Tryz.prog 7 #[fv D H, .slice none 0 0] w fun e w' => e = .returned (.tuple #[.bool false, .int .i64 0, .int .i64 (chk D)]) ∧ Below w.heap.size w w' := by
  have hu41 := Tryz.underlying36
  obtain ⟨q, hq⟩ : ∃ q, q = chk D := ⟨_, rfl⟩
  rw [← hq] at hck ⊢
  have CK := Lib.hid (fun W (hW : Below w.heap.size w W) => (conf_err D H none 0 0 W (HF.below hW) (hq ▸ hck)).mono (fun e w' h => (⟨by rw [h.1, ← hq], h.2⟩ : e = .returned (.tuple #[.int .u64 0, .int .i64 q]) ∧ Below W.heap.size W w')))
  unfold fv
  have z1 : (q == 0) = false := by simpa using hck
  have z2 : (q != 0) = true := by simpa using hck
  have HB0 : Aside0 (Below w.heap.size w (w.alloc (.cells (fcells D H) 36))) := ⟨below_alloc (Below.refl _ _) _⟩
  have HK0 := Aside0.mk (heap_alloc_new w (.cells (fcells D H) 36))
  clear HF hck hq
  unfold fcells at HB0 HK0
  go_enter Tryz.func7, Tryz.ntmps7
  obtain ⟨k0, k1, k2, k3, k4, k5, k6, k7, k8, k9⟩ := box_cells HK0.out
  go_wp2_with fail
  clear k0 k1 k2 k3 k4 k5 k6 k7 k8 k9
  refine (CK.out _ HB0.out).mono ?_
  rintro e w2 ⟨rfl, hb⟩
  have HB2 := Aside0.mk (below_step HB0.out hb)
  clear hb CK HB0 HK0
  go_wp2_with fail
  go_ret3
  exact ⟨rfl, HB2.out⟩
set_option maxHeartbeats 2000000 in
set_option maxRecDepth 100000 in
/- Buildable. -/
theorem build_err (D : Fam) (H : Hd) (w : World) (HF : FamAt w D H) (hck : chk D ≠ 0) :
    Calls Tryz.prog 13 #[fv D H, .slice none 0 0] w fun e w' => e = .returned (.tuple #[.slice none 0 0, .int .i64 (chk D)]) ∧ Below w.heap.size w w' := by
  have hu41 := Tryz.underlying36
  obtain ⟨q, hq⟩ : ∃ q, q = chk D := ⟨_, rfl⟩
  rw [← hq] at hck ⊢
  have CK := Lib.hid (fun W (hW : Below w.heap.size w W) => (count_calls D H none 0 [] W (HF.below hW) (Kd.C_nil _ _) (Nat.le_refl _)).mono (fun e w' h => (⟨by rw [h.1, askE_bad (hq ▸ hck), ← hq, if_pos hck], h.2⟩ : e = .returned (.tuple #[.int .i64 0, .int .i64 q]) ∧ Below W.heap.size W w')))
  unfold fv
  have z1 : (q == 0) = false := by simpa using hck
  have z2 : (q != 0) = true := by simpa using hck
  have HB0 : Aside0 (Below w.heap.size w (w.alloc (.cells (fcells D H) 36))) := ⟨below_alloc (Below.refl _ _) _⟩
  have HK0 := Aside0.mk (heap_alloc_new w (.cells (fcells D H) 36))
  clear HF hck hq
  unfold fcells at HB0 HK0
  go_enter Tryz.func13, Tryz.ntmps13
  obtain ⟨k0, k1, k2, k3, k4, k5, k6, k7, k8, k9⟩ := box_cells HK0.out
  go_wp2_with fail
  clear k0 k1 k2 k3 k4 k5 k6 k7 k8 k9
  refine (CK.out _ HB0.out).mono ?_
  rintro e w2 ⟨rfl, hb⟩
  have HB2 := Aside0.mk (below_step HB0.out hb)
  clear hb CK HB0 HK0
  go_wp2_with fail
  go_ret2
  exact ⟨rfl, HB2.out⟩
set_option maxHeartbeats 2000000 in
set_option maxRecDepth 100000 in
/- Redundant. -/
theorem red_err (D : Fam) (H : Hd) (w : World) (HF : FamAt w D H) (hck : chk D ≠ 0) :
    Calls Tryz.prog 14 #[fv D H] w fun e w' => e = .returned (.tuple #[.slice none 0 0, .int .i64 (chk D)]) ∧ Below w.heap.size w w' := by
  have hu41 := Tryz.underlying36
  obtain ⟨q, hq⟩ : ∃ q, q = chk D := ⟨_, rfl⟩
  rw [← hq] at hck ⊢
  have CK := Lib.hid (fun W (hW : Below w.heap.size w W) => check_err D H W (HF.below hW) hq)
  unfold fv
  have z1 : (q == 0) = false := by simpa using hck
  have z2 : (q != 0) = true := by simpa using hck
  have HB0 : Aside0 (Below w.heap.size w (w.alloc (.cells (fcells D H) 36))) := ⟨below_alloc (Below.refl _ _) _⟩
  have HK0 := Aside0.mk (heap_alloc_new w (.cells (fcells D H) 36))
  clear HF hck hq
  unfold fcells at HB0 HK0
  go_enter Tryz.func14, Tryz.ntmps14
  obtain ⟨k0, k1, k2, k3, k4, k5, k6, k7, k8, k9⟩ := box_cells HK0.out
  go_wp2_with fail
  clear k0 k1 k2 k3 k4 k5 k6 k7 k8 k9
  refine (CK.out _ HB0.out).mono ?_
  rintro e w2 ⟨rfl, hb⟩
  have HB2 := Aside0.mk (below_step HB0.out hb)
  clear hb CK HB0 HK0
  go_wp2_with fail
  go_ret2
  exact ⟨rfl, HB2.out⟩
set_option maxHeartbeats 2000000 in
set_option maxRecDepth 100000 in
/- Used. -/
theorem used_err (D : Fam) (H : Hd) (o : Int) (w : World) (HF : FamAt w D H) (hck : chk D ≠ 0) :
    Calls Tryz.prog 15 #[fv D H, .int .i64 o] w fun e w' => e = .returned (.tuple #[.slice none 0 0, .slice none 0 0, .int .i64 (chk D)]) ∧ Below w.heap.size w w' := by
  have hu41 := Tryz.underlying36
  obtain ⟨q, hq⟩ : ∃ q, q = chk D := ⟨_, rfl⟩
  rw [← hq] at hck ⊢
  have CK := Lib.hid (fun W (hW : Below w.heap.size w W) => check_err D H W (HF.below hW) hq)
  unfold fv
  have z1 : (q == 0) = false := by simpa using hck
  have z2 : (q != 0) = true := by simpa using hck
  have HB0 : Aside0 (Below w.heap.size w ((w.alloc (.cells (fcells D H) 36)).alloc (.cells #[.int .i64 o] 3))) := ⟨below_alloc (below_alloc (Below.refl _ _) _) _⟩
  have HK0 := Aside0.mk (blk_alloc (heap_alloc_new w (.cells (fcells D H) 36)) (.cells #[.int .i64 o] 3))
  clear HF hck hq
  unfold fcells at HB0 HK0
  go_enter Tryz.func15, Tryz.ntmps15
  obtain ⟨k0, k1, k2, k3, k4, k5, k6, k7, k8, k9⟩ := box_cells HK0.out
  go_wp2_with fail
  clear k0 k1 k2 k3 k4 k5 k6 k7 k8 k9
  refine (CK.out _ HB0.out).mono ?_
  rintro e w2 ⟨rfl, hb⟩
  have HB2 := Aside0.mk (below_step HB0.out hb)
  clear hb CK HB0 HK0
  go_wp2_with fail
  go_ret3
  exact ⟨rfl, HB2.out⟩
/- Product. -/
set_option maxHeartbeats 2000000 in
set_option maxRecDepth 100000 in
theorem prod_err (D : Fam) (H : Hd) (w : World) (HF : FamAt w D H) (hck : chk D ≠ 0) :
    Calls Tryz.prog 12 #[fv D H, .slice none 0 0] w fun e w' => e = .returned (.tuple #[.agg zeroP, .int .i64 (chk D)]) ∧ Below w.heap.size w w' := by
  have hu41 := Tryz.underlying36
  have hu35 := Tryz.underlying30
  obtain ⟨q, hq⟩ : ∃ q, q = chk D := ⟨_, rfl⟩
  rw [← hq] at hck ⊢
  have CK := Lib.hid (fun W (hW : Below w.heap.size w W) => (conf_err D H none 0 0 W (HF.below hW) (hq ▸ hck)).mono (fun e w' h => (⟨by rw [h.1, ← hq], h.2⟩ : e = .returned (.tuple #[.int .u64 0, .int .i64 q]) ∧ Below W.heap.size W w')))
  unfold fv
  have z1 : (q == 0) = false := by simpa using hck
  have z2 : (q != 0) = true := by simpa using hck
  clear HF hck hq
  obtain ⟨w1, hw1⟩ : ∃ w1, w1 = (w.alloc (.cells (fcells D H) 36)).alloc (.cells zeroP 30) := ⟨_, rfl⟩
  have e1 : (w.alloc (.cells (fcells D H) 36)).heap.size = w.heap.size + 1 := by simp
  have HB1 : Aside0 (Below w.heap.size w w1) := ⟨by rw [hw1]; exact below_alloc (below_alloc (Below.refl _ _) _) _⟩
  have HF1 : Aside0 (w1.heap[w.heap.size]? = some (.cells (fcells D H) 36 (0, 0))) := ⟨by rw [hw1]; exact blk_alloc (heap_alloc_new w _) _⟩
  have HR1 : Aside0 (w1.heap[w.heap.size + 1]? = some (.cells zeroP 30 (0, 0))) := ⟨by
    have h := heap_alloc_new (w.alloc (.cells (fcells D H) 36)) (.cells zeroP 30)
    rw [e1] at h
    rw [hw1]; exact h⟩
  clear e1
  unfold zeroP pcs fcells at hw1
  go_enter Tryz.func12, Tryz.ntmps12
  go_upto_region 1 with (fail)
  rw [← hw1]
  clear hw1
  obtain ⟨k0, k1, k2, k3, k4, k5, k6, k7, k8, k9⟩ := box_cells HF1.out
  go_wp2_with fail
  clear k0 k1 k2 k3 k4 k5 k6 k7 k8 k9
  refine (CK.out _ HB1.out).mono ?_
  rintro e w3 ⟨rfl, hb⟩
  have HB3 := Aside0.mk (below_step HB1.out hb)
  have HR3 := Aside0.mk (blk_below HR1.out hb)
  clear hb CK HB1 HF1 HR1
  obtain ⟨y0, y1, y2, y3, y4, y5⟩ := p_cells HR3.out
  have g0 := blk_frozen HR3.out 0
  have g1 := blk_frozen HR3.out 1
  have g2 := blk_frozen HR3.out 2
  have g3 := blk_frozen HR3.out 3
  have g4 := blk_frozen HR3.out 4
  have g5 := blk_frozen HR3.out 5
  go_wp2_with fail
  clear y0 y1 y2 y3 y4 y5 g0 g1 g2 g3 g4 g5
  have h0 := blk_put HR3.out 0 (.string ⟨#[]⟩) rfl
  have h1 := blk_put h0 1 (.slice none 0 0) rfl
  have h2 := blk_put h1 2 (.slice none 0 0) rfl
  have h3 := blk_put h2 3 (.slice none 0 0) rfl
  have h4 := blk_put h3 4 (.slice none 0 0) rfl
  have h5 := blk_put h4 5 (.slice none 0 0) rfl
  have hbl : Below w.heap.size w _ := (below_set (below_set (below_set (below_set (below_set (below_set HB3.out (g := w.heap.size + 1) (j := 0) (v := (.string ⟨#[]⟩)) (Nat.le_succ _)) (g := w.heap.size + 1) (j := 1) (v := (.slice none 0 0)) (Nat.le_succ _)) (g := w.heap.size + 1) (j := 2) (v := (.slice none 0 0)) (Nat.le_succ _)) (g := w.heap.size + 1) (j := 3) (v := (.slice none 0 0)) (Nat.le_succ _)) (g := w.heap.size + 1) (j := 4) (v := (.slice none 0 0)) (Nat.le_succ _)) (g := w.heap.size + 1) (j := 5) (v := (.slice none 0 0)) (Nat.le_succ _))
  refine bodyPost_ret (res_ct rfl _ _ (w.heap.size + 1) 30 _ (0, 0) _ rfl h5 Tryz.underlying30 rfl (by kernel_rfl)) rfl ?_
  exact ⟨rfl, hbl⟩
/- sameProduct of two zero products. -/
set_option maxHeartbeats 2000000 in
set_option maxRecDepth 100000 in
theorem same_zero (w : World) : Calls Tryz.prog 16 #[.agg zeroP, .agg zeroP] w fun e w' => e = .returned (.bool true) ∧ Below w.heap.size w w' := by
  have hu35 := Tryz.underlying30
  obtain ⟨w1, hw1⟩ : ∃ w1, w1 = (w.alloc (.cells zeroP 30)).alloc (.cells zeroP 30) := ⟨_, rfl⟩
  have e1 : (w.alloc (.cells zeroP 30)).heap.size = w.heap.size + 1 := by simp
  have HB : Aside0 (Below w.heap.size w w1) := ⟨by rw [hw1]; exact below_alloc (below_alloc (Below.refl _ _) _) _⟩
  have HP : Aside0 (w1.heap[w.heap.size]? = some (.cells zeroP 30 (0, 0))) := ⟨by rw [hw1]; exact blk_alloc (heap_alloc_new w _) _⟩
  have HQ : Aside0 (w1.heap[w.heap.size + 1]? = some (.cells zeroP 30 (0, 0))) := ⟨by
    have h := heap_alloc_new (w.alloc (.cells zeroP 30)) (.cells zeroP 30)
    rw [e1] at h
    rw [hw1]; exact h⟩
  clear e1
  unfold zeroP pcs at hw1 ⊢
  go_enter Tryz.func16, Tryz.ntmps16
  go_upto_region 1 with (fail)
  rw [← hw1]
  clear hw1
  obtain ⟨p0_, p1_, p2_, p3_, p4_, p5_⟩ := p_cells HP.out
  obtain ⟨q0_, q1_, q2_, q3_, q4_, q5_⟩ := p_cells HQ.out
  go_wp2_with fail
  clear p0_ p1_ p2_ p3_ p4_ p5_ q0_ q1_ q2_ q3_ q4_ q5_
  go_loopg [5] 0 (fun gk v5 w' => v5 = .int .i64 0 ∧ w' = w1)
  case atStart => exact ⟨rfl, rfl⟩
  case round =>
    obtain ⟨rfl, rfl⟩ := hrel
    obtain ⟨p0_, p1_, p2_, p3_, p4_, p5_⟩ := p_cells HP.out
    go_wp2_with fail
    clear p0_ p1_ p2_ p3_ p4_ p5_
    go_loopg [6] 0 (fun gk v6 w' => v6 = .int .i64 0 ∧ w' = wr)
    case atStart => exact ⟨rfl, rfl⟩
    case round =>
      obtain ⟨rfl, rfl⟩ := hrel
      obtain ⟨p0_, p1_, p2_, p3_, p4_, p5_⟩ := p_cells HP.out
      go_wp2_with fail
      clear p0_ p1_ p2_ p3_ p4_ p5_
      go_loopg [7] 0 (fun gk v7 w' => v7 = .int .i64 0 ∧ w' = wr)
      case atStart => exact ⟨rfl, rfl⟩
      case round =>
        obtain ⟨rfl, rfl⟩ := hrel
        obtain ⟨p0_, p1_, p2_, p3_, p4_, p5_⟩ := p_cells HP.out
        go_wp2_with fail
        go_ret
        exact ⟨rfl, HB.out⟩
end Go.Proofs.YtcilmcoaondbmaaGreatDoor.PX
/- The law VariantChecks: it returns true. -/
namespace Go.Proofs.YtcilmcoaondbmaaGreatDoor.PX
open Go.RowKit Go.Proofs.YtcilmcoaondbmaaGreatDoorW.PrintWords Go.Proofs.YtcilmcoaondbmaaGreatDoorW.PrintLast Go.Proofs.YtcilmcoaondbmaaGreatDoorW.PrintMore
attribute [local go_sem] max2_int min2_int max_two min_two max_three min_three max_four min_four
set_option linter.unusedVariables false
set_option linter.unusedSimpArgs false
theorem first_err (D : Fam) (H : Hd) (w : World) (HF : FamAt w D H) (hck : chk D ≠ 0) :
    Calls Tryz.prog 9 #[fv D H, .slice none 0 0] w fun e w' => ∃ A' cp, e = .returned (.tuple #[.slice A' 0 cp, .bool false, .int .i64 (chk D)]) ∧ Below w.heap.size w w' :=
  (first_calls D H none 0 [] w HF (Kd.C_nil _ _) (Nat.le_refl _)).mono fun e w' ⟨A', cp, ns, he, hn, _, _, hb⟩ => by
    rw [askE_bad hck, if_neg hck] at hn
    subst hn
    rw [askE_bad hck] at he
    refine ⟨A', cp, ?_, hb⟩
    rw [he]
    simp [hck]
theorem forcedE_bad {D : Fam} {ch : List S62} (h : chk D ≠ 0) : forcedE D ch = chk D := by unfold forcedE; rw [askE_bad h, if_pos h]
theorem forced_err (D : Fam) (H : Hd) (w : World) (HF : FamAt w D H) (hck : chk D ≠ 0) :
    Calls Tryz.prog 10 #[fv D H, .slice none 0 0] w fun e w' => ∃ A' cp, e = .returned (.tuple #[.slice A' 0 cp, .int .i64 (chk D)]) ∧ Below w.heap.size w w' :=
  (forced_calls D H none 0 [] w HF (Kd.C_nil _ _) (Nat.le_refl _)).mono fun e w' ⟨A', cp, fs, he, hn, _, _, hb⟩ => by
    rw [forcedE_bad hck, if_neg hck] at hn
    subst hn
    rw [forcedE_bad hck] at he
    exact ⟨A', cp, he, hb⟩
theorem confl_err (D : Fam) (H : Hd) (w : World) (HF : FamAt w D H) (hck : chk D ≠ 0) :
    Calls Tryz.prog 11 #[fv D H, .slice none 0 0] w fun e w' => ∃ A' cp, e = .returned (.tuple #[.slice A' 0 cp, .bool false, .int .i64 (chk D)]) ∧ Below w.heap.size w w' :=
  (confl_calls D H none 0 [] w HF (Kd.C_nil _ _) (Nat.le_refl _)).mono fun e w' ⟨A', cp, he, _, _, hb⟩ => by
    have h1 : conflL D [] = [] := by unfold conflL; rw [askE_bad hck, if_neg hck]
    have h2 : conflF D [] = false := by unfold conflF; rw [askE_bad hck, if_neg hck]
    rw [h1, h2, askE_bad hck] at he
    exact ⟨A', cp, he, hb⟩
theorem count_err (D : Fam) (H : Hd) (w : World) (HF : FamAt w D H) (hck : chk D ≠ 0) :
    Calls Tryz.prog 8 #[fv D H, .slice none 0 0] w fun e w' => e = .returned (.tuple #[.int .i64 0, .int .i64 (chk D)]) ∧ Below w.heap.size w w' :=
  (count_calls D H none 0 [] w HF (Kd.C_nil _ _) (Nat.le_refl _)).mono fun e w' ⟨he, hb⟩ => by
    rw [askE_bad hck, if_pos hck] at he
    exact ⟨he, hb⟩
set_option maxHeartbeats 8000000 in
set_option maxRecDepth 100000 in
theorem law_big (D : Fam) (H : Hd) (w : World) (h : (14 < D.opts.length ∨ 50 < D.rules.length ∨ 50 < D.guards.length ∨ 50 < D.overs.length ∨ 6 < D.insts.length ∨ 6 < D.dims.length)) :
    Calls Tryz.prog 3 #[fv D H] w fun e w' => e = .returned (.bool true) ∧ Below w.heap.size w w' := by
  have hu41 := Tryz.underlying36
  unfold fv
  have HB0 : Aside0 (Below w.heap.size w (w.alloc (.cells (fcells D H) 36))) := ⟨below_alloc (Below.refl _ _) _⟩
  have HK0 := Aside0.mk (heap_alloc_new w (.cells (fcells D H) 36))
  have CK := Lib.hid known_calls
  unfold fcells at HB0 HK0
  go_enter Tryz.func3, Tryz.ntmps3
  go_upto_region 1 with (fail)
  go_cut [68] (fun v68 wc => v68 = .bool true ∧ Aside0 (Below w.heap.size w wc))
  case first =>
    go_wp2_with fail
    refine (CK.out _).mono ?_
    rintro e w2 ⟨rfl, hb⟩
    have HB2 := Aside0.mk (below_step HB0.out hb)
    have HK2 := Aside0.mk (blk_below HK0.out hb)
    obtain ⟨k0, k1, k2, k3, k4, k5, k6, k7, k8, k9⟩ := box_cells HK2.out
    clear hb
    by_cases h14 : 14 < D.opts.length
    · have z1 : decide (14 < (D.opts.length : Int)) = true := by simp; omega
      clear h h14
      go_wp2_with fail
      all_goals
        go_meet
        case rel => exact ⟨by first | rfl | (simp; done), HB2⟩
    · have z1 : decide (14 < (D.opts.length : Int)) = false := by simp; omega
      have HH := Aside0.mk h
      have H14 := Aside0.mk h14
      clear h h14
      go_wp2_with fail
      all_goals
        go_meet
        case rel => exact ⟨by have := HH.out; have := H14.out; first | rfl | (simp; done) | (simp; omega), HB2⟩
  case rest =>
    obtain ⟨rfl, HB⟩ := hcut
    clear h
    go_wp2_with fail
    refine (CK.out _).mono ?_
    rintro e w2 ⟨rfl, hb⟩
    go_wp2_with fail
    go_ret
    exact ⟨rfl, below_step HB.out hb⟩
set_option maxHeartbeats 8000000 in
set_option maxRecDepth 100000 in
theorem law_small (D : Fam) (H : Hd) (w : World) (HF : FamAt w D H) (h : ¬ (14 < D.opts.length ∨ 50 < D.rules.length ∨ 50 < D.guards.length ∨ 50 < D.overs.length ∨ 6 < D.insts.length ∨ 6 < D.dims.length)) :
    Calls Tryz.prog 3 #[fv D H] w fun e w' => e = .returned (.bool true) ∧ Below w.heap.size w w' := by
  have hu41 := Tryz.underlying36
  have hu35 := Tryz.underlying30
  have HFA := Lib.hid HF
  clear HF
  have h1 : D.opts.length ≤ 14 := by omega
  have h2 : D.rules.length ≤ 50 := by omega
  have h3 : D.guards.length ≤ 50 := by omega
  have h4 : D.overs.length ≤ 50 := by omega
  have h5 : D.insts.length ≤ 6 := by omega
  have h6 : D.dims.length ≤ 6 := by omega
  clear h
  have q1 : decide (14 < (D.opts.length : Int)) = false := by simp; omega
  have HB0 : Aside0 (Below w.heap.size w (w.alloc (.cells (fcells D H) 36))) := ⟨below_alloc (Below.refl _ _) _⟩
  have HK0 := Aside0.mk (heap_alloc_new w (.cells (fcells D H) 36))
  have CK := Lib.hid known_calls
  unfold fv
  unfold fcells at HB0 HK0
  go_enter Tryz.func3, Tryz.ntmps3
  go_upto_region 1 with (fail)
  go_cut [68] (fun v68 wc => v68 = .bool false ∧ Aside0 (Below w.heap.size w wc) ∧ Aside0 (Box wc w.heap.size D H))
  case first =>
    go_wp2_with fail
    refine (CK.out _).mono ?_
    rintro e w2 ⟨rfl, hb⟩
    have HB2 := Aside0.mk (below_step HB0.out hb)
    have HK2 := Aside0.mk (blk_below HK0.out hb)
    obtain ⟨k0, k1, k2, k3, k4, k5, k6, k7, k8, k9⟩ := box_cells HK2.out
    clear hb
    go_wp2_with fail
    all_goals
      go_meet
      case rel => exact ⟨by first | rfl | (simp; done) | (simp; omega), HB2, ⟨HK2.out⟩⟩
  case rest =>
    obtain ⟨rfl, HB, HK⟩ := hcut
    have b1 : (D.opts.length : Int) ≤ 14 := by omega
    have b2 : (D.rules.length : Int) ≤ 50 := by omega
    clear q1 h1 h2 h3 h4 h5 h6 HB0 HK0 CK
    go_wp2_with fail
    go_loopg [3] D.opts.length (fun gk v3 w' => ∃ k : Nat, v3 = .int .i64 k ∧ Aside0 (k ≤ D.opts.length) ∧ Aside0 (D.opts.length - k ≤ gk) ∧ Aside0 (∀ j : Nat, j < k → (rdS D.opts j).size ≤ 80) ∧ Aside0 (Below w.heap.size w w') ∧ Aside0 (Box w' w.heap.size D H))
    case atStart => exact ⟨0, rfl, ⟨Nat.zero_le _⟩, ⟨Nat.sub_le _ _⟩, ⟨fun j hj => absurd hj (Nat.not_lt_zero _)⟩, HB, HK⟩
    case round =>
      clear HB HK
      obtain ⟨k, rfl, HL, HG, HE, HB, HK⟩ := hrel
      have hc6 : wr.cell? ⟨w.heap.size, 6, none⟩ = some (.slice H.A6 D.opts.length H.c6) := (blk_cell HK.out 6).trans rfl
      by_cases hlt : k < D.opts.length
      · have q0 : decide ((k : Int) < (D.opts.length : Int)) = true := by simpa using hlt
        have q1 : decide (k < D.opts.length) = true := by simpa using hlt
        have p0 : 0 ≤ (k : Int) := by omega
        have p1 : (k : Int) < (D.opts.length : Int) := by omega
        obtain ⟨ad, e0, hx0⟩ := Kd.at_string HFA.out.r6 k p0 p1
        replace hx0 := (HB.out.cell (World.block_lt_of_cell? w _ hx0)).trans hx0
        simp only [Int.toNat_natCast] at hx0
        rw [e0] at hc6
        clear e0
        have HLT := Aside0.mk hlt
        clear hlt
        obtain ⟨z, hz⟩ : ∃ z, z = (rdS D.opts k).size := ⟨_, rfl⟩
        by_cases g : 80 < z
        · have z1 : decide (80 < ((rdS D.opts k).size : Int)) = true := by rw [← hz]; simp; omega
          have z2 : decide (80 < (rdS D.opts k).size) = true := by rw [← hz]; simp; omega
          clear g hz
          go_wp2_with fail
          go_ret
          exact ⟨rfl, HB.out⟩
        · have z1 : decide (80 < ((rdS D.opts k).size : Int)) = false := by rw [← hz]; simp; omega
          have z2 : decide (80 < (rdS D.opts k).size) = false := by rw [← hz]; simp; omega
          have HZ : Aside0 ((rdS D.opts k).size ≤ 80) := ⟨by rw [← hz]; omega⟩
          clear g hz
          go_wp2_with fail
          go_roundg (D.opts.length - (k + 1))
          case measure => have := HLT.out; have := HG.out; omega
          case rel =>
            refine ⟨k + 1, by go_num, ⟨HLT.out⟩, ⟨Nat.le_refl _⟩, ⟨fun j hj => ?_⟩, HB, HK⟩
            by_cases e : j = k
            · rw [e]; exact HZ.out
            · exact HE.out j (by omega)
      · have q0 : decide ((k : Int) < (D.opts.length : Int)) = false := by simpa using hlt
        have q1 : decide (k < D.opts.length) = false := by simpa using hlt
        have HOS : Hid (∀ i : Int, 0 ≤ i → i < D.opts.length → (rdS D.opts i).size ≤ 80) := Lib.hid fun i h0 h1 => by
          obtain ⟨j, rfl⟩ : ∃ j : Nat, i = j := ⟨i.toNat, by omega⟩
          exact HE.out j (by omega)
        clear hlt
        go_wp2_with fail
        clear q0 q1 hc6 HE HL HG
        go_loopg [4] D.rules.length (fun gk v4 w' => ∃ k : Nat, v4 = .int .i64 k ∧ Aside0 (k ≤ D.rules.length) ∧ Aside0 (D.rules.length - k ≤ gk) ∧ Aside0 (∀ j : Nat, j < k → (rd_T70 D.rules j).f0.size ≤ 80) ∧ Aside0 (Below w.heap.size w w') ∧ Aside0 (Box w' w.heap.size D H))
        case atStart => exact ⟨0, rfl, ⟨Nat.zero_le _⟩, ⟨Nat.sub_le _ _⟩, ⟨fun j hj => absurd hj (Nat.not_lt_zero _)⟩, HB, HK⟩
        case round =>
          clear HB HK
          obtain ⟨k, rfl, HL, HG, HE, HB, HK⟩ := hrel
          have hc7 : wr.cell? ⟨w.heap.size, 7, none⟩ = some (.slice H.A7 D.rules.length H.c7) := (blk_cell HK.out 7).trans rfl
          by_cases hlt : k < D.rules.length
          · have q0 : decide ((k : Int) < (D.rules.length : Int)) = true := by simpa using hlt
            have q1 : decide (k < D.rules.length) = true := by simpa using hlt
            have p0 : 0 ≤ (k : Int) := by omega
            have p1 : (k : Int) < (D.rules.length : Int) := by omega
            obtain ⟨ad, B1, d1, e0, hx0, hx1, hl1, hC1⟩ := at_T70 HFA.out.r7 k p0 p1
            replace hx0 := (HB.out.cell (World.block_lt_of_cell? w _ hx0)).trans hx0
            replace hx1 := (HB.out.cell (World.block_lt_of_cell? w _ hx1)).trans hx1
            simp only [Int.toNat_natCast] at hx0 hx1
            rw [e0] at hc7
            clear e0 hl1 hC1
            have HLT := Aside0.mk hlt
            clear hlt
            obtain ⟨z, hz⟩ : ∃ z, z = (rd_T70 D.rules k).f0.size := ⟨_, rfl⟩
            obtain ⟨y, hy⟩ : ∃ y, y = (rd_T70 D.rules k).f1.length := ⟨_, rfl⟩
            by_cases g : 80 < z
            · have z1 : decide (80 < ((rd_T70 D.rules k).f0.size : Int)) = true := by rw [← hz]; simp; omega
              have z2 : decide (80 < (rd_T70 D.rules k).f0.size) = true := by rw [← hz]; simp; omega
              clear g hz hy
              go_wp2_with fail
              go_ret
              exact ⟨rfl, HB.out⟩
            · have z1 : decide (80 < ((rd_T70 D.rules k).f0.size : Int)) = false := by rw [← hz]; simp; omega
              have z2 : decide (80 < (rd_T70 D.rules k).f0.size) = false := by rw [← hz]; simp; omega
              have HZ : Aside0 ((rd_T70 D.rules k).f0.size ≤ 80) := ⟨by rw [← hz]; omega⟩
              clear g hz
              by_cases g : 6 < y
              · have y1 : decide (6 < ((rd_T70 D.rules k).f1.length : Int)) = true := by rw [← hy]; simp; omega
                have y2 : decide (6 < (rd_T70 D.rules k).f1.length) = true := by rw [← hy]; simp; omega
                clear g hy
                go_wp2_with fail
                go_ret
                exact ⟨rfl, HB.out⟩
              · have y1 : decide (6 < ((rd_T70 D.rules k).f1.length : Int)) = false := by rw [← hy]; simp; omega
                have y2 : decide (6 < (rd_T70 D.rules k).f1.length) = false := by rw [← hy]; simp; omega
                clear g hy
                go_wp2_with fail
                go_roundg (D.rules.length - (k + 1))
                case measure => have := HLT.out; have := HG.out; omega
                case rel =>
                  refine ⟨k + 1, by go_num, ⟨HLT.out⟩, ⟨Nat.le_refl _⟩, ⟨fun j hj => ?_⟩, HB, HK⟩
                  by_cases e : j = k
                  · rw [e]; exact HZ.out
                  · exact HE.out j (by omega)
          · have q0 : decide ((k : Int) < (D.rules.length : Int)) = false := by simpa using hlt
            have q1 : decide (k < D.rules.length) = false := by simpa using hlt
            have HRS : Hid (∀ i : Int, 0 ≤ i → i < D.rules.length → (rd_T70 D.rules i).f0.size ≤ 80) := Lib.hid fun i h0 h1 => by
              obtain ⟨j, rfl⟩ : ∃ j : Nat, i = j := ⟨i.toNat, by omega⟩
              exact HE.out j (by omega)
            clear hlt HE HL HG
            obtain ⟨q, hq⟩ : ∃ q, q = chk D := ⟨_, rfl⟩
            have C5 := Lib.hid fun W (hW : Below w.heap.size w W) => refcheck_calls D H W (HFA.out.below hW) HOS.out HRS.out
            have C6 := Lib.hid fun W (hW : Below w.heap.size w W) => check_calls D H W (HFA.out.below hW)
            have C7 := Lib.hid fun W (hW : Below w.heap.size w W) => allow_err D H W (HFA.out.below hW)
            have C8 := Lib.hid fun W (hW : Below w.heap.size w W) => count_err D H W (HFA.out.below hW)
            have C9 := Lib.hid fun W (hW : Below w.heap.size w W) => first_err D H W (HFA.out.below hW)
            have C10 := Lib.hid fun W (hW : Below w.heap.size w W) => forced_err D H W (HFA.out.below hW)
            have C11 := Lib.hid fun W (hW : Below w.heap.size w W) => confl_err D H W (HFA.out.below hW)
            have C12 := Lib.hid fun W (hW : Below w.heap.size w W) => prod_err D H W (HFA.out.below hW)
            have C13 := Lib.hid fun W (hW : Below w.heap.size w W) => build_err D H W (HFA.out.below hW)
            have C14 := Lib.hid fun W (hW : Below w.heap.size w W) => red_err D H W (HFA.out.below hW)
            have C15 := Lib.hid fun W (hW : Below w.heap.size w W) => used_err D H 0 W (HFA.out.below hW)
            rw [← hq] at C5 C6 C7 C8 C9 C10 C11 C12 C13 C14 C15
            clear hq
            obtain ⟨k0, k1, k2, k3, k4, k5, k6, k7, k8, k9⟩ := box_cells HK.out
            go_wp2_with fail
            clear q0 q1 hc7 k0 k1 k2 k3 k4 k5 k6 k7 k8 k9
            refine (C5.out _ HB.out).mono ?_
            rintro e w5 ⟨rfl, hb⟩
            replace HK := Aside0.mk (blk_below HK.out hb)
            replace HB := Aside0.mk (below_step HB.out hb)
            clear hb C5
            obtain ⟨k0, k1, k2, k3, k4, k5, k6, k7, k8, k9⟩ := box_cells HK.out
            go_wp2_with fail
            clear k0 k1 k2 k3 k4 k5 k6 k7 k8 k9
            refine (C6.out _ HB.out).mono ?_
            rintro e w6 ⟨rfl, hb⟩
            replace HK := Aside0.mk (blk_below HK.out hb)
            replace HB := Aside0.mk (below_step HB.out hb)
            clear hb C6
            have zq : (q == q) = true := by simp
            have zn : (q != q) = false := by simp
            by_cases hz : q = 0
            · have z1 : (q == 0) = true := by simpa using hz
              clear hz
              go_wp2_with fail
              go_ret
              exact ⟨rfl, HB.out⟩
            · have z1 : (q == 0) = false := by simpa using hz
              have HZ := Aside0.mk hz
              clear hz
              obtain ⟨k0, k1, k2, k3, k4, k5, k6, k7, k8, k9⟩ := box_cells HK.out
              go_wp2_with fail
              clear k0 k1 k2 k3 k4 k5 k6 k7 k8 k9
              refine (C7.out _ HB.out HZ.out).mono ?_
              rintro e w7 ⟨rfl, hb⟩
              replace HK := Aside0.mk (blk_below HK.out hb)
              replace HB := Aside0.mk (below_step HB.out hb)
              clear hb C7
              obtain ⟨k0, k1, k2, k3, k4, k5, k6, k7, k8, k9⟩ := box_cells HK.out
              go_wp2_with fail
              clear k0 k1 k2 k3 k4 k5 k6 k7 k8 k9
              refine (C8.out _ HB.out HZ.out).mono ?_
              rintro e w8 ⟨rfl, hb⟩
              replace HK := Aside0.mk (blk_below HK.out hb)
              replace HB := Aside0.mk (below_step HB.out hb)
              clear hb C8
              obtain ⟨k0, k1, k2, k3, k4, k5, k6, k7, k8, k9⟩ := box_cells HK.out
              go_wp2_with fail
              clear k0 k1 k2 k3 k4 k5 k6 k7 k8 k9
              refine (C9.out _ HB.out HZ.out).mono ?_
              rintro e w9 ⟨X9, x9, rfl, hb⟩
              replace HK := Aside0.mk (blk_below HK.out hb)
              replace HB := Aside0.mk (below_step HB.out hb)
              clear hb C9
              obtain ⟨k0, k1, k2, k3, k4, k5, k6, k7, k8, k9⟩ := box_cells HK.out
              go_wp2_with fail
              clear k0 k1 k2 k3 k4 k5 k6 k7 k8 k9
              refine (C10.out _ HB.out HZ.out).mono ?_
              rintro e w10 ⟨X10, x10, rfl, hb⟩
              replace HK := Aside0.mk (blk_below HK.out hb)
              replace HB := Aside0.mk (below_step HB.out hb)
              clear hb C10
              obtain ⟨k0, k1, k2, k3, k4, k5, k6, k7, k8, k9⟩ := box_cells HK.out
              go_wp2_with fail
              clear k0 k1 k2 k3 k4 k5 k6 k7 k8 k9
              refine (C11.out _ HB.out HZ.out).mono ?_
              rintro e w11 ⟨X11, x11, rfl, hb⟩
              replace HK := Aside0.mk (blk_below HK.out hb)
              replace HB := Aside0.mk (below_step HB.out hb)
              clear hb C11
              obtain ⟨k0, k1, k2, k3, k4, k5, k6, k7, k8, k9⟩ := box_cells HK.out
              go_wp2_with fail
              clear k0 k1 k2 k3 k4 k5 k6 k7 k8 k9
              refine (C12.out _ HB.out HZ.out).mono ?_
              rintro e w12 ⟨rfl, hb⟩
              replace HK := Aside0.mk (blk_below HK.out hb)
              replace HB := Aside0.mk (below_step HB.out hb)
              clear hb C12
              have HP := Aside0.mk (heap_alloc_new w12 (.cells zeroP 30))
              replace HK := Aside0.mk (blk_alloc HK.out (.cells zeroP 30))
              replace HB := Aside0.mk (below_alloc HB.out (.cells zeroP 30))
              unfold zeroP pcs at HP HK HB ⊢
              obtain ⟨k0, k1, k2, k3, k4, k5, k6, k7, k8, k9⟩ := box_cells HK.out
              go_wp2_with fail
              clear k0 k1 k2 k3 k4 k5 k6 k7 k8 k9
              refine (C13.out _ HB.out HZ.out).mono ?_
              rintro e w13 ⟨rfl, hb⟩
              replace HP := Aside0.mk (blk_below HP.out hb)
              replace HK := Aside0.mk (blk_below HK.out hb)
              replace HB := Aside0.mk (below_step HB.out hb)
              clear hb C13
              obtain ⟨k0, k1, k2, k3, k4, k5, k6, k7, k8, k9⟩ := box_cells HK.out
              go_wp2_with fail
              clear k0 k1 k2 k3 k4 k5 k6 k7 k8 k9
              refine (C14.out _ HB.out HZ.out).mono ?_
              rintro e w14 ⟨rfl, hb⟩
              replace HP := Aside0.mk (blk_below HP.out hb)
              replace HK := Aside0.mk (blk_below HK.out hb)
              replace HB := Aside0.mk (below_step HB.out hb)
              clear hb C14
              obtain ⟨k0, k1, k2, k3, k4, k5, k6, k7, k8, k9⟩ := box_cells HK.out
              go_wp2_with fail
              clear k0 k1 k2 k3 k4 k5 k6 k7 k8 k9
              refine (C15.out _ HB.out HZ.out).mono ?_
              rintro e w15 ⟨rfl, hb⟩
              replace HP := Aside0.mk (blk_below HP.out hb)
              replace HK := Aside0.mk (blk_below HK.out hb)
              replace HB := Aside0.mk (below_step HB.out hb)
              clear hb C15
              obtain ⟨y0, y1, y2, y3, y4, y5⟩ := p_cells HP.out
              go_wp2_with fail
              clear y0 y1 y2 y3 y4 y5
              refine (same_zero _).mono ?_
              rintro e w16 ⟨rfl, hb⟩
              go_wp2_with fail
              go_ret
              exact ⟨by simp, below_step HB.out hb⟩
theorem law_calls (D : Fam) (H : Hd) (w : World) (HF : FamAt w D H) :
    Calls Tryz.prog 3 #[fv D H] w fun e w' => e = .returned (.bool true) ∧ Below w.heap.size w w' := by
  by_cases h : (14 < D.opts.length ∨ 50 < D.rules.length ∨ 50 < D.guards.length ∨ 50 < D.overs.length ∨ 6 < D.insts.length ∨ 6 < D.dims.length)
  · exact law_big D H w h
  · exact law_small D H w HF h
end Go.Proofs.YtcilmcoaondbmaaGreatDoor.PX
