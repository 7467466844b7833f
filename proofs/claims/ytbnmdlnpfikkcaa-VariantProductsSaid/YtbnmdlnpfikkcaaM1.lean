/- The small functions of the reference, and the program's option test: what they return. -/
import Derived.Test.YtbnmdlnpfikkcaaK0
namespace Go.Proofs.Ytbnmdlnpfikkcaa.PX
open Go.RowKit Go.Proofs.YtbnmdlnpfikkcaaW.PrintWords Go.Proofs.YtbnmdlnpfikkcaaW.PrintLast Go.Proofs.YtbnmdlnpfikkcaaW.PrintMore
attribute [local go_sem] max2_int min2_int max_two min_two max_three min_three max_four min_four   -- for this text's walks alone
set_option linter.unusedVariables false
set_option linter.unusedSimpArgs false

/-! ### variant_configuration_on: function 45 -/
def variant_configuration_on.f (a0 : Int) (a1 : Int) : Option (Bool) := if 0 ≤ (wrap64 (11 - a1)) then (some ((Go.bits .and .u64 (shr .u64 a0 (wrap64 (11 - a1))) 1) == 1)) else (none)
set_option maxHeartbeats 8000000 in
set_option maxRecDepth 100000 in
theorem variant_configuration_on.calls (a0 : Int) (a1 : Int) (r : Bool) (w : World) (h : variant_configuration_on.f a0 a1 = some r) :
  Calls Try.prog 45 #[.int .u64 a0, .int .i64 a1] w fun e w' => e = .returned (.bool r) ∧ Drawn0 w w' := by
 have H : (if 0 ≤ (wrap64 (11 - a1)) then (some ((Go.bits .and .u64 (shr .u64 a0 (wrap64 (11 - a1))) 1) == 1)) else (none)) = some r := h
 clear h
 obtain ⟨ji3, hji3⟩ : ∃ j_ : Int, (wrap64 (11 - a1)) = j_ := ⟨_, rfl⟩
 replace H : (if 0 ≤ (ji3) then (some ((Go.bits .and .u64 (shr .u64 a0 (ji3)) 1) == 1)) else (none)) = some r := by first | (rw [hji3] at H; exact H) | (simp only [hji3] at H ⊢; exact H)
 have hji3w : (IntKind.i64.wrap (11 - a1)) = ji3 := (i64_w _).trans hji3
 by_cases c4 : 0 ≤ (ji3)
 ·rw [if_pos c4] at H
  have c4b0 := eq_true c4
  have c4b1 : decide (0 ≤ (ji3)) = true := decide_eq_true c4
  clear c4
  obtain ⟨ji5, hji5⟩ : ∃ j_ : Int, (shr .u64 a0 (ji3)) = j_ := ⟨_, rfl⟩
  replace H : (some ((Go.bits .and .u64 (ji5) 1) == 1)) = some r := by first | (rw [hji5] at H; exact H) | (simp only [hji5] at H ⊢; exact H)
  have hji5_ : (a0 / 2 ^ min (ji3).toNat 64) = ji5 := hji5
  have hji5z : (ji3) ≤ 64 → (a0 / 2 ^ (ji3).toNat) = ji5 := shr_small hji5
  obtain rfl := Option.some.inj H
  go_enter Try.func45, Try.ntmps45
  go_wp2
  go_ret
  exact ⟨by first | rfl | (simp; done) | (simp only [← hji3, ← hji5] <;> (first | rfl | simp)) | (simp [*]; done), by repeat (first | exact Drawn0.refl _ | apply Drawn0.step)⟩
 ·rw [if_neg c4] at H
  exact absurd H (by simp)

end Go.Proofs.Ytbnmdlnpfikkcaa.PX
namespace Go.Proofs.Ytbnmdlnpfikkcaa.PX
open Go.RowKit Go.Proofs.YtbnmdlnpfikkcaaW.PrintWords Go.Proofs.YtbnmdlnpfikkcaaW.PrintLast Go.Proofs.YtbnmdlnpfikkcaaW.PrintMore
attribute [local go_sem] max2_int min2_int max_two min_two max_three min_three max_four min_four   -- for this text's walks alone
set_option linter.unusedVariables false
set_option linter.unusedSimpArgs false

/-! ### dowellaw48_option: function 37 -/
def dowellaw48_option.f (a0 : Int) : Option (ByteArray) := some (strOfNums (([(97 + ((a0) % 256)) % 256] : List Int)))
set_option maxHeartbeats 8000000 in
set_option maxRecDepth 100000 in
theorem dowellaw48_option.calls (a0 : Int) (r : ByteArray) (w : World) (h : dowellaw48_option.f a0 = some r) :
  Calls Try.prog 37 #[.int .i64 a0] w fun e w' => e = .returned (.string r) ∧ Below w.heap.size w w' := by
 have HB := Aside0.mk (Below.refl w.heap.size w)
 have H : (some (strOfNums (([(97 + ((a0) % 256)) % 256] : List Int)))) = some r := h
 clear h
 obtain ⟨y101, hy101⟩ : ∃ y_ : List Int, y_ = (([(97 + ((a0) % 256)) % 256] : List Int)) := ⟨_, rfl⟩
 replace H : (some (strOfNums y101)) = some r := by first | (rw [hy101]; with_reducible exact H) | (have H2_ := (Option.bind_some _ _).symm.trans H; rw [hy101]; with_reducible exact H2_) | (have H2_ := (Option.bind_some _ _).symm.trans H; with_reducible exact H2_) | with_reducible exact H | (rw [hy101]; exact H) | exact H
 have Ny101 := Aside0.mk hy101
 clear hy101
 obtain rfl := Option.some.inj H
 go_enter Try.func37, Try.ntmps37
 go_wp2_with (first | ((with_reducible refine gate_dst (N := 6) rfl ?_); refine Kd.R_lit (Kd.int .u8) _ 5 ?hg (N := 6) ?hd (xs := ([(97 + ((a0) % 256)) % 256] : List Int)) (inner := [.int .u8 ((97 + ((a0) % 256)) % 256)]) (ok := fun _ => True) (okp := fun _ => True) ?hr ?hp (fun _ hk => hk) trivial (Below.refl _ _) (Nat.le_refl _) (by simp) ?_; (case hd => rfl); (case hg => rfl); (case hr => first | (go_simp; done) | (go_simp; rfl)); (case hp => exact (Reps.one (show Kd.M (Kd.int .u8) _ _ _ ((97 + ((a0) % 256)) % 256) [.int .u8 ((97 + ((a0) % 256)) % 256)] from rfl) (Reps.none _ _))); intro v102 w2 ho3 hb hg_ hnew_; clear hg_ hnew_; (first | rw [← Ny101.out] at ho3 | (simp only [Int.reduceToNat] at ho3; rw [← Ny101.out] at ho3)); have n0_ := Aside0.mk (Kd.R_lower ho3 (below_size (by repeat (first | (with_reducible first | exact HB.out | apply below_alloc | apply pw_below_drewN | apply below_drew1) | exact HB.out)))); have n1_ := Aside0.mk (below_step (by repeat (first | (with_reducible first | exact HB.out | apply below_alloc | apply pw_below_drewN | apply below_drew1) | exact HB.out)) hb); clear HB; have HO103 := n0_; have HB := n1_; clear n0_ n1_; clear hb ho3; have hcv4 := own_string (P := Try.prog) Try.underlying97 Try.underlying5 Try.underlying9 (Kd.own_of_R HO103.out)))
 go_ret
 exact ⟨by first | rfl | (simp [errW_none, errW_some] <;> rfl) | (simp [*, errW_none, errW_some] <;> rfl), by repeat (first | (with_reducible first | exact HB.out | apply below_alloc | apply pw_below_drewN | apply below_drew1) | exact HB.out)⟩

end Go.Proofs.Ytbnmdlnpfikkcaa.PX
namespace Go.Proofs.Ytbnmdlnpfikkcaa.PX
open Go.RowKit Go.Proofs.YtbnmdlnpfikkcaaW.PrintWords Go.Proofs.YtbnmdlnpfikkcaaW.PrintLast Go.Proofs.YtbnmdlnpfikkcaaW.PrintMore
attribute [local go_sem] max2_int min2_int max_two min_two max_three min_three max_four min_four   -- for this text's walks alone
set_option linter.unusedVariables false
set_option linter.unusedSimpArgs false

/-! ### dowellaw48_holds: function 63 -/
def dowellaw48_holds.f (a0_0 : Int) (a0_1 : Bool) (a1 : Int) : Option (Bool) := if 0 ≤ a0_0 then (some (((Go.bits .and .i64 (shr .i64 a1 a0_0) 1) == 1) == a0_1)) else (none)
set_option maxHeartbeats 8000000 in
set_option maxRecDepth 100000 in
theorem dowellaw48_holds.calls (a0_0 : Int) (a0_1 : Bool) (a1 : Int) (r : Bool) (w : World) (h : dowellaw48_holds.f a0_0 a0_1 a1 = some r) :
  Calls Try.prog 63 #[.agg #[.int .i64 a0_0, .bool a0_1], .int .i64 a1] w fun e w' => e = .returned (.bool r) ∧ Below w.heap.size w w' := by
 have hu62 := Try.underlying62
 have HB := Aside0.mk (Below.refl w.heap.size w)
 have H : (if 0 ≤ a0_0 then (some (((Go.bits .and .i64 (shr .i64 a1 a0_0) 1) == 1) == a0_1)) else (none)) = some r := h
 clear h
 by_cases c3 : 0 ≤ a0_0
 ·rw [if_pos c3] at H
  have c3b0 := eq_true c3
  have c3b1 : decide (0 ≤ a0_0) = true := decide_eq_true c3
  clear c3
  obtain ⟨ji4, hji4⟩ : ∃ j_ : Int, (shr .i64 a1 a0_0) = j_ := ⟨_, rfl⟩
  replace H : (some (((Go.bits .and .i64 (ji4) 1) == 1) == a0_1)) = some r := by first | (rw [hji4] at H; exact H) | (simp only [hji4] at H ⊢; exact H)
  have hji4_ : (a1 / 2 ^ min a0_0.toNat 64) = ji4 := hji4
  have hji4z : a0_0 ≤ 64 → (a1 / 2 ^ a0_0.toNat) = ji4 := shr_small hji4
  obtain rfl := Option.some.inj H
  go_enter Try.func63, Try.ntmps63
  go_wp2_with (first | ((with_reducible refine gate_dst (N := 2) rfl ?_); refine box_event ?hg (N := 2) ?hd (cs := #[.int .i64 a0_0, .bool a0_1]) (t := 62) ?hr ?_; (case hd => rfl); (case hg => rfl); (case hr => first | (go_simp; done) | (go_simp; rfl)); intro gb260 hg w5 hbox hb; have n0_ := Aside0.mk (below_step (by repeat (first | (with_reducible first | exact HB.out | apply below_alloc | apply pw_below_drewN | apply below_drew1) | exact HB.out)) hb); have n1_ := Aside0.mk (hbox); have n2_ := Aside0.mk ((by rw [hg]; exact (below_size (by repeat (first | (with_reducible first | exact HB.out | apply below_alloc | apply pw_below_drewN | apply below_drew1) | exact HB.out))) : w.heap.size ≤ gb260)); have n3_ := Aside0.mk ((by rw [hg]; exact (below_size (by repeat (first | (with_reducible first | exact HB.out | apply below_alloc | apply pw_below_drewN | apply below_drew1) | exact HB.out))) : w.heap.size ≤ gb260)); clear HB; have HB := n0_; have BK260 := n1_; have GW260 := n2_; have GE260 := n3_; clear n0_ n1_ n2_ n3_; clear hb hbox hg; have hcz6_0 : w5.cell? ⟨gb260, 0, none⟩ = some (.int .i64 a0_0) := (blk_cell BK260.out 0).trans rfl; have hcz6_1 : w5.cell? ⟨gb260, 1, none⟩ = some (.bool a0_1) := (blk_cell BK260.out 1).trans rfl; have hfz6_0 := blk_frozen BK260.out 0; have hfz6_1 := blk_frozen BK260.out 1))
  repeat (go_quiet (first | ((with_reducible refine gate_dst (N := 2) rfl ?_); refine box_event ?hg (N := 2) ?hd (cs := #[.int .i64 a0_0, .bool a0_1]) (t := 62) ?hr ?_; (case hd => rfl); (case hg => rfl); (case hr => first | (go_simp; done) | (go_simp; rfl)); intro gb260 hg w5 hbox hb; have n0_ := Aside0.mk (below_step (by repeat (first | (with_reducible first | exact HB.out | apply below_alloc | apply pw_below_drewN | apply below_drew1) | exact HB.out)) hb); have n1_ := Aside0.mk (hbox); have n2_ := Aside0.mk ((by rw [hg]; exact (below_size (by repeat (first | (with_reducible first | exact HB.out | apply below_alloc | apply pw_below_drewN | apply below_drew1) | exact HB.out))) : w.heap.size ≤ gb260)); have n3_ := Aside0.mk ((by rw [hg]; exact (below_size (by repeat (first | (with_reducible first | exact HB.out | apply below_alloc | apply pw_below_drewN | apply below_drew1) | exact HB.out))) : w.heap.size ≤ gb260)); clear HB; have HB := n0_; have BK260 := n1_; have GW260 := n2_; have GE260 := n3_; clear n0_ n1_ n2_ n3_; clear hb hbox hg; have hcz6_0 : w5.cell? ⟨gb260, 0, none⟩ = some (.int .i64 a0_0) := (blk_cell BK260.out 0).trans rfl; have hcz6_1 : w5.cell? ⟨gb260, 1, none⟩ = some (.bool a0_1) := (blk_cell BK260.out 1).trans rfl; have hfz6_0 := blk_frozen BK260.out 0; have hfz6_1 := blk_frozen BK260.out 1)); try go_wp2_with (first | ((with_reducible refine gate_dst (N := 2) rfl ?_); refine box_event ?hg (N := 2) ?hd (cs := #[.int .i64 a0_0, .bool a0_1]) (t := 62) ?hr ?_; (case hd => rfl); (case hg => rfl); (case hr => first | (go_simp; done) | (go_simp; rfl)); intro gb260 hg w5 hbox hb; have n0_ := Aside0.mk (below_step (by repeat (first | (with_reducible first | exact HB.out | apply below_alloc | apply pw_below_drewN | apply below_drew1) | exact HB.out)) hb); have n1_ := Aside0.mk (hbox); have n2_ := Aside0.mk ((by rw [hg]; exact (below_size (by repeat (first | (with_reducible first | exact HB.out | apply below_alloc | apply pw_below_drewN | apply below_drew1) | exact HB.out))) : w.heap.size ≤ gb260)); have n3_ := Aside0.mk ((by rw [hg]; exact (below_size (by repeat (first | (with_reducible first | exact HB.out | apply below_alloc | apply pw_below_drewN | apply below_drew1) | exact HB.out))) : w.heap.size ≤ gb260)); clear HB; have HB := n0_; have BK260 := n1_; have GW260 := n2_; have GE260 := n3_; clear n0_ n1_ n2_ n3_; clear hb hbox hg; have hcz6_0 : w5.cell? ⟨gb260, 0, none⟩ = some (.int .i64 a0_0) := (blk_cell BK260.out 0).trans rfl; have hcz6_1 : w5.cell? ⟨gb260, 1, none⟩ = some (.bool a0_1) := (blk_cell BK260.out 1).trans rfl; have hfz6_0 := blk_frozen BK260.out 0; have hfz6_1 := blk_frozen BK260.out 1)))
  go_ret
  exact ⟨by first | rfl | (simp [errW_none, errW_some] <;> rfl) | (simp only [← hji4]; first | rfl | (simp [errW_none, errW_some] <;> rfl)) | (simp [*, errW_none, errW_some] <;> rfl), by repeat (first | (with_reducible first | exact HB.out | apply below_alloc | apply pw_below_drewN | apply below_drew1 | refine below_set ?_ GE260.out) | exact HB.out)⟩
 ·rw [if_neg c3] at H
  exact absurd H (by simp)

end Go.Proofs.Ytbnmdlnpfikkcaa.PX
namespace Go.Proofs.Ytbnmdlnpfikkcaa.PX
open Go.RowKit Go.Proofs.YtbnmdlnpfikkcaaW.PrintWords Go.Proofs.YtbnmdlnpfikkcaaW.PrintLast Go.Proofs.YtbnmdlnpfikkcaaW.PrintMore
attribute [local go_sem] max2_int min2_int max_two min_two max_three min_three max_four min_four   -- for this text's walks alone
set_option linter.unusedVariables false
set_option linter.unusedSimpArgs false

/-! ### dowellaw48_all: function 43 -/
def dowellaw48_all.l0 : Nat → List (S62) → Int → Int → Option (Bool)
 | 0, _, _, _ => none
 | k + 1, x0, x1, x5 => if x5 < (x0.length : Int) then (if 0 ≤ x5 then ((dowellaw48_holds.f ((rd_T62 x0 x5).f0) ((rd_T62 x0 x5).f1) x1).bind fun t271 => (if t271 = true then (dowellaw48_all.l0 k x0 x1 (wrap64 (x5 + 1))) else (some false))) else (none)) else (some true)
def dowellaw48_all.f (k : Nat) (l0 : List (S62)) (a1 : Int) : Option (Bool) := dowellaw48_all.l0 k l0 a1 0
theorem dowellaw48_all.mono_l : ∀ k, (∀ y0 y1 y2, LeO (dowellaw48_all.l0 k y0 y1 y2) (dowellaw48_all.l0 (k + 1) y0 y1 y2))
 | 0 => fun _ _ _ r h => by simp [dowellaw48_all.l0] at h
 | k + 1 => by
  have ih0 := dowellaw48_all.mono_l k
  ·intro y0 y1 y2
   unfold dowellaw48_all.l0
   repeat' first
   | (with_reducible exact ih0 _ _ _)
   | (with_reducible exact LeO.refl _)
   | (with_reducible exact LeO.none _)
   | (with_reducible refine LeO.ite ?_ ?_)
   | (with_reducible refine LeO.bind ?_ (fun _ => ?_))
   | exact ih0 _ _ _
   | exact LeO.none _
   | refine LeO.ite ?_ ?_
   | refine LeO.bind ?_ (fun _ => ?_)
theorem dowellaw48_all.mono : ∀ a0 a1 k, LeO (dowellaw48_all.f k a0 a1) (dowellaw48_all.f (k + 1) a0 a1) := by
 intro a0 a1 k
 have ih0 := dowellaw48_all.mono_l k
 unfold dowellaw48_all.f
 repeat' first
   | (with_reducible exact ih0 _ _ _)
   | (with_reducible exact LeO.refl _)
   | (with_reducible exact LeO.none _)
   | (with_reducible refine LeO.ite ?_ ?_)
   | (with_reducible refine LeO.bind ?_ (fun _ => ?_))
   | exact ih0 _ _ _
   | exact LeO.none _
   | refine LeO.ite ?_ ?_
   | refine LeO.bind ?_ (fun _ => ?_)
set_option maxHeartbeats 8000000 in
set_option maxRecDepth 100000 in
theorem dowellaw48_all.calls (k : Nat) (A0 : Option Addr) (c0 : Nat) (l0 : List (S62)) (a1 : Int) (r : Bool) (w : World) (hr0 : Kd.C k62 w A0 l0.length l0) (hc0 : l0.length ≤ c0) (h : dowellaw48_all.f k l0 a1 = some r) :
  Calls Try.prog 43 #[.slice A0 l0.length c0, .int .i64 a1] w fun e w' => e = .returned (.bool r) ∧ Below w.heap.size w w' := by
 have hu62 := Try.underlying62
 have HR0 := Aside0.mk hr0
 have HC0 := Aside0.mk hc0
 clear hr0 hc0
 have HB := Aside0.mk (Below.refl w.heap.size w)
 have H : (dowellaw48_all.l0 k l0 a1 0) = some r := h
 clear h
 have H' := Aside0.mk H
 clear H
 go_enter Try.func43, Try.ntmps43
 go_wp2
 go_loopg [5] k (fun kq v5 w' => ∃ (x5_1 : Int), v5 = .int .i64 x5_1 ∧ Aside0 (dowellaw48_all.l0 kq l0 a1 x5_1 = some r) ∧ Aside0 (kq ≤ k) ∧ Aside0 (Below w.heap.size w w'))
 case atStart => exact ⟨(0), (by first | rfl | (simp; done) | (simp [*]; done)), H', ⟨Nat.le_refl _⟩, ⟨by repeat (first | (with_reducible first | exact HB.out | apply below_alloc | apply pw_below_drewN | apply below_drew1) | exact HB.out)⟩⟩
 case round =>
  clear H'
  try clear p2
  obtain ⟨x5_1, rfl, HA, HK1, HB⟩ := hrel
  cases gk with
  | zero => exact absurd HA.out (by simp [dowellaw48_all.l0])
  | succ k1 =>
   have H := HA.out
   clear HA
   simp only [dowellaw48_all.l0] at H
   by_cases c3 : x5_1 < (l0.length : Int)
   ·rw [if_pos c3] at H
    have c3b0 : decide (x5_1 < (l0.length : Int)) = true := decide_eq_true c3
    clear c3
    by_cases c4 : 0 ≤ x5_1
    ·rw [if_pos c4] at H
     have c4b0 : decide (0 ≤ x5_1) = true := decide_eq_true c4
     clear c4
     replace H := Option.bind_eq_some_iff.mp H
     obtain ⟨t271, A50, H⟩ := H
     replace H : (if t271 = true then (dowellaw48_all.l0 k1 l0 a1 (wrap64 (x5_1 + 1))) else (some false)) = some r := H
     have A5 := Aside0.mk A50
     clear A50
     by_cases c6 : t271 = true
     ·subst c6
      have H1 : (dowellaw48_all.l0 k1 l0 a1 (wrap64 (x5_1 + 1))) = some r := by rw [if_pos rfl] at H; exact H
      clear H
      have H := H1
      clear H1
      have H' := Aside0.mk H
      clear H
      have p270 : 0 ≤ (x5_1 : Int) := of_decide_eq_true (by first | (with_reducible assumption) | assumption)
      have q270 : x5_1 < (l0.length : Int) := of_decide_eq_true (by first | (with_reducible assumption) | assumption)
      obtain ⟨ad270, e270, hx270_0, hx270_1⟩ := at_T62 HR0.out x5_1 p270 q270
      cases e270
      replace hx270_0 := (HB.out.cell (World.block_lt_of_cell? w _ hx270_0)).trans hx270_0
      replace hx270_1 := (HB.out.cell (World.block_lt_of_cell? w _ hx270_1)).trans hx270_1
      replace p270 := eq_true p270
      replace q270 := eq_true q270
      go_wp2_with (first | ((with_reducible refine gate_callee (f := 63) rfl ?_); refine goesL_ (some 17) rfl rfl Try.func63 (by kernel_rfl) rfl #[.agg #[.int .i64 ((rd_T62 l0 x5_1).f0), .bool ((rd_T62 l0 x5_1).f1)], .int .i64 a1] rfl (by (try simp only [List.map_toArray, List.map_cons, List.map_nil]); first | done | rfl | (simp only [List.length_drop, List.length_take]; rfl)) ?_; (with_reducible refine (dowellaw48_holds.calls ((rd_T62 l0 x5_1).f0) ((rd_T62 l0 x5_1).f1) a1 true _ A5.out).mono ?_); rintro e w7 ⟨rfl, hb⟩; refine ⟨_, rfl, ?_⟩; have n0_ := Aside0.mk (below_step (by repeat (first | (with_reducible first | exact HB.out | apply below_alloc | apply pw_below_drewN | apply below_drew1) | exact HB.out)) hb); clear HB; have HB := n0_; clear n0_; (try clear hb); (try clear hb2); (try clear hk); (try clear hi)))
      go_roundg k1
      case measure => have := HK1.out; omega
      case rel => exact ⟨(wrap64 (x5_1 + 1)), (by first | rfl | (simp; done) | (simp [*]; done)), H', ⟨by have := HK1.out; omega⟩, ⟨by repeat (first | (with_reducible first | exact HB.out | apply below_alloc | apply pw_below_drewN | apply below_drew1) | exact HB.out)⟩⟩
     ·replace c6 := Bool.eq_false_iff.mpr c6
      subst c6
      have H1 : (some false) = some r := by rw [if_neg (show ¬ (false = true) by decide)] at H; exact H
      clear H
      have H := H1
      clear H1
      obtain rfl := Option.some.inj H
      have p270 : 0 ≤ (x5_1 : Int) := of_decide_eq_true (by first | (with_reducible assumption) | assumption)
      have q270 : x5_1 < (l0.length : Int) := of_decide_eq_true (by first | (with_reducible assumption) | assumption)
      obtain ⟨ad270, e270, hx270_0, hx270_1⟩ := at_T62 HR0.out x5_1 p270 q270
      cases e270
      replace hx270_0 := (HB.out.cell (World.block_lt_of_cell? w _ hx270_0)).trans hx270_0
      replace hx270_1 := (HB.out.cell (World.block_lt_of_cell? w _ hx270_1)).trans hx270_1
      replace p270 := eq_true p270
      replace q270 := eq_true q270
      go_wp2_with (first | ((with_reducible refine gate_callee (f := 63) rfl ?_); refine goesL_ (some 17) rfl rfl Try.func63 (by kernel_rfl) rfl #[.agg #[.int .i64 ((rd_T62 l0 x5_1).f0), .bool ((rd_T62 l0 x5_1).f1)], .int .i64 a1] rfl (by (try simp only [List.map_toArray, List.map_cons, List.map_nil]); first | done | rfl | (simp only [List.length_drop, List.length_take]; rfl)) ?_; (with_reducible refine (dowellaw48_holds.calls ((rd_T62 l0 x5_1).f0) ((rd_T62 l0 x5_1).f1) a1 false _ A5.out).mono ?_); rintro e w8 ⟨rfl, hb⟩; refine ⟨_, rfl, ?_⟩; have n0_ := Aside0.mk (below_step (by repeat (first | (with_reducible first | exact HB.out | apply below_alloc | apply pw_below_drewN | apply below_drew1) | exact HB.out)) hb); clear HB; have HB := n0_; clear n0_; (try clear hb); (try clear hb2); (try clear hk); (try clear hi)))
      go_ret
      exact ⟨by first | rfl | (simp [errW_none, errW_some] <;> rfl) | (simp [*, errW_none, errW_some] <;> rfl), by repeat (first | (with_reducible first | exact HB.out | apply below_alloc | apply pw_below_drewN | apply below_drew1) | exact HB.out)⟩
    ·rw [if_neg c4] at H
     exact absurd H (by simp)
   ·rw [if_neg c3] at H
    have c3b0 : decide (x5_1 < (l0.length : Int)) = false := decide_eq_false c3
    clear c3
    obtain rfl := Option.some.inj H
    go_wp2
    go_ret
    exact ⟨by first | rfl | (simp [errW_none, errW_some] <;> rfl) | (simp [*, errW_none, errW_some] <;> rfl), by repeat (first | (with_reducible first | exact HB.out | apply below_alloc | apply pw_below_drewN | apply below_drew1) | exact HB.out)⟩

end Go.Proofs.Ytbnmdlnpfikkcaa.PX
namespace Go.Proofs.Ytbnmdlnpfikkcaa.PX
open Go.RowKit Go.Proofs.YtbnmdlnpfikkcaaW.PrintWords Go.Proofs.YtbnmdlnpfikkcaaW.PrintLast Go.Proofs.YtbnmdlnpfikkcaaW.PrintMore
attribute [local go_sem] max2_int min2_int max_two min_two max_three min_three max_four min_four   -- for this text's walks alone
set_option linter.unusedVariables false
set_option linter.unusedSimpArgs false

/-! ### dowellaw48_one: function 59 -/
def dowellaw48_one.l0 : Nat → List (S62) → Int → Int → Option (Bool)
 | 0, _, _, _ => none
 | k + 1, x0, x1, x5 => if x5 < (x0.length : Int) then (if 0 ≤ x5 then ((dowellaw48_holds.f ((rd_T62 x0 x5).f0) ((rd_T62 x0 x5).f1) x1).bind fun t262 => (if t262 = true then (some true) else (dowellaw48_one.l0 k x0 x1 (wrap64 (x5 + 1))))) else (none)) else (some false)
def dowellaw48_one.f (k : Nat) (l0 : List (S62)) (a1 : Int) : Option (Bool) := dowellaw48_one.l0 k l0 a1 0
theorem dowellaw48_one.mono_l : ∀ k, (∀ y0 y1 y2, LeO (dowellaw48_one.l0 k y0 y1 y2) (dowellaw48_one.l0 (k + 1) y0 y1 y2))
 | 0 => fun _ _ _ r h => by simp [dowellaw48_one.l0] at h
 | k + 1 => by
  have ih0 := dowellaw48_one.mono_l k
  ·intro y0 y1 y2
   unfold dowellaw48_one.l0
   repeat' first
   | (with_reducible exact ih0 _ _ _)
   | (with_reducible exact LeO.refl _)
   | (with_reducible exact LeO.none _)
   | (with_reducible refine LeO.ite ?_ ?_)
   | (with_reducible refine LeO.bind ?_ (fun _ => ?_))
   | exact ih0 _ _ _
   | exact LeO.none _
   | refine LeO.ite ?_ ?_
   | refine LeO.bind ?_ (fun _ => ?_)
theorem dowellaw48_one.mono : ∀ a0 a1 k, LeO (dowellaw48_one.f k a0 a1) (dowellaw48_one.f (k + 1) a0 a1) := by
 intro a0 a1 k
 have ih0 := dowellaw48_one.mono_l k
 unfold dowellaw48_one.f
 repeat' first
   | (with_reducible exact ih0 _ _ _)
   | (with_reducible exact LeO.refl _)
   | (with_reducible exact LeO.none _)
   | (with_reducible refine LeO.ite ?_ ?_)
   | (with_reducible refine LeO.bind ?_ (fun _ => ?_))
   | exact ih0 _ _ _
   | exact LeO.none _
   | refine LeO.ite ?_ ?_
   | refine LeO.bind ?_ (fun _ => ?_)
set_option maxHeartbeats 8000000 in
set_option maxRecDepth 100000 in
theorem dowellaw48_one.calls (k : Nat) (A0 : Option Addr) (c0 : Nat) (l0 : List (S62)) (a1 : Int) (r : Bool) (w : World) (hr0 : Kd.C k62 w A0 l0.length l0) (hc0 : l0.length ≤ c0) (h : dowellaw48_one.f k l0 a1 = some r) :
  Calls Try.prog 59 #[.slice A0 l0.length c0, .int .i64 a1] w fun e w' => e = .returned (.bool r) ∧ Below w.heap.size w w' := by
 have hu62 := Try.underlying62
 have HR0 := Aside0.mk hr0
 have HC0 := Aside0.mk hc0
 clear hr0 hc0
 have HB := Aside0.mk (Below.refl w.heap.size w)
 have H : (dowellaw48_one.l0 k l0 a1 0) = some r := h
 clear h
 have H' := Aside0.mk H
 clear H
 go_enter Try.func59, Try.ntmps59
 go_wp2
 go_loopg [5] k (fun kq v5 w' => ∃ (x5_1 : Int), v5 = .int .i64 x5_1 ∧ Aside0 (dowellaw48_one.l0 kq l0 a1 x5_1 = some r) ∧ Aside0 (kq ≤ k) ∧ Aside0 (Below w.heap.size w w'))
 case atStart => exact ⟨(0), (by first | rfl | (simp; done) | (simp [*]; done)), H', ⟨Nat.le_refl _⟩, ⟨by repeat (first | (with_reducible first | exact HB.out | apply below_alloc | apply pw_below_drewN | apply below_drew1) | exact HB.out)⟩⟩
 case round =>
  clear H'
  try clear p2
  obtain ⟨x5_1, rfl, HA, HK1, HB⟩ := hrel
  cases gk with
  | zero => exact absurd HA.out (by simp [dowellaw48_one.l0])
  | succ k1 =>
   have H := HA.out
   clear HA
   simp only [dowellaw48_one.l0] at H
   by_cases c3 : x5_1 < (l0.length : Int)
   ·rw [if_pos c3] at H
    have c3b0 : decide (x5_1 < (l0.length : Int)) = true := decide_eq_true c3
    clear c3
    by_cases c4 : 0 ≤ x5_1
    ·rw [if_pos c4] at H
     have c4b0 : decide (0 ≤ x5_1) = true := decide_eq_true c4
     clear c4
     replace H := Option.bind_eq_some_iff.mp H
     obtain ⟨t262, A50, H⟩ := H
     replace H : (if t262 = true then (some true) else (dowellaw48_one.l0 k1 l0 a1 (wrap64 (x5_1 + 1)))) = some r := H
     have A5 := Aside0.mk A50
     clear A50
     by_cases c6 : t262 = true
     ·subst c6
      have H1 : (some true) = some r := by rw [if_pos rfl] at H; exact H
      clear H
      have H := H1
      clear H1
      obtain rfl := Option.some.inj H
      have p261 : 0 ≤ (x5_1 : Int) := of_decide_eq_true (by first | (with_reducible assumption) | assumption)
      have q261 : x5_1 < (l0.length : Int) := of_decide_eq_true (by first | (with_reducible assumption) | assumption)
      obtain ⟨ad261, e261, hx261_0, hx261_1⟩ := at_T62 HR0.out x5_1 p261 q261
      cases e261
      replace hx261_0 := (HB.out.cell (World.block_lt_of_cell? w _ hx261_0)).trans hx261_0
      replace hx261_1 := (HB.out.cell (World.block_lt_of_cell? w _ hx261_1)).trans hx261_1
      replace p261 := eq_true p261
      replace q261 := eq_true q261
      go_wp2_with (first | ((with_reducible refine gate_callee (f := 63) rfl ?_); refine goesL_ (some 17) rfl rfl Try.func63 (by kernel_rfl) rfl #[.agg #[.int .i64 ((rd_T62 l0 x5_1).f0), .bool ((rd_T62 l0 x5_1).f1)], .int .i64 a1] rfl (by (try simp only [List.map_toArray, List.map_cons, List.map_nil]); first | done | rfl | (simp only [List.length_drop, List.length_take]; rfl)) ?_; (with_reducible refine (dowellaw48_holds.calls ((rd_T62 l0 x5_1).f0) ((rd_T62 l0 x5_1).f1) a1 true _ A5.out).mono ?_); rintro e w7 ⟨rfl, hb⟩; refine ⟨_, rfl, ?_⟩; have n0_ := Aside0.mk (below_step (by repeat (first | (with_reducible first | exact HB.out | apply below_alloc | apply pw_below_drewN | apply below_drew1) | exact HB.out)) hb); clear HB; have HB := n0_; clear n0_; (try clear hb); (try clear hb2); (try clear hk); (try clear hi)))
      go_ret
      exact ⟨by first | rfl | (simp [errW_none, errW_some] <;> rfl) | (simp [*, errW_none, errW_some] <;> rfl), by repeat (first | (with_reducible first | exact HB.out | apply below_alloc | apply pw_below_drewN | apply below_drew1) | exact HB.out)⟩
     ·replace c6 := Bool.eq_false_iff.mpr c6
      subst c6
      have H1 : (dowellaw48_one.l0 k1 l0 a1 (wrap64 (x5_1 + 1))) = some r := by rw [if_neg (show ¬ (false = true) by decide)] at H; exact H
      clear H
      have H := H1
      clear H1
      have H' := Aside0.mk H
      clear H
      have p261 : 0 ≤ (x5_1 : Int) := of_decide_eq_true (by first | (with_reducible assumption) | assumption)
      have q261 : x5_1 < (l0.length : Int) := of_decide_eq_true (by first | (with_reducible assumption) | assumption)
      obtain ⟨ad261, e261, hx261_0, hx261_1⟩ := at_T62 HR0.out x5_1 p261 q261
      cases e261
      replace hx261_0 := (HB.out.cell (World.block_lt_of_cell? w _ hx261_0)).trans hx261_0
      replace hx261_1 := (HB.out.cell (World.block_lt_of_cell? w _ hx261_1)).trans hx261_1
      replace p261 := eq_true p261
      replace q261 := eq_true q261
      go_wp2_with (first | ((with_reducible refine gate_callee (f := 63) rfl ?_); refine goesL_ (some 17) rfl rfl Try.func63 (by kernel_rfl) rfl #[.agg #[.int .i64 ((rd_T62 l0 x5_1).f0), .bool ((rd_T62 l0 x5_1).f1)], .int .i64 a1] rfl (by (try simp only [List.map_toArray, List.map_cons, List.map_nil]); first | done | rfl | (simp only [List.length_drop, List.length_take]; rfl)) ?_; (with_reducible refine (dowellaw48_holds.calls ((rd_T62 l0 x5_1).f0) ((rd_T62 l0 x5_1).f1) a1 false _ A5.out).mono ?_); rintro e w8 ⟨rfl, hb⟩; refine ⟨_, rfl, ?_⟩; have n0_ := Aside0.mk (below_step (by repeat (first | (with_reducible first | exact HB.out | apply below_alloc | apply pw_below_drewN | apply below_drew1) | exact HB.out)) hb); clear HB; have HB := n0_; clear n0_; (try clear hb); (try clear hb2); (try clear hk); (try clear hi)))
      go_roundg k1
      case measure => have := HK1.out; omega
      case rel => exact ⟨(wrap64 (x5_1 + 1)), (by first | rfl | (simp; done) | (simp [*]; done)), H', ⟨by have := HK1.out; omega⟩, ⟨by repeat (first | (with_reducible first | exact HB.out | apply below_alloc | apply pw_below_drewN | apply below_drew1) | exact HB.out)⟩⟩
    ·rw [if_neg c4] at H
     exact absurd H (by simp)
   ·rw [if_neg c3] at H
    have c3b0 : decide (x5_1 < (l0.length : Int)) = false := decide_eq_false c3
    clear c3
    obtain rfl := Option.some.inj H
    go_wp2
    go_ret
    exact ⟨by first | rfl | (simp [errW_none, errW_some] <;> rfl) | (simp [*, errW_none, errW_some] <;> rfl), by repeat (first | (with_reducible first | exact HB.out | apply below_alloc | apply pw_below_drewN | apply below_drew1) | exact HB.out)⟩

end Go.Proofs.Ytbnmdlnpfikkcaa.PX
namespace Go.Proofs.Ytbnmdlnpfikkcaa.PX
open Go.RowKit Go.Proofs.YtbnmdlnpfikkcaaW.PrintWords Go.Proofs.YtbnmdlnpfikkcaaW.PrintLast Go.Proofs.YtbnmdlnpfikkcaaW.PrintMore
attribute [local go_sem] max2_int min2_int max_two min_two max_three min_three max_four min_four   -- for this text's walks alone
set_option linter.unusedVariables false
set_option linter.unusedSimpArgs false

/-! ### dowellaw48_broken: function 32 -/
def dowellaw48_broken.l0 : Nat → List Bool → Int → Int → ByteArray → List (S129) → List (S105) → List (S81) → List (S158) → List (S165) → List ByteArray → List (S70) → List (S79) → List (S83) → Option (Int)
 | 0, _, _, _, _, _, _, _, _, _, _, _, _, _ => none
 | k + 1, x1, x2, x7, x264000, x264001, x264002, x264003, x264004, x264005, x264006, x264007, x264008, x264009 => if x7 < (x264007.length : Int) then (if 0 ≤ x7 then (if x7 < (x1.length : Int) then (if rdOf false x1 x7 = true then (dowellaw48_broken.l0 k x1 x2 (wrap64 (x7 + 1)) x264000 x264001 x264002 x264003 x264004 x264005 x264006 x264007 x264008 x264009) else ((dowellaw48_one.f k ((rd_T70 x264007 x7).f1) x2).bind fun t266 => (if t266 = true then (dowellaw48_broken.l0 k x1 x2 (wrap64 (x7 + 1)) x264000 x264001 x264002 x264003 x264004 x264005 x264006 x264007 x264008 x264009) else (some x7)))) else (none)) else (none)) else (some (-1))
def dowellaw48_broken.f (k : Nat) (a0_0 : ByteArray) (l0_1 : List (S129)) (l0_2 : List (S105)) (l0_3 : List (S81)) (l0_4 : List (S158)) (l0_5 : List (S165)) (l0_6 : List ByteArray) (l0_7 : List (S70)) (l0_8 : List (S79)) (l0_9 : List (S83)) (l1 : List Bool) (a2 : Int) : Option (Int) := dowellaw48_broken.l0 k l1 a2 0 a0_0 l0_1 l0_2 l0_3 l0_4 l0_5 l0_6 l0_7 l0_8 l0_9
theorem dowellaw48_broken.mono_l : ∀ k, (∀ y0 y1 y2 y3 y4 y5 y6 y7 y8 y9 y10 y11 y12, LeO (dowellaw48_broken.l0 k y0 y1 y2 y3 y4 y5 y6 y7 y8 y9 y10 y11 y12) (dowellaw48_broken.l0 (k + 1) y0 y1 y2 y3 y4 y5 y6 y7 y8 y9 y10 y11 y12))
 | 0 => fun _ _ _ _ _ _ _ _ _ _ _ _ _ r h => by simp [dowellaw48_broken.l0] at h
 | k + 1 => by
  have ih0 := dowellaw48_broken.mono_l k
  ·intro y0 y1 y2 y3 y4 y5 y6 y7 y8 y9 y10 y11 y12
   unfold dowellaw48_broken.l0
   repeat' first
   | (with_reducible exact ih0 _ _ _ _ _ _ _ _ _ _ _ _ _)
   | (with_reducible exact dowellaw48_one.mono _ _ _)
   | (with_reducible exact LeO.refl _)
   | (with_reducible exact LeO.none _)
   | (with_reducible refine LeO.ite ?_ ?_)
   | (with_reducible refine LeO.bind ?_ (fun _ => ?_))
   | exact ih0 _ _ _ _ _ _ _ _ _ _ _ _ _
   | exact dowellaw48_one.mono _ _ _
   | exact LeO.none _
   | refine LeO.ite ?_ ?_
   | refine LeO.bind ?_ (fun _ => ?_)
theorem dowellaw48_broken.mono : ∀ a0 a1 a2 a3 a4 a5 a6 a7 a8 a9 a10 a11 k, LeO (dowellaw48_broken.f k a0 a1 a2 a3 a4 a5 a6 a7 a8 a9 a10 a11) (dowellaw48_broken.f (k + 1) a0 a1 a2 a3 a4 a5 a6 a7 a8 a9 a10 a11) := by
 intro a0 a1 a2 a3 a4 a5 a6 a7 a8 a9 a10 a11 k
 have ih0 := dowellaw48_broken.mono_l k
 unfold dowellaw48_broken.f
 repeat' first
   | (with_reducible exact ih0 _ _ _ _ _ _ _ _ _ _ _ _ _)
   | (with_reducible exact dowellaw48_one.mono _ _ _)
   | (with_reducible exact LeO.refl _)
   | (with_reducible exact LeO.none _)
   | (with_reducible refine LeO.ite ?_ ?_)
   | (with_reducible refine LeO.bind ?_ (fun _ => ?_))
   | exact ih0 _ _ _ _ _ _ _ _ _ _ _ _ _
   | exact dowellaw48_one.mono _ _ _
   | exact LeO.none _
   | refine LeO.ite ?_ ?_
   | refine LeO.bind ?_ (fun _ => ?_)
set_option maxHeartbeats 8000000 in
set_option maxRecDepth 100000 in
theorem dowellaw48_broken.calls (k : Nat) (a0_0 : ByteArray) (A0_1 : Option Addr) (c0_1 : Nat) (l0_1 : List (S129)) (A0_2 : Option Addr) (c0_2 : Nat) (l0_2 : List (S105)) (A0_3 : Option Addr) (c0_3 : Nat) (l0_3 : List (S81)) (A0_4 : Option Addr) (c0_4 : Nat) (l0_4 : List (S158)) (A0_5 : Option Addr) (c0_5 : Nat) (l0_5 : List (S165)) (A0_6 : Option Addr) (c0_6 : Nat) (l0_6 : List ByteArray) (A0_7 : Option Addr) (c0_7 : Nat) (l0_7 : List (S70)) (A0_8 : Option Addr) (c0_8 : Nat) (l0_8 : List (S79)) (A0_9 : Option Addr) (c0_9 : Nat) (l0_9 : List (S83)) (A1 : Option Addr) (c1 : Nat) (l1 : List Bool) (a2 : Int) (r : Int) (w : World) (hr0_1 : Kd.C k129 w A0_1 l0_1.length l0_1) (hc0_1 : l0_1.length ≤ c0_1) (hr0_2 : Kd.C k105 w A0_2 l0_2.length l0_2) (hc0_2 : l0_2.length ≤ c0_2) (hr0_3 : Kd.C k81 w A0_3 l0_3.length l0_3) (hc0_3 : l0_3.length ≤ c0_3) (hr0_4 : Kd.C k158 w A0_4 l0_4.length l0_4) (hc0_4 : l0_4.length ≤ c0_4) (hr0_5 : Kd.C k165 w A0_5 l0_5.length l0_5) (hc0_5 : l0_5.length ≤ c0_5) (hr0_6 : Kd.C Kd.string w A0_6 l0_6.length l0_6) (hc0_6 : l0_6.length ≤ c0_6) (hr0_7 : Kd.C k70 w A0_7 l0_7.length l0_7) (hc0_7 : l0_7.length ≤ c0_7) (hr0_8 : Kd.C k79 w A0_8 l0_8.length l0_8) (hc0_8 : l0_8.length ≤ c0_8) (hr0_9 : Kd.C k83 w A0_9 l0_9.length l0_9) (hc0_9 : l0_9.length ≤ c0_9) (hr1 : Kd.C Kd.bool w A1 l1.length l1) (hc1 : l1.length ≤ c1) (h : dowellaw48_broken.f k a0_0 l0_1 l0_2 l0_3 l0_4 l0_5 l0_6 l0_7 l0_8 l0_9 l1 a2 = some r) :
  Calls Try.prog 32 #[.agg #[.string a0_0, .slice A0_1 l0_1.length c0_1, .slice A0_2 l0_2.length c0_2, .slice A0_3 l0_3.length c0_3, .slice A0_4 l0_4.length c0_4, .slice A0_5 l0_5.length c0_5, .slice A0_6 l0_6.length c0_6, .slice A0_7 l0_7.length c0_7, .slice A0_8 l0_8.length c0_8, .slice A0_9 l0_9.length c0_9], .slice A1 l1.length c1, .int .i64 a2] w fun e w' => e = .returned (.int .i64 r) ∧ Below w.heap.size w w' := by
 have hu41 := Try.underlying41
 have HR0_1 := Aside0.mk hr0_1
 have HC0_1 := Aside0.mk hc0_1
 clear hr0_1 hc0_1
 have HR0_2 := Aside0.mk hr0_2
 have HC0_2 := Aside0.mk hc0_2
 clear hr0_2 hc0_2
 have HR0_3 := Aside0.mk hr0_3
 have HC0_3 := Aside0.mk hc0_3
 clear hr0_3 hc0_3
 have HR0_4 := Aside0.mk hr0_4
 have HC0_4 := Aside0.mk hc0_4
 clear hr0_4 hc0_4
 have HR0_5 := Aside0.mk hr0_5
 have HC0_5 := Aside0.mk hc0_5
 clear hr0_5 hc0_5
 have HR0_6 := Aside0.mk hr0_6
 have HC0_6 := Aside0.mk hc0_6
 clear hr0_6 hc0_6
 have HR0_7 := Aside0.mk hr0_7
 have HC0_7 := Aside0.mk hc0_7
 clear hr0_7 hc0_7
 have HR0_8 := Aside0.mk hr0_8
 have HC0_8 := Aside0.mk hc0_8
 clear hr0_8 hc0_8
 have HR0_9 := Aside0.mk hr0_9
 have HC0_9 := Aside0.mk hc0_9
 clear hr0_9 hc0_9
 have HR1 := Aside0.mk hr1
 have HC1 := Aside0.mk hc1
 clear hr1 hc1
 have HB := Aside0.mk (Below.refl w.heap.size w)
 have H : (dowellaw48_broken.l0 k l1 a2 0 a0_0 l0_1 l0_2 l0_3 l0_4 l0_5 l0_6 l0_7 l0_8 l0_9) = some r := h
 clear h
 have H' := Aside0.mk H
 clear H
 go_enter Try.func32, Try.ntmps32
 go_wp2_with (first | ((with_reducible refine gate_dst (N := 3) rfl ?_); refine box_event ?hg (N := 3) ?hd (cs := #[.string a0_0, .slice A0_1 l0_1.length c0_1, .slice A0_2 l0_2.length c0_2, .slice A0_3 l0_3.length c0_3, .slice A0_4 l0_4.length c0_4, .slice A0_5 l0_5.length c0_5, .slice A0_6 l0_6.length c0_6, .slice A0_7 l0_7.length c0_7, .slice A0_8 l0_8.length c0_8, .slice A0_9 l0_9.length c0_9]) (t := 41) ?hr ?_; (case hd => rfl); (case hg => rfl); (case hr => first | (go_simp; done) | (go_simp; rfl)); intro gb263 hg w4 hbox hb; have n0_ := Aside0.mk (below_step (by repeat (first | (with_reducible first | exact HB.out | apply below_alloc | apply pw_below_drewN | apply below_drew1) | exact HB.out)) hb); have n1_ := Aside0.mk (hbox); have n2_ := Aside0.mk ((by rw [hg]; exact (below_size (by repeat (first | (with_reducible first | exact HB.out | apply below_alloc | apply pw_below_drewN | apply below_drew1) | exact HB.out))) : w.heap.size ≤ gb263)); have n3_ := Aside0.mk ((by rw [hg]; exact (below_size (by repeat (first | (with_reducible first | exact HB.out | apply below_alloc | apply pw_below_drewN | apply below_drew1) | exact HB.out))) : w.heap.size ≤ gb263)); clear HB; have HB := n0_; have BK263 := n1_; have GW263 := n2_; have GE263 := n3_; clear n0_ n1_ n2_ n3_; clear hb hbox hg))
 go_loopg [7] k (fun kq v7 w' => ∃ (x7_1 : Int), v7 = .int .i64 x7_1 ∧ Aside0 (dowellaw48_broken.l0 kq l1 a2 x7_1 a0_0 l0_1 l0_2 l0_3 l0_4 l0_5 l0_6 l0_7 l0_8 l0_9 = some r) ∧ Aside0 (kq ≤ k) ∧ Aside0 (w'.heap[gb263]? = some (.cells #[.string a0_0, (.slice A0_1 l0_1.length c0_1), (.slice A0_2 l0_2.length c0_2), (.slice A0_3 l0_3.length c0_3), (.slice A0_4 l0_4.length c0_4), (.slice A0_5 l0_5.length c0_5), (.slice A0_6 l0_6.length c0_6), (.slice A0_7 l0_7.length c0_7), (.slice A0_8 l0_8.length c0_8), (.slice A0_9 l0_9.length c0_9)] 41 (0, 0))) ∧ Aside0 (Below w.heap.size w w'))
 case atStart => exact ⟨(0), (by first | rfl | (simp; done) | (simp [*]; done)), H', ⟨Nat.le_refl _⟩, ⟨by (with_reducible repeat (first | refine blk_drewN ?_ _ | refine blk_drew ?_ | refine blk_alloc ?_ _)); exact BK263.out⟩, ⟨by repeat (first | (with_reducible first | exact HB.out | apply below_alloc | apply pw_below_drewN | apply below_drew1 | refine below_set ?_ GE263.out) | exact HB.out)⟩⟩
 case round =>
  clear H'
  try clear c1
  try clear p2
  try clear c3
  obtain ⟨x7_1, rfl, HA, HK1, BK263, HB⟩ := hrel
  cases gk with
  | zero => exact absurd HA.out (by simp [dowellaw48_broken.l0])
  | succ k1 =>
   have H := HA.out
   clear HA
   simp only [dowellaw48_broken.l0] at H
   by_cases c5 : x7_1 < (l0_7.length : Int)
   ·rw [if_pos c5] at H
    have c5b0 : decide (x7_1 < (l0_7.length : Int)) = true := decide_eq_true c5
    clear c5
    by_cases c6 : 0 ≤ x7_1
    ·rw [if_pos c6] at H
     have c6b0 : decide (0 ≤ x7_1) = true := decide_eq_true c6
     clear c6
     by_cases c7 : x7_1 < (l1.length : Int)
     ·rw [if_pos c7] at H
      have c7b0 : decide (x7_1 < (l1.length : Int)) = true := decide_eq_true c7
      clear c7
      obtain ⟨bq8, hbq8⟩ : ∃ b_ : Bool, b_ = (rdOf false l1 x7_1) := ⟨_, rfl⟩
      replace H : (if bq8 = true then (dowellaw48_broken.l0 k1 l1 a2 (wrap64 (x7_1 + 1)) a0_0 l0_1 l0_2 l0_3 l0_4 l0_5 l0_6 l0_7 l0_8 l0_9) else ((dowellaw48_one.f k1 ((rd_T70 l0_7 x7_1).f1) a2).bind fun t266 => (if t266 = true then (dowellaw48_broken.l0 k1 l1 a2 (wrap64 (x7_1 + 1)) a0_0 l0_1 l0_2 l0_3 l0_4 l0_5 l0_6 l0_7 l0_8 l0_9) else (some x7_1)))) = some r := by rw [← hbq8] at H; exact H
      have Nbq8 := Aside0.mk hbq8
      clear hbq8
      by_cases c9 : bq8 = true
      ·subst c9
       have H1 : (dowellaw48_broken.l0 k1 l1 a2 (wrap64 (x7_1 + 1)) a0_0 l0_1 l0_2 l0_3 l0_4 l0_5 l0_6 l0_7 l0_8 l0_9) = some r := by rw [if_pos rfl] at H; exact H
       clear H
       have H := H1
       clear H1
       have H' := Aside0.mk H
       clear H
       have hcz10_0 : wr.cell? ⟨gb263, 0, none⟩ = some (.string a0_0) := (blk_cell BK263.out 0).trans rfl
       have hcz10_1 : wr.cell? ⟨gb263, 1, none⟩ = some (.slice A0_1 l0_1.length c0_1) := (blk_cell BK263.out 1).trans rfl
       have hcz10_2 : wr.cell? ⟨gb263, 2, none⟩ = some (.slice A0_2 l0_2.length c0_2) := (blk_cell BK263.out 2).trans rfl
       have hcz10_3 : wr.cell? ⟨gb263, 3, none⟩ = some (.slice A0_3 l0_3.length c0_3) := (blk_cell BK263.out 3).trans rfl
       have hcz10_4 : wr.cell? ⟨gb263, 4, none⟩ = some (.slice A0_4 l0_4.length c0_4) := (blk_cell BK263.out 4).trans rfl
       have hcz10_5 : wr.cell? ⟨gb263, 5, none⟩ = some (.slice A0_5 l0_5.length c0_5) := (blk_cell BK263.out 5).trans rfl
       have hcz10_6 : wr.cell? ⟨gb263, 6, none⟩ = some (.slice A0_6 l0_6.length c0_6) := (blk_cell BK263.out 6).trans rfl
       have hcz10_7 : wr.cell? ⟨gb263, 7, none⟩ = some (.slice A0_7 l0_7.length c0_7) := (blk_cell BK263.out 7).trans rfl
       have hcz10_8 : wr.cell? ⟨gb263, 8, none⟩ = some (.slice A0_8 l0_8.length c0_8) := (blk_cell BK263.out 8).trans rfl
       have hcz10_9 : wr.cell? ⟨gb263, 9, none⟩ = some (.slice A0_9 l0_9.length c0_9) := (blk_cell BK263.out 9).trans rfl
       have hfz10_0 := blk_frozen BK263.out 0
       have hfz10_1 := blk_frozen BK263.out 1
       have hfz10_2 := blk_frozen BK263.out 2
       have hfz10_3 := blk_frozen BK263.out 3
       have hfz10_4 := blk_frozen BK263.out 4
       have hfz10_5 := blk_frozen BK263.out 5
       have hfz10_6 := blk_frozen BK263.out 6
       have hfz10_7 := blk_frozen BK263.out 7
       have hfz10_8 := blk_frozen BK263.out 8
       have hfz10_9 := blk_frozen BK263.out 9
       have p264 : 0 ≤ (x7_1 : Int) := of_decide_eq_true (by first | (with_reducible assumption) | assumption)
       have q264 : x7_1 < (l1.length : Int) := of_decide_eq_true (by first | (with_reducible assumption) | assumption)
       obtain ⟨ad264, e264, hx264_0⟩ := Kd.at_bool HR1.out x7_1 p264 q264
       (try rw [← Nbq8.out] at hx264_0)
       cases e264
       replace hx264_0 := (HB.out.cell (World.block_lt_of_cell? w _ hx264_0)).trans hx264_0
       replace p264 := eq_true p264
       replace q264 := eq_true q264
       go_wp2
       go_roundg k1
       case measure => have := HK1.out; omega
       case rel => exact ⟨(wrap64 (x7_1 + 1)), (by first | rfl | (simp; done) | (simp [*]; done)), H', ⟨by have := HK1.out; omega⟩, ⟨by (with_reducible repeat (first | refine blk_drewN ?_ _ | refine blk_drew ?_ | refine blk_alloc ?_ _)); exact BK263.out⟩, ⟨by repeat (first | (with_reducible first | exact HB.out | apply below_alloc | apply pw_below_drewN | apply below_drew1 | refine below_set ?_ GE263.out) | exact HB.out)⟩⟩
      ·replace c9 := Bool.eq_false_iff.mpr c9
       subst c9
       have H1 : ((dowellaw48_one.f k1 ((rd_T70 l0_7 x7_1).f1) a2).bind fun t266 => (if t266 = true then (dowellaw48_broken.l0 k1 l1 a2 (wrap64 (x7_1 + 1)) a0_0 l0_1 l0_2 l0_3 l0_4 l0_5 l0_6 l0_7 l0_8 l0_9) else (some x7_1))) = some r := by rw [if_neg (show ¬ (false = true) by decide)] at H; exact H
       clear H
       have H := H1
       clear H1
       replace H := Option.bind_eq_some_iff.mp H
       obtain ⟨t266, A110, H⟩ := H
       replace H : (if t266 = true then (dowellaw48_broken.l0 k1 l1 a2 (wrap64 (x7_1 + 1)) a0_0 l0_1 l0_2 l0_3 l0_4 l0_5 l0_6 l0_7 l0_8 l0_9) else (some x7_1)) = some r := H
       have A11 := Aside0.mk A110
       clear A110
       by_cases c12 : t266 = true
       ·subst c12
        have H1 : (dowellaw48_broken.l0 k1 l1 a2 (wrap64 (x7_1 + 1)) a0_0 l0_1 l0_2 l0_3 l0_4 l0_5 l0_6 l0_7 l0_8 l0_9) = some r := by rw [if_pos rfl] at H; exact H
        clear H
        have H := H1
        clear H1
        have H' := Aside0.mk H
        clear H
        have hcz13_0 : wr.cell? ⟨gb263, 0, none⟩ = some (.string a0_0) := (blk_cell BK263.out 0).trans rfl
        have hcz13_1 : wr.cell? ⟨gb263, 1, none⟩ = some (.slice A0_1 l0_1.length c0_1) := (blk_cell BK263.out 1).trans rfl
        have hcz13_2 : wr.cell? ⟨gb263, 2, none⟩ = some (.slice A0_2 l0_2.length c0_2) := (blk_cell BK263.out 2).trans rfl
        have hcz13_3 : wr.cell? ⟨gb263, 3, none⟩ = some (.slice A0_3 l0_3.length c0_3) := (blk_cell BK263.out 3).trans rfl
        have hcz13_4 : wr.cell? ⟨gb263, 4, none⟩ = some (.slice A0_4 l0_4.length c0_4) := (blk_cell BK263.out 4).trans rfl
        have hcz13_5 : wr.cell? ⟨gb263, 5, none⟩ = some (.slice A0_5 l0_5.length c0_5) := (blk_cell BK263.out 5).trans rfl
        have hcz13_6 : wr.cell? ⟨gb263, 6, none⟩ = some (.slice A0_6 l0_6.length c0_6) := (blk_cell BK263.out 6).trans rfl
        have hcz13_7 : wr.cell? ⟨gb263, 7, none⟩ = some (.slice A0_7 l0_7.length c0_7) := (blk_cell BK263.out 7).trans rfl
        have hcz13_8 : wr.cell? ⟨gb263, 8, none⟩ = some (.slice A0_8 l0_8.length c0_8) := (blk_cell BK263.out 8).trans rfl
        have hcz13_9 : wr.cell? ⟨gb263, 9, none⟩ = some (.slice A0_9 l0_9.length c0_9) := (blk_cell BK263.out 9).trans rfl
        have hfz13_0 := blk_frozen BK263.out 0
        have hfz13_1 := blk_frozen BK263.out 1
        have hfz13_2 := blk_frozen BK263.out 2
        have hfz13_3 := blk_frozen BK263.out 3
        have hfz13_4 := blk_frozen BK263.out 4
        have hfz13_5 := blk_frozen BK263.out 5
        have hfz13_6 := blk_frozen BK263.out 6
        have hfz13_7 := blk_frozen BK263.out 7
        have hfz13_8 := blk_frozen BK263.out 8
        have hfz13_9 := blk_frozen BK263.out 9
        have p264 : 0 ≤ (x7_1 : Int) := of_decide_eq_true (by first | (with_reducible assumption) | assumption)
        have q264 : x7_1 < (l1.length : Int) := of_decide_eq_true (by first | (with_reducible assumption) | assumption)
        obtain ⟨ad264, e264, hx264_0⟩ := Kd.at_bool HR1.out x7_1 p264 q264
        (try rw [← Nbq8.out] at hx264_0)
        cases e264
        replace hx264_0 := (HB.out.cell (World.block_lt_of_cell? w _ hx264_0)).trans hx264_0
        replace p264 := eq_true p264
        replace q264 := eq_true q264
        have p265 : 0 ≤ (x7_1 : Int) := of_decide_eq_true (by first | (with_reducible assumption) | assumption)
        have q265 : x7_1 < (l0_7.length : Int) := of_decide_eq_true (by first | (with_reducible assumption) | assumption)
        obtain ⟨ad265, A265_1, c265_1, e265, hx265_0, hx265_1, hl265_1, hi265_1⟩ := at_T70 HR0_7.out x7_1 p265 q265
        cases e265
        replace hx265_0 := (HB.out.cell (World.block_lt_of_cell? w _ hx265_0)).trans hx265_0
        replace hx265_1 := (HB.out.cell (World.block_lt_of_cell? w _ hx265_1)).trans hx265_1
        have HR265_1 := Aside0.mk hi265_1
        have HC265_1 := Aside0.mk hl265_1
        clear hi265_1 hl265_1
        replace p265 := eq_true p265
        replace q265 := eq_true q265
        go_wp2_with (first | (go_at_call 59; (with_reducible refine (dowellaw48_one.calls k1 _ _ ((rd_T70 l0_7 x7_1).f1) a2 true _ ?side1 ?side2 A11.out).mono ?_); (case side1 => repeat (first | exact (Kd.C_below HR265_1.out HB.out) | (with_reducible refine Kd.C_alloc ?_ _) | (with_reducible refine Kd.C_drewN ?_ _) | (with_reducible refine Kd.C_drew ?_))); (case side2 => exact HC265_1.out); rintro e w14 ⟨rfl, hb⟩; have n0_ := Aside0.mk (blk_below (g := gb263) (o := .cells #[.string a0_0, .slice A0_1 l0_1.length c0_1, .slice A0_2 l0_2.length c0_2, .slice A0_3 l0_3.length c0_3, .slice A0_4 l0_4.length c0_4, .slice A0_5 l0_5.length c0_5, .slice A0_6 l0_6.length c0_6, .slice (some ad265) l0_7.length c0_7, .slice A0_8 l0_8.length c0_8, .slice A0_9 l0_9.length c0_9] 41 (0, 0)) (by (with_reducible repeat (first | refine blk_drewN ?_ _ | refine blk_drew ?_ | refine blk_alloc ?_ _)); exact BK263.out) hb); have n1_ := Aside0.mk (below_step (by repeat (first | (with_reducible first | exact HB.out | apply below_alloc | apply pw_below_drewN | apply below_drew1 | refine below_set ?_ GE263.out) | exact HB.out)) hb); clear BK263; clear HB; have BK263 := n0_; have HB := n1_; clear n0_ n1_; (try clear hb); (try clear hb2); (try clear hk); (try clear hi)))
        go_roundg k1
        case measure => have := HK1.out; omega
        case rel => exact ⟨(wrap64 (x7_1 + 1)), (by first | rfl | (simp; done) | (simp [*]; done)), H', ⟨by have := HK1.out; omega⟩, ⟨by (with_reducible repeat (first | refine blk_drewN ?_ _ | refine blk_drew ?_ | refine blk_alloc ?_ _)); exact BK263.out⟩, ⟨by repeat (first | (with_reducible first | exact HB.out | apply below_alloc | apply pw_below_drewN | apply below_drew1 | refine below_set ?_ GE263.out) | exact HB.out)⟩⟩
       ·replace c12 := Bool.eq_false_iff.mpr c12
        subst c12
        have H1 : (some x7_1) = some r := by rw [if_neg (show ¬ (false = true) by decide)] at H; exact H
        clear H
        have H := H1
        clear H1
        obtain rfl := Option.some.inj H
        have hcz15_0 : wr.cell? ⟨gb263, 0, none⟩ = some (.string a0_0) := (blk_cell BK263.out 0).trans rfl
        have hcz15_1 : wr.cell? ⟨gb263, 1, none⟩ = some (.slice A0_1 l0_1.length c0_1) := (blk_cell BK263.out 1).trans rfl
        have hcz15_2 : wr.cell? ⟨gb263, 2, none⟩ = some (.slice A0_2 l0_2.length c0_2) := (blk_cell BK263.out 2).trans rfl
        have hcz15_3 : wr.cell? ⟨gb263, 3, none⟩ = some (.slice A0_3 l0_3.length c0_3) := (blk_cell BK263.out 3).trans rfl
        have hcz15_4 : wr.cell? ⟨gb263, 4, none⟩ = some (.slice A0_4 l0_4.length c0_4) := (blk_cell BK263.out 4).trans rfl
        have hcz15_5 : wr.cell? ⟨gb263, 5, none⟩ = some (.slice A0_5 l0_5.length c0_5) := (blk_cell BK263.out 5).trans rfl
        have hcz15_6 : wr.cell? ⟨gb263, 6, none⟩ = some (.slice A0_6 l0_6.length c0_6) := (blk_cell BK263.out 6).trans rfl
        have hcz15_7 : wr.cell? ⟨gb263, 7, none⟩ = some (.slice A0_7 l0_7.length c0_7) := (blk_cell BK263.out 7).trans rfl
        have hcz15_8 : wr.cell? ⟨gb263, 8, none⟩ = some (.slice A0_8 l0_8.length c0_8) := (blk_cell BK263.out 8).trans rfl
        have hcz15_9 : wr.cell? ⟨gb263, 9, none⟩ = some (.slice A0_9 l0_9.length c0_9) := (blk_cell BK263.out 9).trans rfl
        have hfz15_0 := blk_frozen BK263.out 0
        have hfz15_1 := blk_frozen BK263.out 1
        have hfz15_2 := blk_frozen BK263.out 2
        have hfz15_3 := blk_frozen BK263.out 3
        have hfz15_4 := blk_frozen BK263.out 4
        have hfz15_5 := blk_frozen BK263.out 5
        have hfz15_6 := blk_frozen BK263.out 6
        have hfz15_7 := blk_frozen BK263.out 7
        have hfz15_8 := blk_frozen BK263.out 8
        have hfz15_9 := blk_frozen BK263.out 9
        have p264 : 0 ≤ (x7_1 : Int) := of_decide_eq_true (by first | (with_reducible assumption) | assumption)
        have q264 : x7_1 < (l1.length : Int) := of_decide_eq_true (by first | (with_reducible assumption) | assumption)
        obtain ⟨ad264, e264, hx264_0⟩ := Kd.at_bool HR1.out x7_1 p264 q264
        (try rw [← Nbq8.out] at hx264_0)
        cases e264
        replace hx264_0 := (HB.out.cell (World.block_lt_of_cell? w _ hx264_0)).trans hx264_0
        replace p264 := eq_true p264
        replace q264 := eq_true q264
        have p265 : 0 ≤ (x7_1 : Int) := of_decide_eq_true (by first | (with_reducible assumption) | assumption)
        have q265 : x7_1 < (l0_7.length : Int) := of_decide_eq_true (by first | (with_reducible assumption) | assumption)
        obtain ⟨ad265, A265_1, c265_1, e265, hx265_0, hx265_1, hl265_1, hi265_1⟩ := at_T70 HR0_7.out x7_1 p265 q265
        cases e265
        replace hx265_0 := (HB.out.cell (World.block_lt_of_cell? w _ hx265_0)).trans hx265_0
        replace hx265_1 := (HB.out.cell (World.block_lt_of_cell? w _ hx265_1)).trans hx265_1
        have HR265_1 := Aside0.mk hi265_1
        have HC265_1 := Aside0.mk hl265_1
        clear hi265_1 hl265_1
        replace p265 := eq_true p265
        replace q265 := eq_true q265
        go_wp2_with (first | (go_at_call 59; (with_reducible refine (dowellaw48_one.calls k1 _ _ ((rd_T70 l0_7 x7_1).f1) a2 false _ ?side1 ?side2 A11.out).mono ?_); (case side1 => repeat (first | exact (Kd.C_below HR265_1.out HB.out) | (with_reducible refine Kd.C_alloc ?_ _) | (with_reducible refine Kd.C_drewN ?_ _) | (with_reducible refine Kd.C_drew ?_))); (case side2 => exact HC265_1.out); rintro e w16 ⟨rfl, hb⟩; have n0_ := Aside0.mk (blk_below (g := gb263) (o := .cells #[.string a0_0, .slice A0_1 l0_1.length c0_1, .slice A0_2 l0_2.length c0_2, .slice A0_3 l0_3.length c0_3, .slice A0_4 l0_4.length c0_4, .slice A0_5 l0_5.length c0_5, .slice A0_6 l0_6.length c0_6, .slice (some ad265) l0_7.length c0_7, .slice A0_8 l0_8.length c0_8, .slice A0_9 l0_9.length c0_9] 41 (0, 0)) (by (with_reducible repeat (first | refine blk_drewN ?_ _ | refine blk_drew ?_ | refine blk_alloc ?_ _)); exact BK263.out) hb); have n1_ := Aside0.mk (below_step (by repeat (first | (with_reducible first | exact HB.out | apply below_alloc | apply pw_below_drewN | apply below_drew1 | refine below_set ?_ GE263.out) | exact HB.out)) hb); clear BK263; clear HB; have BK263 := n0_; have HB := n1_; clear n0_ n1_; (try clear hb); (try clear hb2); (try clear hk); (try clear hi)))
        go_ret
        exact ⟨by first | rfl | (simp [errW_none, errW_some] <;> rfl) | (simp [*, errW_none, errW_some] <;> rfl), by repeat (first | (with_reducible first | exact HB.out | apply below_alloc | apply pw_below_drewN | apply below_drew1 | refine below_set ?_ GE263.out) | exact HB.out)⟩
     ·rw [if_neg c7] at H
      exact absurd H (by simp)
    ·rw [if_neg c6] at H
     exact absurd H (by simp)
   ·rw [if_neg c5] at H
    have c5b0 : decide (x7_1 < (l0_7.length : Int)) = false := decide_eq_false c5
    clear c5
    obtain rfl := Option.some.inj H
    have hcz17_0 : wr.cell? ⟨gb263, 0, none⟩ = some (.string a0_0) := (blk_cell BK263.out 0).trans rfl
    have hcz17_1 : wr.cell? ⟨gb263, 1, none⟩ = some (.slice A0_1 l0_1.length c0_1) := (blk_cell BK263.out 1).trans rfl
    have hcz17_2 : wr.cell? ⟨gb263, 2, none⟩ = some (.slice A0_2 l0_2.length c0_2) := (blk_cell BK263.out 2).trans rfl
    have hcz17_3 : wr.cell? ⟨gb263, 3, none⟩ = some (.slice A0_3 l0_3.length c0_3) := (blk_cell BK263.out 3).trans rfl
    have hcz17_4 : wr.cell? ⟨gb263, 4, none⟩ = some (.slice A0_4 l0_4.length c0_4) := (blk_cell BK263.out 4).trans rfl
    have hcz17_5 : wr.cell? ⟨gb263, 5, none⟩ = some (.slice A0_5 l0_5.length c0_5) := (blk_cell BK263.out 5).trans rfl
    have hcz17_6 : wr.cell? ⟨gb263, 6, none⟩ = some (.slice A0_6 l0_6.length c0_6) := (blk_cell BK263.out 6).trans rfl
    have hcz17_7 : wr.cell? ⟨gb263, 7, none⟩ = some (.slice A0_7 l0_7.length c0_7) := (blk_cell BK263.out 7).trans rfl
    have hcz17_8 : wr.cell? ⟨gb263, 8, none⟩ = some (.slice A0_8 l0_8.length c0_8) := (blk_cell BK263.out 8).trans rfl
    have hcz17_9 : wr.cell? ⟨gb263, 9, none⟩ = some (.slice A0_9 l0_9.length c0_9) := (blk_cell BK263.out 9).trans rfl
    have hfz17_0 := blk_frozen BK263.out 0
    have hfz17_1 := blk_frozen BK263.out 1
    have hfz17_2 := blk_frozen BK263.out 2
    have hfz17_3 := blk_frozen BK263.out 3
    have hfz17_4 := blk_frozen BK263.out 4
    have hfz17_5 := blk_frozen BK263.out 5
    have hfz17_6 := blk_frozen BK263.out 6
    have hfz17_7 := blk_frozen BK263.out 7
    have hfz17_8 := blk_frozen BK263.out 8
    have hfz17_9 := blk_frozen BK263.out 9
    go_wp2
    go_ret
    exact ⟨by first | rfl | (simp [errW_none, errW_some] <;> rfl) | (simp [*, errW_none, errW_some] <;> rfl), by repeat (first | (with_reducible first | exact HB.out | apply below_alloc | apply pw_below_drewN | apply below_drew1 | refine below_set ?_ GE263.out) | exact HB.out)⟩

end Go.Proofs.Ytbnmdlnpfikkcaa.PX
namespace Go.Proofs.Ytbnmdlnpfikkcaa.PX
open Go.RowKit Go.Proofs.YtbnmdlnpfikkcaaW.PrintWords Go.Proofs.YtbnmdlnpfikkcaaW.PrintLast Go.Proofs.YtbnmdlnpfikkcaaW.PrintMore
attribute [local go_sem] max2_int min2_int max_two min_two max_three min_three max_four min_four   -- for this text's walks alone
set_option linter.unusedVariables false
set_option linter.unusedSimpArgs false

/-! ### dowellaw48_sets: function 33 -/
mutual
def dowellaw48_sets.l0 : Nat → Int → List Int → Int → Option (List Int)
 | 0, _, _, _ => none
 | k + 1, x0, x3, x4 => if x4 ≥ 0 then (dowellaw48_sets.l1 k x0 x3 x4 0 0) else (some x3)
def dowellaw48_sets.l1 : Nat → Int → List Int → Int → Int → Int → Option (List Int)
 | 0, _, _, _, _, _ => none
 | k + 1, x0, x3, x4, x5, x6 => if x6 < x0 then (if 0 ≤ (wrap64 ((wrap64 (x0 - 1)) - x6)) then (if 0 ≤ x6 then (dowellaw48_sets.l1 k x0 x3 x4 (Go.bits .or .i64 x5 (shl .i64 (Go.bits .and .i64 (shr .i64 x4 (wrap64 ((wrap64 (x0 - 1)) - x6))) 1) x6)) (wrap64 (x6 + 1))) else (none)) else (none)) else (if x3.length < 17592186044416 then (dowellaw48_sets.l0 k x0 (x3 ++ [x5]) (wrap64 (x4 - 1))) else (none))
end
def dowellaw48_sets.f (k : Nat) (a0 : Int) : Option (List Int) := if 0 ≤ a0 then (dowellaw48_sets.l0 k a0 ([] : List Int) (wrap64 ((shl .i64 1 a0) - 1))) else (none)
theorem dowellaw48_sets.mono_l : ∀ k, (∀ y0 y1 y2, LeO (dowellaw48_sets.l0 k y0 y1 y2) (dowellaw48_sets.l0 (k + 1) y0 y1 y2)) ∧ (∀ y0 y1 y2 y3 y4, LeO (dowellaw48_sets.l1 k y0 y1 y2 y3 y4) (dowellaw48_sets.l1 (k + 1) y0 y1 y2 y3 y4))
 | 0 => ⟨fun _ _ _ r h => by simp [dowellaw48_sets.l0] at h, fun _ _ _ _ _ r h => by simp [dowellaw48_sets.l1] at h⟩
 | k + 1 => by
  obtain ⟨ih0, ih1⟩ := dowellaw48_sets.mono_l k
  refine ⟨?_, ?_⟩
  ·intro y0 y1 y2
   unfold dowellaw48_sets.l0
   repeat' first
   | (with_reducible exact ih0 _ _ _)
   | (with_reducible exact ih1 _ _ _ _ _)
   | (with_reducible exact LeO.refl _)
   | (with_reducible exact LeO.none _)
   | (with_reducible refine LeO.ite ?_ ?_)
   | (with_reducible refine LeO.bind ?_ (fun _ => ?_))
   | exact ih0 _ _ _
   | exact ih1 _ _ _ _ _
   | exact LeO.none _
   | refine LeO.ite ?_ ?_
   | refine LeO.bind ?_ (fun _ => ?_)
  ·intro y0 y1 y2 y3 y4
   unfold dowellaw48_sets.l1
   repeat' first
   | (with_reducible exact ih0 _ _ _)
   | (with_reducible exact ih1 _ _ _ _ _)
   | (with_reducible exact LeO.refl _)
   | (with_reducible exact LeO.none _)
   | (with_reducible refine LeO.ite ?_ ?_)
   | (with_reducible refine LeO.bind ?_ (fun _ => ?_))
   | exact ih0 _ _ _
   | exact ih1 _ _ _ _ _
   | exact LeO.none _
   | refine LeO.ite ?_ ?_
   | refine LeO.bind ?_ (fun _ => ?_)
theorem dowellaw48_sets.mono : ∀ a0 k, LeO (dowellaw48_sets.f k a0) (dowellaw48_sets.f (k + 1) a0) := by
 intro a0 k
 obtain ⟨ih0, ih1⟩ := dowellaw48_sets.mono_l k
 unfold dowellaw48_sets.f
 repeat' first
   | (with_reducible exact ih0 _ _ _)
   | (with_reducible exact ih1 _ _ _ _ _)
   | (with_reducible exact LeO.refl _)
   | (with_reducible exact LeO.none _)
   | (with_reducible refine LeO.ite ?_ ?_)
   | (with_reducible refine LeO.bind ?_ (fun _ => ?_))
   | exact ih0 _ _ _
   | exact ih1 _ _ _ _ _
   | exact LeO.none _
   | refine LeO.ite ?_ ?_
   | refine LeO.bind ?_ (fun _ => ?_)
set_option maxHeartbeats 8000000 in
set_option maxRecDepth 100000 in
theorem dowellaw48_sets.calls (k : Nat) (a0 : Int) (r : List Int) (w : World) (h : dowellaw48_sets.f k a0 = some r) :
  Calls Try.prog 33 #[.int .i64 a0] w fun e w' => ∃ v0_ : Value, e = .returned (v0_) ∧ Kd.R (Kd.int .i64) 3 w' w.heap.size (fun _ => True) v0_ r ∧ Below w.heap.size w w' := by
 have HB := Aside0.mk (Below.refl w.heap.size w)
 have H : (if 0 ≤ a0 then (dowellaw48_sets.l0 k a0 ([] : List Int) (wrap64 ((shl .i64 1 a0) - 1))) else (none)) = some r := h
 clear h
 by_cases c2 : 0 ≤ a0
 ·rw [if_pos c2] at H
  have c2b0 := eq_true c2
  have c2b1 : decide (0 ≤ a0) = true := decide_eq_true c2
  clear c2
  obtain ⟨ji3, hji3⟩ : ∃ j_ : Int, (shl .i64 1 a0) = j_ := ⟨_, rfl⟩
  replace H : (dowellaw48_sets.l0 k a0 ([] : List Int) (wrap64 ((ji3) - 1))) = some r := by first | (rw [hji3] at H; exact H) | (simp only [hji3] at H ⊢; exact H)
  have hji3_ : (IntKind.i64.wrap (1 * 2 ^ min a0.toNat 64)) = ji3 := hji3
  have hji3z : a0 ≤ 64 → (IntKind.i64.wrap (1 * 2 ^ a0.toNat)) = ji3 := shl_small hji3
  have hji3u : (IntKind.i64.wrap (2 ^ min a0.toNat 64)) = ji3 := by have h_ := hji3_; rw [Int.one_mul] at h_; exact h_
  have hji3v : a0 ≤ 64 → (IntKind.i64.wrap (2 ^ a0.toNat)) = ji3 := fun hle_ => by have h_ := hji3z hle_; rw [Int.one_mul] at h_; exact h_
  have hji3y : (wrap64 (1 * 2 ^ min a0.toNat 64)) = ji3 := (i64_w _).symm.trans hji3_
  have hji3x : a0 ≤ 64 → (wrap64 (1 * 2 ^ a0.toNat)) = ji3 := fun h_ => (i64_w _).symm.trans (hji3z h_)
  have H' := Aside0.mk H
  clear H
  go_enter Try.func33, Try.ntmps33
  go_wp2
  go_loopg [3, 4] k (fun kq v3 v4 w' => ∃ (x3_1 : List Int) (x4_1 : Int), v4 = .int .i64 x4_1 ∧ Aside0 (dowellaw48_sets.l0 kq a0 x3_1 x4_1 = some r) ∧ Aside0 (kq ≤ k) ∧ Aside0 (Kd.R (Kd.int .i64) 3 w' w.heap.size (fun _ => True) v3 x3_1) ∧ Aside0 (Below w.heap.size w w'))
  case atStart => exact ⟨(([] : List Int)), (wrap64 ((ji3) - 1)), (by first | rfl | (simp; done) | (simp only [← hji3] <;> (first | rfl | simp)) | (simp [*]; done)), H', ⟨Nat.le_refl _⟩, ⟨by first | exact Kd.R_nil _ _ _ _ _ | exact Kd.N_nil _ _ _ _ _ | exact Kd.V_nil _ _ _ _ _ | exact Kd.Q_nil _ _ _ _ _ | exact Kd.S_nil _ _ _ _ _⟩, ⟨by repeat (first | (with_reducible first | exact HB.out | apply below_alloc | apply pw_below_drewN | apply below_drew1) | exact HB.out)⟩⟩
  case round =>
   clear H'
   try clear c2
   try clear c2b0
   try clear c2b1
   try clear p2
   try clear c3
   obtain ⟨x3_1, x4_1, rfl, HA, HK1, HO_3, HB⟩ := hrel
   cases gk with
   | zero => exact absurd HA.out (by simp [dowellaw48_sets.l0])
   | succ k1 =>
    have H := HA.out
    clear HA
    simp only [dowellaw48_sets.l0] at H
    by_cases c4 : x4_1 ≥ 0
    ·rw [if_pos c4] at H
     have c4b0 : decide (0 ≤ x4_1) = true := decide_eq_true c4
     clear c4
     have H' := Aside0.mk H
     clear H
     go_wp2
     go_loopg [5, 6] k1 (fun kq v5 v6 w' => ∃ (x5_2 : Int) (x6_2 : Int), v5 = .int .i64 x5_2 ∧ v6 = .int .i64 x6_2 ∧ Aside0 (dowellaw48_sets.l1 kq a0 x3_1 x4_1 x5_2 x6_2 = some r) ∧ Aside0 (kq ≤ k1) ∧ Aside0 (Kd.R (Kd.int .i64) 3 w' w.heap.size (fun _ => True) u3 x3_1) ∧ Aside0 (Below w.heap.size w w'))
     case atStart => exact ⟨(0), (0), (by first | rfl | (simp; done) | (simp [*]; done)), (by first | rfl | (simp; done) | (simp [*]; done)), H', ⟨Nat.le_refl _⟩, ⟨by (with_reducible repeat (first | apply Kd.R_alloc | apply Kd.R_drewN | apply Kd.R_drew)); exact HO_3.out⟩, ⟨by repeat (first | (with_reducible first | exact HB.out | apply below_alloc | apply pw_below_drewN | apply below_drew1) | exact HB.out)⟩⟩
     case round =>
      clear H'
      try clear c2
      try clear c2b0
      try clear c2b1
      try clear p2
      try clear c3
      try clear c4
      try clear c4b0
      try clear p2
      obtain ⟨x5_2, x6_2, rfl, rfl, HA, HK2, HO_3, HB⟩ := hrel
      cases gk with
      | zero => exact absurd HA.out (by simp [dowellaw48_sets.l1])
      | succ k2 =>
       have H := HA.out
       clear HA
       simp only [dowellaw48_sets.l1] at H
       by_cases c5 : x6_2 < a0
       ·rw [if_pos c5] at H
        have c5b0 : decide (x6_2 < a0) = true := decide_eq_true c5
        clear c5
        obtain ⟨ji6, hji6⟩ : ∃ j_ : Int, (wrap64 ((wrap64 (a0 - 1)) - x6_2)) = j_ := ⟨_, rfl⟩
        replace H : (if 0 ≤ (ji6) then (if 0 ≤ x6_2 then (dowellaw48_sets.l1 k2 a0 x3_1 x4_1 (Go.bits .or .i64 x5_2 (shl .i64 (Go.bits .and .i64 (shr .i64 x4_1 (ji6)) 1) x6_2)) (wrap64 (x6_2 + 1))) else (none)) else (none)) = some r := by first | (rw [hji6] at H; exact H) | (simp only [hji6] at H ⊢; exact H)
        have hji6w : (IntKind.i64.wrap ((wrap64 (a0 - 1)) - x6_2)) = ji6 := (i64_w _).trans hji6
        by_cases c7 : 0 ≤ (ji6)
        ·rw [if_pos c7] at H
         have c7b0 := eq_true c7
         have c7b1 : decide (0 ≤ (ji6)) = true := decide_eq_true c7
         clear c7
         obtain ⟨ji8, hji8⟩ : ∃ j_ : Int, (shr .i64 x4_1 (ji6)) = j_ := ⟨_, rfl⟩
         replace H : (if 0 ≤ x6_2 then (dowellaw48_sets.l1 k2 a0 x3_1 x4_1 (Go.bits .or .i64 x5_2 (shl .i64 (Go.bits .and .i64 (ji8) 1) x6_2)) (wrap64 (x6_2 + 1))) else (none)) = some r := by first | (rw [hji8] at H; exact H) | (simp only [hji8] at H ⊢; exact H)
         have hji8_ : (x4_1 / 2 ^ min (ji6).toNat 64) = ji8 := hji8
         have hji8z : (ji6) ≤ 64 → (x4_1 / 2 ^ (ji6).toNat) = ji8 := shr_small hji8
         by_cases c9 : 0 ≤ x6_2
         ·rw [if_pos c9] at H
          have c9b0 := eq_true c9
          have c9b1 : decide (0 ≤ x6_2) = true := decide_eq_true c9
          clear c9
          obtain ⟨ji10, hji10⟩ : ∃ j_ : Int, (shl .i64 (Go.bits .and .i64 (ji8) 1) x6_2) = j_ := ⟨_, rfl⟩
          replace H : (dowellaw48_sets.l1 k2 a0 x3_1 x4_1 (Go.bits .or .i64 x5_2 (ji10)) (wrap64 (x6_2 + 1))) = some r := by first | (rw [hji10] at H; exact H) | (simp only [hji10] at H ⊢; exact H)
          have hji10_ : (IntKind.i64.wrap ((Go.bits .and .i64 (ji8) 1) * 2 ^ min x6_2.toNat 64)) = ji10 := hji10
          have hji10z : x6_2 ≤ 64 → (IntKind.i64.wrap ((Go.bits .and .i64 (ji8) 1) * 2 ^ x6_2.toNat)) = ji10 := shl_small hji10
          have hji10y : (wrap64 ((Go.bits .and .i64 (ji8) 1) * 2 ^ min x6_2.toNat 64)) = ji10 := (i64_w _).symm.trans hji10_
          have hji10x : x6_2 ≤ 64 → (wrap64 ((Go.bits .and .i64 (ji8) 1) * 2 ^ x6_2.toNat)) = ji10 := fun h_ => (i64_w _).symm.trans (hji10z h_)
          have H' := Aside0.mk H
          clear H
          go_wp2
          go_roundg k2
          case measure => have := HK1.out; have := HK2.out; omega
          case rel => exact ⟨(Go.bits .or .i64 x5_2 (ji10)), (wrap64 (x6_2 + 1)), (by first | rfl | (simp; done) | (simp only [← hji10] <;> (first | rfl | simp)) | (simp [*]; done)), (by first | rfl | (simp; done) | (simp [*]; done)), H', ⟨by have := HK1.out; have := HK2.out; omega⟩, ⟨by (with_reducible repeat (first | apply Kd.R_alloc | apply Kd.R_drewN | apply Kd.R_drew)); exact HO_3.out⟩, ⟨by repeat (first | (with_reducible first | exact HB.out | apply below_alloc | apply pw_below_drewN | apply below_drew1) | exact HB.out)⟩⟩
         ·rw [if_neg c9] at H
          exact absurd H (by simp)
        ·rw [if_neg c7] at H
         exact absurd H (by simp)
       ·rw [if_neg c5] at H
        have c5b0 : decide (x6_2 < a0) = false := decide_eq_false c5
        clear c5
        by_cases c11 : x3_1.length < 17592186044416
        ·rw [if_pos c11] at H
         have LMc11 := Aside0.mk c11
         clear c11
         obtain ⟨y267, hy267⟩ : ∃ y_ : List Int, y_ = (x3_1 ++ [x5_2]) := ⟨_, rfl⟩
         replace H : (dowellaw48_sets.l0 k2 a0 y267 (wrap64 (x4_1 - 1))) = some r := by first | (rw [hy267]; with_reducible exact H) | (have H2_ := (Option.bind_some _ _).symm.trans H; rw [hy267]; with_reducible exact H2_) | (have H2_ := (Option.bind_some _ _).symm.trans H; with_reducible exact H2_) | with_reducible exact H | (rw [hy267]; exact H) | exact H
         have Ny267 := Aside0.mk hy267
         clear hy267
         have H' := Aside0.mk H
         clear H
         go_wp2_with (first | ((with_reducible refine gate_builtin (b := .append) (xs := #[.tmp 30, .tmp 32]) rfl ?_); at_builtin; refine Kd.R_append (Kd.int .i64) (w0 := w) w.heap.size rfl (.tmp 30) (.tmp 32) 50 3 (.int .i64 0) 8 rfl Try.underlying50 info3 rfl (by decide) (by omega) u3 x3_1 x5_2 [.int .i64 x5_2] (fun _ => True) (fun _ => False) rfl rfl ?aP (fun _ hk => hk.elim) ?aF ?aO ?aB ?aS ?aL ?_; (case aP => exact rfl); (case aB => exact (by repeat (first | (with_reducible first | exact HB.out | apply below_alloc | apply pw_below_drewN | apply below_drew1) | exact HB.out))); (case aF => exact (fun _ _ => trivial)); (case aO => exact (by (with_reducible repeat (first | apply Kd.R_alloc | apply Kd.R_drewN | apply Kd.R_drew)); exact HO_3.out)); (case aS => exact (below_size (by repeat (first | (with_reducible first | exact HB.out | apply below_alloc | apply pw_below_drewN | apply below_drew1) | exact HB.out)))); (case aL => have := LMc11.out; omega); intro v268 w12 ho hb hg hat; rw [← Ny267.out] at ho; have n0_ := Aside0.mk (hb); have n1_ := Aside0.mk (ho); clear HB; clear HO_3; have HB := n0_; have HO269 := n1_; clear n0_ n1_; clear ho hb hg hat))
         go_roundg k2
         case measure => have := HK1.out; have := HK2.out; omega
         case rel => exact ⟨(y267), (wrap64 (x4_1 - 1)), (by first | rfl | (simp; done) | (simp [*]; done)), H', ⟨by have := HK1.out; have := HK2.out; omega⟩, ⟨by (with_reducible repeat (first | apply Kd.R_alloc | apply Kd.R_drewN | apply Kd.R_drew)); exact HO269.out⟩, ⟨by repeat (first | (with_reducible first | exact HB.out | apply below_alloc | apply pw_below_drewN | apply below_drew1) | exact HB.out)⟩⟩
        ·rw [if_neg c11] at H
         exact absurd H (by simp)
    ·rw [if_neg c4] at H
     have c4b0 : decide (0 ≤ x4_1) = false := decide_eq_false c4
     clear c4
     obtain rfl := Option.some.inj H
     go_wp2
     go_ret
     exact ⟨_, by first | rfl | (simp [errW_none, errW_some] <;> rfl) | (simp only [← hji3]; first | rfl | (simp [errW_none, errW_some] <;> rfl)) | (simp [*, errW_none, errW_some] <;> rfl), by (with_reducible repeat (first | apply Kd.R_alloc | apply Kd.R_drewN | apply Kd.R_drew)); exact HO_3.out, by repeat (first | (with_reducible first | exact HB.out | apply below_alloc | apply pw_below_drewN | apply below_drew1) | exact HB.out)⟩
 ·rw [if_neg c2] at H
  exact absurd H (by simp)

end Go.Proofs.Ytbnmdlnpfikkcaa.PX
