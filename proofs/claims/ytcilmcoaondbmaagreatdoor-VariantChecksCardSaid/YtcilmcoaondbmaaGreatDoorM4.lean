/- checkChoice, Check, Count, names and First: what they return. -/
import Derived.Test.YtcilmcoaondbmaaGreatDoorK0
import Derived.Test.YtcilmcoaondbmaaGreatDoorM3
import Derived.WalkLawsBesides
import Derived.Test.YtcilmcoaondbmaaGreatDoorM1
namespace Go.Proofs.YtcilmcoaondbmaaGreatDoor.PX
open Go.RowKit Go.Proofs.YtcilmcoaondbmaaGreatDoorW.PrintWords Go.Proofs.YtcilmcoaondbmaaGreatDoorW.PrintLast Go.Proofs.YtcilmcoaondbmaaGreatDoorW.PrintMore
attribute [local go_sem] max2_int min2_int max_two min_two max_three min_three max_four min_four   -- for this text's walks alone
set_option linter.unusedVariables false
set_option linter.unusedSimpArgs false

/-! ### variant_checkChoice: function 61 -/
mutual
def variant_checkChoice.l0 : Nat → List (S62) → Int → List (S62) → Int → Int → Option (Int)
 | 0, _, _, _, _, _ => none
 | k + 1, x0, x1, x7, x8, x9 => if x9 < x8 then (if 0 ≤ x9 then (if x9 < (x7.length : Int) then (if ((rd_T62 x7 x9).f0) < 0 then (variant_checkChoice.j1 k x0 x1 x9 x7 x8 x9 true ((rd_T62 x7 x9).f0) ((rd_T62 x7 x9).f1)) else (variant_checkChoice.j1 k x0 x1 x9 x7 x8 x9 (decide (((rd_T62 x7 x9).f0) ≥ x1)) ((rd_T62 x7 x9).f0) ((rd_T62 x7 x9).f1))) else (none)) else (none)) else (some 0)
def variant_checkChoice.j1 : Nat → List (S62) → Int → Int → List (S62) → Int → Int → Bool → Int → Bool → Option (Int)
 | 0, _, _, _, _, _, _, _, _, _ => none
 | k + 1, x0, x1, x5, x7, x8, x9, x14, x149000, x149001 => if x14 = true then (some 10) else (if x5 > 0 then (if 0 ≤ (wrap64 (x5 - 1)) then (if (wrap64 (x5 - 1)) < (x0.length : Int) then (if x149000 ≤ ((rd_T62 x0 (wrap64 (x5 - 1))).f0) then (some 8) else (variant_checkChoice.l0 k x0 x1 x7 x8 (wrap64 (x9 + 1)))) else (none)) else (none)) else (variant_checkChoice.l0 k x0 x1 x7 x8 (wrap64 (x9 + 1))))
end
def variant_checkChoice.f (k : Nat) (l0 : List (S62)) (a1 : Int) : Option (Int) := variant_checkChoice.l0 k l0 a1 l0 (l0.length : Int) 0
theorem variant_checkChoice.mono_l : ∀ k, (∀ y0 y1 y2 y3 y4, LeO (variant_checkChoice.l0 k y0 y1 y2 y3 y4) (variant_checkChoice.l0 (k + 1) y0 y1 y2 y3 y4)) ∧ (∀ y0 y1 y2 y3 y4 y5 y6 y7 y8, LeO (variant_checkChoice.j1 k y0 y1 y2 y3 y4 y5 y6 y7 y8) (variant_checkChoice.j1 (k + 1) y0 y1 y2 y3 y4 y5 y6 y7 y8))
 | 0 => ⟨fun _ _ _ _ _ r h => by simp [variant_checkChoice.l0] at h, fun _ _ _ _ _ _ _ _ _ r h => by simp [variant_checkChoice.j1] at h⟩
 | k + 1 => by
  obtain ⟨ih0, ih1⟩ := variant_checkChoice.mono_l k
  refine ⟨?_, ?_⟩
  ·intro y0 y1 y2 y3 y4
   unfold variant_checkChoice.l0
   repeat' first
   | (with_reducible exact ih0 _ _ _ _ _)
   | (with_reducible exact ih1 _ _ _ _ _ _ _ _ _)
   | (with_reducible exact LeO.refl _)
   | (with_reducible exact LeO.none _)
   | (with_reducible refine LeO.ite ?_ ?_)
   | (with_reducible refine LeO.bind ?_ (fun _ => ?_))
   | exact ih0 _ _ _ _ _
   | exact ih1 _ _ _ _ _ _ _ _ _
   | exact LeO.none _
   | refine LeO.ite ?_ ?_
   | refine LeO.bind ?_ (fun _ => ?_)
  ·intro y0 y1 y2 y3 y4 y5 y6 y7 y8
   unfold variant_checkChoice.j1
   repeat' first
   | (with_reducible exact ih0 _ _ _ _ _)
   | (with_reducible exact ih1 _ _ _ _ _ _ _ _ _)
   | (with_reducible exact LeO.refl _)
   | (with_reducible exact LeO.none _)
   | (with_reducible refine LeO.ite ?_ ?_)
   | (with_reducible refine LeO.bind ?_ (fun _ => ?_))
   | exact ih0 _ _ _ _ _
   | exact ih1 _ _ _ _ _ _ _ _ _
   | exact LeO.none _
   | refine LeO.ite ?_ ?_
   | refine LeO.bind ?_ (fun _ => ?_)
theorem variant_checkChoice.mono : ∀ a0 a1 k, LeO (variant_checkChoice.f k a0 a1) (variant_checkChoice.f (k + 1) a0 a1) := by
 intro a0 a1 k
 obtain ⟨ih0, ih1⟩ := variant_checkChoice.mono_l k
 unfold variant_checkChoice.f
 repeat' first
   | (with_reducible exact ih0 _ _ _ _ _)
   | (with_reducible exact ih1 _ _ _ _ _ _ _ _ _)
   | (with_reducible exact LeO.refl _)
   | (with_reducible exact LeO.none _)
   | (with_reducible refine LeO.ite ?_ ?_)
   | (with_reducible refine LeO.bind ?_ (fun _ => ?_))
   | exact ih0 _ _ _ _ _
   | exact ih1 _ _ _ _ _ _ _ _ _
   | exact LeO.none _
   | refine LeO.ite ?_ ?_
   | refine LeO.bind ?_ (fun _ => ?_)
set_option maxHeartbeats 8000000 in
set_option maxRecDepth 100000 in
theorem variant_checkChoice.calls (k : Nat) (A0 : Option Addr) (c0 : Nat) (l0 : List (S62)) (a1 : Int) (r : Int) (w : World) (hr0 : Kd.C k62 w A0 l0.length l0) (hc0 : l0.length ≤ c0) (h : variant_checkChoice.f k l0 a1 = some r) :
  Calls Tryz.prog 26 #[.slice A0 l0.length c0, .int .i64 a1] w fun e w' => e = .returned (.int .i64 r) ∧ Below w.heap.size w w' := by
 have hu62 := Tryz.underlying73
 have HR0 := Aside0.mk hr0
 have HC0 := Aside0.mk hc0
 clear hr0 hc0
 have HB := Aside0.mk (Below.refl w.heap.size w)
 have H : (variant_checkChoice.l0 k l0 a1 l0 (l0.length : Int) 0) = some r := h
 clear h
 have H' := Aside0.mk H
 clear H
 go_enter Tryz.func26, Tryz.ntmps26
 go_wp2
 repeat (go_quiet (fail); try go_wp2)
 go_loopg [9] k (fun kq v9 w' => ∃ (x9_1 : Int), v9 = .int .i64 x9_1 ∧ Aside0 (variant_checkChoice.l0 kq l0 a1 l0 (l0.length : Int) x9_1 = some r) ∧ Aside0 (kq ≤ k) ∧ Aside0 (Below w.heap.size w w'))
 case atStart => exact ⟨(0), (by first | rfl | (simp; done) | (simp [*]; done)), H', ⟨Nat.le_refl _⟩, ⟨by repeat (first | (with_reducible first | exact HB.out | apply below_alloc | apply pw_below_drewN | apply below_drew1) | exact HB.out)⟩⟩
 case round =>
  clear H'
  try clear p2
  obtain ⟨x9_1, rfl, HA, HK1, HB⟩ := hrel
  cases gk with
  | zero => exact absurd HA.out (by simp [variant_checkChoice.l0])
  | succ k1 =>
   have H := HA.out
   clear HA
   simp only [variant_checkChoice.l0] at H
   by_cases c3 : x9_1 < (l0.length : Int)
   ·rw [if_pos c3] at H
    have c3b0 : decide (x9_1 < (l0.length : Int)) = true := decide_eq_true c3
    clear c3
    by_cases c4 : 0 ≤ x9_1
    ·rw [if_pos c4] at H
     have c4b0 : decide (0 ≤ x9_1) = true := decide_eq_true c4
     clear c4
     by_cases c5 : x9_1 < (l0.length : Int)
     ·rw [if_pos c5] at H
      have c5b0 : decide (x9_1 < (l0.length : Int)) = true := decide_eq_true c5
      clear c5
      have HC6 := Aside0.mk H
      clear H
      have p147 : 0 ≤ (x9_1 : Int) := of_decide_eq_true (by first | (with_reducible assumption) | assumption)
      have q147 : x9_1 < (l0.length : Int) := of_decide_eq_true (by first | (with_reducible assumption) | assumption)
      obtain ⟨ad147, e147, hx147_0, hx147_1⟩ := at_T62 HR0.out x9_1 p147 q147
      cases e147
      replace hx147_0 := (HB.out.cell (World.block_lt_of_cell? w _ hx147_0)).trans hx147_0
      replace hx147_1 := (HB.out.cell (World.block_lt_of_cell? w _ hx147_1)).trans hx147_1
      replace p147 := eq_true p147
      replace q147 := eq_true q147
      go_upto_region 4 with (first | ((with_reducible refine gate_dst (N := 6) rfl ?_); refine box_event ?hg (N := 6) ?hd (cs := #[.int .i64 0, .bool false]) (t := 73) ?hr ?_; (case hd => rfl); (case hg => rfl); (case hr => first | (go_simp; done) | (go_simp; rfl)); intro gb148 hg w7 hbox hb; have n0_ := Aside0.mk (below_step (by repeat (first | (with_reducible first | exact HB.out | apply below_alloc | apply pw_below_drewN | apply below_drew1) | exact HB.out)) hb); have n1_ := Aside0.mk (hbox); have n2_ := Aside0.mk ((by rw [hg]; exact (below_size (by repeat (first | (with_reducible first | exact HB.out | apply below_alloc | apply pw_below_drewN | apply below_drew1) | exact HB.out))) : w.heap.size ≤ gb148)); have n3_ := Aside0.mk ((by rw [hg]; exact (below_size (by repeat (first | (with_reducible first | exact HB.out | apply below_alloc | apply pw_below_drewN | apply below_drew1) | exact HB.out))) : w.heap.size ≤ gb148)); clear HB; have HB := n0_; have BK148 := n1_; have GW148 := n2_; have GE148 := n3_; clear n0_ n1_ n2_ n3_; clear hb hbox hg; have hcz8_0 : w7.cell? ⟨gb148, 0, none⟩ = some (.int .i64 0) := (blk_cell BK148.out 0).trans rfl; have hcz8_1 : w7.cell? ⟨gb148, 1, none⟩ = some (.bool false) := (blk_cell BK148.out 1).trans rfl; have hfz8_0 := blk_frozen BK148.out 0; have hfz8_1 := blk_frozen BK148.out 1))
      repeat (go_quiet (first | ((with_reducible refine gate_dst (N := 6) rfl ?_); refine box_event ?hg (N := 6) ?hd (cs := #[.int .i64 0, .bool false]) (t := 73) ?hr ?_; (case hd => rfl); (case hg => rfl); (case hr => first | (go_simp; done) | (go_simp; rfl)); intro gb148 hg w7 hbox hb; have n0_ := Aside0.mk (below_step (by repeat (first | (with_reducible first | exact HB.out | apply below_alloc | apply pw_below_drewN | apply below_drew1) | exact HB.out)) hb); have n1_ := Aside0.mk (hbox); have n2_ := Aside0.mk ((by rw [hg]; exact (below_size (by repeat (first | (with_reducible first | exact HB.out | apply below_alloc | apply pw_below_drewN | apply below_drew1) | exact HB.out))) : w.heap.size ≤ gb148)); have n3_ := Aside0.mk ((by rw [hg]; exact (below_size (by repeat (first | (with_reducible first | exact HB.out | apply below_alloc | apply pw_below_drewN | apply below_drew1) | exact HB.out))) : w.heap.size ≤ gb148)); clear HB; have HB := n0_; have BK148 := n1_; have GW148 := n2_; have GE148 := n3_; clear n0_ n1_ n2_ n3_; clear hb hbox hg; have hcz8_0 : w7.cell? ⟨gb148, 0, none⟩ = some (.int .i64 0) := (blk_cell BK148.out 0).trans rfl; have hcz8_1 : w7.cell? ⟨gb148, 1, none⟩ = some (.bool false) := (blk_cell BK148.out 1).trans rfl; have hfz8_0 := blk_frozen BK148.out 0; have hfz8_1 := blk_frozen BK148.out 1)); go_upto_region 4 with (first | ((with_reducible refine gate_dst (N := 6) rfl ?_); refine box_event ?hg (N := 6) ?hd (cs := #[.int .i64 0, .bool false]) (t := 73) ?hr ?_; (case hd => rfl); (case hg => rfl); (case hr => first | (go_simp; done) | (go_simp; rfl)); intro gb148 hg w7 hbox hb; have n0_ := Aside0.mk (below_step (by repeat (first | (with_reducible first | exact HB.out | apply below_alloc | apply pw_below_drewN | apply below_drew1) | exact HB.out)) hb); have n1_ := Aside0.mk (hbox); have n2_ := Aside0.mk ((by rw [hg]; exact (below_size (by repeat (first | (with_reducible first | exact HB.out | apply below_alloc | apply pw_below_drewN | apply below_drew1) | exact HB.out))) : w.heap.size ≤ gb148)); have n3_ := Aside0.mk ((by rw [hg]; exact (below_size (by repeat (first | (with_reducible first | exact HB.out | apply below_alloc | apply pw_below_drewN | apply below_drew1) | exact HB.out))) : w.heap.size ≤ gb148)); clear HB; have HB := n0_; have BK148 := n1_; have GW148 := n2_; have GE148 := n3_; clear n0_ n1_ n2_ n3_; clear hb hbox hg; have hcz8_0 : w7.cell? ⟨gb148, 0, none⟩ = some (.int .i64 0) := (blk_cell BK148.out 0).trans rfl; have hcz8_1 : w7.cell? ⟨gb148, 1, none⟩ = some (.bool false) := (blk_cell BK148.out 1).trans rfl; have hfz8_0 := blk_frozen BK148.out 0; have hfz8_1 := blk_frozen BK148.out 1)))
      (try simp only [Act.put, List.setIfInBounds_toArray, List.set_cons_zero, List.set_cons_succ])
      go_cut [14] (fun v14 wc => ∃ (kq : Nat) (x14_5 : Bool), v14 = .bool x14_5 ∧ Aside0 (variant_checkChoice.j1 kq l0 a1 x9_1 l0 (l0.length : Int) x9_1 x14_5 ((rd_T62 l0 x9_1).f0) ((rd_T62 l0 x9_1).f1) = some r) ∧ Aside0 (kq ≤ k1) ∧ Aside0 (wc.heap[gb148]? = some (.cells #[.int .i64 ((rd_T62 l0 x9_1).f0), .bool ((rd_T62 l0 x9_1).f1)] 73 (0, 0))) ∧ Aside0 (Below w.heap.size w wc))
      case first =>
       have H := HC6.out
       clear HC6
       by_cases c9 : ((rd_T62 l0 x9_1).f0) < 0
       ·rw [if_pos c9] at H
        have c9b0 : decide (((rd_T62 l0 x9_1).f0) < 0) = true := decide_eq_true c9
        clear c9
        (first | rw [c9b0] | (simp only [i64_w, i32_w]; rw [c9b0]) | skip)
        have H' := Aside0.mk H
        clear H
        have hcz10_0 : w7.cell? ⟨gb148, 0, none⟩ = some (.int .i64 0) := (blk_cell BK148.out 0).trans rfl
        have hcz10_1 : w7.cell? ⟨gb148, 1, none⟩ = some (.bool false) := (blk_cell BK148.out 1).trans rfl
        have hfz10_0 := blk_frozen BK148.out 0
        have hfz10_1 := blk_frozen BK148.out 1
        go_wp2
        repeat (go_quiet (fail); try go_wp2)
        go_meet
        case rel => exact ⟨_, (true), (by first | rfl | (simp; done) | (simp [*]; done)), H', ⟨by have := HK1.out; first | omega | exact Nat.le_refl _⟩, ⟨by (with_reducible repeat (first | refine blk_drewN ?_ _ | refine blk_drew ?_ | refine blk_alloc ?_ _)); refine blk_put (cs := #[.int .i64 ((rd_T62 l0 x9_1).f0), .bool false]) ?_ 1 _ rfl; (with_reducible repeat (first | refine blk_drewN ?_ _ | refine blk_drew ?_ | refine blk_alloc ?_ _)); refine blk_put (cs := #[.int .i64 0, .bool false]) ?_ 0 _ rfl; (with_reducible repeat (first | refine blk_drewN ?_ _ | refine blk_drew ?_ | refine blk_alloc ?_ _)); exact BK148.out⟩, ⟨by repeat (first | (with_reducible first | exact HB.out | apply below_alloc | apply pw_below_drewN | apply below_drew1 | refine below_set ?_ GE148.out) | exact HB.out)⟩⟩
       ·rw [if_neg c9] at H
        have c9b0 : decide (((rd_T62 l0 x9_1).f0) < 0) = false := decide_eq_false c9
        clear c9
        (first | rw [c9b0] | (simp only [i64_w, i32_w]; rw [c9b0]) | skip)
        have H' := Aside0.mk H
        clear H
        have hcz11_0 : w7.cell? ⟨gb148, 0, none⟩ = some (.int .i64 0) := (blk_cell BK148.out 0).trans rfl
        have hcz11_1 : w7.cell? ⟨gb148, 1, none⟩ = some (.bool false) := (blk_cell BK148.out 1).trans rfl
        have hfz11_0 := blk_frozen BK148.out 0
        have hfz11_1 := blk_frozen BK148.out 1
        go_wp2
        repeat (go_quiet (fail); try go_wp2)
        go_meet
        case rel => exact ⟨_, (decide (((rd_T62 l0 x9_1).f0) ≥ a1)), (by first | rfl | (simp; done) | (simp [*]; done)), H', ⟨by have := HK1.out; first | omega | exact Nat.le_refl _⟩, ⟨by (with_reducible repeat (first | refine blk_drewN ?_ _ | refine blk_drew ?_ | refine blk_alloc ?_ _)); refine blk_put (cs := #[.int .i64 ((rd_T62 l0 x9_1).f0), .bool false]) ?_ 1 _ rfl; (with_reducible repeat (first | refine blk_drewN ?_ _ | refine blk_drew ?_ | refine blk_alloc ?_ _)); refine blk_put (cs := #[.int .i64 0, .bool false]) ?_ 0 _ rfl; (with_reducible repeat (first | refine blk_drewN ?_ _ | refine blk_drew ?_ | refine blk_alloc ?_ _)); exact BK148.out⟩, ⟨by repeat (first | (with_reducible first | exact HB.out | apply below_alloc | apply pw_below_drewN | apply below_drew1 | refine below_set ?_ GE148.out) | exact HB.out)⟩⟩
      case rest =>
       clear HC6
       try clear p1
       try clear q1
       try clear hx1
       try clear p2
       try clear c3
       try clear c3b0
       try clear c4
       try clear c4b0
       try clear c5
       try clear c5b0
       try clear c6
       try clear c9
       try clear c9b0
       try clear hcz10_0
       try clear hcz10_1
       try clear hcz11_0
       try clear hcz11_1
       try clear hcz8_0
       try clear hcz8_1
       try clear hfz10_0
       try clear hfz10_1
       try clear hfz11_0
       try clear hfz11_1
       try clear hfz8_0
       try clear hfz8_1
       try clear hx147_0
       try clear hx147_1
       try clear p147
       try clear p2
       try clear q147
       obtain ⟨kq, x14_5, rfl, HA, HJ5, BK148, HB⟩ := hcut
       cases kq with
       | zero => exact absurd HA.out (by simp [variant_checkChoice.j1])
       | succ kj5 =>
        have H := HA.out
        clear HA
        simp only [variant_checkChoice.j1] at H
        by_cases c12 : x14_5 = true
        ·subst c12
         have H1 : (some 10) = some r := by rw [if_pos rfl] at H; exact H
         clear H
         have H := H1
         clear H1
         obtain rfl := Option.some.inj H
         go_wp2
         repeat (go_quiet (fail); try go_wp2)
         go_ret
         exact ⟨by first | rfl | (simp [errW_none, errW_some] <;> rfl) | (simp [*, errW_none, errW_some] <;> rfl), by repeat (first | (with_reducible first | exact HB.out | apply below_alloc | apply pw_below_drewN | apply below_drew1 | refine below_set ?_ GE148.out) | exact HB.out)⟩
        ·replace c12 := Bool.eq_false_iff.mpr c12
         subst c12
         have H1 : (if x9_1 > 0 then (if 0 ≤ (wrap64 (x9_1 - 1)) then (if (wrap64 (x9_1 - 1)) < (l0.length : Int) then (if ((rd_T62 l0 x9_1).f0) ≤ ((rd_T62 l0 (wrap64 (x9_1 - 1))).f0) then (some 8) else (variant_checkChoice.l0 kj5 l0 a1 l0 (l0.length : Int) (wrap64 (x9_1 + 1)))) else (none)) else (none)) else (variant_checkChoice.l0 kj5 l0 a1 l0 (l0.length : Int) (wrap64 (x9_1 + 1)))) = some r := by rw [if_neg (show ¬ (false = true) by decide)] at H; exact H
         clear H
         have H := H1
         clear H1
         by_cases c13 : x9_1 > 0
         ·rw [if_pos c13] at H
          have c13b0 : decide (0 < x9_1) = true := decide_eq_true c13
          clear c13
          obtain ⟨ji14, hji14⟩ : ∃ j_ : Int, (wrap64 (x9_1 - 1)) = j_ := ⟨_, rfl⟩
          replace H : (if 0 ≤ (ji14) then (if (ji14) < (l0.length : Int) then (if ((rd_T62 l0 x9_1).f0) ≤ ((rd_T62 l0 (ji14)).f0) then (some 8) else (variant_checkChoice.l0 kj5 l0 a1 l0 (l0.length : Int) (wrap64 (x9_1 + 1)))) else (none)) else (none)) = some r := by first | (rw [hji14] at H; exact H) | (simp only [hji14] at H ⊢; exact H)
          have hji14w : (IntKind.i64.wrap (x9_1 - 1)) = ji14 := (i64_w _).trans hji14
          by_cases c15 : 0 ≤ (ji14)
          ·rw [if_pos c15] at H
           have c15b0 : decide (0 ≤ (ji14)) = true := decide_eq_true c15
           clear c15
           by_cases c16 : (ji14) < (l0.length : Int)
           ·rw [if_pos c16] at H
            have c16b0 : decide ((ji14) < (l0.length : Int)) = true := decide_eq_true c16
            clear c16
            by_cases c17 : ((rd_T62 l0 x9_1).f0) ≤ ((rd_T62 l0 (ji14)).f0)
            ·rw [if_pos c17] at H
             have c17b0 : decide (((rd_T62 l0 x9_1).f0) ≤ ((rd_T62 l0 (ji14)).f0)) = true := decide_eq_true c17
             clear c17
             obtain rfl := Option.some.inj H
             have hcz18_0 : wc.cell? ⟨gb148, 0, none⟩ = some (.int .i64 ((rd_T62 l0 x9_1).f0)) := (blk_cell BK148.out 0).trans rfl
             have hcz18_1 : wc.cell? ⟨gb148, 1, none⟩ = some (.bool ((rd_T62 l0 x9_1).f1)) := (blk_cell BK148.out 1).trans rfl
             have hfz18_0 := blk_frozen BK148.out 0
             have hfz18_1 := blk_frozen BK148.out 1
             have p149 : 0 ≤ ((ji14) : Int) := of_decide_eq_true (by first | (with_reducible assumption) | assumption)
             have q149 : (ji14) < (l0.length : Int) := of_decide_eq_true (by first | (with_reducible assumption) | assumption)
             obtain ⟨ad149, e149, hx149_0, hx149_1⟩ := at_T62 HR0.out (ji14) p149 q149
             obtain rfl : ad147 = ad149 := (by injection e149)
             replace hx149_0 := (HB.out.cell (World.block_lt_of_cell? w _ hx149_0)).trans hx149_0
             replace hx149_1 := (HB.out.cell (World.block_lt_of_cell? w _ hx149_1)).trans hx149_1
             replace p149 := eq_true p149
             replace q149 := eq_true q149
             go_wp2
             repeat (go_quiet (fail); try go_wp2)
             go_ret
             exact ⟨by first | rfl | (simp [errW_none, errW_some] <;> rfl) | (simp only [← hji14]; first | rfl | (simp [errW_none, errW_some] <;> rfl)) | (simp [*, errW_none, errW_some] <;> rfl), by repeat (first | (with_reducible first | exact HB.out | apply below_alloc | apply pw_below_drewN | apply below_drew1 | refine below_set ?_ GE148.out) | exact HB.out)⟩
            ·rw [if_neg c17] at H
             have c17b0 : decide (((rd_T62 l0 x9_1).f0) ≤ ((rd_T62 l0 (ji14)).f0)) = false := decide_eq_false c17
             clear c17
             have H' := Aside0.mk H
             clear H
             have hcz19_0 : wc.cell? ⟨gb148, 0, none⟩ = some (.int .i64 ((rd_T62 l0 x9_1).f0)) := (blk_cell BK148.out 0).trans rfl
             have hcz19_1 : wc.cell? ⟨gb148, 1, none⟩ = some (.bool ((rd_T62 l0 x9_1).f1)) := (blk_cell BK148.out 1).trans rfl
             have hfz19_0 := blk_frozen BK148.out 0
             have hfz19_1 := blk_frozen BK148.out 1
             have p149 : 0 ≤ ((ji14) : Int) := of_decide_eq_true (by first | (with_reducible assumption) | assumption)
             have q149 : (ji14) < (l0.length : Int) := of_decide_eq_true (by first | (with_reducible assumption) | assumption)
             obtain ⟨ad149, e149, hx149_0, hx149_1⟩ := at_T62 HR0.out (ji14) p149 q149
             obtain rfl : ad147 = ad149 := (by injection e149)
             replace hx149_0 := (HB.out.cell (World.block_lt_of_cell? w _ hx149_0)).trans hx149_0
             replace hx149_1 := (HB.out.cell (World.block_lt_of_cell? w _ hx149_1)).trans hx149_1
             replace p149 := eq_true p149
             replace q149 := eq_true q149
             go_wp2
             repeat (go_quiet (fail); try go_wp2)
             go_roundg kj5
             case measure => have := HK1.out; have := HJ5.out; omega
             case rel => exact ⟨(wrap64 (x9_1 + 1)), (by first | rfl | (simp; done) | (simp [*]; done)), H', ⟨by have := HK1.out; have := HJ5.out; omega⟩, ⟨by repeat (first | (with_reducible first | exact HB.out | apply below_alloc | apply pw_below_drewN | apply below_drew1 | refine below_set ?_ GE148.out) | exact HB.out)⟩⟩
           ·rw [if_neg c16] at H
            exact absurd H (by simp)
          ·rw [if_neg c15] at H
           exact absurd H (by simp)
         ·rw [if_neg c13] at H
          have c13b0 : decide (0 < x9_1) = false := decide_eq_false c13
          clear c13
          have H' := Aside0.mk H
          clear H
          go_wp2
          repeat (go_quiet (fail); try go_wp2)
          go_roundg kj5
          case measure => have := HK1.out; have := HJ5.out; omega
          case rel => exact ⟨(wrap64 (x9_1 + 1)), (by first | rfl | (simp; done) | (simp [*]; done)), H', ⟨by have := HK1.out; have := HJ5.out; omega⟩, ⟨by repeat (first | (with_reducible first | exact HB.out | apply below_alloc | apply pw_below_drewN | apply below_drew1 | refine below_set ?_ GE148.out) | exact HB.out)⟩⟩
     ·rw [if_neg c5] at H
      exact absurd H (by simp)
    ·rw [if_neg c4] at H
     exact absurd H (by simp)
   ·rw [if_neg c3] at H
    have c3b0 : decide (x9_1 < (l0.length : Int)) = false := decide_eq_false c3
    clear c3
    obtain rfl := Option.some.inj H
    go_wp2
    repeat (go_quiet (fail); try go_wp2)
    go_ret
    exact ⟨by first | rfl | (simp [errW_none, errW_some] <;> rfl) | (simp [*, errW_none, errW_some] <;> rfl), by repeat (first | (with_reducible first | exact HB.out | apply below_alloc | apply pw_below_drewN | apply below_drew1) | exact HB.out)⟩

end Go.Proofs.YtcilmcoaondbmaaGreatDoor.PX
namespace Go.Proofs.YtcilmcoaondbmaaGreatDoor.PX
open Go.RowKit Go.Proofs.YtcilmcoaondbmaaGreatDoorW.PrintWords Go.Proofs.YtcilmcoaondbmaaGreatDoorW.PrintLast Go.Proofs.YtcilmcoaondbmaaGreatDoorW.PrintMore
set_option linter.unusedVariables false
set_option linter.unusedSimpArgs false

/-- The first error of n things in order, or 0. -/
def fE (e : Nat → Int) (n : Nat) : Int := match (List.range n).find? (fun i => e i != 0) with | some i => e i | none => 0
theorem fE_hit (e : Nat → Int) (n k : Nat) (hk : k < n) (h : ∀ j, j < k → e j = 0) (he : e k ≠ 0) : fE e n = e k := by
  have : (List.range n).find? (fun i => e i != 0) = some k := by
    rw [List.find?_range_eq_some]
    refine ⟨by simpa using he, by simpa using hk, fun j hj => by simpa using h j hj⟩
  simp [fE, this]
theorem fE_none (e : Nat → Int) (n : Nat) (h : ∀ j, j < n → e j = 0) : fE e n = 0 := by
  have : (List.range n).find? (fun i => e i != 0) = none := by
    rw [List.find?_eq_none]
    intro x hx
    simpa using h x (by simpa using hx)
  simp [fE, this]

/-- The error of literal i of some, n options being there. -/
def litE (n : Int) (l : List S62) (i : Nat) : Int :=
  if (rd_T62 l i).f0 < 0 ∨ n ≤ (rd_T62 l i).f0 then 10 else if 0 < i ∧ (rd_T62 l i).f0 ≤ (rd_T62 l ((i : Int) - 1)).f0 then 8 else 0
def litsE (n : Int) (l : List S62) : Int := fE (litE n l) l.length

theorem choice_from (l : List S62) (n : Int) (hl : l.length ≤ 9223372036854775807) (d : Nat) : ∀ (K i : Nat), i + d = l.length → 2 * d < K → (∀ j, j < i → litE n l j = 0) →
    variant_checkChoice.l0 K l n l (l.length : Int) i = some (litsE n l) := by
  induction d with
  | zero =>
    intro K i hi hK h
    obtain ⟨K, rfl⟩ : ∃ m, K = m + 1 := ⟨K - 1, by omega⟩
    simp only [variant_checkChoice.l0]
    rw [if_neg (by omega)]
    unfold litsE
    rw [fE_none _ _ fun j hj => h j (by omega)]
  | succ d ih =>
    intro K i hi hK h
    obtain ⟨K, rfl⟩ : ∃ m, K = m + 2 := ⟨K - 2, by omega⟩
    have hlt : i < l.length := by omega
    have hw : wrap64 ((i : Int) + 1) = ((i + 1 : Nat) : Int) := by unfold wrap64; omega
    have hnext : litE n l i = 0 → variant_checkChoice.l0 K l n l (l.length : Int) ((i + 1 : Nat) : Int) = some (litsE n l) := fun h0 =>
      ih K (i + 1) (by omega) (by omega) fun j hj => by
        by_cases e : j = i
        · rw [e]; exact h0
        · exact h j (by omega)
    have hhit : litE n l i ≠ 0 → litsE n l = litE n l i := fun h0 => fE_hit _ _ i hlt h h0
    simp only [variant_checkChoice.l0]
    rw [if_pos (by omega), if_pos (by omega), if_pos (by omega)]
    by_cases h1 : (rd_T62 l (i : Int)).f0 < 0
    · rw [if_pos h1]
      simp only [variant_checkChoice.j1]
      have e : litE n l i = 10 := by unfold litE; rw [if_pos (.inl h1)]
      rw [if_pos trivial, hhit (by rw [e]; decide), e]
    · rw [if_neg h1]
      simp only [variant_checkChoice.j1]
      by_cases h2 : (rd_T62 l (i : Int)).f0 ≥ n
      · have e : litE n l i = 10 := by unfold litE; rw [if_pos (.inr h2)]
        rw [if_pos (by simpa using h2), hhit (by rw [e]; decide), e]
      · rw [if_neg (by simpa using h2)]
        have ho : ¬ ((rd_T62 l (i : Int)).f0 < 0 ∨ n ≤ (rd_T62 l (i : Int)).f0) := by omega
        by_cases h3 : (i : Int) > 0
        · have hw1 : wrap64 ((i : Int) - 1) = (i : Int) - 1 := by unfold wrap64; omega
          rw [if_pos h3, hw1, if_pos (by omega), if_pos (by omega)]
          by_cases h4 : (rd_T62 l (i : Int)).f0 ≤ (rd_T62 l ((i : Int) - 1)).f0
          · have e : litE n l i = 8 := by unfold litE; rw [if_neg ho, if_pos ⟨by omega, h4⟩]
            rw [if_pos h4, hhit (by rw [e]; decide), e]
          · have e : litE n l i = 0 := by unfold litE; rw [if_neg ho, if_neg (fun hh => h4 hh.2)]
            rw [if_neg h4, hw]
            exact hnext e
        · have e : litE n l i = 0 := by unfold litE; rw [if_neg ho, if_neg (fun hh => h3 (by omega))]
          rw [if_neg h3, hw]
          exact hnext e
theorem choice_calls (A : Option Addr) (c : Nat) (l : List S62) (n : Int) (w : World) (hr : Kd.C k62 w A l.length l) (hc : l.length ≤ c) :
    Calls Tryz.prog 26 #[.slice A l.length c, .int .i64 n] w fun e w' => e = .returned (.int .i64 (litsE n l)) ∧ Below w.heap.size w w' :=
  variant_checkChoice.calls (2 * l.length + 1) A c l n (litsE n l) w hr hc (choice_from l n (Kd.C_max hr) l.length _ 0 (by omega) (by omega) fun j hj => absurd hj (Nat.not_lt_zero _))
end Go.Proofs.YtcilmcoaondbmaaGreatDoor.PX
namespace Go.Proofs.YtcilmcoaondbmaaGreatDoor.PX
open Go.RowKit Go.Proofs.YtcilmcoaondbmaaGreatDoorW.PrintWords Go.Proofs.YtcilmcoaondbmaaGreatDoorW.PrintLast Go.Proofs.YtcilmcoaondbmaaGreatDoorW.PrintMore
attribute [local go_sem] max2_int min2_int max_two min_two max_three min_three max_four min_four
set_option linter.unusedVariables false
set_option linter.unusedSimpArgs false

/-- a <= b, bytewise. -/
def leB (a b : ByteArray) : Bool := Op.bytesLess a.toList b.toList || a.toList == b.toList
abbrev rdS (l : List ByteArray) (i : Int) : ByteArray := rdOf ByteArray.empty l i
def optE (l : List ByteArray) (i : Nat) : Int := if nameB (rdS l i) = false then 11 else if 0 < i ∧ leB (rdS l i) (rdS l ((i : Int) - 1)) = true then 8 else 0
def ruleE (n : Int) (l : List S70) (i : Nat) : Int := if nameB (rd_T70 l i).f0 = false then 11 else if memB ((l.take i).map (·.f0)) (rd_T70 l i).f0 = true then 9 else litsE n (rd_T70 l i).f1
def guardE (n m : Int) (l : List S79) (i : Nat) : Int := if (rd_T79 l i).f0 < 0 ∨ m ≤ (rd_T79 l i).f0 then 10 else litsE n (rd_T79 l i).f1
def overE (n : Int) (dims : List S81) (l : List S83) (i : Nat) : Int :=
  if litsE n (rd_T83 l i).f0 ≠ 0 then litsE n (rd_T83 l i).f0 else if (rd_T83 l i).f1 < 0 ∨ (dims.length : Int) ≤ (rd_T83 l i).f1 then 10 else if (rd_T83 l i).f2.f0.toList = (rd_T81 dims (rd_T83 l i).f1).f0.toList then 0 else 17
/-- What Check returns. -/
def chk (D : Fam) : Int :=
  if 12 < D.opts.length ∨ 48 < D.rules.length ∨ 48 < D.guards.length ∨ 48 < D.overs.length then 6
  else if fE (optE D.opts) D.opts.length ≠ 0 then fE (optE D.opts) D.opts.length
  else if fE (ruleE D.opts.length D.rules) D.rules.length ≠ 0 then fE (ruleE D.opts.length D.rules) D.rules.length
  else if fE (guardE D.opts.length D.insts.length D.guards) D.guards.length ≠ 0 then fE (guardE D.opts.length D.insts.length D.guards) D.guards.length
  else fE (overE D.opts.length D.dims D.overs) D.overs.length

/-- The box of a family: its cells. -/
abbrev Box (w : World) (g : Nat) (D : Fam) (H : Hd) : Prop := w.heap[g]? = some (.cells (fcells D H) 36 (0, 0))
theorem blk_below {W W' : World} {g : Nat} {o : Obj} (h : W.heap[g]? = some o) (hb : Below W.heap.size W W') : W'.heap[g]? = some o := (hb.block g (blk_lt h)).trans h

theorem chk_opts {D : Fam} (hs : D.opts.length ≤ 12 ∧ D.rules.length ≤ 48 ∧ D.guards.length ≤ 48 ∧ D.overs.length ≤ 48) {k : Nat} (hk : k < D.opts.length) (h : ∀ j, j < k → optE D.opts j = 0) (he : optE D.opts k ≠ 0) : chk D = optE D.opts k := by
  have e := fE_hit _ _ k hk h he
  unfold chk
  rw [if_neg (by omega), e, if_pos he]
theorem chk_rules {D : Fam} (hs : D.opts.length ≤ 12 ∧ D.rules.length ≤ 48 ∧ D.guards.length ≤ 48 ∧ D.overs.length ≤ 48) (ho : fE (optE D.opts) D.opts.length = 0) {k : Nat} (hk : k < D.rules.length) (h : ∀ j, j < k → ruleE D.opts.length D.rules j = 0) (he : ruleE D.opts.length D.rules k ≠ 0) : chk D = ruleE D.opts.length D.rules k := by
  have e := fE_hit _ _ k hk h he
  unfold chk
  rw [if_neg (by omega), if_neg (by rw [ho]; simp), e, if_pos he]
theorem ruleE_bad {n : Int} {l : List S70} {i : Nat} (h : nameB (rd_T70 l i).f0 = false) : ruleE n l i = 11 := by unfold ruleE; rw [if_pos h]
theorem ruleE_twice {n : Int} {l : List S70} {i : Nat} (h : nameB (rd_T70 l i).f0 = true) (h1 : memB ((l.take i).map (·.f0)) (rd_T70 l i).f0 = true) : ruleE n l i = 9 := by unfold ruleE; rw [if_neg (by rw [h]; decide), if_pos h1]
theorem ruleE_lits {n : Int} {l : List S70} {i : Nat} (h : nameB (rd_T70 l i).f0 = true) (h1 : memB ((l.take i).map (·.f0)) (rd_T70 l i).f0 = false) : ruleE n l i = litsE n (rd_T70 l i).f1 := by unfold ruleE; rw [if_neg (by rw [h]; decide), if_neg (by rw [h1]; decide)]
theorem chk_guards {D : Fam} (hs : D.opts.length ≤ 12 ∧ D.rules.length ≤ 48 ∧ D.guards.length ≤ 48 ∧ D.overs.length ≤ 48) (ho : fE (optE D.opts) D.opts.length = 0) (hr : fE (ruleE D.opts.length D.rules) D.rules.length = 0) {k : Nat} (hk : k < D.guards.length) (h : ∀ j, j < k → guardE D.opts.length D.insts.length D.guards j = 0) (he : guardE D.opts.length D.insts.length D.guards k ≠ 0) : chk D = guardE D.opts.length D.insts.length D.guards k := by
  have e := fE_hit _ _ k hk h he
  unfold chk
  rw [if_neg (by omega), if_neg (by rw [ho]; simp), if_neg (by rw [hr]; simp), e, if_pos he]
theorem chk_overs {D : Fam} (hs : D.opts.length ≤ 12 ∧ D.rules.length ≤ 48 ∧ D.guards.length ≤ 48 ∧ D.overs.length ≤ 48) (ho : fE (optE D.opts) D.opts.length = 0) (hr : fE (ruleE D.opts.length D.rules) D.rules.length = 0) (hg : fE (guardE D.opts.length D.insts.length D.guards) D.guards.length = 0) : chk D = fE (overE D.opts.length D.dims D.overs) D.overs.length := by
  unfold chk
  rw [if_neg (by omega), if_neg (by rw [ho]; simp), if_neg (by rw [hr]; simp), if_neg (by rw [hg]; simp)]
theorem guardE_no {n m : Int} {l : List S79} {i : Nat} (h : (rd_T79 l i).f0 < 0 ∨ m ≤ (rd_T79 l i).f0) : guardE n m l i = 10 := by unfold guardE; rw [if_pos h]
theorem guardE_lits {n m : Int} {l : List S79} {i : Nat} (h : ¬ ((rd_T79 l i).f0 < 0 ∨ m ≤ (rd_T79 l i).f0)) : guardE n m l i = litsE n (rd_T79 l i).f1 := by unfold guardE; rw [if_neg h]
theorem overE_lits {n : Int} {ds : List S81} {l : List S83} {i : Nat} {e : Int} (h : litsE n (rd_T83 l i).f0 = e) (he : e ≠ 0) : overE n ds l i = e := by unfold overE; rw [h, if_pos he]
theorem overE_no {n : Int} {ds : List S81} {l : List S83} {i : Nat} (h : litsE n (rd_T83 l i).f0 = 0) (h1 : (rd_T83 l i).f1 < 0 ∨ (ds.length : Int) ≤ (rd_T83 l i).f1) : overE n ds l i = 10 := by unfold overE; rw [h, if_neg (by simp), if_pos h1]
theorem overE_name {n : Int} {ds : List S81} {l : List S83} {i : Nat} (h : litsE n (rd_T83 l i).f0 = 0) (h1 : ¬ ((rd_T83 l i).f1 < 0 ∨ (ds.length : Int) ≤ (rd_T83 l i).f1)) (h2 : ¬ (rd_T83 l i).f2.f0.toList = (rd_T81 ds (rd_T83 l i).f1).f0.toList) : overE n ds l i = 17 := by unfold overE; rw [h, if_neg (by simp), if_neg h1, if_neg h2]
theorem overE_ok {n : Int} {ds : List S81} {l : List S83} {i : Nat} (h : litsE n (rd_T83 l i).f0 = 0) (h1 : ¬ ((rd_T83 l i).f1 < 0 ∨ (ds.length : Int) ≤ (rd_T83 l i).f1)) (h2 : (rd_T83 l i).f2.f0.toList = (rd_T81 ds (rd_T83 l i).f1).f0.toList) : overE n ds l i = 0 := by unfold overE; rw [h, if_neg (by simp), if_neg h1, if_pos h2]
theorem nameB_size {s : ByteArray} (h : nameB s = true) : s.size ≤ maxLen := by
  unfold nameB at h
  have : s.size ≤ 40 := by simp at h; omega
  unfold maxLen; omega
theorem take_names {l : List S70} {k : Nat} (h : k < l.length) : (l.take (k + 1)).map (·.f0) = (l.take k).map (·.f0) ++ [(rd_T70 l (k : Int)).f0] := by
  rw [List.take_succ_eq_append_getElem h, List.map_append]
  simp [rd_T70, List.getD_eq_getElem?_getD, h]
theorem optE_bad {l : List ByteArray} {i : Nat} (h : nameB (rdS l i) = false) : optE l i = 11 := by unfold optE; rw [if_pos h]
theorem optE_order {l : List ByteArray} {i : Nat} (h : nameB (rdS l i) = true) (h0 : 0 < i) (h1 : leB (rdS l i) (rdS l ((i : Int) - 1)) = true) : optE l i = 8 := by unfold optE; rw [if_neg (by rw [h]; decide), if_pos ⟨h0, h1⟩]
theorem optE_ok {l : List ByteArray} {i : Nat} (h : nameB (rdS l i) = true) (h1 : ¬ (0 < i ∧ leB (rdS l i) (rdS l ((i : Int) - 1)) = true)) : optE l i = 0 := by unfold optE; rw [if_neg (by rw [h]; decide), if_neg h1]
set_option maxHeartbeats 8000000 in
set_option maxRecDepth 100000 in
theorem check_small (D : Fam) (H : Hd) (w : World) (HF : Hid (FamAt w D H)) (h : ¬ (12 < D.opts.length ∨ 48 < D.rules.length ∨ 48 < D.guards.length ∨ 48 < D.overs.length)) :
    Calls Tryz.prog 6 #[fv D H] w fun e w' => e = .returned (.int .i64 (chk D)) ∧ Below w.heap.size w w' := by
  have hu41 := Tryz.underlying36
  obtain ⟨A1, A2, A3, A4, A5, A6, A7, A8, A9, c1, c2, c3, c4, c5, c6, c7, c8, c9⟩ := H
  show Calls Tryz.prog 6 #[.agg #[.string D.nm, .slice A1 D.parts.length c1, .slice A2 D.insts.length c2, .slice A3 D.dims.length c3, .slice A4 D.cons.length c4, .slice A5 D.reqs.length c5, .slice A6 D.opts.length c6, .slice A7 D.rules.length c7, .slice A8 D.guards.length c8, .slice A9 D.overs.length c9]] w _
  have h1 : D.opts.length ≤ 12 := by omega
  have h2 : D.rules.length ≤ 48 := by omega
  have h3 : D.guards.length ≤ 48 := by omega
  have h4 : D.overs.length ≤ 48 := by omega
  have HN := Lib.hid h
  clear h
  have q1 : decide (12 < (D.opts.length : Int)) = false := by simp; omega
  have HS := Aside0.mk (And.intro h1 (And.intro h2 (And.intro h3 h4)))
  go_enter Tryz.func6, Tryz.ntmps6
  go_upto_region 1 with (fail)
  go_cut [31] (fun v31 wc => v31 = .bool false ∧ Aside0 (Below w.heap.size w wc) ∧ Aside0 (wc.heap[w.heap.size]? = some (.cells (fcells D ⟨A1, A2, A3, A4, A5, A6, A7, A8, A9, c1, c2, c3, c4, c5, c6, c7, c8, c9⟩) 36 (0, 0))))
  case first =>
    go_wp2_with fail
    all_goals
      go_meet
      case rel => exact ⟨by simp; omega, ⟨(Below.refl _ _).alloc (Nat.le_refl _) _⟩, ⟨heap_alloc_new _ _⟩⟩
  case rest =>
    obtain ⟨rfl, HB, HK⟩ := hcut
    have b1 : (D.opts.length : Int) ≤ 12 := by omega
    have b2 : (D.rules.length : Int) ≤ 48 := by omega
    have b3 : (D.guards.length : Int) ≤ 48 := by omega
    have b4 : (D.overs.length : Int) ≤ 48 := by omega
    clear q1 h1 h2 h3 h4
    have hc6 : wc.cell? ⟨w.heap.size, 6, none⟩ = some (.slice A6 D.opts.length c6) := (blk_cell HK.out 6).trans rfl
    go_wp2_with fail
    clear hc6
    go_loopg [35] D.opts.length (fun gk v35 w' => ∃ k : Nat, v35 = .int .i64 k ∧ Aside0 (k ≤ D.opts.length) ∧ Aside0 (D.opts.length - k ≤ gk) ∧ Aside0 (∀ j, j < k → optE D.opts j = 0) ∧ Aside0 (Below w.heap.size w w') ∧ Aside0 (Box w' w.heap.size D ⟨A1, A2, A3, A4, A5, A6, A7, A8, A9, c1, c2, c3, c4, c5, c6, c7, c8, c9⟩))
    case atStart => exact ⟨0, rfl, ⟨Nat.zero_le _⟩, ⟨Nat.sub_le _ _⟩, ⟨fun j hj => absurd hj (Nat.not_lt_zero _)⟩, HB, HK⟩
    case round =>
      clear HB HK
      obtain ⟨k, rfl, HL, HG, HE, HB, HK⟩ := hrel
      by_cases hlt : k < D.opts.length
      · have q0 : decide ((k : Int) < (D.opts.length : Int)) = true := by simpa using hlt
        have q1 : decide (k < D.opts.length) = true := by simpa using hlt
        have p0 : 0 ≤ (k : Int) := by omega
        have p1 : (k : Int) < (D.opts.length : Int) := by omega
        obtain ⟨ad, e0, hx0⟩ := Kd.at_string HF.out.r6 k p0 p1
        replace e0 : A6 = some ad := e0
        cases e0
        replace hx0 := (HB.out.cell (World.block_lt_of_cell? w _ hx0)).trans hx0
        simp only [Int.toNat_natCast] at hx0
        have HX := Aside0.mk hx0
        have HLT := Aside0.mk hlt
        have CN := Lib.hid (isName_calls (rdS D.opts k))
        clear hlt
        cases hn : nameB (rdS D.opts k) with
        | false =>
          go_wp2_with fail
          refine (CN.out _).mono ?_
          rintro e w2 ⟨rfl, hb⟩
          rw [hn]
          go_wp2_with fail
          go_ret
          refine ⟨?_, below_step HB.out hb⟩
          have e1 := optE_bad hn
          rw [chk_opts HS.out HLT.out HE.out (by rw [e1]; decide), e1]
          rfl
        | true =>
          go_wp2_with fail
          refine (CN.out _).mono ?_
          rintro e w2 ⟨rfl, hb⟩
          rw [hn]
          have HN := Aside0.mk hn
          clear hn hx0
          have HB2 := Aside0.mk (below_step HB.out hb)
          have HK2 := Aside0.mk (blk_below HK.out hb)
          have hc6 : w2.cell? ⟨w.heap.size, 6, none⟩ = some (.slice (some ad) D.opts.length c6) := (blk_cell HK2.out 6).trans rfl
          by_cases hk : 0 < k
          · have q2 : decide (0 < (k : Int)) = true := by simpa using hk
            have q3 : decide (0 < k) = true := by simpa using hk
            obtain ⟨q, hq⟩ : ∃ q : Int, IntKind.i64.wrap ((k : Int) - 1) = q := ⟨_, rfl⟩
            have hqe : q = (k : Int) - 1 := by rw [← hq]; exact IntWalk.i64_in _ (by omega)
            have r0 : 0 ≤ q := by omega
            have r1 : q < (D.opts.length : Int) := by omega
            obtain ⟨ad2, e2, hx2⟩ := Kd.at_string HF.out.r6 q r0 r1
            have e2' : (some ad : Option Addr) = some ad2 := e2
            cases e2'
            replace hx2 := (HB2.out.cell (World.block_lt_of_cell? w _ hx2)).trans hx2
            have HQE := Aside0.mk hqe
            have HKP := Aside0.mk hk
            clear hqe hk
            have hbad : leB (rdS D.opts k) (rdS D.opts q) = true → chk D = 8 := fun hle => by
              have e1 := optE_order HN.out HKP.out (by rw [← HQE.out]; exact hle)
              rw [chk_opts HS.out HLT.out HE.out (by rw [e1]; decide), e1]
            have hgood : leB (rdS D.opts k) (rdS D.opts q) = false → optE D.opts k = 0 := fun hle =>
              optE_ok HN.out (by rw [← HQE.out, hle]; simp)
            have HBAD := Lib.hid hbad
            have HGOOD := Lib.hid hgood
            clear hbad hgood
            cases h1 : Op.bytesLess (rdS D.opts k).toList (rdS D.opts q).toList with
            | true =>
              go_wp2_with fail
              go_ret
              refine ⟨?_, HB2.out⟩
              rw [HBAD.out (by simp [leB, h1])]
              rfl
            | false =>
              cases h2 : ((rdS D.opts k).toList == (rdS D.opts q).toList) with
              | true =>
                go_wp2_with fail
                go_ret
                refine ⟨?_, HB2.out⟩
                rw [HBAD.out (by simp [leB, h1, h2])]
                rfl
              | false =>
                go_wp2_with fail
                go_roundg (D.opts.length - (k + 1))
                case measure => have := HLT.out; have := HG.out; omega
                case rel =>
                  refine ⟨k + 1, by go_num, ⟨HLT.out⟩, ⟨Nat.le_refl _⟩, ⟨fun j hj => ?_⟩, HB2, HK2⟩
                  by_cases e : j = k
                  · rw [e]; exact HGOOD.out (by simp [leB, h1, h2])
                  · exact HE.out j (by omega)
          · have q2 : decide (0 < (k : Int)) = false := by simpa using hk
            have q3 : decide (0 < k) = false := by simpa using hk
            have HKP := Aside0.mk hk
            clear hk
            go_wp2_with fail
            go_roundg (D.opts.length - (k + 1))
            case measure => have := HLT.out; have := HG.out; omega
            case rel =>
              refine ⟨k + 1, by go_num, ⟨HLT.out⟩, ⟨Nat.le_refl _⟩, ⟨fun j hj => ?_⟩, HB2, HK2⟩
              by_cases e : j = k
              · rw [e]; exact optE_ok HN.out (fun h => HKP.out h.1)
              · exact HE.out j (by omega)
      · have q0 : decide ((k : Int) < (D.opts.length : Int)) = false := by simpa using hlt
        have q1 : decide (k < D.opts.length) = false := by simpa using hlt
        have HO : Hid (fE (optE D.opts) D.opts.length = 0) := Lib.hid (fE_none _ _ fun j hj => HE.out j (by omega))
        clear hlt
        have hc7 : wr.cell? ⟨w.heap.size, 7, none⟩ = some (.slice A7 D.rules.length c7) := (blk_cell HK.out 7).trans rfl
        have hmm := @run_makeMap Tryz.prog
        have hlt0 : w.heap.size < wr.heap.size := blk_lt HK.out
        have HB1 := Aside0.mk (below_alloc HB.out (.map #[] 0))
        have HK1 := Aside0.mk (blk_alloc HK.out (.map #[] 0))
        have HM1 := Aside0.mk (known_made wr)
        go_wp2_with fail
        clear hc7 hmm hlt0
        obtain ⟨wm, hwm⟩ : ∃ wm, wm = wr.heap.size := ⟨_, rfl⟩
        rw [← hwm] at HM1 ⊢
        have HWM : Aside0 (w.heap.size < wm) := ⟨by rw [hwm]; exact blk_lt HK.out⟩
        clear hwm
        go_loopg [62] D.rules.length (fun gk v62 w' => ∃ k : Nat, v62 = .int .i64 k ∧ Aside0 (k ≤ D.rules.length) ∧ Aside0 (D.rules.length - k ≤ gk) ∧ Aside0 (∀ j, j < k → ruleE D.opts.length D.rules j = 0) ∧ Aside0 (Below w.heap.size w w') ∧ Aside0 (Box w' w.heap.size D ⟨A1, A2, A3, A4, A5, A6, A7, A8, A9, c1, c2, c3, c4, c5, c6, c7, c8, c9⟩) ∧ Aside0 (KnownAt w' wm ((D.rules.take k).map (·.f0))))
        case atStart => exact ⟨0, rfl, ⟨Nat.zero_le _⟩, ⟨Nat.sub_le _ _⟩, ⟨fun j hj => absurd hj (Nat.not_lt_zero _)⟩, HB1, HK1, ⟨HM1.out⟩⟩
        case round =>
          clear HB HK HB1 HK1 HM1 HE HL HG
          obtain ⟨k, rfl, HL, HG, HE, HB, HK, HM⟩ := hrel
          by_cases hlt : k < D.rules.length
          · have q0 : decide ((k : Int) < (D.rules.length : Int)) = true := by simpa using hlt
            have q1 : decide (k < D.rules.length) = true := by simpa using hlt
            have p0 : 0 ≤ (k : Int) := by omega
            have p1 : (k : Int) < (D.rules.length : Int) := by omega
            obtain ⟨ad, B1, d1, e0, hx0, hx1, hl1, hC1⟩ := at_T70 HF.out.r7 k p0 p1
            replace e0 : A7 = some ad := e0
            cases e0
            replace hx0 := (HB.out.cell (World.block_lt_of_cell? w _ hx0)).trans hx0
            replace hx1 := (HB.out.cell (World.block_lt_of_cell? w _ hx1)).trans hx1
            simp only [Int.toNat_natCast] at hx0 hx1
            have HL1 := Aside0.mk hl1
            have HC1 := Aside0.mk hC1
            have HLT := Aside0.mk hlt
            have CN := Lib.hid (isName_calls (rd_T70 D.rules k).f0)
            clear hlt hl1 hC1
            cases hn : nameB (rd_T70 D.rules k).f0 with
            | false =>
              go_wp2_with fail
              refine (CN.out _).mono ?_
              rintro e w2 ⟨rfl, hb⟩
              rw [hn]
              go_wp2_with fail
              go_ret
              refine ⟨?_, below_step (below_alloc HB.out _) hb⟩
              have e1 := ruleE_bad (n := D.opts.length) hn
              rw [chk_rules HS.out HO.out HLT.out HE.out (by rw [e1]; decide), e1]
              rfl
            | true =>
              have HN1 := Aside0.mk hn
              clear hn
              have hM := HM.out
              have hwlt : w.heap.size < wr.heap.size := blk_lt HK.out
              have HWL := Aside0.mk hwlt
              clear hwlt
              have HML : Aside0 (wm < wr.heap.size) := ⟨by obtain ⟨D0, h1, _⟩ := hM; exact h1.lt⟩
              clear hM
              go_wp2_with fail
              refine (CN.out _).mono ?_
              rintro e w2 ⟨rfl, hb⟩
              rw [HN1.out]
              have hba := below_then (B := wr.heap.size) ((Below.refl _ wr).alloc (Nat.le_refl _) (.cells #[.string (rd_T70 D.rules k).f0, .slice B1 (rd_T70 D.rules k).f1.length d1] 40)) (by simp) hb
              have hr := blk_below (heap_alloc_new wr (.cells #[.string (rd_T70 D.rules k).f0, .slice B1 (rd_T70 D.rules k).f1.length d1] 40)) hb
              have HR := Aside0.mk hr
              have HB2 := Aside0.mk (below_step HB.out hba)
              have HK2 := Aside0.mk (blk_below HK.out hba)
              have HM2 := Aside0.mk (known_kept HM.out hba)
              have HBA := Aside0.mk hba
              clear hba hr hx0 hx1
              have hr0 : w2.cell? ⟨wr.heap.size, 0, none⟩ = some (.string (rd_T70 D.rules k).f0) := (blk_cell HR.out 0).trans rfl
              have hlook := known_look HM2.out (rd_T70 D.rules k).f0 (nameB_size HN1.out)
              have HMX : Hid (∀ b, memB ((D.rules.take k).map (·.f0)) (rd_T70 D.rules k).f0 = b → b = true → chk D = 9) := Lib.hid fun b h1 h2 => by
                have e1 := ruleE_twice (n := D.opts.length) HN1.out (h1.trans h2)
                rw [chk_rules HS.out HO.out HLT.out HE.out (by rw [e1]; decide), e1]
              cases hmb : memB ((D.rules.take k).map (·.f0)) (rd_T70 D.rules k).f0 with
              | true =>
                rw [hmb] at hlook
                have HMB := Aside0.mk hmb
                clear hmb
                go_wp2_with fail
                go_ret
                refine ⟨?_, HB2.out⟩
                rw [HMX.out _ HMB.out rfl]
                rfl
              | false =>
                rw [hmb] at hlook
                have HMB := Aside0.mk hmb
                clear hmb
                obtain ⟨w3, hput, hkn, hgr⟩ := known_put HM2.out (rd_T70 D.rules k).f0 (nameB_size HN1.out) (by have := HS.out; have := HL.out; unfold maxLen; simp; omega)
                have HKN := Aside0.mk hkn
                have HB3 := Aside0.mk (pw_below_grown HB2.out (some wm) HB2.out.size hgr (fun q hq => by have := HWM.out; cases hq; omega))
                have HK3 := Aside0.mk (blk_grown HK2.out hgr (by have := HWM.out; intro h; cases h; omega))
                have HR3 := Aside0.mk (blk_grown HR.out hgr (by have := HML.out; intro h; cases h; omega))
                clear hkn hgr
                have hs0 : w3.cell? ⟨wr.heap.size, 1, none⟩ = some (.slice B1 (rd_T70 D.rules k).f1.length d1) := (blk_cell HR3.out 1).trans rfl
                have hs1 : w3.cell? ⟨w.heap.size, 6, none⟩ = some (.slice A6 D.opts.length c6) := (blk_cell HK3.out 6).trans rfl
                have CC := Lib.hid (choice_calls B1 d1 (rd_T70 D.rules k).f1 D.opts.length w3 (Kd.C_below HC1.out HB3.out) HL1.out)
                go_wp2_with fail
                refine CC.out.mono ?_
                rintro e w4 ⟨rfl, hb4⟩
                have HB4 := Aside0.mk (below_step HB3.out hb4)
                have HK4 := Aside0.mk (blk_below HK3.out hb4)
                have HKN4 := Aside0.mk (known_kept HKN.out hb4)
                clear hb4 hs0 hs1 hput hlook hr0
                have he := ruleE_lits (n := D.opts.length) HN1.out HMB.out
                generalize litsE (D.opts.length : Int) (rd_T70 D.rules k).f1 = le at he
                have HEQ := Aside0.mk he
                clear he
                by_cases hz : le = 0
                · subst hz
                  go_wp2_with fail
                  go_roundg (D.rules.length - (k + 1))
                  case measure => have := HLT.out; have := HG.out; omega
                  case rel =>
                    refine ⟨k + 1, by go_num, ⟨HLT.out⟩, ⟨Nat.le_refl _⟩, ⟨fun j hj => ?_⟩, HB4, HK4, ⟨by rw [take_names HLT.out]; exact HKN4.out⟩⟩
                    by_cases e : j = k
                    · rw [e]; exact HEQ.out
                    · exact HE.out j (by omega)
                · have z1 : (le == 0) = false := by simpa using hz
                  have z2 : (le != 0) = true := by simpa using hz
                  have HZ := Aside0.mk hz
                  clear hz
                  go_wp2_with fail
                  go_ret
                  refine ⟨?_, HB4.out⟩
                  rw [chk_rules HS.out HO.out HLT.out HE.out (by rw [HEQ.out]; exact HZ.out), HEQ.out]
                  rfl
          · have q0 : decide ((k : Int) < (D.rules.length : Int)) = false := by simpa using hlt
            have q1 : decide (k < D.rules.length) = false := by simpa using hlt
            have HRZ : Hid (fE (ruleE D.opts.length D.rules) D.rules.length = 0) := Lib.hid (fE_none _ _ fun j hj => HE.out j (by omega))
            clear hlt
            have hc8 : wr.cell? ⟨w.heap.size, 8, none⟩ = some (.slice A8 D.guards.length c8) := (blk_cell HK.out 8).trans rfl
            go_wp2_with fail
            clear hc8 q0 q1
            go_loopg [92] D.guards.length (fun gk v92 w' => ∃ k : Nat, v92 = .int .i64 k ∧ Aside0 (k ≤ D.guards.length) ∧ Aside0 (D.guards.length - k ≤ gk) ∧ Aside0 (∀ j, j < k → guardE D.opts.length D.insts.length D.guards j = 0) ∧ Aside0 (Below w.heap.size w w') ∧ Aside0 (Box w' w.heap.size D ⟨A1, A2, A3, A4, A5, A6, A7, A8, A9, c1, c2, c3, c4, c5, c6, c7, c8, c9⟩))
            case atStart => exact ⟨0, rfl, ⟨Nat.zero_le _⟩, ⟨Nat.sub_le _ _⟩, ⟨fun j hj => absurd hj (Nat.not_lt_zero _)⟩, HB, HK⟩
            case round =>
              clear HB HK HE HL HG HM
              obtain ⟨k, rfl, HL, HG, HE, HB, HK⟩ := hrel
              by_cases hlt : k < D.guards.length
              · have q0 : decide ((k : Int) < (D.guards.length : Int)) = true := by simpa using hlt
                have q1 : decide (k < D.guards.length) = true := by simpa using hlt
                have p0 : 0 ≤ (k : Int) := by omega
                have p1 : (k : Int) < (D.guards.length : Int) := by omega
                obtain ⟨ad, B1, d1, e0, hx0, hx1, hl1, hC1⟩ := at_T79 HF.out.r8 k p0 p1
                replace e0 : A8 = some ad := e0
                cases e0
                replace hx0 := (HB.out.cell (World.block_lt_of_cell? w _ hx0)).trans hx0
                replace hx1 := (HB.out.cell (World.block_lt_of_cell? w _ hx1)).trans hx1
                simp only [Int.toNat_natCast] at hx0 hx1
                have hwlt : w.heap.size < wr.heap.size := blk_lt HK.out
                have HB2 := Aside0.mk (below_alloc HB.out (.cells #[.int .i64 (rd_T79 D.guards k).f0, .slice B1 (rd_T79 D.guards k).f1.length d1] 80))
                have HK2 := Aside0.mk (blk_alloc HK.out (.cells #[.int .i64 (rd_T79 D.guards k).f0, .slice B1 (rd_T79 D.guards k).f1.length d1] 80))
                have CC := Lib.hid (choice_calls B1 d1 (rd_T79 D.guards k).f1 D.opts.length _ (Kd.C_below hC1 HB2.out) hl1)
                have HLT := Aside0.mk hlt
                clear hlt hl1 hC1
                have hc2 : wr.cell? ⟨w.heap.size, 2, none⟩ = some (.slice A2 D.insts.length c2) := (blk_cell HK.out 2).trans rfl
                have hc6 : wr.cell? ⟨w.heap.size, 6, none⟩ = some (.slice A6 D.opts.length c6) := (blk_cell HK.out 6).trans rfl
                have HNO : Hid (((rd_T79 D.guards k).f0 < 0 ∨ (D.insts.length : Int) ≤ (rd_T79 D.guards k).f0) → chk D = 10) := Lib.hid fun h => by
                  have e1 := guardE_no (n := D.opts.length) h
                  rw [chk_guards HS.out HO.out HRZ.out HLT.out HE.out (by rw [e1]; decide), e1]
                by_cases g1 : (rd_T79 D.guards k).f0 < 0
                · have z1 : decide ((rd_T79 D.guards k).f0 < 0) = true := by simpa using g1
                  have HG1 := Aside0.mk g1
                  clear g1
                  go_wp2_with fail
                  go_ret
                  refine ⟨?_, HB2.out⟩
                  rw [HNO.out (.inl HG1.out)]
                  rfl
                · have z1 : decide ((rd_T79 D.guards k).f0 < 0) = false := by simpa using g1
                  by_cases g2 : (D.insts.length : Int) ≤ (rd_T79 D.guards k).f0
                  · have z2 : decide ((D.insts.length : Int) ≤ (rd_T79 D.guards k).f0) = true := by simpa using g2
                    have HG2 := Aside0.mk g2
                    clear g1 g2
                    go_wp2_with fail
                    go_ret
                    refine ⟨?_, HB2.out⟩
                    rw [HNO.out (.inr HG2.out)]
                    rfl
                  · have z2 : decide ((D.insts.length : Int) ≤ (rd_T79 D.guards k).f0) = false := by simpa using g2
                    have he := guardE_lits (n := D.opts.length) (fun h => h.elim g1 g2)
                    clear g1 g2
                    have HEQ := Aside0.mk he
                    clear he
                    go_wp2_with fail
                    refine CC.out.mono ?_
                    rintro e w4 ⟨rfl, hb4⟩
                    have HB4 := Aside0.mk (below_step HB2.out hb4)
                    have HK4 := Aside0.mk (blk_below HK2.out hb4)
                    clear hb4 hc2 hc6 z1 z2 hx0 hx1 hwlt
                    generalize litsE (D.opts.length : Int) (rd_T79 D.guards k).f1 = le at HEQ
                    by_cases hz : le = 0
                    · subst hz
                      go_wp2_with fail
                      go_roundg (D.guards.length - (k + 1))
                      case measure => have := HLT.out; have := HG.out; omega
                      case rel =>
                        refine ⟨k + 1, by go_num, ⟨HLT.out⟩, ⟨Nat.le_refl _⟩, ⟨fun j hj => ?_⟩, HB4, HK4⟩
                        by_cases e : j = k
                        · rw [e]; exact HEQ.out
                        · exact HE.out j (by omega)
                    · have z1 : (le == 0) = false := by simpa using hz
                      have z2 : (le != 0) = true := by simpa using hz
                      have HZ := Aside0.mk hz
                      clear hz
                      go_wp2_with fail
                      go_ret
                      refine ⟨?_, HB4.out⟩
                      rw [chk_guards HS.out HO.out HRZ.out HLT.out HE.out (by rw [HEQ.out]; exact HZ.out), HEQ.out]
                      rfl
              · have q0 : decide ((k : Int) < (D.guards.length : Int)) = false := by simpa using hlt
                have q1 : decide (k < D.guards.length) = false := by simpa using hlt
                have HCK := Lib.hid (chk_overs HS.out HO.out HRZ.out (fE_none _ _ fun j hj => HE.out j (by omega)))
                clear hlt
                have hc9 : wr.cell? ⟨w.heap.size, 9, none⟩ = some (.slice A9 D.overs.length c9) := (blk_cell HK.out 9).trans rfl
                go_wp2_with fail
                clear hc9 q0 q1
                go_loopg [122] D.overs.length (fun gk v122 w' => ∃ k : Nat, v122 = .int .i64 k ∧ Aside0 (k ≤ D.overs.length) ∧ Aside0 (D.overs.length - k ≤ gk) ∧ Aside0 (∀ j, j < k → overE D.opts.length D.dims D.overs j = 0) ∧ Aside0 (Below w.heap.size w w') ∧ Aside0 (Box w' w.heap.size D ⟨A1, A2, A3, A4, A5, A6, A7, A8, A9, c1, c2, c3, c4, c5, c6, c7, c8, c9⟩))
                case atStart => exact ⟨0, rfl, ⟨Nat.zero_le _⟩, ⟨Nat.sub_le _ _⟩, ⟨fun j hj => absurd hj (Nat.not_lt_zero _)⟩, HB, HK⟩
                case round =>
                  clear HB HK HE HL HG
                  obtain ⟨k, rfl, HL, HG, HE, HB, HK⟩ := hrel
                  by_cases hlt : k < D.overs.length
                  · have q0 : decide ((k : Int) < (D.overs.length : Int)) = true := by simpa using hlt
                    have q1 : decide (k < D.overs.length) = true := by simpa using hlt
                    have p0 : 0 ≤ (k : Int) := by omega
                    have p1 : (k : Int) < (D.overs.length : Int) := by omega
                    obtain ⟨ad, B1, d1, e0, hx0, hx1, hx2, hx3, hx4, hx5, hl1, hC1⟩ := at_T83 HF.out.r9 k p0 p1
                    replace e0 : A9 = some ad := e0
                    cases e0
                    replace hx0 := (HB.out.cell (World.block_lt_of_cell? w _ hx0)).trans hx0
                    replace hx1 := (HB.out.cell (World.block_lt_of_cell? w _ hx1)).trans hx1
                    replace hx2 := (HB.out.cell (World.block_lt_of_cell? w _ hx2)).trans hx2
                    replace hx3 := (HB.out.cell (World.block_lt_of_cell? w _ hx3)).trans hx3
                    replace hx4 := (HB.out.cell (World.block_lt_of_cell? w _ hx4)).trans hx4
                    replace hx5 := (HB.out.cell (World.block_lt_of_cell? w _ hx5)).trans hx5
                    simp only [Int.toNat_natCast] at hx0 hx1 hx2 hx3 hx4 hx5
                    have hwlt : w.heap.size < wr.heap.size := blk_lt HK.out
                    have HB2 := Aside0.mk (below_alloc HB.out (.cells #[.slice B1 (rd_T83 D.overs k).f0.length d1, .int .i64 (rd_T83 D.overs k).f1, .string (rd_T83 D.overs k).f2.f0, .int .i64 (rd_T83 D.overs k).f2.f1, .int .i64 (rd_T83 D.overs k).f2.f2, .int .i64 (rd_T83 D.overs k).f2.f3] 86))
                    have HK2 := Aside0.mk (blk_alloc HK.out (.cells #[.slice B1 (rd_T83 D.overs k).f0.length d1, .int .i64 (rd_T83 D.overs k).f1, .string (rd_T83 D.overs k).f2.f0, .int .i64 (rd_T83 D.overs k).f2.f1, .int .i64 (rd_T83 D.overs k).f2.f2, .int .i64 (rd_T83 D.overs k).f2.f3] 86))
                    have HR2 := Aside0.mk (heap_alloc_new wr (.cells #[.slice B1 (rd_T83 D.overs k).f0.length d1, .int .i64 (rd_T83 D.overs k).f1, .string (rd_T83 D.overs k).f2.f0, .int .i64 (rd_T83 D.overs k).f2.f1, .int .i64 (rd_T83 D.overs k).f2.f2, .int .i64 (rd_T83 D.overs k).f2.f3] 86))
                    have CC := Lib.hid (choice_calls B1 d1 (rd_T83 D.overs k).f0 D.opts.length _ (Kd.C_below hC1 HB2.out) hl1)
                    have HLT := Aside0.mk hlt
                    clear hlt hl1 hC1
                    have hc6 : wr.cell? ⟨w.heap.size, 6, none⟩ = some (.slice A6 D.opts.length c6) := (blk_cell HK.out 6).trans rfl
                    have HIT : Hid (∀ e, overE D.opts.length D.dims D.overs k = e → e ≠ 0 → chk D = e) := Lib.hid fun e h1 h2 => by
                      rw [HCK.out, fE_hit _ _ k HLT.out HE.out (by rw [h1]; exact h2), h1]
                    go_wp2_with fail
                    refine CC.out.mono ?_
                    rintro e w4 ⟨rfl, hb4⟩
                    have HB4 := Aside0.mk (below_step HB2.out hb4)
                    have HK4 := Aside0.mk (blk_below HK2.out hb4)
                    have HR4 := Aside0.mk (blk_below HR2.out hb4)
                    clear hb4 hc6 hx0 hx1 hx2 hx3 hx4 hx5 hwlt
                    have hle : ∃ le, litsE (D.opts.length : Int) (rd_T83 D.overs k).f0 = le := ⟨_, rfl⟩
                    obtain ⟨le, hle⟩ := hle
                    rw [hle]
                    have HLE := Aside0.mk hle
                    clear hle
                    by_cases hz : le = 0
                    · subst hz
                      have hr1 : w4.cell? ⟨wr.heap.size, 1, none⟩ = some (.int .i64 (rd_T83 D.overs k).f1) := (blk_cell HR4.out 1).trans rfl
                      have hr2 : w4.cell? ⟨wr.heap.size, 2, none⟩ = some (.string (rd_T83 D.overs k).f2.f0) := (blk_cell HR4.out 2).trans rfl
                      have hc3 : w4.cell? ⟨w.heap.size, 3, none⟩ = some (.slice A3 D.dims.length c3) := (blk_cell HK4.out 3).trans rfl
                      by_cases g1 : (rd_T83 D.overs k).f1 < 0
                      · have z1 : decide ((rd_T83 D.overs k).f1 < 0) = true := by simpa using g1
                        have HG1 := Aside0.mk g1
                        clear g1
                        go_wp2_with fail
                        go_ret
                        refine ⟨?_, HB4.out⟩
                        rw [HIT.out 10 (overE_no HLE.out (.inl HG1.out)) (by decide)]
                        rfl
                      · have z1 : decide ((rd_T83 D.overs k).f1 < 0) = false := by simpa using g1
                        by_cases g2 : (D.dims.length : Int) ≤ (rd_T83 D.overs k).f1
                        · have z2 : decide ((D.dims.length : Int) ≤ (rd_T83 D.overs k).f1) = true := by simpa using g2
                          have HG2 := Aside0.mk g2
                          clear g1 g2
                          go_wp2_with fail
                          go_ret
                          refine ⟨?_, HB4.out⟩
                          rw [HIT.out 10 (overE_no HLE.out (.inr HG2.out)) (by decide)]
                          rfl
                        · have z2 : decide ((D.dims.length : Int) ≤ (rd_T83 D.overs k).f1) = false := by simpa using g2
                          have g1' : 0 ≤ (rd_T83 D.overs k).f1 := by omega
                          have g2' : (rd_T83 D.overs k).f1 < (D.dims.length : Int) := by omega
                          obtain ⟨ad2, e2, hy0, _, _, _⟩ := at_T81 HF.out.r3 (rd_T83 D.overs k).f1 g1' g2'
                          replace e2 : A3 = some ad2 := e2
                          cases e2
                          replace hy0 := (HB4.out.cell (World.block_lt_of_cell? w _ hy0)).trans hy0
                          have HNO := Aside0.mk (not_or.2 ⟨g1, g2⟩)
                          clear g1 g2
                          cases hnm : ((rd_T83 D.overs k).f2.f0.toList == (rd_T81 D.dims (rd_T83 D.overs k).f1).f0.toList) with
                          | true =>
                            have hnm2 : ((rd_T83 D.overs k).f2.f0.toList != (rd_T81 D.dims (rd_T83 D.overs k).f1).f0.toList) = false := by simpa using hnm
                            have HNM := Aside0.mk hnm
                            go_wp2_with fail
                            go_quiet (fail)
                            go_wp2_with fail
                            go_roundg (D.overs.length - (k + 1))
                            case measure => have := HLT.out; have := HG.out; omega
                            case rel =>
                              refine ⟨k + 1, by go_num, ⟨HLT.out⟩, ⟨Nat.le_refl _⟩, ⟨fun j hj => ?_⟩, ⟨pw_below_drewN HB4.out _⟩, ⟨HK4.out⟩⟩
                              by_cases e : j = k
                              · rw [e]; exact overE_ok HLE.out HNO.out (beq_iff_eq.1 HNM.out)
                              · exact HE.out j (by omega)
                          | false =>
                            have hnm2 : ((rd_T83 D.overs k).f2.f0.toList != (rd_T81 D.dims (rd_T83 D.overs k).f1).f0.toList) = true := by rw [bne, hnm]; rfl
                            have HNM := Aside0.mk hnm
                            go_wp2_with fail
                            go_quiet (fail)
                            go_wp2_with fail
                            go_ret
                            refine ⟨?_, pw_below_drewN HB4.out _⟩
                            rw [HIT.out 17 (overE_name HLE.out HNO.out (beq_eq_false_iff_ne.1 HNM.out)) (by decide)]
                            rfl
                    · have z1 : (le == 0) = false := by simpa using hz
                      have z2 : (le != 0) = true := by simpa using hz
                      have HZ := Aside0.mk hz
                      clear hz
                      go_wp2_with fail
                      go_ret
                      refine ⟨?_, HB4.out⟩
                      rw [HIT.out le (overE_lits HLE.out HZ.out) HZ.out]
                      rfl
                  · have q0 : decide ((k : Int) < (D.overs.length : Int)) = false := by simpa using hlt
                    have q1 : decide (k < D.overs.length) = false := by simpa using hlt
                    have HZ : Hid (chk D = 0) := Lib.hid (by rw [HCK.out]; exact fE_none _ _ fun j hj => HE.out j (by omega))
                    clear hlt
                    go_wp2_with fail
                    go_ret
                    refine ⟨?_, HB.out⟩
                    rw [HZ.out]
                    rfl

theorem chk_big {D : Fam} (h : 12 < D.opts.length ∨ 48 < D.rules.length ∨ 48 < D.guards.length ∨ 48 < D.overs.length) : chk D = 6 := by unfold chk; rw [if_pos h]
set_option maxHeartbeats 8000000 in
set_option maxRecDepth 100000 in
theorem check_big (D : Fam) (H : Hd) (w : World) (h : 12 < D.opts.length ∨ 48 < D.rules.length ∨ 48 < D.guards.length ∨ 48 < D.overs.length) :
    Calls Tryz.prog 6 #[fv D H] w fun e w' => e = .returned (.int .i64 (chk D)) ∧ Below w.heap.size w w' := by
  have hu41 := Tryz.underlying36
  rw [chk_big h]
  unfold fv
  go_enter Tryz.func6, Tryz.ntmps6
  go_upto_region 1 with (fail)
  go_cut [31] (fun v31 wc => v31 = .bool true ∧ Aside0 (Below w.heap.size w wc))
  case first =>
    by_cases h12 : 12 < D.opts.length
    · have z1 : decide (12 < (D.opts.length : Int)) = true := by simp; omega
      clear h
      go_wp2_with fail
      all_goals
        go_meet
        case rel => exact ⟨by simp, ⟨(Below.refl _ _).alloc (Nat.le_refl _) _⟩⟩
    · have z1 : decide (12 < (D.opts.length : Int)) = false := by simp; omega
      have HH := Aside0.mk h
      have H12 := Aside0.mk h12
      clear h h12
      go_wp2_with fail
      all_goals
        go_meet
        case rel => exact ⟨by have := HH.out; have := H12.out; simp; omega, ⟨(Below.refl _ _).alloc (Nat.le_refl _) _⟩⟩
  case rest =>
    obtain ⟨rfl, HB⟩ := hcut
    clear h
    go_wp2_with fail
    go_ret
    exact ⟨rfl, HB.out⟩

/-- variant.Check. -/
theorem check_calls (D : Fam) (H : Hd) (w : World) (HF : FamAt w D H) :
    Calls Tryz.prog 6 #[fv D H] w fun e w' => e = .returned (.int .i64 (chk D)) ∧ Below w.heap.size w w' := by
  by_cases h : 12 < D.opts.length ∨ 48 < D.rules.length ∨ 48 < D.guards.length ∨ 48 < D.overs.length
  · exact check_big D H w h
  · exact check_small D H w (Lib.hid HF) h
end Go.Proofs.YtcilmcoaondbmaaGreatDoor.PX
namespace Go.Proofs.YtcilmcoaondbmaaGreatDoor.PX
open Go.RowKit Go.Proofs.YtcilmcoaondbmaaGreatDoorW.PrintWords Go.Proofs.YtcilmcoaondbmaaGreatDoorW.PrintLast Go.Proofs.YtcilmcoaondbmaaGreatDoorW.PrintMore
set_option linter.unusedVariables false
set_option linter.unusedSimpArgs false

/-- What asked returns. -/
def askE (D : Fam) (ch : List S62) : Int := if chk D ≠ 0 then chk D else litsE D.opts.length ch
set_option maxHeartbeats 2000000 in
set_option maxRecDepth 100000 in
theorem asked_calls (D : Fam) (H : Hd) (A : Option Addr) (c : Nat) (ch : List S62) (w : World) (HF : FamAt w D H) (hr : Kd.C k62 w A ch.length ch) (hc : ch.length ≤ c) :
    Calls Tryz.prog 29 #[fv D H, .slice A ch.length c] w fun e w' => e = .returned (.int .i64 (askE D ch)) ∧ Below w.heap.size w w' := by
  have hu41 := Tryz.underlying36
  unfold fv
  have CK := Lib.hid (fun W (hW : Below w.heap.size w W) => check_calls D H W (HF.below hW))
  have CC := Lib.hid (fun W (hW : Below w.heap.size w W) => choice_calls A c ch D.opts.length W (Kd.C_below hr hW) hc)
  clear HF hr hc
  have HB0 := Aside0.mk ((Below.refl _ w).alloc (Nat.le_refl _) (.cells (fcells D H) 36))
  have HK0 := Aside0.mk (heap_alloc_new w (.cells (fcells D H) 36))
  by_cases hz : chk D = 0
  · have e0 := Lib.hid (show askE D ch = litsE D.opts.length ch by unfold askE; rw [if_neg (by rw [hz]; simp)])
    have HZ := Aside0.mk hz
    clear hz
    go_enter Tryz.func29, Tryz.ntmps29
    go_wp2_with fail
    refine (CK.out _ HB0.out).mono ?_
    rintro e w2 ⟨rfl, hb⟩
    rw [HZ.out]
    have HB2 := Aside0.mk (below_step HB0.out hb)
    have HK2 := Aside0.mk (blk_below HK0.out hb)
    have hc6 : w2.cell? ⟨w.heap.size, 6, none⟩ = some (.slice H.A6 D.opts.length H.c6) := (blk_cell HK2.out 6).trans rfl
    go_wp2_with fail
    refine (CC.out _ HB2.out).mono ?_
    rintro e w3 ⟨rfl, hb3⟩
    go_wp2_with fail
    go_ret
    refine ⟨?_, below_step HB2.out hb3⟩
    rw [e0.out]
    rfl
  · have e0 := Lib.hid (show askE D ch = chk D by unfold askE; rw [if_pos hz])
    rw [e0.out]
    generalize chk D = e at *
    have z1 : (e == 0) = false := by simpa using hz
    have z2 : (e != 0) = true := by simpa using hz
    clear hz
    go_enter Tryz.func29, Tryz.ntmps29
    go_wp2_with fail
    refine (CK.out _ HB0.out).mono ?_
    rintro e2 w2 ⟨rfl, hb⟩
    go_wp2_with fail
    go_ret
    exact ⟨rfl, below_step HB0.out hb⟩

theorem fE_zero {e : Nat → Int} {n : Nat} (h : fE e n = 0) : ∀ j, j < n → e j = 0 := by
  intro j hj
  unfold fE at h
  cases hf : (List.range n).find? (fun i => e i != 0) with
  | none =>
    rw [List.find?_eq_none] at hf
    simpa using hf j (by simpa using hj)
  | some i =>
    rw [hf] at h
    have := List.find?_some hf
    simp at this
    exact absurd h this
theorem litsE_ok {n : Int} {l : List S62} (h : litsE n l = 0) : ∀ x ∈ l, 0 ≤ x.f0 ∧ x.f0 < n := by
  intro x hx
  obtain ⟨j, hj, rfl⟩ := List.getElem_of_mem hx
  have h1 := fE_zero h j hj
  have e : rd_T62 l (j : Int) = l[j] := by simp [rd_T62, List.getD_eq_getElem?_getD, hj]
  unfold litE at h1
  rw [e] at h1
  split at h1
  · exact absurd h1 (by decide)
  · omega
structure FamOk (D : Fam) : Prop where
  opts : D.opts.length ≤ 12
  rules : RulesOk D.rules
theorem chk_ok {D : Fam} (h : chk D = 0) : FamOk D := by
  unfold chk at h
  split at h
  · exact absurd h (by decide)
  · rename_i hn
    split at h
    · rename_i h1; exact absurd h h1
    · split at h
      · rename_i h1; exact absurd h h1
      · rename_i h1
        have hr : fE (ruleE D.opts.length D.rules) D.rules.length = 0 := Classical.byContradiction h1
        refine ⟨by omega, fun x hx => ?_⟩
        obtain ⟨j, hj, rfl⟩ := List.getElem_of_mem hx
        have h2 := fE_zero hr j hj
        have e : rd_T70 D.rules (j : Int) = D.rules[j] := by simp [rd_T70, List.getD_eq_getElem?_getD, hj]
        unfold ruleE at h2
        rw [e] at h2
        split at h2
        · exact absurd h2 (by decide)
        · split at h2
          · exact absurd h2 (by decide)
          · intro y hy
            have := litsE_ok h2 y hy
            omega
theorem ask_ok {D : Fam} {ch : List S62} (h : askE D ch = 0) : FamOk D ∧ LitsOk ch := by
  unfold askE at h
  split at h
  · rename_i h1; exact absurd h h1
  · rename_i h1
    have hc := chk_ok (Classical.byContradiction h1)
    refine ⟨hc, fun x hx => ?_⟩
    have := litsE_ok h x hx
    have := hc.opts
    omega

theorem box_cells {w : World} {g : Nat} {D : Fam} {H : Hd} (h : Box w g D H) :
    w.cell? ⟨g, 0, none⟩ = some (.string D.nm) ∧ w.cell? ⟨g, 1, none⟩ = some (.slice H.A1 D.parts.length H.c1) ∧ w.cell? ⟨g, 2, none⟩ = some (.slice H.A2 D.insts.length H.c2) ∧ w.cell? ⟨g, 3, none⟩ = some (.slice H.A3 D.dims.length H.c3) ∧ w.cell? ⟨g, 4, none⟩ = some (.slice H.A4 D.cons.length H.c4) ∧ w.cell? ⟨g, 5, none⟩ = some (.slice H.A5 D.reqs.length H.c5) ∧ w.cell? ⟨g, 6, none⟩ = some (.slice H.A6 D.opts.length H.c6) ∧ w.cell? ⟨g, 7, none⟩ = some (.slice H.A7 D.rules.length H.c7) ∧ w.cell? ⟨g, 8, none⟩ = some (.slice H.A8 D.guards.length H.c8) ∧ w.cell? ⟨g, 9, none⟩ = some (.slice H.A9 D.overs.length H.c9) :=
  ⟨(blk_cell h 0).trans rfl, (blk_cell h 1).trans rfl, (blk_cell h 2).trans rfl, (blk_cell h 3).trans rfl, (blk_cell h 4).trans rfl, (blk_cell h 5).trans rfl, (blk_cell h 6).trans rfl, (blk_cell h 7).trans rfl, (blk_cell h 8).trans rfl, (blk_cell h 9).trans rfl⟩

/-- Count's closure. -/
theorem enters40 : Enters Tryz.prog 31 := enters_of Tryz.func31 (by kernel_rfl) rfl
theorem count1 (B : Nat) (c : Int) (s : Int) (w : World) (hb : w.heap[B]? = some (.cells #[.int .i64 s] 3 (0, 0))) :
    Calls Tryz.prog 31 #[.int .u64 c, .pointer (some ⟨B, 0, none⟩)] w fun e w' => e = .returned (.bool true) ∧ w' = w.setCell ⟨B, 0, none⟩ (.int .i64 (wrap64 (s + 1))) := by
  have h0 : w.cell? ⟨B, 0, none⟩ = some (.int .i64 s) := (blk_cell hb 0).trans rfl
  have f0 := blk_frozen hb 0
  go_enter Tryz.func31, Tryz.ntmps31
  go_wp2_with fail
  go_ret
  exact ⟨rfl, rfl⟩

/-- The configurations of a choice that satisfy some rules, in order. -/
def confs (D : Fam) (ch : List S62) (rs : List S70) : List Nat := down D.opts.length ch rs (2 ^ D.opts.length)
theorem down_length (m : Nat) (ch : List S62) (rs : List S70) : ∀ k, (down m ch rs k).length ≤ k
  | 0 => Nat.le_refl _
  | k + 1 => by
    have := down_length m ch rs k
    unfold down
    split
    · simp; omega
    · omega
theorem runV_count (l : List Nat) : ∀ n : Nat, n + l.length ≤ 10000 → runV (fun (s : Int) _ => wrap64 (s + 1)) (fun _ _ => true) (n : Int) l = ((n + l.length : Nat) : Int) := by
  induction l with
  | nil => intro n _; rfl
  | cons c l ih =>
    intro n h
    simp only [List.length_cons] at h
    simp only [runV, if_true]
    have e : wrap64 ((n : Int) + 1) = ((n + 1 : Nat) : Int) := by unfold wrap64; omega
    rw [e, ih (n + 1) (by omega)]
    simp; omega
theorem confs_length {D : Fam} (h : D.opts.length ≤ 12) (ch : List S62) (rs : List S70) : (confs D ch rs).length ≤ 4096 :=
  Nat.le_trans (down_length _ _ _ _) (two_le _ h)

set_option maxHeartbeats 2000000 in
set_option maxRecDepth 100000 in
theorem count_calls (D : Fam) (H : Hd) (A : Option Addr) (c : Nat) (ch : List S62) (w : World) (HF : FamAt w D H) (hr : Kd.C k62 w A ch.length ch) (hc : ch.length ≤ c) :
    Calls Tryz.prog 8 #[fv D H, .slice A ch.length c] w fun e w' => e = .returned (.tuple #[.int .i64 (if askE D ch ≠ 0 then 0 else (confs D ch D.rules).length), .int .i64 (askE D ch)]) ∧ Below w.heap.size w w' := by
  have hu41 := Tryz.underlying36
  unfold fv
  have CK := Lib.hid (fun W (hW : Below w.heap.size w W) => asked_calls D H A c ch W (HF.below hW) (Kd.C_below hr hW) hc)
  have HB0 := Aside0.mk ((Below.refl _ w).alloc (Nat.le_refl _) (.cells (fcells D H) 36))
  have HK0 := Aside0.mk (heap_alloc_new w (.cells (fcells D H) 36))
  by_cases hz : askE D ch = 0
  · obtain ⟨hok, hlit⟩ := ask_ok hz
    have CV := Lib.hid (fun (w0 : World) (hW : Below w.heap.size w w0) =>
      visit_calls (fun (s : Int) _ => wrap64 (s + 1)) (fun _ _ => true) (fun s W => W.heap[w0.heap.size]? = some (.cells #[.int .i64 s] 3 (0, 0))) 31 #[.pointer (some ⟨w0.heap.size, 0, none⟩)] enters40 D H A c ch H.A7 H.c7 D.rules w0 (w0.alloc (.cells #[.int .i64 0] 3)) 0
        hok.opts (Kd.C_below hr hW) hc (HF.below hW).r7 HF.l7 hlit hok.rules ((Below.refl _ _).alloc (Nat.le_refl _) _) (heap_alloc_new _ _) (fun s W W' _ h1 h2 => blk_below h1 h2)
        (fun s cc W hcc hb hi => (count1 w0.heap.size cc s W hi).mono fun e W' ⟨he, hw⟩ => ⟨he, by rw [hw]; exact hb.setCell (Nat.le_refl _) _, by rw [hw]; exact (blk_set hi 0 _).trans rfl⟩))
    have HL : Hid (((confs D ch D.rules).length : Int) = runV (fun (s : Int) _ => wrap64 (s + 1)) (fun _ _ => true) 0 (confs D ch D.rules)) := Lib.hid (by
      have h := runV_count (confs D ch D.rules) 0 (by have := confs_length hok.opts ch D.rules; omega)
      rw [Nat.zero_add] at h
      exact h.symm)
    clear hok hlit
    have HZ := Aside0.mk hz
    rw [if_neg (by rw [hz]; simp), hz]
    clear hz HF hr hc
    go_enter Tryz.func8, Tryz.ntmps8
    go_wp2_with fail
    refine (CK.out _ HB0.out).mono ?_
    rintro e w2 ⟨rfl, hb⟩
    rw [HZ.out]
    have HB2 := Aside0.mk (below_step HB0.out hb)
    have HK2 := Aside0.mk (blk_below HK0.out hb)
    have hlt : w.heap.size < w2.heap.size := blk_lt HK2.out
    obtain ⟨k0, k1, k2, k3, k4, k5, k6, k7, k8, k9⟩ := box_cells HK2.out
    go_wp2_with fail
    refine (CV.out w2 HB2.out).mono ?_
    rintro e w3 ⟨rfl, hb3, hi3⟩
    have HB3 := Aside0.mk (below_step HB2.out hb3)
    have hn3 := (blk_cell hi3 0).trans rfl
    have HI3 := Aside0.mk hi3
    clear hi3 hb3 k0 k1 k2 k3 k4 k5 k6 k7 k8 k9
    go_wp2_with fail
    go_ret2
    refine ⟨?_, HB3.out⟩
    rw [HL.out]
    rfl
  · rw [if_pos hz]
    have HZ := Aside0.mk hz
    generalize askE D ch = e at *
    have z1 : (e == 0) = false := by simpa using hz
    have z2 : (e != 0) = true := by simpa using hz
    clear hz HF hr hc
    go_enter Tryz.func8, Tryz.ntmps8
    go_wp2_with fail
    refine (CK.out _ HB0.out).mono ?_
    rintro e2 w2 ⟨rfl, hb⟩
    go_wp2_with fail
    go_ret2
    exact ⟨rfl, below_step HB0.out hb⟩
end Go.Proofs.YtcilmcoaondbmaaGreatDoor.PX
namespace Go.Proofs.YtcilmcoaondbmaaGreatDoor.PX
open Go.RowKit Go.Proofs.YtcilmcoaondbmaaGreatDoorW.PrintWords Go.Proofs.YtcilmcoaondbmaaGreatDoorW.PrintLast Go.Proofs.YtcilmcoaondbmaaGreatDoorW.PrintMore
attribute [local go_sem] max2_int min2_int max_two min_two max_three min_three max_four min_four   -- for this text's walks alone
set_option linter.unusedVariables false
set_option linter.unusedSimpArgs false

/-! ### variant_configuration_names: function 42 -/
def variant_configuration_names.l0 : Nat → Int → List ByteArray → List ByteArray → Int → Int → Option (List ByteArray)
 | 0, _, _, _, _, _ => none
 | k + 1, x0, x5, x9, x10, x11 => if x11 < x10 then (if 0 ≤ x11 then (if x11 < (x9.length : Int) then ((variant_configuration_on.f x0 x11).bind fun t361 => (if t361 = true then (if x5.length < 8796093022208 then (variant_configuration_names.l0 k x0 (x5 ++ [rdOf ByteArray.empty x9 x11]) x9 x10 (wrap64 (x11 + 1))) else (none)) else (variant_configuration_names.l0 k x0 x5 x9 x10 (wrap64 (x11 + 1))))) else (none)) else (none)) else (some x5)
def variant_configuration_names.f (k : Nat) (a0 : Int) (a1_0 : ByteArray) (l1_1 : List (S129)) (l1_2 : List (S105)) (l1_3 : List (S81)) (l1_4 : List (S158)) (l1_5 : List (S165)) (l1_6 : List ByteArray) (l1_7 : List (S70)) (l1_8 : List (S79)) (l1_9 : List (S83)) : Option (List ByteArray) := variant_configuration_names.l0 k a0 ([] : List ByteArray) l1_6 (l1_6.length : Int) 0
theorem variant_configuration_names.mono_l : ∀ k, (∀ y0 y1 y2 y3 y4, LeO (variant_configuration_names.l0 k y0 y1 y2 y3 y4) (variant_configuration_names.l0 (k + 1) y0 y1 y2 y3 y4))
 | 0 => fun _ _ _ _ _ r h => by simp [variant_configuration_names.l0] at h
 | k + 1 => by
  have ih0 := variant_configuration_names.mono_l k
  ·intro y0 y1 y2 y3 y4
   unfold variant_configuration_names.l0
   repeat' first
   | (with_reducible exact ih0 _ _ _ _ _)
   | (with_reducible exact LeO.refl _)
   | (with_reducible exact LeO.none _)
   | (with_reducible refine LeO.ite ?_ ?_)
   | (with_reducible refine LeO.bind ?_ (fun _ => ?_))
   | exact ih0 _ _ _ _ _
   | exact LeO.none _
   | refine LeO.ite ?_ ?_
   | refine LeO.bind ?_ (fun _ => ?_)
theorem variant_configuration_names.mono : ∀ a0 a1 a2 a3 a4 a5 a6 a7 a8 a9 a10 k, LeO (variant_configuration_names.f k a0 a1 a2 a3 a4 a5 a6 a7 a8 a9 a10) (variant_configuration_names.f (k + 1) a0 a1 a2 a3 a4 a5 a6 a7 a8 a9 a10) := by
 intro a0 a1 a2 a3 a4 a5 a6 a7 a8 a9 a10 k
 have ih0 := variant_configuration_names.mono_l k
 unfold variant_configuration_names.f
 repeat' first
   | (with_reducible exact ih0 _ _ _ _ _)
   | (with_reducible exact LeO.refl _)
   | (with_reducible exact LeO.none _)
   | (with_reducible refine LeO.ite ?_ ?_)
   | (with_reducible refine LeO.bind ?_ (fun _ => ?_))
   | exact ih0 _ _ _ _ _
   | exact LeO.none _
   | refine LeO.ite ?_ ?_
   | refine LeO.bind ?_ (fun _ => ?_)
set_option maxHeartbeats 8000000 in
set_option maxRecDepth 100000 in
theorem variant_configuration_names.calls (k : Nat) (a0 : Int) (a1_0 : ByteArray) (A1_1 : Option Addr) (c1_1 : Nat) (l1_1 : List (S129)) (A1_2 : Option Addr) (c1_2 : Nat) (l1_2 : List (S105)) (A1_3 : Option Addr) (c1_3 : Nat) (l1_3 : List (S81)) (A1_4 : Option Addr) (c1_4 : Nat) (l1_4 : List (S158)) (A1_5 : Option Addr) (c1_5 : Nat) (l1_5 : List (S165)) (A1_6 : Option Addr) (c1_6 : Nat) (l1_6 : List ByteArray) (A1_7 : Option Addr) (c1_7 : Nat) (l1_7 : List (S70)) (A1_8 : Option Addr) (c1_8 : Nat) (l1_8 : List (S79)) (A1_9 : Option Addr) (c1_9 : Nat) (l1_9 : List (S83)) (r : List ByteArray) (w : World) (hr1_1 : True) (hc1_1 : l1_1.length ≤ c1_1) (hr1_2 : True) (hc1_2 : l1_2.length ≤ c1_2) (hr1_3 : Kd.C k81 w A1_3 l1_3.length l1_3) (hc1_3 : l1_3.length ≤ c1_3) (hr1_4 : True) (hc1_4 : l1_4.length ≤ c1_4) (hr1_5 : True) (hc1_5 : l1_5.length ≤ c1_5) (hr1_6 : Kd.C Kd.string w A1_6 l1_6.length l1_6) (hc1_6 : l1_6.length ≤ c1_6) (hr1_7 : Kd.C k70 w A1_7 l1_7.length l1_7) (hc1_7 : l1_7.length ≤ c1_7) (hr1_8 : Kd.C k79 w A1_8 l1_8.length l1_8) (hc1_8 : l1_8.length ≤ c1_8) (hr1_9 : Kd.C k83 w A1_9 l1_9.length l1_9) (hc1_9 : l1_9.length ≤ c1_9) (h : variant_configuration_names.f k a0 a1_0 l1_1 l1_2 l1_3 l1_4 l1_5 l1_6 l1_7 l1_8 l1_9 = some r) :
  Calls Tryz.prog 33 #[.int .u64 a0, .agg #[.string a1_0, .slice A1_1 l1_1.length c1_1, .slice A1_2 l1_2.length c1_2, .slice A1_3 l1_3.length c1_3, .slice A1_4 l1_4.length c1_4, .slice A1_5 l1_5.length c1_5, .slice A1_6 l1_6.length c1_6, .slice A1_7 l1_7.length c1_7, .slice A1_8 l1_8.length c1_8, .slice A1_9 l1_9.length c1_9]] w fun e w' => ∃ v0_ : Value, e = .returned (v0_) ∧ Kd.R Kd.string 9 w' w.heap.size (fun _ => True) v0_ r ∧ Below w.heap.size w w' := by
 have hu41 := Tryz.underlying36
 have HR1_1 := Aside0.mk hr1_1
 have HC1_1 := Aside0.mk hc1_1
 clear hr1_1 hc1_1
 have HR1_2 := Aside0.mk hr1_2
 have HC1_2 := Aside0.mk hc1_2
 clear hr1_2 hc1_2
 have HR1_3 := Aside0.mk hr1_3
 have HC1_3 := Aside0.mk hc1_3
 clear hr1_3 hc1_3
 have HR1_4 := Aside0.mk hr1_4
 have HC1_4 := Aside0.mk hc1_4
 clear hr1_4 hc1_4
 have HR1_5 := Aside0.mk hr1_5
 have HC1_5 := Aside0.mk hc1_5
 clear hr1_5 hc1_5
 have HR1_6 := Aside0.mk hr1_6
 have HC1_6 := Aside0.mk hc1_6
 clear hr1_6 hc1_6
 have HR1_7 := Aside0.mk hr1_7
 have HC1_7 := Aside0.mk hc1_7
 clear hr1_7 hc1_7
 have HR1_8 := Aside0.mk hr1_8
 have HC1_8 := Aside0.mk hc1_8
 clear hr1_8 hc1_8
 have HR1_9 := Aside0.mk hr1_9
 have HC1_9 := Aside0.mk hc1_9
 clear hr1_9 hc1_9
 have HB := Aside0.mk (Below.refl w.heap.size w)
 have H : (variant_configuration_names.l0 k a0 ([] : List ByteArray) l1_6 (l1_6.length : Int) 0) = some r := h
 clear h
 have H' := Aside0.mk H
 clear H
 go_enter Tryz.func33, Tryz.ntmps33
 go_wp2_with (first | ((with_reducible refine gate_dst (N := 3) rfl ?_); refine box_event ?hg (N := 3) ?hd (cs := #[.string a1_0, .slice A1_1 l1_1.length c1_1, .slice A1_2 l1_2.length c1_2, .slice A1_3 l1_3.length c1_3, .slice A1_4 l1_4.length c1_4, .slice A1_5 l1_5.length c1_5, .slice A1_6 l1_6.length c1_6, .slice A1_7 l1_7.length c1_7, .slice A1_8 l1_8.length c1_8, .slice A1_9 l1_9.length c1_9]) (t := 36) ?hr ?_; (case hd => rfl); (case hg => rfl); (case hr => first | (go_simp; done) | (go_simp; rfl)); intro gb359 hg w3 hbox hb; have n0_ := Aside0.mk (below_step (by repeat (first | (with_reducible first | exact HB.out | apply below_alloc | apply pw_below_drewN | apply below_drew1) | exact HB.out)) hb); have n1_ := Aside0.mk (hbox); have n2_ := Aside0.mk ((by rw [hg]; exact (below_size (by repeat (first | (with_reducible first | exact HB.out | apply below_alloc | apply pw_below_drewN | apply below_drew1) | exact HB.out))) : w.heap.size ≤ gb359)); have n3_ := Aside0.mk ((by rw [hg]; exact (below_size (by repeat (first | (with_reducible first | exact HB.out | apply below_alloc | apply pw_below_drewN | apply below_drew1) | exact HB.out))) : w.heap.size ≤ gb359)); clear HB; have HB := n0_; have BK359 := n1_; have GW359 := n2_; have GE359 := n3_; clear n0_ n1_ n2_ n3_; clear hb hbox hg; have hcz4_0 : w3.cell? ⟨gb359, 0, none⟩ = some (.string a1_0) := (blk_cell BK359.out 0).trans rfl; have hcz4_1 : w3.cell? ⟨gb359, 1, none⟩ = some (.slice A1_1 l1_1.length c1_1) := (blk_cell BK359.out 1).trans rfl; have hcz4_2 : w3.cell? ⟨gb359, 2, none⟩ = some (.slice A1_2 l1_2.length c1_2) := (blk_cell BK359.out 2).trans rfl; have hcz4_3 : w3.cell? ⟨gb359, 3, none⟩ = some (.slice A1_3 l1_3.length c1_3) := (blk_cell BK359.out 3).trans rfl; have hcz4_4 : w3.cell? ⟨gb359, 4, none⟩ = some (.slice A1_4 l1_4.length c1_4) := (blk_cell BK359.out 4).trans rfl; have hcz4_5 : w3.cell? ⟨gb359, 5, none⟩ = some (.slice A1_5 l1_5.length c1_5) := (blk_cell BK359.out 5).trans rfl; have hcz4_6 : w3.cell? ⟨gb359, 6, none⟩ = some (.slice A1_6 l1_6.length c1_6) := (blk_cell BK359.out 6).trans rfl; have hcz4_7 : w3.cell? ⟨gb359, 7, none⟩ = some (.slice A1_7 l1_7.length c1_7) := (blk_cell BK359.out 7).trans rfl; have hcz4_8 : w3.cell? ⟨gb359, 8, none⟩ = some (.slice A1_8 l1_8.length c1_8) := (blk_cell BK359.out 8).trans rfl; have hcz4_9 : w3.cell? ⟨gb359, 9, none⟩ = some (.slice A1_9 l1_9.length c1_9) := (blk_cell BK359.out 9).trans rfl; have hfz4_0 := blk_frozen BK359.out 0; have hfz4_1 := blk_frozen BK359.out 1; have hfz4_2 := blk_frozen BK359.out 2; have hfz4_3 := blk_frozen BK359.out 3; have hfz4_4 := blk_frozen BK359.out 4; have hfz4_5 := blk_frozen BK359.out 5; have hfz4_6 := blk_frozen BK359.out 6; have hfz4_7 := blk_frozen BK359.out 7; have hfz4_8 := blk_frozen BK359.out 8; have hfz4_9 := blk_frozen BK359.out 9))
 go_loopg [5, 11] k (fun kq v5 v11 w' => ∃ (x5_1 : List ByteArray) (x11_1 : Int), v11 = .int .i64 x11_1 ∧ Aside0 (variant_configuration_names.l0 kq a0 x5_1 l1_6 (l1_6.length : Int) x11_1 = some r) ∧ Aside0 (kq ≤ k) ∧ Aside0 (Kd.R Kd.string 9 w' w.heap.size (fun _ => True) v5 x5_1) ∧ Aside0 (w'.heap[gb359]? = some (.cells #[.string a1_0, (.slice A1_1 l1_1.length c1_1), (.slice A1_2 l1_2.length c1_2), (.slice A1_3 l1_3.length c1_3), (.slice A1_4 l1_4.length c1_4), (.slice A1_5 l1_5.length c1_5), (.slice A1_6 l1_6.length c1_6), (.slice A1_7 l1_7.length c1_7), (.slice A1_8 l1_8.length c1_8), (.slice A1_9 l1_9.length c1_9)] 36 (0, 0))) ∧ Aside0 (Below w.heap.size w w'))
 case atStart => exact ⟨(([] : List ByteArray)), (0), (by first | rfl | (simp; done) | (simp [*]; done)), H', ⟨Nat.le_refl _⟩, ⟨by first | exact Kd.R_nil _ _ _ _ _ | exact Kd.N_nil _ _ _ _ _ | exact Kd.V_nil _ _ _ _ _ | exact Kd.Q_nil _ _ _ _ _ | exact Kd.S_nil _ _ _ _ _⟩, ⟨by (with_reducible repeat (first | refine blk_drewN ?_ _ | refine blk_drew ?_ | refine blk_alloc ?_ _)); exact BK359.out⟩, ⟨by repeat (first | (with_reducible first | exact HB.out | apply below_alloc | apply pw_below_drewN | apply below_drew1 | refine below_set ?_ GE359.out) | exact HB.out)⟩⟩
 case round =>
  clear H'
  try clear c1
  try clear p2
  try clear c4
  try clear hcz4_0
  try clear hcz4_1
  try clear hcz4_2
  try clear hcz4_3
  try clear hcz4_4
  try clear hcz4_5
  try clear hcz4_6
  try clear hcz4_7
  try clear hcz4_8
  try clear hcz4_9
  try clear hfz4_0
  try clear hfz4_1
  try clear hfz4_2
  try clear hfz4_3
  try clear hfz4_4
  try clear hfz4_5
  try clear hfz4_6
  try clear hfz4_7
  try clear hfz4_8
  try clear hfz4_9
  obtain ⟨x5_1, x11_1, rfl, HA, HK1, HO_5, BK359, HB⟩ := hrel
  cases gk with
  | zero => exact absurd HA.out (by simp [variant_configuration_names.l0])
  | succ k1 =>
   have H := HA.out
   clear HA
   simp only [variant_configuration_names.l0] at H
   by_cases c5 : x11_1 < (l1_6.length : Int)
   ·rw [if_pos c5] at H
    have c5b0 : decide (x11_1 < (l1_6.length : Int)) = true := decide_eq_true c5
    clear c5
    by_cases c6 : 0 ≤ x11_1
    ·rw [if_pos c6] at H
     have c6b0 : decide (0 ≤ x11_1) = true := decide_eq_true c6
     clear c6
     by_cases c7 : x11_1 < (l1_6.length : Int)
     ·rw [if_pos c7] at H
      have c7b0 : decide (x11_1 < (l1_6.length : Int)) = true := decide_eq_true c7
      clear c7
      replace H := Option.bind_eq_some_iff.mp H
      obtain ⟨t361, A80, H⟩ := H
      replace H : (if t361 = true then (if x5_1.length < 8796093022208 then (variant_configuration_names.l0 k1 a0 (x5_1 ++ [rdOf ByteArray.empty l1_6 x11_1]) l1_6 (l1_6.length : Int) (wrap64 (x11_1 + 1))) else (none)) else (variant_configuration_names.l0 k1 a0 x5_1 l1_6 (l1_6.length : Int) (wrap64 (x11_1 + 1)))) = some r := H
      have A8 := Aside0.mk A80
      clear A80
      by_cases c9 : t361 = true
      ·subst c9
       have H1 : (if x5_1.length < 8796093022208 then (variant_configuration_names.l0 k1 a0 (x5_1 ++ [rdOf ByteArray.empty l1_6 x11_1]) l1_6 (l1_6.length : Int) (wrap64 (x11_1 + 1))) else (none)) = some r := by rw [if_pos rfl] at H; exact H
       clear H
       have H := H1
       clear H1
       by_cases c10 : x5_1.length < 8796093022208
       ·rw [if_pos c10] at H
        have LMc10 := Aside0.mk c10
        clear c10
        obtain ⟨y362, hy362⟩ : ∃ y_ : List ByteArray, y_ = (x5_1 ++ [rdOf ByteArray.empty l1_6 x11_1]) := ⟨_, rfl⟩
        replace H : (variant_configuration_names.l0 k1 a0 y362 l1_6 (l1_6.length : Int) (wrap64 (x11_1 + 1))) = some r := by first | (rw [hy362]; with_reducible exact H) | (have H2_ := (Option.bind_some _ _).symm.trans H; rw [hy362]; with_reducible exact H2_) | (have H2_ := (Option.bind_some _ _).symm.trans H; with_reducible exact H2_) | with_reducible exact H | (rw [hy362]; exact H) | exact H
        have Ny362 := Aside0.mk hy362
        clear hy362
        have H' := Aside0.mk H
        clear H
        have p360 : 0 ≤ (x11_1 : Int) := of_decide_eq_true (by first | (with_reducible assumption) | assumption)
        have q360 : x11_1 < (l1_6.length : Int) := of_decide_eq_true (by first | (with_reducible assumption) | assumption)
        obtain ⟨ad360, e360, hx360_0⟩ := Kd.at_string HR1_6.out x11_1 p360 q360
        cases e360
        replace hx360_0 := (HB.out.cell (World.block_lt_of_cell? w _ hx360_0)).trans hx360_0
        replace p360 := eq_true p360
        replace q360 := eq_true q360
        go_wp2_with (first | ((with_reducible refine gate_callee (f := 35) rfl ?_); refine goesL_ (some 18) rfl rfl Tryz.func35 (by kernel_rfl) rfl #[.int .u64 a0, .int .i64 x11_1] rfl (by (try simp only [List.map_toArray, List.map_cons, List.map_nil]); first | done | rfl | (simp only [List.length_drop, List.length_take]; rfl)) ?_; (with_reducible refine (variant_configuration_on.calls a0 x11_1 true _ A8.out).mono ?_); rintro e w' ⟨rfl, ⟨nd, rfl⟩⟩; refine ⟨_, rfl, ?_⟩) | ((with_reducible refine gate_builtin (b := .append) (xs := #[.tmp 19, .tmp 21]) rfl ?_); at_builtin; refine Kd.R_append Kd.string (w0 := w) w.heap.size rfl (.tmp 19) (.tmp 21) 31 9 (.string ⟨#[]⟩) 16 rfl Tryz.underlying31 info9 rfl (by decide) (by omega) u5 x5_1 (rdOf ByteArray.empty l1_6 x11_1) [.string (rdOf ByteArray.empty l1_6 x11_1)] (fun _ => True) (fun _ => False) rfl rfl ?aP (fun _ hk => hk.elim) ?aF ?aO ?aB ?aS ?aL ?_; (case aP => exact rfl); (case aB => exact (by repeat (first | (with_reducible first | exact HB.out | apply below_alloc | apply pw_below_drewN | apply below_drew1 | refine below_set ?_ GE359.out) | exact HB.out))); (case aF => exact (fun _ _ => trivial)); (case aO => exact (by (with_reducible repeat (first | apply Kd.R_alloc | apply Kd.R_drewN | apply Kd.R_drew)); exact HO_5.out)); (case aS => exact (below_size (by repeat (first | (with_reducible first | exact HB.out | apply below_alloc | apply pw_below_drewN | apply below_drew1 | refine below_set ?_ GE359.out) | exact HB.out)))); (case aL => have := LMc10.out; omega); intro v363 w11 ho hb hg hat; rw [← Ny362.out] at ho; have n0_ := Aside0.mk (blk_grown (g := gb359) (o := .cells #[.string a1_0, .slice A1_1 l1_1.length c1_1, .slice A1_2 l1_2.length c1_2, .slice A1_3 l1_3.length c1_3, .slice A1_4 l1_4.length c1_4, .slice A1_5 l1_5.length c1_5, .slice (some ad360) l1_6.length c1_6, .slice A1_7 l1_7.length c1_7, .slice A1_8 l1_8.length c1_8, .slice A1_9 l1_9.length c1_9] 36 (0, 0)) (by (with_reducible repeat (first | refine blk_drewN ?_ _ | refine blk_drew ?_ | refine blk_alloc ?_ _)); exact BK359.out) hg (Kd.R_ne HO_5.out BK359.out (by decide))); have n1_ := Aside0.mk (hb); have n2_ := Aside0.mk (ho); clear BK359; clear HB; clear HO_5; have BK359 := n0_; have HB := n1_; have HO364 := n2_; clear n0_ n1_ n2_; clear ho hb hg hat))
        go_roundg k1
        case measure => have := HK1.out; omega
        case rel => exact ⟨(y362), (wrap64 (x11_1 + 1)), (by first | rfl | (simp; done) | (simp [*]; done)), H', ⟨by have := HK1.out; omega⟩, ⟨by (with_reducible repeat (first | apply Kd.R_alloc | apply Kd.R_drewN | apply Kd.R_drew)); exact HO364.out⟩, ⟨by (with_reducible repeat (first | refine blk_drewN ?_ _ | refine blk_drew ?_ | refine blk_alloc ?_ _)); exact BK359.out⟩, ⟨by repeat (first | (with_reducible first | exact HB.out | apply below_alloc | apply pw_below_drewN | apply below_drew1 | refine below_set ?_ GE359.out) | exact HB.out)⟩⟩
       ·rw [if_neg c10] at H
        exact absurd H (by simp)
      ·replace c9 := Bool.eq_false_iff.mpr c9
       subst c9
       have H1 : (variant_configuration_names.l0 k1 a0 x5_1 l1_6 (l1_6.length : Int) (wrap64 (x11_1 + 1))) = some r := by rw [if_neg (show ¬ (false = true) by decide)] at H; exact H
       clear H
       have H := H1
       clear H1
       have H' := Aside0.mk H
       clear H
       have p360 : 0 ≤ (x11_1 : Int) := of_decide_eq_true (by first | (with_reducible assumption) | assumption)
       have q360 : x11_1 < (l1_6.length : Int) := of_decide_eq_true (by first | (with_reducible assumption) | assumption)
       obtain ⟨ad360, e360, hx360_0⟩ := Kd.at_string HR1_6.out x11_1 p360 q360
       cases e360
       replace hx360_0 := (HB.out.cell (World.block_lt_of_cell? w _ hx360_0)).trans hx360_0
       replace p360 := eq_true p360
       replace q360 := eq_true q360
       go_wp2_with (first | ((with_reducible refine gate_callee (f := 35) rfl ?_); refine goesL_ (some 18) rfl rfl Tryz.func35 (by kernel_rfl) rfl #[.int .u64 a0, .int .i64 x11_1] rfl (by (try simp only [List.map_toArray, List.map_cons, List.map_nil]); first | done | rfl | (simp only [List.length_drop, List.length_take]; rfl)) ?_; (with_reducible refine (variant_configuration_on.calls a0 x11_1 false _ A8.out).mono ?_); rintro e w' ⟨rfl, ⟨nd, rfl⟩⟩; refine ⟨_, rfl, ?_⟩))
       go_roundg k1
       case measure => have := HK1.out; omega
       case rel => exact ⟨(x5_1), (wrap64 (x11_1 + 1)), (by first | rfl | (simp; done) | (simp [*]; done)), H', ⟨by have := HK1.out; omega⟩, ⟨by (with_reducible repeat (first | apply Kd.R_alloc | apply Kd.R_drewN | apply Kd.R_drew)); exact HO_5.out⟩, ⟨by (with_reducible repeat (first | refine blk_drewN ?_ _ | refine blk_drew ?_ | refine blk_alloc ?_ _)); exact BK359.out⟩, ⟨by repeat (first | (with_reducible first | exact HB.out | apply below_alloc | apply pw_below_drewN | apply below_drew1 | refine below_set ?_ GE359.out) | exact HB.out)⟩⟩
     ·rw [if_neg c7] at H
      exact absurd H (by simp)
    ·rw [if_neg c6] at H
     exact absurd H (by simp)
   ·rw [if_neg c5] at H
    have c5b0 : decide (x11_1 < (l1_6.length : Int)) = false := decide_eq_false c5
    clear c5
    obtain rfl := Option.some.inj H
    go_wp2
    go_ret
    exact ⟨_, by first | rfl | (simp [errW_none, errW_some] <;> rfl) | (simp [*, errW_none, errW_some] <;> rfl), by (with_reducible repeat (first | apply Kd.R_alloc | apply Kd.R_drewN | apply Kd.R_drew)); exact HO_5.out, by repeat (first | (with_reducible first | exact HB.out | apply below_alloc | apply pw_below_drewN | apply below_drew1 | refine below_set ?_ GE359.out) | exact HB.out)⟩

end Go.Proofs.YtcilmcoaondbmaaGreatDoor.PX
namespace Go.Proofs.YtcilmcoaondbmaaGreatDoor.PX
open Go.RowKit Go.Proofs.YtcilmcoaondbmaaGreatDoorW.PrintWords Go.Proofs.YtcilmcoaondbmaaGreatDoorW.PrintLast Go.Proofs.YtcilmcoaondbmaaGreatDoorW.PrintMore
set_option linter.unusedVariables false
set_option linter.unusedSimpArgs false

/-- The names of the first k options that are on. -/
def cn (c : Nat) (l : List ByteArray) : Nat → List ByteArray
  | 0 => []
  | k + 1 => if onI c k then cn c l k ++ [rdS l k] else cn c l k
def cnames (c : Nat) (l : List ByteArray) : List ByteArray := cn c l l.length
theorem cn_length (c : Nat) (l : List ByteArray) : ∀ k, (cn c l k).length ≤ k
  | 0 => Nat.le_refl _
  | k + 1 => by
    have := cn_length c l k
    unfold cn
    split
    · simp; omega
    · omega
theorem names_from (c : Nat) (l : List ByteArray) (hc : c < 4096) (hl : l.length ≤ 12) (d : Nat) : ∀ (K i : Nat), i + d = l.length → d < K →
    variant_configuration_names.l0 K c (cn c l i) l (l.length : Int) i = some (cnames c l) := by
  induction d with
  | zero =>
    intro K i hi hK
    obtain ⟨K, rfl⟩ : ∃ m, K = m + 1 := ⟨K - 1, by omega⟩
    simp only [variant_configuration_names.l0]
    rw [if_neg (by omega)]
    have : i = l.length := by omega
    rw [this]; rfl
  | succ d ih =>
    intro K i hi hK
    obtain ⟨K, rfl⟩ : ∃ m, K = m + 1 := ⟨K - 1, by omega⟩
    have hw : wrap64 ((i : Int) + 1) = ((i + 1 : Nat) : Int) := by unfold wrap64; omega
    simp only [variant_configuration_names.l0]
    rw [if_pos (by omega), if_pos (by omega), if_pos (by omega), onI_eq c i (by omega) (by omega) (by omega)]
    simp only [Option.bind_some]
    have hn := ih K (i + 1) (by omega) (by omega)
    rw [hw]
    cases ho : onI c (i : Int) with
    | true =>
      have e : cn c l (i + 1) = cn c l i ++ [rdOf ByteArray.empty l (i : Int)] := by simp [cn, ho]
      have := cn_length c l i
      rw [if_pos rfl, if_pos (by omega), ← e]
      exact hn
    | false =>
      have e : cn c l (i + 1) = cn c l i := by simp [cn, ho]
      rw [if_neg (by decide), ← e]
      exact hn
/-- (configuration).names. -/
theorem cnames_calls (c : Nat) (D : Fam) (H : Hd) (w : World) (hc : c < 4096) (hl : D.opts.length ≤ 12) (h : FamAt w D H) :
    Calls Tryz.prog 33 #[.int .u64 c, fv D H] w fun e w' => ∃ A cp, e = .returned (.slice A (cnames c D.opts).length cp) ∧ Kd.R Kd.string 9 w' w.heap.size (fun _ => True) (.slice A (cnames c D.opts).length cp) (cnames c D.opts) ∧ Below w.heap.size w w' :=
  (variant_configuration_names.calls (D.opts.length + 1) c D.nm H.A1 H.c1 D.parts H.A2 H.c2 D.insts H.A3 H.c3 D.dims H.A4 H.c4 D.cons H.A5 H.c5 D.reqs H.A6 H.c6 D.opts H.A7 H.c7 D.rules H.A8 H.c8 D.guards H.A9 H.c9 D.overs (cnames c D.opts) w h.r1 h.l1 h.r2 h.l2 h.r3 h.l3 h.r4 h.l4 h.r5 h.l5 h.r6 h.l6 h.r7 h.l7 h.r8 h.l8 h.r9 h.l9
    (names_from c D.opts hc hl D.opts.length _ 0 (by omega) (by omega))).mono fun e w' ⟨v, he, hR, hb⟩ => by
      obtain ⟨A, cp, hv, _, _⟩ := Kd.R_reads hR
      subst hv
      exact ⟨A, cp, he, hR, hb⟩

/-- First's closure. -/
theorem enters41 : Enters Tryz.prog 32 := enters_of Tryz.func32 (by kernel_rfl) rfl
set_option maxHeartbeats 2000000 in
set_option maxRecDepth 100000 in
theorem first1 (G B B' : Nat) (c : Nat) (D : Fam) (H : Hd) (u u' : Value) (w : World) (hc : c < 4096) (hl : D.opts.length ≤ 12) (h : FamAt w D H) (hG : Box w G D H)
    (hB : w.heap[B]? = some (.cells #[u] 31 (0, 0))) (hB' : w.heap[B']? = some (.cells #[u'] 4 (0, 0))) (hne : B ≠ B') :
    Calls Tryz.prog 32 #[.int .u64 c, .pointer (some ⟨G, 0, none⟩), .pointer (some ⟨B, 0, none⟩), .pointer (some ⟨B', 0, none⟩)] w fun e w' => ∃ A cp w1, e = .returned (.bool false) ∧ Kd.R Kd.string 9 w1 w.heap.size (fun _ => True) (.slice A (cnames c D.opts).length cp) (cnames c D.opts) ∧ Below w.heap.size w w1 ∧ w' = (w1.setCell ⟨B, 0, none⟩ (.slice A (cnames c D.opts).length cp)).setCell ⟨B', 0, none⟩ (.bool true) := by
  have hu41 := Tryz.underlying36
  obtain ⟨k0, k1, k2, k3, k4, k5, k6, k7, k8, k9⟩ := box_cells hG
  have CN := Lib.hid (cnames_calls c D H w hc hl h)
  have HB := Aside0.mk hB
  have HB' := Aside0.mk hB'
  have HNE := Aside0.mk hne
  generalize cnames c D.opts = ns at *
  clear h hG hB hB' hne hc hl
  go_enter Tryz.func32, Tryz.ntmps32
  go_wp2_with fail
  refine CN.out.mono ?_
  rintro e w2 ⟨A, cp, rfl, h1, hb⟩
  have q0 : w2.cell? ⟨B, 0, none⟩ = some u := (blk_cell (blk_below HB.out hb) 0).trans rfl
  have f0 := blk_frozen (blk_below HB.out hb) 0
  have HK' := Aside0.mk (blk_far (p := ⟨B, 0, none⟩) (blk_below HB'.out hb) (fun e => HNE.out e.symm) (.slice A ns.length cp))
  have q1 : (w2.setCell ⟨B, 0, none⟩ (.slice A ns.length cp)).cell? ⟨B', 0, none⟩ = some u' := (blk_cell HK'.out 0).trans rfl
  have f1 := blk_frozen HK'.out 0
  have H1 := Aside0.mk h1
  have H3 := Aside0.mk hb
  clear h1 hb k0 k1 k2 k3 k4 k5 k6 k7 k8 k9
  go_wp2_with fail
  go_ret
  exact ⟨A, cp, w2, rfl, H1.out, H3.out, rfl⟩

/-- What First holds while it looks: nothing yet, or the first configuration. -/
def FirstInv (D : Fam) (b0 B B' : Nat) : Option Nat → World → Prop
  | none, W => W.heap[B]? = some (.cells #[.slice none 0 0] 31 (0, 0)) ∧ W.heap[B']? = some (.cells #[.bool false] 4 (0, 0))
  | some c, W => ∃ A cp, Kd.R Kd.string 9 W b0 (fun k => k ≠ B ∧ k ≠ B') (.slice A (cnames c D.opts).length cp) (cnames c D.opts) ∧ W.heap[B]? = some (.cells #[.slice A (cnames c D.opts).length cp] 31 (0, 0)) ∧ W.heap[B']? = some (.cells #[.bool true] 4 (0, 0))
theorem FirstInv.stay {D : Fam} {b0 B B' : Nat} {s : Option Nat} {W W' : World} (h : FirstInv D b0 B B' s W) (hb : Below W.heap.size W W') : FirstInv D b0 B B' s W' := by
  cases s with
  | none => exact ⟨blk_below h.1 hb, blk_below h.2 hb⟩
  | some c =>
    obtain ⟨A, cp, h1, h2, h3⟩ := h
    exact ⟨A, cp, Kd.R_below h1 hb, blk_below h2 hb, blk_below h3 hb⟩
theorem FirstInv.boxes {D : Fam} {b0 B B' : Nat} {s : Option Nat} {W : World} (h : FirstInv D b0 B B' s W) : ∃ u u', W.heap[B]? = some (.cells #[u] 31 (0, 0)) ∧ W.heap[B']? = some (.cells #[u'] 4 (0, 0)) := by
  cases s with
  | none => exact ⟨_, _, h.1, h.2⟩
  | some c => obtain ⟨A, cp, _, h2, h3⟩ := h; exact ⟨_, _, h2, h3⟩
/-- What First returns: the names, and whether there is one. -/
def firstN (D : Fam) (l : List Nat) : List ByteArray := match l with | [] => [] | c :: _ => cnames c D.opts
theorem runV_first (l : List Nat) : runV (fun (_ : Option Nat) c => some c) (fun _ _ => false) none l = l.head? := by
  cases l with
  | nil => rfl
  | cons c l => simp [runV]
theorem first_step {D : Fam} {H : Hd} {w0 W : World} {G B B' : Nat} {s : Option Nat} {c : Nat} (hc : c < 4096) (hl : D.opts.length ≤ 12) (h : FamAt w0 D H) (hG : Box w0 G D H) (hBB : w0.heap.size ≤ B) (hBB' : w0.heap.size ≤ B') (hne : B ≠ B')
    (hb : Below w0.heap.size w0 W) (hi : FirstInv D w0.heap.size B B' s W) :
    Calls Tryz.prog 32 (#[.int .u64 (c : Int)] ++ #[.pointer (some ⟨G, 0, none⟩), .pointer (some ⟨B, 0, none⟩), .pointer (some ⟨B', 0, none⟩)]) W fun e W' => e = .returned (.bool false) ∧ Below w0.heap.size w0 W' ∧ FirstInv D w0.heap.size B B' (some c) W' := by
  obtain ⟨u, u', h1, h2⟩ := hi.boxes
  refine (first1 G B B' c D H u u' W hc hl (h.below hb) ((hb.block G (blk_lt hG)).trans hG) h1 h2 hne).mono ?_
  rintro e W' ⟨A, cp, w1, rfl, hR, hbl, rfl⟩
  have hlB : B < W.heap.size := blk_lt h1
  have hlB' : B' < W.heap.size := blk_lt h2
  refine ⟨rfl, ((below_step hb hbl).setCell hBB _).setCell hBB' _, A, cp, ?_, ?_, ?_⟩
  · have r1 := Kd.R_mono (ok' := fun k => k ≠ B ∧ k ≠ B') (Kd.R_bound hR) (fun k hk => ⟨by have := hk.2.1; omega, by have := hk.2.1; omega⟩)
    exact Kd.R_far (Kd.R_far (Kd.R_lower r1 hb.size) (fun k hk => hk.1) _) (fun k hk => hk.2) _
  · exact blk_far (p := ⟨B', 0, none⟩) ((blk_set (blk_below h1 hbl) 0 _).trans rfl) hne _
  · exact (blk_set (blk_far (p := ⟨B, 0, none⟩) (blk_below h2 hbl) (fun e => hne e.symm) _) 0 _).trans rfl

/-- What First's boxes hold at the end. -/
theorem FirstInv.out {D : Fam} {b0 B B' : Nat} {l : List Nat} {W : World} (h : FirstInv D b0 B B' l.head? W) : ∃ A cp, Kd.R Kd.string 9 W b0 (fun k => k ≠ B ∧ k ≠ B') (.slice A (firstN D l).length cp) (firstN D l) ∧ W.heap[B]? = some (.cells #[.slice A (firstN D l).length cp] 31 (0, 0)) ∧ W.heap[B']? = some (.cells #[.bool (!l.isEmpty)] 4 (0, 0)) := by
  cases l with
  | nil => exact ⟨none, 0, Kd.R_nil _ _ _ _ _, h.1, h.2⟩
  | cons c l => exact h

set_option maxHeartbeats 4000000 in
set_option maxRecDepth 100000 in
theorem first_calls (D : Fam) (H : Hd) (A : Option Addr) (c : Nat) (ch : List S62) (w : World) (HF : FamAt w D H) (hr : Kd.C k62 w A ch.length ch) (hc : ch.length ≤ c) :
    Calls Tryz.prog 9 #[fv D H, .slice A ch.length c] w fun e w' => ∃ A' cp ns, e = .returned (.tuple #[.slice A' ns.length cp, .bool (decide (askE D ch = 0) && !(confs D ch D.rules).isEmpty), .int .i64 (askE D ch)]) ∧ ns = (if askE D ch = 0 then firstN D (confs D ch D.rules) else []) ∧ ns.length ≤ cp ∧ Kd.C Kd.string w' A' ns.length ns ∧ Below w.heap.size w w' := by
  have hu41 := Tryz.underlying36
  unfold fv
  have CK := Lib.hid (fun W (hW : Below w.heap.size w W) => asked_calls D H A c ch W (HF.below hW) (Kd.C_below hr hW) hc)
  have HB0 := Aside0.mk ((Below.refl _ w).alloc (Nat.le_refl _) (.cells (fcells D H) 36))
  have HK0 := Aside0.mk (heap_alloc_new w (.cells (fcells D H) 36))
  have e1 : (w.alloc (.cells (fcells D H) 36)).heap.size = w.heap.size + 1 := by simp
  have e2 : ((w.alloc (.cells (fcells D H) 36)).alloc (.cells #[.slice none 0 0] 31)).heap.size = w.heap.size + 2 := by simp
  have hB : (((w.alloc (.cells (fcells D H) 36)).alloc (.cells #[.slice none 0 0] 31)).alloc (.cells #[.bool false] 4)).heap[w.heap.size + 1]? = some (.cells #[.slice none 0 0] 31 (0, 0)) := by
    have := blk_alloc (heap_alloc_new (w.alloc (.cells (fcells D H) 36)) (.cells #[.slice none 0 0] 31)) (.cells #[.bool false] 4)
    rwa [e1] at this
  have hB' : (((w.alloc (.cells (fcells D H) 36)).alloc (.cells #[.slice none 0 0] 31)).alloc (.cells #[.bool false] 4)).heap[w.heap.size + 2]? = some (.cells #[.bool false] 4 (0, 0)) := by
    have := heap_alloc_new ((w.alloc (.cells (fcells D H) 36)).alloc (.cells #[.slice none 0 0] 31)) (.cells #[.bool false] 4)
    rwa [e2] at this
  have HB3 := Aside0.mk (below_alloc (below_alloc (Below.refl _ (w.alloc (.cells (fcells D H) 36))) (.cells #[.slice none 0 0] 31)) (.cells #[.bool false] 4))
  have HBX := Aside0.mk hB
  have HBX' := Aside0.mk hB'
  have HE1 := Aside0.mk e1
  clear hB hB' e1 e2
  by_cases hz : askE D ch = 0
  · obtain ⟨hok, hlit⟩ := ask_ok hz
    have CV := Lib.hid (fun (W : World) (hW : Below (w.alloc (.cells (fcells D H) 36)).heap.size (w.alloc (.cells (fcells D H) 36)) W) (hi : FirstInv D (w.alloc (.cells (fcells D H) 36)).heap.size (w.heap.size + 1) (w.heap.size + 2) none W) =>
      visit_calls (fun (_ : Option Nat) cc => some cc) (fun _ _ => false) (FirstInv D (w.alloc (.cells (fcells D H) 36)).heap.size (w.heap.size + 1) (w.heap.size + 2)) 32 #[.pointer (some ⟨w.heap.size, 0, none⟩), .pointer (some ⟨w.heap.size + 1, 0, none⟩), .pointer (some ⟨w.heap.size + 2, 0, none⟩)] enters41 D H A c ch H.A7 H.c7 D.rules (w.alloc (.cells (fcells D H) 36)) W none
        hok.opts (Kd.C_below hr HB0.out) hc (HF.below HB0.out).r7 HF.l7 hlit hok.rules hW hi (fun s W W' _ h1 h2 => FirstInv.stay h1 h2)
        (fun s cc W hcc hb hi => first_step hcc hok.opts (HF.below HB0.out) HK0.out (by rw [HE1.out]; exact Nat.le_refl _) (by rw [HE1.out]; omega) (by omega) hb hi))
    have HV := Lib.hid (runV_first (confs D ch D.rules))
    clear hok hlit
    have HZ := Aside0.mk hz
    rw [hz]
    clear hz HF hr hc
    go_enter Tryz.func9, Tryz.ntmps9
    go_wp2_with fail
    refine (CK.out _ (below_step HB0.out HB3.out)).mono ?_
    rintro e w2 ⟨rfl, hb⟩
    rw [HZ.out]
    have HBw := Aside0.mk (below_step HB3.out hb)
    have HB2 := Aside0.mk (below_step HB0.out HBw.out)
    have HK2 := Aside0.mk (blk_below (blk_alloc (blk_alloc HK0.out (.cells #[.slice none 0 0] 31)) (.cells #[.bool false] 4)) hb)
    have HX2 := Aside0.mk (blk_below HBX.out hb)
    have HY2 := Aside0.mk (blk_below HBX'.out hb)
    obtain ⟨k0, k1, k2, k3, k4, k5, k6, k7, k8, k9⟩ := box_cells HK2.out
    clear hb
    go_wp2_with fail
    refine (CV.out w2 HBw.out ⟨HX2.out, HY2.out⟩).mono ?_
    rintro e w3 ⟨rfl, hb3, hi3⟩
    have hi4 : FirstInv D (w.alloc (.cells (fcells D H) 36)).heap.size (w.heap.size + 1) (w.heap.size + 2) (confs D ch D.rules).head? w3 := by rw [← HV.out]; exact hi3
    obtain ⟨ns, hns⟩ : ∃ ns, firstN D (confs D ch D.rules) = ns := ⟨_, rfl⟩
    obtain ⟨A', cp, o2, o3, o4⟩ := hi4.out
    rw [hns] at o2 o3
    have HNS := Aside0.mk hns
    have HO2 := Aside0.mk o2
    have HO3 := Aside0.mk o3
    have HO4 := Aside0.mk o4
    have HB3' := Aside0.mk (below_step HB0.out hb3)
    have q0 : w3.cell? ⟨w.heap.size + 1, 0, none⟩ = some _ := (blk_cell HO3.out 0).trans rfl
    have q1 : w3.cell? ⟨w.heap.size + 2, 0, none⟩ = some _ := (blk_cell HO4.out 0).trans rfl
    have f0 := blk_frozen HO3.out 0
    have f1 := blk_frozen HO4.out 0
    clear o2 o3 o4 hb3 hi3 hi4 k0 k1 k2 k3 k4 k5 k6 k7 k8 k9 CV CK hns
    go_wp2_with fail
    go_region
    go_wp2_with fail
    have q2 : (w3.setCell ⟨w.heap.size + 1, 0, none⟩ (.slice A' ns.length cp)).cell? ⟨w.heap.size + 1, 0, none⟩ = some (.slice A' ns.length cp) := (blk_cell (blk_set HO3.out 0 _) 0).trans rfl
    have q3 : ((w3.setCell ⟨w.heap.size + 1, 0, none⟩ (.slice A' ns.length cp)).setCell ⟨w.heap.size + 1 + 1, 0, none⟩ (.bool (!(confs D ch D.rules).isEmpty))).cell? ⟨w.heap.size + 1 + 1, 0, none⟩ = some (.bool (!(confs D ch D.rules).isEmpty)) :=
      (blk_cell (blk_set (blk_far (p := ⟨w.heap.size + 1, 0, none⟩) HO4.out (by intro e; have : w.heap.size + 2 = w.heap.size + 1 := e; omega) _) 0 _) 0).trans rfl
    have HBZ : Below w.heap.size w ((w3.setCell ⟨w.heap.size + 1, 0, none⟩ (.slice A' ns.length cp)).setCell ⟨w.heap.size + 1 + 1, 0, none⟩ (.bool (!(confs D ch D.rules).isEmpty))).drew := below_drew1 ((HB3'.out.setCell (by simp) _).setCell (by simp; omega) _)
    have HCZ := (Kd.R_reads' (Kd.R_drew (Kd.R_far (p := ⟨w.heap.size + 1 + 1, 0, none⟩) (Kd.R_far (p := ⟨w.heap.size + 1, 0, none⟩) HO2.out (fun k hk => hk.1) (.slice A' ns.length cp)) (fun k hk => hk.2) (.bool (!(confs D ch D.rules).isEmpty))))).2
    refine bodyPost_ret (v := .tuple #[.slice A' ns.length cp, .bool (!(confs D ch D.rules).isEmpty), .int .i64 0]) (by simp [results, Tryz.results9, go_sem, q2, q3]) rfl ?_
    exact ⟨A', cp, ns, by simp, HNS.out.symm, HCZ.1, HCZ.2, HBZ⟩
  · have HZ := Aside0.mk hz
    have hd : decide (askE D ch = 0) = false := by simpa using hz
    rw [hd, if_neg hz]
    clear hd
    generalize askE D ch = e at *
    have z1 : (e == 0) = false := by simpa using hz
    have z2 : (e != 0) = true := by simpa using hz
    clear hz HF hr hc
    go_enter Tryz.func9, Tryz.ntmps9
    go_wp2_with fail
    refine (CK.out _ (below_step HB0.out HB3.out)).mono ?_
    rintro e2 w2 ⟨rfl, hb⟩
    have HBw := Aside0.mk (below_step HB3.out hb)
    have HB2 := Aside0.mk (below_step HB0.out HBw.out)
    have HX2 := Aside0.mk (blk_below HBX.out hb)
    have HY2 := Aside0.mk (blk_below HBX'.out hb)
    have q0 : w2.cell? ⟨w.heap.size + 1, 0, none⟩ = some _ := (blk_cell HX2.out 0).trans rfl
    have q1 : w2.cell? ⟨w.heap.size + 1 + 1, 0, none⟩ = some _ := (blk_cell HY2.out 0).trans rfl
    have f0 := blk_frozen HX2.out 0
    have f1 := blk_frozen HY2.out 0
    clear hb
    go_wp2_with fail
    have q2 : (w2.setCell ⟨w.heap.size + 1, 0, none⟩ (.slice none 0 0)).cell? ⟨w.heap.size + 1, 0, none⟩ = some (.slice none 0 0) := (blk_cell (blk_set HX2.out 0 _) 0).trans rfl
    have q3 : ((w2.setCell ⟨w.heap.size + 1, 0, none⟩ (.slice none 0 0)).setCell ⟨w.heap.size + 1 + 1, 0, none⟩ (.bool false)).cell? ⟨w.heap.size + 1 + 1, 0, none⟩ = some (.bool false) :=
      (blk_cell (blk_set (blk_far (p := ⟨w.heap.size + 1, 0, none⟩) HY2.out (by intro e; have : w.heap.size + 2 = w.heap.size + 1 := e; omega) _) 0 _) 0).trans rfl
    have HBZ : Below w.heap.size w ((w2.setCell ⟨w.heap.size + 1, 0, none⟩ (.slice none 0 0)).setCell ⟨w.heap.size + 1 + 1, 0, none⟩ (.bool false)) := (HB2.out.setCell (by simp) _).setCell (by simp; omega) _
    refine bodyPost_ret (v := .tuple #[.slice none 0 0, .bool false, .int .i64 e]) (by simp [results, Tryz.results9, go_sem, q2, q3]) rfl ?_
    exact ⟨none, 0, [], by simp, rfl, Nat.le_refl _, Kd.C_nil _ _, HBZ⟩
end Go.Proofs.YtcilmcoaondbmaaGreatDoor.PX
