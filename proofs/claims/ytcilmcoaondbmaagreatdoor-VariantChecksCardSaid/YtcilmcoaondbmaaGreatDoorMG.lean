/- Family: what it returns. -/
import Derived.Test.YtcilmcoaondbmaaGreatDoorMF
/- Family returns what that function says. -/
namespace Go.Proofs.YtcilmcoaondbmaaGreatDoor.PX
open Go.RowKit Go.Proofs.YtcilmcoaondbmaaGreatDoorW.PrintWords Go.Proofs.YtcilmcoaondbmaaGreatDoorW.PrintLast Go.Proofs.YtcilmcoaondbmaaGreatDoorW.PrintMore
attribute [local go_sem] max2_int min2_int max_two min_two max_three min_three max_four min_four   -- for this text's walks alone
set_option linter.unusedVariables false
set_option linter.unusedSimpArgs false

set_option maxHeartbeats 8000000 in
set_option maxRecDepth 100000 in
theorem dowellaw48_Family.calls (k : Nat) (a0_0 : Int) (A0_1 : Option Addr) (c0_1 : Nat) (l0_1 : List (List Int)) (A0_2 : Option Addr) (c0_2 : Nat) (l0_2 : List (List Int)) (A0_3 : Option Addr) (c0_3 : Nat) (l0_3 : List (List Int)) (a1_0 : ByteArray) (A1_1 : Option Addr) (c1_1 : Nat) (l1_1 : List (S129)) (A1_2 : Option Addr) (c1_2 : Nat) (l1_2 : List (S105)) (A1_3 : Option Addr) (c1_3 : Nat) (l1_3 : List (S81)) (A1_4 : Option Addr) (c1_4 : Nat) (l1_4 : List (S158)) (A1_5 : Option Addr) (c1_5 : Nat) (l1_5 : List (S165)) (r1 : ByteArray) (r2 : List (S129)) (r3 : List (S105)) (r4 : List (S81)) (r5 : List (S158)) (r6 : List (S165)) (r7 : List ByteArray) (r8 : List (S70)) (r9 : List (S79)) (r10 : List (S83)) (w : World) (hr0_1 : Kd.C (Kd.slice 66 (Kd.int .i8)) w A0_1 l0_1.length l0_1) (hc0_1 : l0_1.length ≤ c0_1) (hr0_2 : Kd.C (Kd.slice 66 (Kd.int .i8)) w A0_2 l0_2.length l0_2) (hc0_2 : l0_2.length ≤ c0_2) (hr0_3 : Kd.C (Kd.slice 66 (Kd.int .i8)) w A0_3 l0_3.length l0_3) (hc0_3 : l0_3.length ≤ c0_3) (hr1_1 : Kd.C k129 w A1_1 l1_1.length l1_1) (hc1_1 : l1_1.length ≤ c1_1) (hr1_2 : Kd.C k105 w A1_2 l1_2.length l1_2) (hc1_2 : l1_2.length ≤ c1_2) (hr1_3 : Kd.C k81 w A1_3 l1_3.length l1_3) (hc1_3 : l1_3.length ≤ c1_3) (hr1_4 : Kd.C k158 w A1_4 l1_4.length l1_4) (hc1_4 : l1_4.length ≤ c1_4) (hr1_5 : Kd.C k165 w A1_5 l1_5.length l1_5) (hc1_5 : l1_5.length ≤ c1_5) (h : dowellaw48_Family.f k a0_0 l0_1 l0_2 l0_3 a1_0 l1_1 l1_2 l1_3 l1_4 l1_5 = some (r1, r2, r3, r4, r5, r6, r7, r8, r9, r10)) :
  Calls Tryz.prog 17 #[.agg #[.int .u8 a0_0, .slice A0_1 l0_1.length c0_1, .slice A0_2 l0_2.length c0_2, .slice A0_3 l0_3.length c0_3], .agg #[.string a1_0, .slice A1_1 l1_1.length c1_1, .slice A1_2 l1_2.length c1_2, .slice A1_3 l1_3.length c1_3, .slice A1_4 l1_4.length c1_4, .slice A1_5 l1_5.length c1_5]] w fun e w' => ∃ v6_ v7_ v8_ v9_ : Value, e = .returned (.agg #[.string r1, .slice A1_1 l1_1.length c1_1, .slice A1_2 l1_2.length c1_2, .slice A1_3 l1_3.length c1_3, .slice A1_4 l1_4.length c1_4, .slice A1_5 l1_5.length c1_5, v6_, v7_, v8_, v9_]) ∧ Kd.R Kd.string 9 w' w.heap.size (fun _ => True) v6_ r7 ∧ Kd.S k70 40 w' w.heap.size (fun _ => True) v7_ r8 ∧ Kd.S k79 80 w' w.heap.size (fun _ => True) v8_ r9 ∧ Kd.S k83 86 w' w.heap.size (fun _ => True) v9_ r10 ∧ Below w.heap.size w w' := by
 have hu24 := Tryz.underlying70
 have hu35 := Tryz.underlying30
 have hu41 := Tryz.underlying36
 have hu70 := Tryz.underlying40
 have hu79 := Tryz.underlying80
 have hu81 := Tryz.underlying84
 have hu83 := Tryz.underlying86
 have HR0_1 := Aside0.mk hr0_1
 have HC0_1 := Aside0.mk hc0_1
 clear hr0_1 hc0_1
 have HR0_2 := Aside0.mk hr0_2
 have HC0_2 := Aside0.mk hc0_2
 clear hr0_2 hc0_2
 have HR0_3 := Aside0.mk hr0_3
 have HC0_3 := Aside0.mk hc0_3
 clear hr0_3 hc0_3
 have HR1_1 := Aside0.mk hr1_1
 have HC1_1 := Aside0.mk hc1_1
 clear hr1_1 hc1_1
 have HR1_2 := Aside0.mk hr1_2
 have HC1_2 := Aside0.mk hc1_2
 clear hr1_2 hc1_2
 have HR1_3 := Aside0.mk hr1_3
 have HC1_3 := Aside0.mk hc1_3
 clear hr1_3 hc1_3
 have HR1_4 := Aside0.mk hr1_4
 have HC1_4 := Aside0.mk hc1_4
 clear hr1_4 hc1_4
 have HR1_5 := Aside0.mk hr1_5
 have HC1_5 := Aside0.mk hc1_5
 clear hr1_5 hc1_5
 have HB := Aside0.mk (Below.refl w.heap.size w)
 have H : (dowellaw48_Family.l0 k (wrap64 (1 + (wrap64 (Int.tmod a0_0 6)))) 0 a0_0 l0_1 l0_2 l0_3 a1_0 l1_1 l1_2 l1_3 l1_4 l1_5 a1_0 l1_1 l1_2 l1_3 l1_4 l1_5 ([] : List ByteArray)) = some (r1, r2, r3, r4, r5, r6, r7, r8, r9, r10) := h
 clear h
 have H' := Aside0.mk H
 clear H
 go_enter Tryz.func17, Tryz.ntmps17
 go_wp2_with (first | ((with_reducible refine gate_dst (N := 2) rfl ?_); (try (refine gate_guard (by rfl) ?_; dsimp only)); refine box_event ?hg (N := 2) ?hd (cs := #[.int .u8 a0_0, .slice A0_1 l0_1.length c0_1, .slice A0_2 l0_2.length c0_2, .slice A0_3 l0_3.length c0_3]) (t := 70) ?hr ?_; (case hd => rfl); (case hg => rfl); (case hr => first | (go_simp; done) | (go_simp; rfl)); intro gb104 hg w3 hbox hb; have n0_ := Aside0.mk (below_step (by repeat (first | (with_reducible first | exact HB.out | apply below_alloc | apply pw_below_drewN | apply below_drew1) | exact HB.out)) hb); have n1_ := Aside0.mk (hbox); have n2_ := Aside0.mk ((by rw [hg]; exact (below_size (by repeat (first | (with_reducible first | exact HB.out | apply below_alloc | apply pw_below_drewN | apply below_drew1) | exact HB.out))) : w.heap.size ≤ gb104)); have n3_ := Aside0.mk ((by rw [hg]; exact (below_size (by repeat (first | (with_reducible first | exact HB.out | apply below_alloc | apply pw_below_drewN | apply below_drew1) | exact HB.out))) : w.heap.size ≤ gb104)); clear HB; have HB := n0_; have KA := n1_; have GW104 := n2_; have GE104 := n3_; clear n0_ n1_ n2_ n3_; clear hb hbox hg) | ((with_reducible refine gate_dst (N := 3) rfl ?_); (try (refine gate_guard (by rfl) ?_; dsimp only)); refine box_event ?hg (N := 3) ?hd (cs := #[.string a1_0, .slice A1_1 l1_1.length c1_1, .slice A1_2 l1_2.length c1_2, .slice A1_3 l1_3.length c1_3, .slice A1_4 l1_4.length c1_4, .slice A1_5 l1_5.length c1_5]) (t := 30) ?hr ?_; (case hd => rfl); (case hg => rfl); (case hr => first | (go_simp; done) | (go_simp; rfl)); intro gb105 hg w4 hbox hb; have n0_ := Aside0.mk (blk_below (g := gb104) (o := .cells #[.int .u8 a0_0, .slice A0_1 l0_1.length c0_1, .slice A0_2 l0_2.length c0_2, .slice A0_3 l0_3.length c0_3] 70 (0, 0)) (by (with_reducible repeat (first | refine blk_drewN ?_ _ | refine blk_drew ?_ | refine blk_alloc ?_ _)); exact KA.out) hb); have n1_ := Aside0.mk (below_step (by repeat (first | (with_reducible first | exact HB.out | apply below_alloc | apply pw_below_drewN | apply below_drew1 | refine below_set ?_ GE104.out) | exact HB.out)) hb); have n2_ := Aside0.mk (hbox); have n3_ := Aside0.mk ((by rw [hg]; exact (below_size (by repeat (first | (with_reducible first | exact HB.out | apply below_alloc | apply pw_below_drewN | apply below_drew1 | refine below_set ?_ GE104.out) | exact HB.out))) : w.heap.size ≤ gb105)); have n4_ := Aside0.mk ((by rw [hg]; exact (below_size (by repeat (first | (with_reducible first | exact HB.out | apply below_alloc | apply pw_below_drewN | apply below_drew1 | refine below_set ?_ GE104.out) | exact HB.out))) : w.heap.size ≤ gb105)); have n5_ := Aside0.mk ((by rw [hg]; exact Nat.ne_of_lt (blk_lt (g := gb104) (o := .cells #[.int .u8 a0_0, .slice A0_1 l0_1.length c0_1, .slice A0_2 l0_2.length c0_2, .slice A0_3 l0_3.length c0_3] 70 (0, 0)) (by (with_reducible repeat (first | refine blk_drewN ?_ _ | refine blk_drew ?_ | refine blk_alloc ?_ _)); exact KA.out)) : gb104 ≠ gb105)); have n6_ := Aside0.mk ((by rw [hg]; exact Nat.ne_of_gt (blk_lt (g := gb104) (o := .cells #[.int .u8 a0_0, .slice A0_1 l0_1.length c0_1, .slice A0_2 l0_2.length c0_2, .slice A0_3 l0_3.length c0_3] 70 (0, 0)) (by (with_reducible repeat (first | refine blk_drewN ?_ _ | refine blk_drew ?_ | refine blk_alloc ?_ _)); exact KA.out)) : gb105 ≠ gb104)); clear KA; clear HB; have KA := n0_; have HB := n1_; have KB := n2_; have GW105 := n3_; have GE105 := n4_; have NB104_105 := n5_; have NB105_104 := n6_; clear n0_ n1_ n2_ n3_ n4_ n5_ n6_; clear hb hbox hg) | ((with_reducible refine gate_dst (N := 4) rfl ?_); (try (refine gate_guard (by rfl) ?_; dsimp only)); refine box_event ?hg (N := 4) ?hd (cs := #[.string (⟨#[]⟩ : ByteArray), .slice none 0 0, .slice none 0 0, .slice none 0 0, .slice none 0 0, .slice none 0 0, .slice none 0 0, .slice none 0 0, .slice none 0 0, .slice none 0 0]) (t := 36) ?hr ?_; (case hd => rfl); (case hg => rfl); (case hr => first | (go_simp; done) | (go_simp; rfl)); intro gb106 hg w5 hbox hb; have n0_ := Aside0.mk (blk_below (g := gb104) (o := .cells #[.int .u8 a0_0, .slice A0_1 l0_1.length c0_1, .slice A0_2 l0_2.length c0_2, .slice A0_3 l0_3.length c0_3] 70 (0, 0)) (by (with_reducible repeat (first | refine blk_drewN ?_ _ | refine blk_drew ?_ | refine blk_alloc ?_ _)); exact KA.out) hb); have n1_ := Aside0.mk (blk_below (g := gb105) (o := .cells #[.string a1_0, .slice A1_1 l1_1.length c1_1, .slice A1_2 l1_2.length c1_2, .slice A1_3 l1_3.length c1_3, .slice A1_4 l1_4.length c1_4, .slice A1_5 l1_5.length c1_5] 30 (0, 0)) (by (with_reducible repeat (first | refine blk_drewN ?_ _ | refine blk_drew ?_ | refine blk_alloc ?_ _)); exact KB.out) hb); have n2_ := Aside0.mk (below_step (by repeat (first | (with_reducible first | exact HB.out | apply below_alloc | apply pw_below_drewN | apply below_drew1 | refine below_set ?_ GE104.out | refine below_set ?_ GE105.out) | exact HB.out)) hb); have n3_ := Aside0.mk (hbox); have n4_ := Aside0.mk ((by rw [hg]; exact (below_size (by repeat (first | (with_reducible first | exact HB.out | apply below_alloc | apply pw_below_drewN | apply below_drew1 | refine below_set ?_ GE104.out | refine below_set ?_ GE105.out) | exact HB.out))) : w.heap.size ≤ gb106)); have n5_ := Aside0.mk ((by rw [hg]; exact (below_size (by repeat (first | (with_reducible first | exact HB.out | apply below_alloc | apply pw_below_drewN | apply below_drew1 | refine below_set ?_ GE104.out | refine below_set ?_ GE105.out) | exact HB.out))) : w.heap.size ≤ gb106)); have n6_ := Aside0.mk ((by rw [hg]; exact Nat.ne_of_lt (blk_lt (g := gb104) (o := .cells #[.int .u8 a0_0, .slice A0_1 l0_1.length c0_1, .slice A0_2 l0_2.length c0_2, .slice A0_3 l0_3.length c0_3] 70 (0, 0)) (by (with_reducible repeat (first | refine blk_drewN ?_ _ | refine blk_drew ?_ | refine blk_alloc ?_ _)); exact KA.out)) : gb104 ≠ gb106)); have n7_ := Aside0.mk ((by rw [hg]; exact Nat.ne_of_gt (blk_lt (g := gb104) (o := .cells #[.int .u8 a0_0, .slice A0_1 l0_1.length c0_1, .slice A0_2 l0_2.length c0_2, .slice A0_3 l0_3.length c0_3] 70 (0, 0)) (by (with_reducible repeat (first | refine blk_drewN ?_ _ | refine blk_drew ?_ | refine blk_alloc ?_ _)); exact KA.out)) : gb106 ≠ gb104)); have n8_ := Aside0.mk ((by rw [hg]; exact Nat.ne_of_lt (blk_lt (g := gb105) (o := .cells #[.string a1_0, .slice A1_1 l1_1.length c1_1, .slice A1_2 l1_2.length c1_2, .slice A1_3 l1_3.length c1_3, .slice A1_4 l1_4.length c1_4, .slice A1_5 l1_5.length c1_5] 30 (0, 0)) (by (with_reducible repeat (first | refine blk_drewN ?_ _ | refine blk_drew ?_ | refine blk_alloc ?_ _)); exact KB.out)) : gb105 ≠ gb106)); have n9_ := Aside0.mk ((by rw [hg]; exact Nat.ne_of_gt (blk_lt (g := gb105) (o := .cells #[.string a1_0, .slice A1_1 l1_1.length c1_1, .slice A1_2 l1_2.length c1_2, .slice A1_3 l1_3.length c1_3, .slice A1_4 l1_4.length c1_4, .slice A1_5 l1_5.length c1_5] 30 (0, 0)) (by (with_reducible repeat (first | refine blk_drewN ?_ _ | refine blk_drew ?_ | refine blk_alloc ?_ _)); exact KB.out)) : gb106 ≠ gb105)); clear KA; clear KB; clear HB; have KA := n0_; have KB := n1_; have HB := n2_; have KC := n3_; have GW106 := n4_; have GE106 := n5_; have NB104_106 := n6_; have NB106_104 := n7_; have NB105_106 := n8_; have NB106_105 := n9_; clear n0_ n1_ n2_ n3_ n4_ n5_ n6_ n7_ n8_ n9_; clear hb hbox hg; have hnb6 := NB104_105.out; have hnc6 := NB105_104.out; have hnb7 := NB104_106.out; have hnc7 := NB106_104.out; have hcz8_0 : w5.cell? ⟨gb104, 0, none⟩ = some (.int .u8 a0_0) := (blk_cell KA.out 0).trans rfl; have hcz8_1 : w5.cell? ⟨gb104, 1, none⟩ = some (.slice A0_1 l0_1.length c0_1) := (blk_cell KA.out 1).trans rfl; have hcz8_2 : w5.cell? ⟨gb104, 2, none⟩ = some (.slice A0_2 l0_2.length c0_2) := (blk_cell KA.out 2).trans rfl; have hcz8_3 : w5.cell? ⟨gb104, 3, none⟩ = some (.slice A0_3 l0_3.length c0_3) := (blk_cell KA.out 3).trans rfl; have hfz8_0 := blk_frozen KA.out 0; have hfz8_1 := blk_frozen KA.out 1; have hfz8_2 := blk_frozen KA.out 2; have hfz8_3 := blk_frozen KA.out 3; have hnb9 := NB105_106.out; have hnc9 := NB106_105.out; have hcz10_0 : w5.cell? ⟨gb105, 0, none⟩ = some (.string a1_0) := (blk_cell KB.out 0).trans rfl; have hcz10_1 : w5.cell? ⟨gb105, 1, none⟩ = some (.slice A1_1 l1_1.length c1_1) := (blk_cell KB.out 1).trans rfl; have hcz10_2 : w5.cell? ⟨gb105, 2, none⟩ = some (.slice A1_2 l1_2.length c1_2) := (blk_cell KB.out 2).trans rfl; have hcz10_3 : w5.cell? ⟨gb105, 3, none⟩ = some (.slice A1_3 l1_3.length c1_3) := (blk_cell KB.out 3).trans rfl; have hcz10_4 : w5.cell? ⟨gb105, 4, none⟩ = some (.slice A1_4 l1_4.length c1_4) := (blk_cell KB.out 4).trans rfl; have hcz10_5 : w5.cell? ⟨gb105, 5, none⟩ = some (.slice A1_5 l1_5.length c1_5) := (blk_cell KB.out 5).trans rfl; have hfz10_0 := blk_frozen KB.out 0; have hfz10_1 := blk_frozen KB.out 1; have hfz10_2 := blk_frozen KB.out 2; have hfz10_3 := blk_frozen KB.out 3; have hfz10_4 := blk_frozen KB.out 4; have hfz10_5 := blk_frozen KB.out 5) | ((with_reducible refine gate_dst (N := 6) rfl ?_); (try (refine gate_guard (by rfl) ?_; dsimp only)); refine box_event ?hg (N := 6) ?hd (cs := #[.string (⟨#[]⟩ : ByteArray), .slice none 0 0, .slice none 0 0, .slice none 0 0, .slice none 0 0, .slice none 0 0, .slice none 0 0, .slice none 0 0, .slice none 0 0, .slice none 0 0]) (t := 36) ?hr ?_; (case hd => rfl); (case hg => rfl); (case hr => first | (go_simp; done) | (go_simp; rfl)); intro gb107 hg w11 hbox hb; have n0_ := Aside0.mk (blk_below (g := gb104) (o := .cells #[.int .u8 a0_0, .slice A0_1 l0_1.length c0_1, .slice A0_2 l0_2.length c0_2, .slice A0_3 l0_3.length c0_3] 70 (0, 0)) (by (with_reducible repeat (first | refine blk_drewN ?_ _ | refine blk_drew ?_ | refine blk_alloc ?_ _)); exact KA.out) hb); have n1_ := Aside0.mk (blk_below (g := gb105) (o := .cells #[.string a1_0, .slice A1_1 l1_1.length c1_1, .slice A1_2 l1_2.length c1_2, .slice A1_3 l1_3.length c1_3, .slice A1_4 l1_4.length c1_4, .slice A1_5 l1_5.length c1_5] 30 (0, 0)) (by (with_reducible repeat (first | refine blk_drewN ?_ _ | refine blk_drew ?_ | refine blk_alloc ?_ _)); exact KB.out) hb); have n2_ := Aside0.mk (blk_below (g := gb106) (o := .cells #[.string (⟨#[]⟩ : ByteArray), .slice none 0 0, .slice none 0 0, .slice none 0 0, .slice none 0 0, .slice none 0 0, .slice none 0 0, .slice none 0 0, .slice none 0 0, .slice none 0 0] 36 (0, 0)) (by (with_reducible repeat (first | refine blk_drewN ?_ _ | refine blk_drew ?_ | refine blk_alloc ?_ _)); exact KC.out) hb); have n3_ := Aside0.mk (below_step (by repeat (first | (with_reducible first | exact HB.out | apply below_alloc | apply pw_below_drewN | apply below_drew1 | refine below_set ?_ GE104.out | refine below_set ?_ GE105.out | refine below_set ?_ GE106.out) | exact HB.out)) hb); have n4_ := Aside0.mk (hbox); have n5_ := Aside0.mk ((by rw [hg]; exact (below_size (by repeat (first | (with_reducible first | exact HB.out | apply below_alloc | apply pw_below_drewN | apply below_drew1 | refine below_set ?_ GE104.out | refine below_set ?_ GE105.out | refine below_set ?_ GE106.out) | exact HB.out))) : w.heap.size ≤ gb107)); have n6_ := Aside0.mk ((by rw [hg]; exact (below_size (by repeat (first | (with_reducible first | exact HB.out | apply below_alloc | apply pw_below_drewN | apply below_drew1 | refine below_set ?_ GE104.out | refine below_set ?_ GE105.out | refine below_set ?_ GE106.out) | exact HB.out))) : w.heap.size ≤ gb107)); have n7_ := Aside0.mk ((by rw [hg]; exact Nat.ne_of_lt (blk_lt (g := gb104) (o := .cells #[.int .u8 a0_0, .slice A0_1 l0_1.length c0_1, .slice A0_2 l0_2.length c0_2, .slice A0_3 l0_3.length c0_3] 70 (0, 0)) (by (with_reducible repeat (first | refine blk_drewN ?_ _ | refine blk_drew ?_ | refine blk_alloc ?_ _)); exact KA.out)) : gb104 ≠ gb107)); have n8_ := Aside0.mk ((by rw [hg]; exact Nat.ne_of_gt (blk_lt (g := gb104) (o := .cells #[.int .u8 a0_0, .slice A0_1 l0_1.length c0_1, .slice A0_2 l0_2.length c0_2, .slice A0_3 l0_3.length c0_3] 70 (0, 0)) (by (with_reducible repeat (first | refine blk_drewN ?_ _ | refine blk_drew ?_ | refine blk_alloc ?_ _)); exact KA.out)) : gb107 ≠ gb104)); have n9_ := Aside0.mk ((by rw [hg]; exact Nat.ne_of_lt (blk_lt (g := gb105) (o := .cells #[.string a1_0, .slice A1_1 l1_1.length c1_1, .slice A1_2 l1_2.length c1_2, .slice A1_3 l1_3.length c1_3, .slice A1_4 l1_4.length c1_4, .slice A1_5 l1_5.length c1_5] 30 (0, 0)) (by (with_reducible repeat (first | refine blk_drewN ?_ _ | refine blk_drew ?_ | refine blk_alloc ?_ _)); exact KB.out)) : gb105 ≠ gb107)); have n10_ := Aside0.mk ((by rw [hg]; exact Nat.ne_of_gt (blk_lt (g := gb105) (o := .cells #[.string a1_0, .slice A1_1 l1_1.length c1_1, .slice A1_2 l1_2.length c1_2, .slice A1_3 l1_3.length c1_3, .slice A1_4 l1_4.length c1_4, .slice A1_5 l1_5.length c1_5] 30 (0, 0)) (by (with_reducible repeat (first | refine blk_drewN ?_ _ | refine blk_drew ?_ | refine blk_alloc ?_ _)); exact KB.out)) : gb107 ≠ gb105)); have n11_ := Aside0.mk ((by rw [hg]; exact Nat.ne_of_lt (blk_lt (g := gb106) (o := .cells #[.string (⟨#[]⟩ : ByteArray), .slice none 0 0, .slice none 0 0, .slice none 0 0, .slice none 0 0, .slice none 0 0, .slice none 0 0, .slice none 0 0, .slice none 0 0, .slice none 0 0] 36 (0, 0)) (by (with_reducible repeat (first | refine blk_drewN ?_ _ | refine blk_drew ?_ | refine blk_alloc ?_ _)); exact KC.out)) : gb106 ≠ gb107)); have n12_ := Aside0.mk ((by rw [hg]; exact Nat.ne_of_gt (blk_lt (g := gb106) (o := .cells #[.string (⟨#[]⟩ : ByteArray), .slice none 0 0, .slice none 0 0, .slice none 0 0, .slice none 0 0, .slice none 0 0, .slice none 0 0, .slice none 0 0, .slice none 0 0, .slice none 0 0] 36 (0, 0)) (by (with_reducible repeat (first | refine blk_drewN ?_ _ | refine blk_drew ?_ | refine blk_alloc ?_ _)); exact KC.out)) : gb107 ≠ gb106)); clear KA; clear KB; clear KC; clear HB; have KA := n0_; have KB := n1_; have KC := n2_; have HB := n3_; have KE := n4_; have GW107 := n5_; have GE107 := n6_; have NB104_107 := n7_; have NB107_104 := n8_; have NB105_107 := n9_; have NB107_105 := n10_; have NB106_107 := n11_; have NB107_106 := n12_; clear n0_ n1_ n2_ n3_ n4_ n5_ n6_ n7_ n8_ n9_ n10_ n11_ n12_; clear hb hbox hg; have hnb12 := NB107_104.out; have hnc12 := NB104_107.out; have hnb13 := NB107_105.out; have hnc13 := NB105_107.out; have hnb14 := NB107_106.out; have hnc14 := NB106_107.out; have hcz15_0 : w11.cell? ⟨gb107, 0, none⟩ = some (.string (⟨#[]⟩ : ByteArray)) := (blk_cell KE.out 0).trans rfl; have hcz15_1 : w11.cell? ⟨gb107, 1, none⟩ = some (.slice none 0 0) := (blk_cell KE.out 1).trans rfl; have hcz15_2 : w11.cell? ⟨gb107, 2, none⟩ = some (.slice none 0 0) := (blk_cell KE.out 2).trans rfl; have hcz15_3 : w11.cell? ⟨gb107, 3, none⟩ = some (.slice none 0 0) := (blk_cell KE.out 3).trans rfl; have hcz15_4 : w11.cell? ⟨gb107, 4, none⟩ = some (.slice none 0 0) := (blk_cell KE.out 4).trans rfl; have hcz15_5 : w11.cell? ⟨gb107, 5, none⟩ = some (.slice none 0 0) := (blk_cell KE.out 5).trans rfl; have hcz15_6 : w11.cell? ⟨gb107, 6, none⟩ = some (.slice none 0 0) := (blk_cell KE.out 6).trans rfl; have hcz15_7 : w11.cell? ⟨gb107, 7, none⟩ = some (.slice none 0 0) := (blk_cell KE.out 7).trans rfl; have hcz15_8 : w11.cell? ⟨gb107, 8, none⟩ = some (.slice none 0 0) := (blk_cell KE.out 8).trans rfl; have hcz15_9 : w11.cell? ⟨gb107, 9, none⟩ = some (.slice none 0 0) := (blk_cell KE.out 9).trans rfl; have hfz15_0 := blk_frozen KE.out 0; have hfz15_1 := blk_frozen KE.out 1; have hfz15_2 := blk_frozen KE.out 2; have hfz15_3 := blk_frozen KE.out 3; have hfz15_4 := blk_frozen KE.out 4; have hfz15_5 := blk_frozen KE.out 5; have hfz15_6 := blk_frozen KE.out 6; have hfz15_7 := blk_frozen KE.out 7; have hfz15_8 := blk_frozen KE.out 8; have hfz15_9 := blk_frozen KE.out 9))
 go_loopg [7] k (fun kq v7 w' => ∃ (x7_1 : Int) (x108006_1 : List ByteArray) (u108006 : Value), v7 = .int .i64 x7_1 ∧ Aside0 (dowellaw48_Family.l0 kq (wrap64 (1 + (wrap64 (Int.tmod a0_0 6)))) x7_1 a0_0 l0_1 l0_2 l0_3 a1_0 l1_1 l1_2 l1_3 l1_4 l1_5 a1_0 l1_1 l1_2 l1_3 l1_4 l1_5 x108006_1 = some (r1, r2, r3, r4, r5, r6, r7, r8, r9, r10)) ∧ Aside0 (kq ≤ k) ∧ Aside0 (Kd.R Kd.string 9 w' w.heap.size (fun _ => True) u108006 x108006_1) ∧ Aside0 (w'.heap[gb104]? = some (.cells #[.int .u8 a0_0, (.slice A0_1 l0_1.length c0_1), (.slice A0_2 l0_2.length c0_2), (.slice A0_3 l0_3.length c0_3)] 70 (0, 0))) ∧ Aside0 (w'.heap[gb105]? = some (.cells #[.string a1_0, (.slice A1_1 l1_1.length c1_1), (.slice A1_2 l1_2.length c1_2), (.slice A1_3 l1_3.length c1_3), (.slice A1_4 l1_4.length c1_4), (.slice A1_5 l1_5.length c1_5)] 30 (0, 0))) ∧ Aside0 (w'.heap[gb106]? = some (.cells #[.string (⟨#[]⟩ : ByteArray), (.slice none 0 0), (.slice none 0 0), (.slice none 0 0), (.slice none 0 0), (.slice none 0 0), (.slice none 0 0), (.slice none 0 0), (.slice none 0 0), (.slice none 0 0)] 36 (0, 0))) ∧ Aside0 (w'.heap[gb107]? = some (.cells #[.string a1_0, (.slice A1_1 l1_1.length c1_1), (.slice A1_2 l1_2.length c1_2), (.slice A1_3 l1_3.length c1_3), (.slice A1_4 l1_4.length c1_4), (.slice A1_5 l1_5.length c1_5), u108006, (.slice none 0 0), (.slice none 0 0), (.slice none 0 0)] 36 (0, 0))) ∧ Aside0 (Below w.heap.size w w'))
 case atStart => exact ⟨(0), (([] : List ByteArray)), (.slice none 0 0), (by first | rfl | (simp; done) | (simp [*]; done)), H', ⟨Nat.le_refl _⟩, ⟨by first | exact Kd.R_nil _ _ _ _ _ | exact Kd.N_nil _ _ _ _ _ | exact Kd.V_nil _ _ _ _ _ | exact Kd.Q_nil _ _ _ _ _ | exact Kd.S_nil _ _ _ _ _⟩, ⟨by (with_reducible repeat (first | refine blk_drewN ?_ _ | refine blk_drew ?_ | refine blk_alloc ?_ _)); refine blk_far ?_ NB104_107.out _; (with_reducible repeat (first | refine blk_drewN ?_ _ | refine blk_drew ?_ | refine blk_alloc ?_ _)); refine blk_far ?_ NB104_107.out _; (with_reducible repeat (first | refine blk_drewN ?_ _ | refine blk_drew ?_ | refine blk_alloc ?_ _)); refine blk_far ?_ NB104_107.out _; (with_reducible repeat (first | refine blk_drewN ?_ _ | refine blk_drew ?_ | refine blk_alloc ?_ _)); refine blk_far ?_ NB104_107.out _; (with_reducible repeat (first | refine blk_drewN ?_ _ | refine blk_drew ?_ | refine blk_alloc ?_ _)); refine blk_far ?_ NB104_107.out _; (with_reducible repeat (first | refine blk_drewN ?_ _ | refine blk_drew ?_ | refine blk_alloc ?_ _)); refine blk_far ?_ NB104_107.out _; (with_reducible repeat (first | refine blk_drewN ?_ _ | refine blk_drew ?_ | refine blk_alloc ?_ _)); refine blk_far ?_ NB104_107.out _; (with_reducible repeat (first | refine blk_drewN ?_ _ | refine blk_drew ?_ | refine blk_alloc ?_ _)); refine blk_far ?_ NB104_107.out _; (with_reducible repeat (first | refine blk_drewN ?_ _ | refine blk_drew ?_ | refine blk_alloc ?_ _)); refine blk_far ?_ NB104_107.out _; (with_reducible repeat (first | refine blk_drewN ?_ _ | refine blk_drew ?_ | refine blk_alloc ?_ _)); refine blk_far ?_ NB104_107.out _; (with_reducible repeat (first | refine blk_drewN ?_ _ | refine blk_drew ?_ | refine blk_alloc ?_ _)); exact KA.out⟩, ⟨by (with_reducible repeat (first | refine blk_drewN ?_ _ | refine blk_drew ?_ | refine blk_alloc ?_ _)); refine blk_far ?_ NB105_107.out _; (with_reducible repeat (first | refine blk_drewN ?_ _ | refine blk_drew ?_ | refine blk_alloc ?_ _)); refine blk_far ?_ NB105_107.out _; (with_reducible repeat (first | refine blk_drewN ?_ _ | refine blk_drew ?_ | refine blk_alloc ?_ _)); refine blk_far ?_ NB105_107.out _; (with_reducible repeat (first | refine blk_drewN ?_ _ | refine blk_drew ?_ | refine blk_alloc ?_ _)); refine blk_far ?_ NB105_107.out _; (with_reducible repeat (first | refine blk_drewN ?_ _ | refine blk_drew ?_ | refine blk_alloc ?_ _)); refine blk_far ?_ NB105_107.out _; (with_reducible repeat (first | refine blk_drewN ?_ _ | refine blk_drew ?_ | refine blk_alloc ?_ _)); refine blk_far ?_ NB105_107.out _; (with_reducible repeat (first | refine blk_drewN ?_ _ | refine blk_drew ?_ | refine blk_alloc ?_ _)); refine blk_far ?_ NB105_107.out _; (with_reducible repeat (first | refine blk_drewN ?_ _ | refine blk_drew ?_ | refine blk_alloc ?_ _)); refine blk_far ?_ NB105_107.out _; (with_reducible repeat (first | refine blk_drewN ?_ _ | refine blk_drew ?_ | refine blk_alloc ?_ _)); refine blk_far ?_ NB105_107.out _; (with_reducible repeat (first | refine blk_drewN ?_ _ | refine blk_drew ?_ | refine blk_alloc ?_ _)); refine blk_far ?_ NB105_107.out _; (with_reducible repeat (first | refine blk_drewN ?_ _ | refine blk_drew ?_ | refine blk_alloc ?_ _)); exact KB.out⟩, ⟨by (with_reducible repeat (first | refine blk_drewN ?_ _ | refine blk_drew ?_ | refine blk_alloc ?_ _)); refine blk_far ?_ NB106_107.out _; (with_reducible repeat (first | refine blk_drewN ?_ _ | refine blk_drew ?_ | refine blk_alloc ?_ _)); refine blk_far ?_ NB106_107.out _; (with_reducible repeat (first | refine blk_drewN ?_ _ | refine blk_drew ?_ | refine blk_alloc ?_ _)); refine blk_far ?_ NB106_107.out _; (with_reducible repeat (first | refine blk_drewN ?_ _ | refine blk_drew ?_ | refine blk_alloc ?_ _)); refine blk_far ?_ NB106_107.out _; (with_reducible repeat (first | refine blk_drewN ?_ _ | refine blk_drew ?_ | refine blk_alloc ?_ _)); refine blk_far ?_ NB106_107.out _; (with_reducible repeat (first | refine blk_drewN ?_ _ | refine blk_drew ?_ | refine blk_alloc ?_ _)); refine blk_far ?_ NB106_107.out _; (with_reducible repeat (first | refine blk_drewN ?_ _ | refine blk_drew ?_ | refine blk_alloc ?_ _)); refine blk_far ?_ NB106_107.out _; (with_reducible repeat (first | refine blk_drewN ?_ _ | refine blk_drew ?_ | refine blk_alloc ?_ _)); refine blk_far ?_ NB106_107.out _; (with_reducible repeat (first | refine blk_drewN ?_ _ | refine blk_drew ?_ | refine blk_alloc ?_ _)); refine blk_far ?_ NB106_107.out _; (with_reducible repeat (first | refine blk_drewN ?_ _ | refine blk_drew ?_ | refine blk_alloc ?_ _)); refine blk_far ?_ NB106_107.out _; (with_reducible repeat (first | refine blk_drewN ?_ _ | refine blk_drew ?_ | refine blk_alloc ?_ _)); exact KC.out⟩, ⟨by (with_reducible repeat (first | refine blk_drewN ?_ _ | refine blk_drew ?_ | refine blk_alloc ?_ _)); refine blk_put (cs := #[.string a1_0, .slice A1_1 l1_1.length c1_1, .slice A1_2 l1_2.length c1_2, .slice A1_3 l1_3.length c1_3, .slice A1_4 l1_4.length c1_4, .slice A1_5 l1_5.length c1_5, .slice none 0 0, .slice none 0 0, .slice none 0 0, .slice none 0 0]) ?_ 9 _ rfl; (with_reducible repeat (first | refine blk_drewN ?_ _ | refine blk_drew ?_ | refine blk_alloc ?_ _)); refine blk_put (cs := #[.string a1_0, .slice A1_1 l1_1.length c1_1, .slice A1_2 l1_2.length c1_2, .slice A1_3 l1_3.length c1_3, .slice A1_4 l1_4.length c1_4, .slice A1_5 l1_5.length c1_5, .slice none 0 0, .slice none 0 0, .slice none 0 0, .slice none 0 0]) ?_ 8 _ rfl; (with_reducible repeat (first | refine blk_drewN ?_ _ | refine blk_drew ?_ | refine blk_alloc ?_ _)); refine blk_put (cs := #[.string a1_0, .slice A1_1 l1_1.length c1_1, .slice A1_2 l1_2.length c1_2, .slice A1_3 l1_3.length c1_3, .slice A1_4 l1_4.length c1_4, .slice A1_5 l1_5.length c1_5, .slice none 0 0, .slice none 0 0, .slice none 0 0, .slice none 0 0]) ?_ 7 _ rfl; (with_reducible repeat (first | refine blk_drewN ?_ _ | refine blk_drew ?_ | refine blk_alloc ?_ _)); refine blk_put (cs := #[.string a1_0, .slice A1_1 l1_1.length c1_1, .slice A1_2 l1_2.length c1_2, .slice A1_3 l1_3.length c1_3, .slice A1_4 l1_4.length c1_4, .slice A1_5 l1_5.length c1_5, .slice none 0 0, .slice none 0 0, .slice none 0 0, .slice none 0 0]) ?_ 6 _ rfl; (with_reducible repeat (first | refine blk_drewN ?_ _ | refine blk_drew ?_ | refine blk_alloc ?_ _)); refine blk_put (cs := #[.string a1_0, .slice A1_1 l1_1.length c1_1, .slice A1_2 l1_2.length c1_2, .slice A1_3 l1_3.length c1_3, .slice A1_4 l1_4.length c1_4, .slice none 0 0, .slice none 0 0, .slice none 0 0, .slice none 0 0, .slice none 0 0]) ?_ 5 _ rfl; (with_reducible repeat (first | refine blk_drewN ?_ _ | refine blk_drew ?_ | refine blk_alloc ?_ _)); refine blk_put (cs := #[.string a1_0, .slice A1_1 l1_1.length c1_1, .slice A1_2 l1_2.length c1_2, .slice A1_3 l1_3.length c1_3, .slice none 0 0, .slice none 0 0, .slice none 0 0, .slice none 0 0, .slice none 0 0, .slice none 0 0]) ?_ 4 _ rfl; (with_reducible repeat (first | refine blk_drewN ?_ _ | refine blk_drew ?_ | refine blk_alloc ?_ _)); refine blk_put (cs := #[.string a1_0, .slice A1_1 l1_1.length c1_1, .slice A1_2 l1_2.length c1_2, .slice none 0 0, .slice none 0 0, .slice none 0 0, .slice none 0 0, .slice none 0 0, .slice none 0 0, .slice none 0 0]) ?_ 3 _ rfl; (with_reducible repeat (first | refine blk_drewN ?_ _ | refine blk_drew ?_ | refine blk_alloc ?_ _)); refine blk_put (cs := #[.string a1_0, .slice A1_1 l1_1.length c1_1, .slice none 0 0, .slice none 0 0, .slice none 0 0, .slice none 0 0, .slice none 0 0, .slice none 0 0, .slice none 0 0, .slice none 0 0]) ?_ 2 _ rfl; (with_reducible repeat (first | refine blk_drewN ?_ _ | refine blk_drew ?_ | refine blk_alloc ?_ _)); refine blk_put (cs := #[.string a1_0, .slice none 0 0, .slice none 0 0, .slice none 0 0, .slice none 0 0, .slice none 0 0, .slice none 0 0, .slice none 0 0, .slice none 0 0, .slice none 0 0]) ?_ 1 _ rfl; (with_reducible repeat (first | refine blk_drewN ?_ _ | refine blk_drew ?_ | refine blk_alloc ?_ _)); refine blk_put (cs := #[.string (⟨#[]⟩ : ByteArray), .slice none 0 0, .slice none 0 0, .slice none 0 0, .slice none 0 0, .slice none 0 0, .slice none 0 0, .slice none 0 0, .slice none 0 0, .slice none 0 0]) ?_ 0 _ rfl; (with_reducible repeat (first | refine blk_drewN ?_ _ | refine blk_drew ?_ | refine blk_alloc ?_ _)); exact KE.out⟩, ⟨by repeat (first | (with_reducible first | exact HB.out | apply below_alloc | apply pw_below_drewN | apply below_drew1 | refine below_set ?_ GE104.out | refine below_set ?_ GE105.out | refine below_set ?_ GE106.out | refine below_set ?_ GE107.out) | exact HB.out)⟩⟩
 case round =>
  clear H'
  try clear c1
  try clear p2
  try clear c6
  try clear p6
  try clear c7
  try clear c9
  try clear c12
  try clear c13
  try clear c14
  try clear hcz10_0
  try clear hcz10_1
  try clear hcz10_2
  try clear hcz10_3
  try clear hcz10_4
  try clear hcz10_5
  try clear hcz15_0
  try clear hcz15_1
  try clear hcz15_2
  try clear hcz15_3
  try clear hcz15_4
  try clear hcz15_5
  try clear hcz15_6
  try clear hcz15_7
  try clear hcz15_8
  try clear hcz15_9
  try clear hcz8_0
  try clear hcz8_1
  try clear hcz8_2
  try clear hcz8_3
  try clear hfz10_0
  try clear hfz10_1
  try clear hfz10_2
  try clear hfz10_3
  try clear hfz10_4
  try clear hfz10_5
  try clear hfz15_0
  try clear hfz15_1
  try clear hfz15_2
  try clear hfz15_3
  try clear hfz15_4
  try clear hfz15_5
  try clear hfz15_6
  try clear hfz15_7
  try clear hfz15_8
  try clear hfz15_9
  try clear hfz8_0
  try clear hfz8_1
  try clear hfz8_2
  try clear hfz8_3
  obtain ⟨x7_1, x108006_1, u108006, rfl, HA, HK1, HO_108006, KA, KB, KC, KE, HB⟩ := hrel
  cases gk with
  | zero => exact absurd HA.out (by simp [dowellaw48_Family.l0])
  | succ k1 =>
   have H := HA.out
   clear HA
   simp only [dowellaw48_Family.l0] at H
   by_cases c16 : x7_1 < (wrap64 (1 + (wrap64 (Int.tmod a0_0 6))))
   ·rw [if_pos c16] at H
    have c16b0 : decide (x7_1 < (wrap64 (1 + (wrap64 (Int.tmod a0_0 6))))) = true := decide_eq_true c16
    clear c16
    replace H := Option.bind_eq_some_iff.mp H
    obtain ⟨t108, A170, H⟩ := H
    replace H : (if x108006_1.length < 8796093022208 then (dowellaw48_Family.l0 k1 (wrap64 (1 + (wrap64 (Int.tmod a0_0 6)))) (wrap64 (x7_1 + 1)) a0_0 l0_1 l0_2 l0_3 a1_0 l1_1 l1_2 l1_3 l1_4 l1_5 a1_0 l1_1 l1_2 l1_3 l1_4 l1_5 (x108006_1 ++ [t108])) else (none)) = some (r1, r2, r3, r4, r5, r6, r7, r8, r9, r10) := H
    have A17 := Aside0.mk A170
    clear A170
    by_cases c18 : x108006_1.length < 8796093022208
    ·rw [if_pos c18] at H
     have LMc18 := Aside0.mk c18
     clear c18
     obtain ⟨y109, hy109⟩ : ∃ y_ : List ByteArray, y_ = (x108006_1 ++ [t108]) := ⟨_, rfl⟩
     replace H : (dowellaw48_Family.l0 k1 (wrap64 (1 + (wrap64 (Int.tmod a0_0 6)))) (wrap64 (x7_1 + 1)) a0_0 l0_1 l0_2 l0_3 a1_0 l1_1 l1_2 l1_3 l1_4 l1_5 a1_0 l1_1 l1_2 l1_3 l1_4 l1_5 y109) = some (r1, r2, r3, r4, r5, r6, r7, r8, r9, r10) := by first | (rw [hy109]; with_reducible exact H) | (have H2_ := (Option.bind_some _ _).symm.trans H; rw [hy109]; with_reducible exact H2_) | (have H2_ := (Option.bind_some _ _).symm.trans H; with_reducible exact H2_) | with_reducible exact H | (rw [hy109]; exact H) | exact H
     have Ny109 := Aside0.mk hy109
     clear hy109
     have H' := Aside0.mk H
     clear H
     try go_wp2
     have n0_ := Aside0.mk (Kd.R_drew HO_108006.out)
     have n1_ := Aside0.mk (blk_drew KA.out)
     have n2_ := Aside0.mk (blk_drew KB.out)
     have n3_ := Aside0.mk (blk_drew KC.out)
     have n4_ := Aside0.mk (blk_drew KE.out)
     have n5_ := Aside0.mk (below_drew1 HB.out)
     clear HO_108006
     clear KA
     clear KB
     clear KC
     clear KE
     clear HB
     have HO_108006 := n0_
     have KA := n1_
     have KB := n2_
     have KC := n3_
     have KE := n4_
     have HB := n5_
     clear n0_ n1_ n2_ n3_ n4_ n5_
     refine start_ (n := 8) (S := fun w' => w'.cell? ⟨gb107, 0, none⟩ = some (.string a1_0) ∧ w'.cell? ⟨gb107, 1, none⟩ = some (.slice A1_1 l1_1.length c1_1) ∧ w'.cell? ⟨gb107, 2, none⟩ = some (.slice A1_2 l1_2.length c1_2) ∧ w'.cell? ⟨gb107, 3, none⟩ = some (.slice A1_3 l1_3.length c1_3) ∧ w'.cell? ⟨gb107, 4, none⟩ = some (.slice A1_4 l1_4.length c1_4) ∧ w'.cell? ⟨gb107, 5, none⟩ = some (.slice A1_5 l1_5.length c1_5) ∧ w'.cell? ⟨gb107, 6, none⟩ = some (u108006) ∧ w'.cell? ⟨gb107, 7, none⟩ = some (.slice none 0 0) ∧ w'.cell? ⟨gb107, 8, none⟩ = some (.slice none 0 0) ∧ w'.cell? ⟨gb107, 9, none⟩ = some (.slice none 0 0)) (ds := [7]) #[false, false, false, false, false, false, false, false] (by kernel_rfl) rfl rfl ⟨(blk_cell KE.out 0).trans rfl, (blk_cell KE.out 1).trans rfl, (blk_cell KE.out 2).trans rfl, (blk_cell KE.out 3).trans rfl, (blk_cell KE.out 4).trans rfl, (blk_cell KE.out 5).trans rfl, (blk_cell KE.out 6).trans rfl, (blk_cell KE.out 7).trans rfl, (blk_cell KE.out 8).trans rfl, (blk_cell KE.out 9).trans rfl⟩ (fun hHeld => ?_); refine with_tabW dowellaw48_Family.tab6 dowellaw48_Family.bits6 (fun HT_ HW_ => ?_)
     generalize wr.drew = w19 at HO_108006 KA KB KC KE HB hHeld ⊢
     refine pure_ (i := 0) (N := some 25) (v := ?_) (a' := ?_) #[true, false, false, false, false, false, false, false] rfl rfl (any_of HT_.out (by kernel_rfl)) (fun _ _ _ h => h) (Or.inl ⟨by rfl, ?_⟩) ?_ ?_
     rotate_left
     ·intro w'
      go_simp
      with_reducible rfl
     rotate_left
     ·simp only [Act.put, List.setIfInBounds_toArray, List.set_cons_zero, List.set_cons_succ, i64_w, i32_w]
      rfl
     refine pure_ (i := 2) (N := some 27) (v := ?_) (a' := ?_) #[true, false, true, false, false, false, false, false] rfl rfl (any_of HT_.out (by kernel_rfl)) (fun _ _ _ h => h) (Or.inl ⟨by rfl, ?_⟩) ?_ ?_
     rotate_left
     ·intro w'
      go_simp
      with_reducible rfl
     rotate_left
     ·simp only [Act.put, List.setIfInBounds_toArray, List.set_cons_zero, List.set_cons_succ, i64_w, i32_w]
      rfl
     refine take_ (i := 1) (N := some 26) (v := ?_) (a' := ?_) #[true, true, true, false, false, false, false, false] rfl rfl (take_ofW HT_.out HW_.out (by kernel_rfl)) (fun _ _ _ h => h) (Or.inl ⟨by rfl, ?_⟩) hHeld ?_ ?_
     rotate_left
     ·rintro w' ⟨s0, s1, s2, s3, s4, s5, s6, s7, s8, s9⟩
      go_simp
      with_reducible rfl
     rotate_left
     ·simp only [Act.put, List.setIfInBounds_toArray, List.set_cons_zero, List.set_cons_succ, i64_w, i32_w]
      rfl
     refine one_ (i := 3) (N := some 28) #[true, true, true, true, false, false, false, false] rfl rfl (one_of HT_.out (by kernel_rfl)) (by decide) (fun K hK => ?_)
     refine goes_ Tryz.func49 (by kernel_rfl) rfl #[.int .i64 x7_1] (by rfl) rfl rfl (by (try simp only [List.map_toArray, List.map_cons, List.map_nil]); first | done | rfl | (simp only [List.length_drop, List.length_take]; rfl)) ?_
     with_reducible refine (dowellaw48_option.calls x7_1 t108 _ A17.out).mono ?_
     rintro e w20 ⟨rfl, hb⟩
     refine ⟨_, rfl, ?_⟩
     have n0_ := Aside0.mk (Kd.R_below (by (with_reducible repeat (first | apply Kd.R_alloc | apply Kd.R_drewN | apply Kd.R_drew)); exact HO_108006.out) hb)
     have n1_ := Aside0.mk (blk_below (g := gb104) (o := .cells #[.int .u8 a0_0, .slice A0_1 l0_1.length c0_1, .slice A0_2 l0_2.length c0_2, .slice A0_3 l0_3.length c0_3] 70 (0, 0)) (by (with_reducible repeat (first | refine blk_drewN ?_ _ | refine blk_drew ?_ | refine blk_alloc ?_ _)); exact KA.out) hb)
     have n2_ := Aside0.mk (blk_below (g := gb105) (o := .cells #[.string a1_0, .slice A1_1 l1_1.length c1_1, .slice A1_2 l1_2.length c1_2, .slice A1_3 l1_3.length c1_3, .slice A1_4 l1_4.length c1_4, .slice A1_5 l1_5.length c1_5] 30 (0, 0)) (by (with_reducible repeat (first | refine blk_drewN ?_ _ | refine blk_drew ?_ | refine blk_alloc ?_ _)); exact KB.out) hb)
     have n3_ := Aside0.mk (blk_below (g := gb106) (o := .cells #[.string (⟨#[]⟩ : ByteArray), .slice none 0 0, .slice none 0 0, .slice none 0 0, .slice none 0 0, .slice none 0 0, .slice none 0 0, .slice none 0 0, .slice none 0 0, .slice none 0 0] 36 (0, 0)) (by (with_reducible repeat (first | refine blk_drewN ?_ _ | refine blk_drew ?_ | refine blk_alloc ?_ _)); exact KC.out) hb)
     have n4_ := Aside0.mk (blk_below (g := gb107) (o := .cells #[.string a1_0, .slice A1_1 l1_1.length c1_1, .slice A1_2 l1_2.length c1_2, .slice A1_3 l1_3.length c1_3, .slice A1_4 l1_4.length c1_4, .slice A1_5 l1_5.length c1_5, u108006, .slice none 0 0, .slice none 0 0, .slice none 0 0] 36 (0, 0)) (by (with_reducible repeat (first | refine blk_drewN ?_ _ | refine blk_drew ?_ | refine blk_alloc ?_ _)); exact KE.out) hb)
     have n5_ := Aside0.mk (below_step (by repeat (first | (with_reducible first | exact HB.out | apply below_alloc | apply pw_below_drewN | apply below_drew1 | refine below_set ?_ GE104.out | refine below_set ?_ GE105.out | refine below_set ?_ GE106.out | refine below_set ?_ GE107.out) | exact HB.out)) hb)
     clear HO_108006
     clear KA
     clear KB
     clear KC
     clear KE
     clear HB
     have HO_108006 := n0_
     have KA := n1_
     have KB := n2_
     have KC := n3_
     have KE := n4_
     have HB := n5_
     clear n0_ n1_ n2_ n3_ n4_ n5_
     (try clear hb)
     (try clear hb2)
     (try clear hk)
     (try clear hi)
     refine hK.out _ _ ⟨(blk_cell KE.out 0).trans rfl, (blk_cell KE.out 1).trans rfl, (blk_cell KE.out 2).trans rfl, (blk_cell KE.out 3).trans rfl, (blk_cell KE.out 4).trans rfl, (blk_cell KE.out 5).trans rfl, (blk_cell KE.out 6).trans rfl, (blk_cell KE.out 7).trans rfl, (blk_cell KE.out 8).trans rfl, (blk_cell KE.out 9).trans rfl⟩ (fun hHeld => ?_)
     clear hK K
     refine norm_ (a' := ?_) ?_ ?_
     rotate_left
     ·show Act.put _ (some 28) _ = _
      simp only [Act.put, List.setIfInBounds_toArray, List.set_cons_zero, List.set_cons_succ, i64_w, i32_w]
      rfl
     refine one_ (i := 4) (N := some 29) #[true, true, true, true, true, false, false, false] rfl rfl (one_of HT_.out (by kernel_rfl)) (by decide) (fun K hK => ?_)
     refine value_ (w1 := ?_) (v := ?_) (by rfl) rfl ?_ ?_
     rotate_left 2
     ·go_simp
      constructor
      ·rfl
      ·rfl
     refine hK.out _ _ ⟨(blk_cell (blk_alloc KE.out _) 0).trans rfl, (blk_cell (blk_alloc KE.out _) 1).trans rfl, (blk_cell (blk_alloc KE.out _) 2).trans rfl, (blk_cell (blk_alloc KE.out _) 3).trans rfl, (blk_cell (blk_alloc KE.out _) 4).trans rfl, (blk_cell (blk_alloc KE.out _) 5).trans rfl, (blk_cell (blk_alloc KE.out _) 6).trans rfl, (blk_cell (blk_alloc KE.out _) 7).trans rfl, (blk_cell (blk_alloc KE.out _) 8).trans rfl, (blk_cell (blk_alloc KE.out _) 9).trans rfl⟩ (fun hHeld => ?_)
     clear hK K
     refine norm_ (a' := ?_) ?_ ?_
     rotate_left
     ·show Act.put _ (some 29) _ = _
      simp only [Act.put, List.setIfInBounds_toArray, List.set_cons_zero, List.set_cons_succ, i64_w, i32_w]
      rfl
     refine one_ (i := 5) (N := some 30) #[true, true, true, true, true, true, false, false] rfl rfl (one_of HT_.out (by kernel_rfl)) (by decide) (fun K hK => ?_)
     refine Kd.R_append_step Kd.string (w0 := w) w.heap.size (by rfl) (.tmp 26) (.tmp 29) 31 9 (.string ⟨#[]⟩) 16 rfl Tryz.underlying31 info9 rfl (by decide) (by omega) u108006 x108006_1 t108 [.string t108] (fun _ => True) (fun _ => False) rfl rfl ?aP (fun _ hk => hk.elim) ?aF ?aO ?aB ?aS ?aL ?_
     (case aP => exact rfl)
     (case aB => exact (by repeat (first | (with_reducible first | exact HB.out | apply below_alloc | apply pw_below_drewN | apply below_drew1 | refine below_set ?_ GE104.out | refine below_set ?_ GE105.out | refine below_set ?_ GE106.out | refine below_set ?_ GE107.out) | exact HB.out)))
     (case aF => exact (fun _ _ => trivial))
     (case aO => exact (by (with_reducible repeat (first | apply Kd.R_alloc | apply Kd.R_drewN | apply Kd.R_drew)); exact HO_108006.out))
     (case aS => exact (below_size (by repeat (first | (with_reducible first | exact HB.out | apply below_alloc | apply pw_below_drewN | apply below_drew1 | refine below_set ?_ GE104.out | refine below_set ?_ GE105.out | refine below_set ?_ GE106.out | refine below_set ?_ GE107.out) | exact HB.out))))
     (case aL => have := LMc18.out; omega)
     intro v110 w21 ho hb hg hat
     rw [← Ny109.out] at ho
     have n0_ := Aside0.mk (blk_grown (g := gb104) (o := .cells #[.int .u8 a0_0, .slice A0_1 l0_1.length c0_1, .slice A0_2 l0_2.length c0_2, .slice A0_3 l0_3.length c0_3] 70 (0, 0)) (by (with_reducible repeat (first | refine blk_drewN ?_ _ | refine blk_drew ?_ | refine blk_alloc ?_ _)); exact KA.out) hg (Kd.R_ne HO_108006.out KA.out (by decide)))
     have n1_ := Aside0.mk (blk_grown (g := gb105) (o := .cells #[.string a1_0, .slice A1_1 l1_1.length c1_1, .slice A1_2 l1_2.length c1_2, .slice A1_3 l1_3.length c1_3, .slice A1_4 l1_4.length c1_4, .slice A1_5 l1_5.length c1_5] 30 (0, 0)) (by (with_reducible repeat (first | refine blk_drewN ?_ _ | refine blk_drew ?_ | refine blk_alloc ?_ _)); exact KB.out) hg (Kd.R_ne HO_108006.out KB.out (by decide)))
     have n2_ := Aside0.mk (blk_grown (g := gb106) (o := .cells #[.string (⟨#[]⟩ : ByteArray), .slice none 0 0, .slice none 0 0, .slice none 0 0, .slice none 0 0, .slice none 0 0, .slice none 0 0, .slice none 0 0, .slice none 0 0, .slice none 0 0] 36 (0, 0)) (by (with_reducible repeat (first | refine blk_drewN ?_ _ | refine blk_drew ?_ | refine blk_alloc ?_ _)); exact KC.out) hg (Kd.R_ne HO_108006.out KC.out (by decide)))
     have n3_ := Aside0.mk (blk_grown (g := gb107) (o := .cells #[.string a1_0, .slice A1_1 l1_1.length c1_1, .slice A1_2 l1_2.length c1_2, .slice A1_3 l1_3.length c1_3, .slice A1_4 l1_4.length c1_4, .slice A1_5 l1_5.length c1_5, u108006, .slice none 0 0, .slice none 0 0, .slice none 0 0] 36 (0, 0)) (by (with_reducible repeat (first | refine blk_drewN ?_ _ | refine blk_drew ?_ | refine blk_alloc ?_ _)); exact KE.out) hg (Kd.R_ne HO_108006.out KE.out (by decide)))
     have n4_ := Aside0.mk (hb)
     have n5_ := Aside0.mk (ho)
     clear KA
     clear KB
     clear KC
     clear KE
     clear HB
     clear HO_108006
     have KA := n0_
     have KB := n1_
     have KC := n2_
     have KE := n3_
     have HB := n4_
     have HO111 := n5_
     clear n0_ n1_ n2_ n3_ n4_ n5_
     clear ho hb hg hat
     obtain ⟨Ao22, co22, eo22⟩ := Kd.R_slice HO111.out
     (first | subst eo22 | (injection eo22 with f1_ f2_ f3_; have f4_ := f1_.symm; have f5_ := f3_.symm; clear f1_ f2_ f3_; subst f4_; subst f5_))
     refine hK.out _ _ ⟨(blk_cell KE.out 0).trans rfl, (blk_cell KE.out 1).trans rfl, (blk_cell KE.out 2).trans rfl, (blk_cell KE.out 3).trans rfl, (blk_cell KE.out 4).trans rfl, (blk_cell KE.out 5).trans rfl, (blk_cell KE.out 6).trans rfl, (blk_cell KE.out 7).trans rfl, (blk_cell KE.out 8).trans rfl, (blk_cell KE.out 9).trans rfl⟩ (fun hHeld => ?_)
     clear hK K
     refine norm_ (a' := ?_) ?_ ?_
     rotate_left
     ·show Act.put _ (some 30) _ = _
      simp only [Act.put, List.setIfInBounds_toArray, List.set_cons_zero, List.set_cons_succ, i64_w, i32_w]
      rfl
     refine pure_ (i := 6) (N := some 31) (v := ?_) (a' := ?_) #[true, true, true, true, true, true, true, false] rfl rfl (any_of HT_.out (by kernel_rfl)) (fun _ _ _ h => h) (Or.inl ⟨by rfl, ?_⟩) ?_ ?_
     rotate_left
     ·intro w'
      go_simp
      with_reducible rfl
     rotate_left
     ·simp only [Act.put, List.setIfInBounds_toArray, List.set_cons_zero, List.set_cons_succ, i64_w, i32_w]
      rfl
     refine last_ (i := 7) (N := none) #[true, true, true, true, true, true, true, true] rfl rfl (one_of HT_.out (by kernel_rfl)) (by decide) (fun K hK => ?_)
     have hs23 : w21.cell? ⟨gb107, 6, none⟩ = some (u108006) := (blk_cell KE.out 6).trans rfl
     have hfs23 := blk_frozen KE.out 6
     have hns23_0 := NB104_107.out
     have hns23_1 := NB105_107.out
     have hns23_2 := NB106_107.out
     have hms23_0 := NB107_104.out
     have hms23_1 := NB107_105.out
     have hms23_2 := NB107_106.out
     refine skip_ (w1 := ?_) (by rfl) rfl ?_ ?_
     rotate_left
     ·go_simp
      rfl
     refine hK.out _ _ ?_
     clear hK K
     refine done_ (done_of HT_.out (by kernel_rfl)) ?_
     try go_wp2
     go_roundg k1
     case measure => have := HK1.out; omega
     case rel => exact ⟨(wrap64 (x7_1 + 1)), (y109), (.slice Ao22 y109.length co22), (by first | rfl | (simp; done) | (simp [*]; done)), H', ⟨by have := HK1.out; omega⟩, ⟨by (with_reducible repeat (first | apply Kd.R_alloc | apply Kd.R_drewN | apply Kd.R_drew)); exact Kd.R_mono (Kd.R_far (p := ⟨gb107, 6, none⟩) (Kd.R_types HO111.out KE.out (by decide)) (fun _ hk => hk.2) (.slice Ao22 y109.length co22)) (fun _ hk => trivial)⟩, ⟨by (with_reducible repeat (first | refine blk_drewN ?_ _ | refine blk_drew ?_ | refine blk_alloc ?_ _)); refine blk_far ?_ NB104_107.out _; (with_reducible repeat (first | refine blk_drewN ?_ _ | refine blk_drew ?_ | refine blk_alloc ?_ _)); exact KA.out⟩, ⟨by (with_reducible repeat (first | refine blk_drewN ?_ _ | refine blk_drew ?_ | refine blk_alloc ?_ _)); refine blk_far ?_ NB105_107.out _; (with_reducible repeat (first | refine blk_drewN ?_ _ | refine blk_drew ?_ | refine blk_alloc ?_ _)); exact KB.out⟩, ⟨by (with_reducible repeat (first | refine blk_drewN ?_ _ | refine blk_drew ?_ | refine blk_alloc ?_ _)); refine blk_far ?_ NB106_107.out _; (with_reducible repeat (first | refine blk_drewN ?_ _ | refine blk_drew ?_ | refine blk_alloc ?_ _)); exact KC.out⟩, ⟨by (with_reducible repeat (first | refine blk_drewN ?_ _ | refine blk_drew ?_ | refine blk_alloc ?_ _)); refine blk_put (cs := #[.string a1_0, .slice A1_1 l1_1.length c1_1, .slice A1_2 l1_2.length c1_2, .slice A1_3 l1_3.length c1_3, .slice A1_4 l1_4.length c1_4, .slice A1_5 l1_5.length c1_5, u108006, .slice none 0 0, .slice none 0 0, .slice none 0 0]) ?_ 6 _ rfl; (with_reducible repeat (first | refine blk_drewN ?_ _ | refine blk_drew ?_ | refine blk_alloc ?_ _)); exact KE.out⟩, ⟨by repeat (first | (with_reducible first | exact HB.out | apply below_alloc | apply pw_below_drewN | apply below_drew1 | refine below_set ?_ GE104.out | refine below_set ?_ GE105.out | refine below_set ?_ GE106.out | refine below_set ?_ GE107.out) | exact HB.out)⟩⟩
    ·rw [if_neg c18] at H
     exact absurd H (by simp)
   ·rw [if_neg c16] at H
    have c16b0 : decide (x7_1 < (wrap64 (1 + (wrap64 (Int.tmod a0_0 6))))) = false := decide_eq_false c16
    clear c16
    have HC24 := Aside0.mk H
    clear H
    go_upto_block 2 with (fail)
    go_cut [] (fun wc => ∃ (kq : Nat) (x108007_23 : List (S70)) (u108007 : Value), Aside0 (dowellaw48_Family.j2 kq (wrap64 (1 + (wrap64 (Int.tmod a0_0 6)))) a0_0 l0_1 l0_2 l0_3 a1_0 l1_1 l1_2 l1_3 l1_4 l1_5 a1_0 l1_1 l1_2 l1_3 l1_4 l1_5 x108006_1 x108007_23 = some (r1, r2, r3, r4, r5, r6, r7, r8, r9, r10)) ∧ Aside0 (kq ≤ k1) ∧ Aside0 (Kd.R Kd.string 9 wc w.heap.size (fun _ => True) u108006 x108006_1) ∧ Aside0 (Kd.S k70 40 wc w.heap.size (fun _ => True) u108007 x108007_23) ∧ Aside0 (wc.heap[gb104]? = some (.cells #[.int .u8 a0_0, (.slice A0_1 l0_1.length c0_1), (.slice A0_2 l0_2.length c0_2), (.slice A0_3 l0_3.length c0_3)] 70 (0, 0))) ∧ Aside0 (wc.heap[gb105]? = some (.cells #[.string a1_0, (.slice A1_1 l1_1.length c1_1), (.slice A1_2 l1_2.length c1_2), (.slice A1_3 l1_3.length c1_3), (.slice A1_4 l1_4.length c1_4), (.slice A1_5 l1_5.length c1_5)] 30 (0, 0))) ∧ Aside0 (wc.heap[gb106]? = some (.cells #[.string (⟨#[]⟩ : ByteArray), (.slice none 0 0), (.slice none 0 0), (.slice none 0 0), (.slice none 0 0), (.slice none 0 0), (.slice none 0 0), (.slice none 0 0), (.slice none 0 0), (.slice none 0 0)] 36 (0, 0))) ∧ Aside0 (wc.heap[gb107]? = some (.cells #[.string a1_0, (.slice A1_1 l1_1.length c1_1), (.slice A1_2 l1_2.length c1_2), (.slice A1_3 l1_3.length c1_3), (.slice A1_4 l1_4.length c1_4), (.slice A1_5 l1_5.length c1_5), u108006, u108007, (.slice none 0 0), (.slice none 0 0)] 36 (0, 0))) ∧ Aside0 (Below w.heap.size w wc))
    case first =>
     have H := HC24.out
     clear HC24
     have H' := Aside0.mk H
     clear H
     go_wp2
     go_loopg [8] k1 (fun kq v8 w' => ∃ (x8_2 : Int) (x108007_2 : List (S70)) (u108007 : Value), v8 = .int .i64 x8_2 ∧ Aside0 (dowellaw48_Family.l1 kq (wrap64 (1 + (wrap64 (Int.tmod a0_0 6)))) x8_2 a0_0 l0_1 l0_2 l0_3 a1_0 l1_1 l1_2 l1_3 l1_4 l1_5 a1_0 l1_1 l1_2 l1_3 l1_4 l1_5 x108006_1 x108007_2 = some (r1, r2, r3, r4, r5, r6, r7, r8, r9, r10)) ∧ Aside0 (kq ≤ k1) ∧ Aside0 (Kd.R Kd.string 9 w' w.heap.size (fun _ => True) u108006 x108006_1) ∧ Aside0 (Kd.S k70 40 w' w.heap.size (fun _ => True) u108007 x108007_2) ∧ Aside0 (w'.heap[gb104]? = some (.cells #[.int .u8 a0_0, (.slice A0_1 l0_1.length c0_1), (.slice A0_2 l0_2.length c0_2), (.slice A0_3 l0_3.length c0_3)] 70 (0, 0))) ∧ Aside0 (w'.heap[gb105]? = some (.cells #[.string a1_0, (.slice A1_1 l1_1.length c1_1), (.slice A1_2 l1_2.length c1_2), (.slice A1_3 l1_3.length c1_3), (.slice A1_4 l1_4.length c1_4), (.slice A1_5 l1_5.length c1_5)] 30 (0, 0))) ∧ Aside0 (w'.heap[gb106]? = some (.cells #[.string (⟨#[]⟩ : ByteArray), (.slice none 0 0), (.slice none 0 0), (.slice none 0 0), (.slice none 0 0), (.slice none 0 0), (.slice none 0 0), (.slice none 0 0), (.slice none 0 0), (.slice none 0 0)] 36 (0, 0))) ∧ Aside0 (w'.heap[gb107]? = some (.cells #[.string a1_0, (.slice A1_1 l1_1.length c1_1), (.slice A1_2 l1_2.length c1_2), (.slice A1_3 l1_3.length c1_3), (.slice A1_4 l1_4.length c1_4), (.slice A1_5 l1_5.length c1_5), u108006, u108007, (.slice none 0 0), (.slice none 0 0)] 36 (0, 0))) ∧ Aside0 (Below w.heap.size w w'))
     case atStart => exact ⟨(0), (([] : List (S70))), (.slice none 0 0), (by first | rfl | (simp; done) | (simp [*]; done)), H', ⟨Nat.le_refl _⟩, ⟨by (with_reducible repeat (first | apply Kd.R_alloc | apply Kd.R_drewN | apply Kd.R_drew)); exact HO_108006.out⟩, ⟨by first | exact Kd.S_nil _ _ _ _ _ | exact Kd.N_nil _ _ _ _ _ | exact Kd.V_nil _ _ _ _ _ | exact Kd.Q_nil _ _ _ _ _ | exact Kd.R_nil _ _ _ _ _⟩, ⟨by (with_reducible repeat (first | refine blk_drewN ?_ _ | refine blk_drew ?_ | refine blk_alloc ?_ _)); exact KA.out⟩, ⟨by (with_reducible repeat (first | refine blk_drewN ?_ _ | refine blk_drew ?_ | refine blk_alloc ?_ _)); exact KB.out⟩, ⟨by (with_reducible repeat (first | refine blk_drewN ?_ _ | refine blk_drew ?_ | refine blk_alloc ?_ _)); exact KC.out⟩, ⟨by (with_reducible repeat (first | refine blk_drewN ?_ _ | refine blk_drew ?_ | refine blk_alloc ?_ _)); exact KE.out⟩, ⟨by repeat (first | (with_reducible first | exact HB.out | apply below_alloc | apply pw_below_drewN | apply below_drew1 | refine below_set ?_ GE104.out | refine below_set ?_ GE105.out | refine below_set ?_ GE106.out | refine below_set ?_ GE107.out) | exact HB.out)⟩⟩
     case round =>
      clear H'
      try clear c1
      try clear p2
      try clear c3
      try clear c6
      try clear p6
      try clear c7
      try clear c9
      try clear c12
      try clear c13
      try clear c14
      try clear c16
      try clear c16b0
      try clear c18
      try clear hcz10_0
      try clear hcz10_1
      try clear hcz10_2
      try clear hcz10_3
      try clear hcz10_4
      try clear hcz10_5
      try clear hcz15_0
      try clear hcz15_1
      try clear hcz15_2
      try clear hcz15_3
      try clear hcz15_4
      try clear hcz15_5
      try clear hcz15_6
      try clear hcz15_7
      try clear hcz15_8
      try clear hcz15_9
      try clear hcz8_0
      try clear hcz8_1
      try clear hcz8_2
      try clear hcz8_3
      try clear hfz10_0
      try clear hfz10_1
      try clear hfz10_2
      try clear hfz10_3
      try clear hfz10_4
      try clear hfz10_5
      try clear hfz15_0
      try clear hfz15_1
      try clear hfz15_2
      try clear hfz15_3
      try clear hfz15_4
      try clear hfz15_5
      try clear hfz15_6
      try clear hfz15_7
      try clear hfz15_8
      try clear hfz15_9
      try clear hfz8_0
      try clear hfz8_1
      try clear hfz8_2
      try clear hfz8_3
      try clear p2
      try clear p6
      obtain ⟨x8_2, x108007_2, u108007, rfl, HA, HK2, HO_108006, HO_108007, KA, KB, KC, KE, HB⟩ := hrel
      cases gk with
      | zero => exact absurd HA.out (by simp [dowellaw48_Family.l1])
      | succ k2 =>
       have H := HA.out
       clear HA
       simp only [dowellaw48_Family.l1] at H
       by_cases c25 : x8_2 < (l0_1.length : Int)
       ·rw [if_pos c25] at H
        have c25b0 : decide (x8_2 < (l0_1.length : Int)) = true := decide_eq_true c25
        clear c25
        (first | rw [c25b0] | (simp only [i64_w, i32_w]; rw [c25b0]) | skip)
        by_cases c26 : x8_2 < 6
        ·rw [if_pos c26] at H
         have c26b0 : decide (x8_2 < 6) = true := decide_eq_true c26
         clear c26
         obtain ⟨y112, hy112⟩ : ∃ y_ : List Int, y_ = (([114, (49 + ((x8_2) % 256)) % 256] : List Int)) := ⟨_, rfl⟩
         replace H : (if 0 ≤ x8_2 then ((dowellaw48_decode.f (wrap64 (1 + (wrap64 (Int.tmod a0_0 6)))) (rd_L2 l0_1 x8_2)).bind fun t116 => (if x108007_2.length < 3518437208883 then (dowellaw48_Family.l1 k2 (wrap64 (1 + (wrap64 (Int.tmod a0_0 6)))) (wrap64 (x8_2 + 1)) a0_0 l0_1 l0_2 l0_3 a1_0 l1_1 l1_2 l1_3 l1_4 l1_5 a1_0 l1_1 l1_2 l1_3 l1_4 l1_5 x108006_1 (x108007_2 ++ [(⟨strOfNums y112, t116⟩ : S70)])) else (none))) else (none)) = some (r1, r2, r3, r4, r5, r6, r7, r8, r9, r10) := by first | (rw [hy112]; with_reducible exact H) | (have H2_ := (Option.bind_some _ _).symm.trans H; rw [hy112]; with_reducible exact H2_) | (have H2_ := (Option.bind_some _ _).symm.trans H; with_reducible exact H2_) | with_reducible exact H | (rw [hy112]; exact H) | exact H
         have Ny112 := Aside0.mk hy112
         clear hy112
         by_cases c27 : 0 ≤ x8_2
         ·rw [if_pos c27] at H
          have c27b0 : decide (0 ≤ x8_2) = true := decide_eq_true c27
          clear c27
          replace H := Option.bind_eq_some_iff.mp H
          obtain ⟨t116, A280, H⟩ := H
          replace H : (if x108007_2.length < 3518437208883 then (dowellaw48_Family.l1 k2 (wrap64 (1 + (wrap64 (Int.tmod a0_0 6)))) (wrap64 (x8_2 + 1)) a0_0 l0_1 l0_2 l0_3 a1_0 l1_1 l1_2 l1_3 l1_4 l1_5 a1_0 l1_1 l1_2 l1_3 l1_4 l1_5 x108006_1 (x108007_2 ++ [(⟨strOfNums y112, t116⟩ : S70)])) else (none)) = some (r1, r2, r3, r4, r5, r6, r7, r8, r9, r10) := H
          have A28 := Aside0.mk A280
          clear A280
          by_cases c29 : x108007_2.length < 3518437208883
          ·rw [if_pos c29] at H
           have LMc29 := Aside0.mk c29
           clear c29
           obtain ⟨y119, hy119⟩ : ∃ y_ : List (S70), y_ = (x108007_2 ++ [(⟨strOfNums y112, t116⟩ : S70)]) := ⟨_, rfl⟩
           replace H : (dowellaw48_Family.l1 k2 (wrap64 (1 + (wrap64 (Int.tmod a0_0 6)))) (wrap64 (x8_2 + 1)) a0_0 l0_1 l0_2 l0_3 a1_0 l1_1 l1_2 l1_3 l1_4 l1_5 a1_0 l1_1 l1_2 l1_3 l1_4 l1_5 x108006_1 y119) = some (r1, r2, r3, r4, r5, r6, r7, r8, r9, r10) := by first | (rw [hy119]; with_reducible exact H) | (have H2_ := (Option.bind_some _ _).symm.trans H; rw [hy119]; with_reducible exact H2_) | (have H2_ := (Option.bind_some _ _).symm.trans H; with_reducible exact H2_) | with_reducible exact H | (rw [hy119]; exact H) | exact H
           have Ny119 := Aside0.mk hy119
           clear hy119
           have H' := Aside0.mk H
           clear H
           have hnb30 := NB104_105.out
           have hnc30 := NB105_104.out
           have hnb31 := NB104_106.out
           have hnc31 := NB106_104.out
           have hnb32 := NB104_107.out
           have hnc32 := NB107_104.out
           have hcz33_0 : wr.cell? ⟨gb104, 0, none⟩ = some (.int .u8 a0_0) := (blk_cell KA.out 0).trans rfl
           have hcz33_1 : wr.cell? ⟨gb104, 1, none⟩ = some (.slice A0_1 l0_1.length c0_1) := (blk_cell KA.out 1).trans rfl
           have hcz33_2 : wr.cell? ⟨gb104, 2, none⟩ = some (.slice A0_2 l0_2.length c0_2) := (blk_cell KA.out 2).trans rfl
           have hcz33_3 : wr.cell? ⟨gb104, 3, none⟩ = some (.slice A0_3 l0_3.length c0_3) := (blk_cell KA.out 3).trans rfl
           have hfz33_0 := blk_frozen KA.out 0
           have hfz33_1 := blk_frozen KA.out 1
           have hfz33_2 := blk_frozen KA.out 2
           have hfz33_3 := blk_frozen KA.out 3
           obtain ⟨Ao34, co34, eo34⟩ := Kd.S_slice HO_108007.out
           subst eo34
           try go_wp2
           have n0_ := Aside0.mk (Kd.R_drew HO_108006.out)
           have n1_ := Aside0.mk (Kd.S_drew HO_108007.out)
           have n2_ := Aside0.mk (blk_drew KA.out)
           have n3_ := Aside0.mk (blk_drew KB.out)
           have n4_ := Aside0.mk (blk_drew KC.out)
           have n5_ := Aside0.mk (blk_drew KE.out)
           have n6_ := Aside0.mk (below_drew1 HB.out)
           clear HO_108006
           clear HO_108007
           clear KA
           clear KB
           clear KC
           clear KE
           clear HB
           have HO_108006 := n0_
           have HO_108007 := n1_
           have KA := n2_
           have KB := n3_
           have KC := n4_
           have KE := n5_
           have HB := n6_
           clear n0_ n1_ n2_ n3_ n4_ n5_ n6_
           have p115 : 0 ≤ (x8_2 : Int) := of_decide_eq_true (by first | (with_reducible assumption) | assumption)
           have q115 : x8_2 < (l0_1.length : Int) := of_decide_eq_true (by first | (with_reducible assumption) | assumption)
           obtain ⟨ad115, A115_0, c115_0, e115, hx115_0, hl115_0, hi115_0⟩ := at_L2 HR0_1.out x8_2 p115 q115
           have hw115_0 := hx115_0
           cases e115
           replace hx115_0 := (HB.out.cell (World.block_lt_of_cell? w _ hx115_0)).trans hx115_0
           have HR115_0 := Aside0.mk hi115_0
           have HC115_0 := Aside0.mk hl115_0
           clear hi115_0 hl115_0
           replace p115 := eq_true p115
           replace q115 := eq_true q115
           refine start_ (n := 19) (S := fun w' => w'.cell? ⟨gb107, 0, none⟩ = some (.string a1_0) ∧ w'.cell? ⟨gb107, 1, none⟩ = some (.slice A1_1 l1_1.length c1_1) ∧ w'.cell? ⟨gb107, 2, none⟩ = some (.slice A1_2 l1_2.length c1_2) ∧ w'.cell? ⟨gb107, 3, none⟩ = some (.slice A1_3 l1_3.length c1_3) ∧ w'.cell? ⟨gb107, 4, none⟩ = some (.slice A1_4 l1_4.length c1_4) ∧ w'.cell? ⟨gb107, 5, none⟩ = some (.slice A1_5 l1_5.length c1_5) ∧ w'.cell? ⟨gb107, 6, none⟩ = some (u108006) ∧ w'.cell? ⟨gb107, 7, none⟩ = some (.slice Ao34 x108007_2.length co34) ∧ w'.cell? ⟨gb107, 8, none⟩ = some (.slice none 0 0) ∧ w'.cell? ⟨gb107, 9, none⟩ = some (.slice none 0 0) ∧ w'.cell? ⟨gb104, 0, none⟩ = some (.int .u8 a0_0) ∧ w'.cell? ⟨gb104, 1, none⟩ = some (.slice (some ad115) l0_1.length c0_1) ∧ w'.cell? ⟨gb104, 2, none⟩ = some (.slice A0_2 l0_2.length c0_2) ∧ w'.cell? ⟨gb104, 3, none⟩ = some (.slice A0_3 l0_3.length c0_3) ∧ w'.cell? (ad115.add (x8_2).toNat) = some (.slice A115_0 (rd_L2 l0_1 x8_2).length c115_0)) (ds := [18]) #[false, false, false, false, false, false, false, false, false, false, false, false, false, false, false, false, false, false, false] (by kernel_rfl) rfl rfl ⟨(blk_cell KE.out 0).trans rfl, (blk_cell KE.out 1).trans rfl, (blk_cell KE.out 2).trans rfl, (blk_cell KE.out 3).trans rfl, (blk_cell KE.out 4).trans rfl, (blk_cell KE.out 5).trans rfl, (blk_cell KE.out 6).trans rfl, (blk_cell KE.out 7).trans rfl, (blk_cell KE.out 8).trans rfl, (blk_cell KE.out 9).trans rfl, (blk_cell KA.out 0).trans rfl, (blk_cell KA.out 1).trans rfl, (blk_cell KA.out 2).trans rfl, (blk_cell KA.out 3).trans rfl, ((HB.out.cell (World.block_lt_of_cell? w _ hw115_0)).trans hw115_0)⟩ (fun hHeld => ?_); refine with_tabW dowellaw48_Family.tab10 dowellaw48_Family.bits10 (fun HT_ HW_ => ?_)
           generalize wr.drew = w35 at HO_108006 HO_108007 KA KB KC KE HB HR115_0 hx115_0 hHeld ⊢
           refine pure_ (i := 0) (N := some 43) (v := ?_) (a' := ?_) #[true, false, false, false, false, false, false, false, false, false, false, false, false, false, false, false, false, false, false] rfl rfl (any_of HT_.out (by kernel_rfl)) (fun _ _ _ h => h) (Or.inl ⟨by rfl, ?_⟩) ?_ ?_
           rotate_left
           ·intro w'
            go_simp
            with_reducible rfl
           rotate_left
           ·simp only [Act.put, List.setIfInBounds_toArray, List.set_cons_zero, List.set_cons_succ, i64_w, i32_w]
            rfl
           refine pure_ (i := 2) (N := some 45) (v := ?_) (a' := ?_) #[true, false, true, false, false, false, false, false, false, false, false, false, false, false, false, false, false, false, false] rfl rfl (any_of HT_.out (by kernel_rfl)) (fun _ _ _ h => h) (Or.inl ⟨by rfl, ?_⟩) ?_ ?_
           rotate_left
           ·intro w'
            go_simp
            with_reducible rfl
           rotate_left
           ·simp only [Act.put, List.setIfInBounds_toArray, List.set_cons_zero, List.set_cons_succ, i64_w, i32_w]
            rfl
           refine pure_ (i := 3) (N := some 46) (v := ?_) (a' := ?_) #[true, false, true, true, false, false, false, false, false, false, false, false, false, false, false, false, false, false, false] rfl rfl (any_of HT_.out (by kernel_rfl)) (fun _ _ _ h => h) (Or.inl ⟨by rfl, ?_⟩) ?_ ?_
           rotate_left
           ·intro w'
            go_simp
            with_reducible rfl
           rotate_left
           ·simp only [Act.put, List.setIfInBounds_toArray, List.set_cons_zero, List.set_cons_succ, i64_w, i32_w]
            rfl
           refine pure_ (i := 4) (N := some 47) (v := ?_) (a' := ?_) #[true, false, true, true, true, false, false, false, false, false, false, false, false, false, false, false, false, false, false] rfl rfl (any_of HT_.out (by kernel_rfl)) (fun _ _ _ h => h) (Or.inl ⟨by rfl, ?_⟩) ?_ ?_
           rotate_left
           ·intro w'
            go_simp
            with_reducible rfl
           rotate_left
           ·simp only [Act.put, List.setIfInBounds_toArray, List.set_cons_zero, List.set_cons_succ, i64_w, i32_w]
            rfl
           refine pure_ (i := 7) (N := some 50) (v := ?_) (a' := ?_) #[true, false, true, true, true, false, false, true, false, false, false, false, false, false, false, false, false, false, false] rfl rfl (any_of HT_.out (by kernel_rfl)) (fun _ _ _ h => h) (Or.inl ⟨by rfl, ?_⟩) ?_ ?_
           rotate_left
           ·intro w'
            go_simp
            with_reducible rfl
           rotate_left
           ·simp only [Act.put, List.setIfInBounds_toArray, List.set_cons_zero, List.set_cons_succ, i64_w, i32_w]
            rfl
           refine pure_ (i := 8) (N := some 51) (v := ?_) (a' := ?_) #[true, false, true, true, true, false, false, true, true, false, false, false, false, false, false, false, false, false, false] rfl rfl (any_of HT_.out (by kernel_rfl)) (fun _ _ _ h => h) (Or.inl ⟨by rfl, ?_⟩) ?_ ?_
           rotate_left
           ·intro w'
            go_simp
            with_reducible rfl
           rotate_left
           ·simp only [Act.put, List.setIfInBounds_toArray, List.set_cons_zero, List.set_cons_succ, i64_w, i32_w]
            rfl
           refine pure_ (i := 10) (N := some 53) (v := ?_) (a' := ?_) #[true, false, true, true, true, false, false, true, true, false, true, false, false, false, false, false, false, false, false] rfl rfl (any_of HT_.out (by kernel_rfl)) (fun _ _ _ h => h) (Or.inl ⟨by rfl, ?_⟩) ?_ ?_
           rotate_left
           ·intro w'
            go_simp
            with_reducible rfl
           rotate_left
           ·simp only [Act.put, List.setIfInBounds_toArray, List.set_cons_zero, List.set_cons_succ, i64_w, i32_w]
            rfl
           refine take_ (i := 1) (N := some 44) (v := ?_) (a' := ?_) #[true, true, true, true, true, false, false, true, true, false, true, false, false, false, false, false, false, false, false] rfl rfl (take_ofW HT_.out HW_.out (by kernel_rfl)) (fun _ _ _ h => h) (Or.inl ⟨by rfl, ?_⟩) hHeld ?_ ?_
           rotate_left
           ·rintro w' ⟨s0, s1, s2, s3, s4, s5, s6, s7, s8, s9, s10, s11, s12, s13, s14⟩
            go_simp
            with_reducible rfl
           rotate_left
           ·simp only [Act.put, List.setIfInBounds_toArray, List.set_cons_zero, List.set_cons_succ, i64_w, i32_w]
            rfl
           refine take_ (i := 9) (N := some 52) (v := ?_) (a' := ?_) #[true, true, true, true, true, false, false, true, true, true, true, false, false, false, false, false, false, false, false] rfl rfl (take_ofW HT_.out HW_.out (by kernel_rfl)) (fun _ _ _ h => h) (Or.inl ⟨by rfl, ?_⟩) hHeld ?_ ?_
           rotate_left
           ·rintro w' ⟨s0, s1, s2, s3, s4, s5, s6, s7, s8, s9, s10, s11, s12, s13, s14⟩
            go_simp
            with_reducible rfl
           rotate_left
           ·simp only [Act.put, List.setIfInBounds_toArray, List.set_cons_zero, List.set_cons_succ, i64_w, i32_w]
            rfl
           refine pure_ (i := 11) (N := some 54) (v := ?_) (a' := ?_) #[true, true, true, true, true, false, false, true, true, true, true, true, false, false, false, false, false, false, false] rfl rfl (any_of HT_.out (by kernel_rfl)) (fun _ _ _ h => h) (Or.inl ⟨by rfl, ?_⟩) ?_ ?_
           rotate_left
           ·intro w'
            go_simp
            with_reducible rfl
           rotate_left
           ·simp only [Act.put, List.setIfInBounds_toArray, List.set_cons_zero, List.set_cons_succ, i64_w, i32_w]
            rfl
           refine take_ (i := 12) (N := some 55) (v := ?_) (a' := ?_) #[true, true, true, true, true, false, false, true, true, true, true, true, true, false, false, false, false, false, false] rfl rfl (take_ofW HT_.out HW_.out (by kernel_rfl)) (fun _ _ _ h => h) (Or.inl ⟨by rfl, ?_⟩) hHeld ?_ ?_
           rotate_left
           ·rintro w' ⟨s0, s1, s2, s3, s4, s5, s6, s7, s8, s9, s10, s11, s12, s13, s14⟩
            go_simp
            with_reducible rfl
           rotate_left
           ·simp only [Act.put, List.setIfInBounds_toArray, List.set_cons_zero, List.set_cons_succ, i64_w, i32_w]
            rfl
           refine join_ (σ := Value × Value) 5 #[true, true, true, true, true, true, true, true, true, true, true, true, true, true, false, false, false, false, false] (fun s_ => [(48, s_.1), (49, .string (strOfNums y112)), (56, s_.2)]) (fun s_ w' => (w'.cell? ⟨gb107, 0, none⟩ = some (.string a1_0) ∧ w'.cell? ⟨gb107, 1, none⟩ = some (.slice A1_1 l1_1.length c1_1) ∧ w'.cell? ⟨gb107, 2, none⟩ = some (.slice A1_2 l1_2.length c1_2) ∧ w'.cell? ⟨gb107, 3, none⟩ = some (.slice A1_3 l1_3.length c1_3) ∧ w'.cell? ⟨gb107, 4, none⟩ = some (.slice A1_4 l1_4.length c1_4) ∧ w'.cell? ⟨gb107, 5, none⟩ = some (.slice A1_5 l1_5.length c1_5) ∧ w'.cell? ⟨gb107, 6, none⟩ = some (u108006) ∧ w'.cell? ⟨gb107, 7, none⟩ = some (.slice Ao34 x108007_2.length co34) ∧ w'.cell? ⟨gb107, 8, none⟩ = some (.slice none 0 0) ∧ w'.cell? ⟨gb107, 9, none⟩ = some (.slice none 0 0) ∧ w'.cell? ⟨gb104, 0, none⟩ = some (.int .u8 a0_0) ∧ w'.cell? ⟨gb104, 1, none⟩ = some (.slice (some ad115) l0_1.length c0_1) ∧ w'.cell? ⟨gb104, 2, none⟩ = some (.slice A0_2 l0_2.length c0_2) ∧ w'.cell? ⟨gb104, 3, none⟩ = some (.slice A0_3 l0_3.length c0_3) ∧ w'.cell? (ad115.add (x8_2).toNat) = some (.slice A115_0 (rd_L2 l0_1 x8_2).length c115_0)) ∧ (Kd.R (Kd.int .u8) 5 w' w.heap.size (fun _ => True) s_.1 y112) ∧ (Kd.R k62 73 w' w.heap.size (fun _ => True) s_.2 t116) ∧ (Kd.R Kd.string 9 w' w.heap.size (fun _ => True) u108006 x108006_1) ∧ (Kd.S k70 40 w' w.heap.size (fun k_ => some k_ ≠ (s_.2 : Value).ownBlock) (.slice Ao34 x108007_2.length co34) x108007_2) ∧ (w'.heap[gb104]? = some (.cells #[.int .u8 a0_0, .slice (some ad115) l0_1.length c0_1, .slice A0_2 l0_2.length c0_2, .slice A0_3 l0_3.length c0_3] 70 (0, 0))) ∧ (w'.heap[gb105]? = some (.cells #[.string a1_0, .slice A1_1 l1_1.length c1_1, .slice A1_2 l1_2.length c1_2, .slice A1_3 l1_3.length c1_3, .slice A1_4 l1_4.length c1_4, .slice A1_5 l1_5.length c1_5] 30 (0, 0))) ∧ (w'.heap[gb106]? = some (.cells #[.string (⟨#[]⟩ : ByteArray), .slice none 0 0, .slice none 0 0, .slice none 0 0, .slice none 0 0, .slice none 0 0, .slice none 0 0, .slice none 0 0, .slice none 0 0, .slice none 0 0] 36 (0, 0))) ∧ (w'.heap[gb107]? = some (.cells #[.string a1_0, .slice A1_1 l1_1.length c1_1, .slice A1_2 l1_2.length c1_2, .slice A1_3 l1_3.length c1_3, .slice A1_4 l1_4.length c1_4, .slice A1_5 l1_5.length c1_5, u108006, .slice Ao34 x108007_2.length co34, .slice none 0 0, .slice none 0 0] 36 (0, 0))) ∧ (Below w.heap.size w w')) ?_ ?_
           rotate_left
           ·intro hCont
            refine two_ (i := 5) (j := 13) (Ni := some 48) (Nj := some 56) #[true, true, true, true, true, true, false, true, true, true, true, true, true, false, false, false, false, false, false] #[true, true, true, true, true, false, false, true, true, true, true, true, true, true, false, false, false, false, false] rfl rfl rfl rfl (two_of HT_.out (by kernel_rfl)) (by decide) (by decide) (fun K hK => ?_) (fun K hK => ?_)
            ·skip
             refine Kd.R_lit_step (Kd.int .u8) _ 5 ?hg (N := 48) ?hd (xs := ([114, (49 + ((x8_2) % 256)) % 256] : List Int)) (inner := [.int .u8 114, .int .u8 ((49 + ((x8_2) % 256)) % 256)]) (ok := fun _ => True) (okp := fun _ => True) ?hr ?hp (fun _ hk => hk) trivial (Below.refl _ _) (Nat.le_refl _) (by simp) ?_; (case hd => rfl); (case hg => rfl); (case hr => first | (go_simp; done) | (go_simp; rfl) | (go_simp; rw [wrap_sum49])); (case hp => exact (Reps.one (show Kd.M (Kd.int .u8) _ _ _ 114 [.int .u8 114] from rfl) (Reps.one (show Kd.M (Kd.int .u8) _ _ _ ((49 + ((x8_2) % 256)) % 256) [.int .u8 ((49 + ((x8_2) % 256)) % 256)] from rfl) (Reps.none _ _))))
             intro v113 w36 ho37 hb hg_ hnew_
             clear hg_ hnew_
             (first | rw [← Ny112.out] at ho37 | (simp only [Int.reduceToNat] at ho37; rw [← Ny112.out] at ho37))
             have n0_ := Aside0.mk (Kd.R_below (by (with_reducible repeat (first | apply Kd.R_alloc | apply Kd.R_drewN | apply Kd.R_drew)); exact HO_108006.out) hb)
             have n1_ := Aside0.mk (Kd.S_below (by (with_reducible repeat (first | apply Kd.S_alloc | apply Kd.S_drewN | apply Kd.S_drew)); exact HO_108007.out) hb)
             have n2_ := Aside0.mk (Kd.R_lower ho37 (below_size (by repeat (first | (with_reducible first | exact HB.out | apply below_alloc | apply pw_below_drewN | apply below_drew1 | refine below_set ?_ GE104.out | refine below_set ?_ GE105.out | refine below_set ?_ GE106.out | refine below_set ?_ GE107.out) | exact HB.out))))
             have n3_ := Aside0.mk (blk_below (g := gb104) (o := .cells #[.int .u8 a0_0, .slice (some ad115) l0_1.length c0_1, .slice A0_2 l0_2.length c0_2, .slice A0_3 l0_3.length c0_3] 70 (0, 0)) (by (with_reducible repeat (first | refine blk_drewN ?_ _ | refine blk_drew ?_ | refine blk_alloc ?_ _)); exact KA.out) hb)
             have n4_ := Aside0.mk (blk_below (g := gb105) (o := .cells #[.string a1_0, .slice A1_1 l1_1.length c1_1, .slice A1_2 l1_2.length c1_2, .slice A1_3 l1_3.length c1_3, .slice A1_4 l1_4.length c1_4, .slice A1_5 l1_5.length c1_5] 30 (0, 0)) (by (with_reducible repeat (first | refine blk_drewN ?_ _ | refine blk_drew ?_ | refine blk_alloc ?_ _)); exact KB.out) hb)
             have n5_ := Aside0.mk (blk_below (g := gb106) (o := .cells #[.string (⟨#[]⟩ : ByteArray), .slice none 0 0, .slice none 0 0, .slice none 0 0, .slice none 0 0, .slice none 0 0, .slice none 0 0, .slice none 0 0, .slice none 0 0, .slice none 0 0] 36 (0, 0)) (by (with_reducible repeat (first | refine blk_drewN ?_ _ | refine blk_drew ?_ | refine blk_alloc ?_ _)); exact KC.out) hb)
             have n6_ := Aside0.mk (blk_below (g := gb107) (o := .cells #[.string a1_0, .slice A1_1 l1_1.length c1_1, .slice A1_2 l1_2.length c1_2, .slice A1_3 l1_3.length c1_3, .slice A1_4 l1_4.length c1_4, .slice A1_5 l1_5.length c1_5, u108006, .slice Ao34 x108007_2.length co34, .slice none 0 0, .slice none 0 0] 36 (0, 0)) (by (with_reducible repeat (first | refine blk_drewN ?_ _ | refine blk_drew ?_ | refine blk_alloc ?_ _)); exact KE.out) hb)
             have n7_ := Aside0.mk (below_step (by repeat (first | (with_reducible first | exact HB.out | apply below_alloc | apply pw_below_drewN | apply below_drew1 | refine below_set ?_ GE104.out | refine below_set ?_ GE105.out | refine below_set ?_ GE106.out | refine below_set ?_ GE107.out) | exact HB.out)) hb)
             clear HO_108006
             clear HO_108007
             clear KA
             clear KB
             clear KC
             clear KE
             clear HB
             have HO_108006 := n0_
             have HO_108007 := n1_
             have HO114 := n2_
             have KA := n3_
             have KB := n4_
             have KC := n5_
             have KE := n6_
             have HB := n7_
             clear n0_ n1_ n2_ n3_ n4_ n5_ n6_ n7_
             clear hb ho37
             refine hK.out _ _ ⟨(blk_cell KE.out 0).trans rfl, (blk_cell KE.out 1).trans rfl, (blk_cell KE.out 2).trans rfl, (blk_cell KE.out 3).trans rfl, (blk_cell KE.out 4).trans rfl, (blk_cell KE.out 5).trans rfl, (blk_cell KE.out 6).trans rfl, (blk_cell KE.out 7).trans rfl, (blk_cell KE.out 8).trans rfl, (blk_cell KE.out 9).trans rfl, (blk_cell KA.out 0).trans rfl, (blk_cell KA.out 1).trans rfl, (blk_cell KA.out 2).trans rfl, (blk_cell KA.out 3).trans rfl, ((HB.out.cell (World.block_lt_of_cell? w _ hw115_0)).trans hw115_0)⟩ (fun hHeld => ?_)
             clear hK K
             refine norm_ (a' := ?_) ?_ ?_
             rotate_left
             ·show Act.put _ (some 48) _ = _
              simp only [Act.put, List.setIfInBounds_toArray, List.set_cons_zero, List.set_cons_succ, i64_w, i32_w]
              rfl
             refine two_ (i := 6) (j := 13) (Ni := some 49) (Nj := some 56) #[true, true, true, true, true, true, true, true, true, true, true, true, true, false, false, false, false, false, false] #[true, true, true, true, true, true, false, true, true, true, true, true, true, true, false, false, false, false, false] rfl rfl rfl rfl (two_of HT_.out (by kernel_rfl)) (by decide) (by decide) (fun K hK => ?_) (fun K hK => ?_)
             ·skip
              have hcv38 := own_string (P := Tryz.prog) Tryz.underlying120 Tryz.underlying5 Tryz.underlying9 (Kd.own_of_R HO114.out)
              refine value_ (w1 := ?_) (v := ?_) (by rfl) rfl ?_ ?_
              rotate_left 2
              ·go_simp
               constructor
               ·rfl
               ·rfl
              clear hcv38
              refine hK.out _ _ ⟨(blk_cell KE.out 0).trans rfl, (blk_cell KE.out 1).trans rfl, (blk_cell KE.out 2).trans rfl, (blk_cell KE.out 3).trans rfl, (blk_cell KE.out 4).trans rfl, (blk_cell KE.out 5).trans rfl, (blk_cell KE.out 6).trans rfl, (blk_cell KE.out 7).trans rfl, (blk_cell KE.out 8).trans rfl, (blk_cell KE.out 9).trans rfl, (blk_cell KA.out 0).trans rfl, (blk_cell KA.out 1).trans rfl, (blk_cell KA.out 2).trans rfl, (blk_cell KA.out 3).trans rfl, ((HB.out.cell (World.block_lt_of_cell? w _ hw115_0)).trans hw115_0)⟩ (fun hHeld => ?_)
              clear hK K
              refine norm_ (a' := ?_) ?_ ?_
              rotate_left
              ·show Act.put _ (some 49) _ = _
               simp only [Act.put, List.setIfInBounds_toArray, List.set_cons_zero, List.set_cons_succ, i64_w, i32_w]
               rfl
              refine one_ (i := 13) (N := some 56) #[true, true, true, true, true, true, true, true, true, true, true, true, true, true, false, false, false, false, false] rfl rfl (one_of HT_.out (by kernel_rfl)) (by decide) (fun K hK => ?_)
              refine goes_ Tryz.func50 (by kernel_rfl) rfl #[.int .i64 (wrap64 (1 + (wrap64 (Int.tmod a0_0 6)))), .slice A115_0 (rd_L2 l0_1 x8_2).length c115_0] (by rfl) rfl rfl (by (try simp only [List.map_toArray, List.map_cons, List.map_nil]); first | done | rfl | (simp only [List.length_drop, List.length_take]; rfl)) ?_
              with_reducible refine (dowellaw48_decode.calls (wrap64 (1 + (wrap64 (Int.tmod a0_0 6)))) _ _ (rd_L2 l0_1 x8_2) t116 _ ?side1 ?side2 A28.out).mono ?_
              (case side1 => repeat (first | exact (Kd.C_below HR115_0.out HB.out) | (with_reducible refine Kd.C_alloc ?_ _) | (with_reducible refine Kd.C_drewN ?_ _) | (with_reducible refine Kd.C_drew ?_)))
              (case side2 => exact HC115_0.out)
              rintro e w39 ⟨v117, rfl, ho0, hb⟩
              refine ⟨_, rfl, ?_⟩
              have n0_ := Aside0.mk (Kd.R_below (by (with_reducible repeat (first | apply Kd.R_alloc | apply Kd.R_drewN | apply Kd.R_drew)); exact HO_108006.out) hb)
              have n1_ := Aside0.mk (Kd.S_elder' (by (with_reducible repeat (first | apply Kd.S_alloc | apply Kd.S_drewN | apply Kd.S_drew)); exact HO_108007.out) (Kd.R_base ho0) hb)
              have n2_ := Aside0.mk (Kd.R_below (by (with_reducible repeat (first | apply Kd.R_alloc | apply Kd.R_drewN | apply Kd.R_drew)); exact HO114.out) hb)
              have n3_ := Aside0.mk (Kd.R_lower ho0 (below_size (by repeat (first | (with_reducible first | exact HB.out | apply below_alloc | apply pw_below_drewN | apply below_drew1 | refine below_set ?_ GE104.out | refine below_set ?_ GE105.out | refine below_set ?_ GE106.out | refine below_set ?_ GE107.out) | exact HB.out))))
              have n4_ := Aside0.mk (blk_below (g := gb104) (o := .cells #[.int .u8 a0_0, .slice (some ad115) l0_1.length c0_1, .slice A0_2 l0_2.length c0_2, .slice A0_3 l0_3.length c0_3] 70 (0, 0)) (by (with_reducible repeat (first | refine blk_drewN ?_ _ | refine blk_drew ?_ | refine blk_alloc ?_ _)); exact KA.out) hb)
              have n5_ := Aside0.mk (blk_below (g := gb105) (o := .cells #[.string a1_0, .slice A1_1 l1_1.length c1_1, .slice A1_2 l1_2.length c1_2, .slice A1_3 l1_3.length c1_3, .slice A1_4 l1_4.length c1_4, .slice A1_5 l1_5.length c1_5] 30 (0, 0)) (by (with_reducible repeat (first | refine blk_drewN ?_ _ | refine blk_drew ?_ | refine blk_alloc ?_ _)); exact KB.out) hb)
              have n6_ := Aside0.mk (blk_below (g := gb106) (o := .cells #[.string (⟨#[]⟩ : ByteArray), .slice none 0 0, .slice none 0 0, .slice none 0 0, .slice none 0 0, .slice none 0 0, .slice none 0 0, .slice none 0 0, .slice none 0 0, .slice none 0 0] 36 (0, 0)) (by (with_reducible repeat (first | refine blk_drewN ?_ _ | refine blk_drew ?_ | refine blk_alloc ?_ _)); exact KC.out) hb)
              have n7_ := Aside0.mk (blk_below (g := gb107) (o := .cells #[.string a1_0, .slice A1_1 l1_1.length c1_1, .slice A1_2 l1_2.length c1_2, .slice A1_3 l1_3.length c1_3, .slice A1_4 l1_4.length c1_4, .slice A1_5 l1_5.length c1_5, u108006, .slice Ao34 x108007_2.length co34, .slice none 0 0, .slice none 0 0] 36 (0, 0)) (by (with_reducible repeat (first | refine blk_drewN ?_ _ | refine blk_drew ?_ | refine blk_alloc ?_ _)); exact KE.out) hb)
              have n8_ := Aside0.mk (below_step (by repeat (first | (with_reducible first | exact HB.out | apply below_alloc | apply pw_below_drewN | apply below_drew1 | refine below_set ?_ GE104.out | refine below_set ?_ GE105.out | refine below_set ?_ GE106.out | refine below_set ?_ GE107.out) | exact HB.out)) hb)
              clear HO_108006
              clear HO_108007
              clear HO114
              clear KA
              clear KB
              clear KC
              clear KE
              clear HB
              have HO_108006 := n0_
              have HO_108007 := n1_
              have HO114 := n2_
              have HO118 := n3_
              have KA := n4_
              have KB := n5_
              have KC := n6_
              have KE := n7_
              have HB := n8_
              clear n0_ n1_ n2_ n3_ n4_ n5_ n6_ n7_ n8_
              (try clear hb)
              (try clear hb2)
              (try clear hk)
              (try clear hi)
              (try clear ho0)
              obtain ⟨Ao40, co40, eo40⟩ := Kd.R_slice HO118.out
              (first | subst eo40 | (injection eo40 with f1_ f2_ f3_; have f4_ := f1_.symm; have f5_ := f3_.symm; clear f1_ f2_ f3_; subst f4_; subst f5_))
              refine hK.out _ _ ⟨(blk_cell KE.out 0).trans rfl, (blk_cell KE.out 1).trans rfl, (blk_cell KE.out 2).trans rfl, (blk_cell KE.out 3).trans rfl, (blk_cell KE.out 4).trans rfl, (blk_cell KE.out 5).trans rfl, (blk_cell KE.out 6).trans rfl, (blk_cell KE.out 7).trans rfl, (blk_cell KE.out 8).trans rfl, (blk_cell KE.out 9).trans rfl, (blk_cell KA.out 0).trans rfl, (blk_cell KA.out 1).trans rfl, (blk_cell KA.out 2).trans rfl, (blk_cell KA.out 3).trans rfl, ((HB.out.cell (World.block_lt_of_cell? w _ hw115_0)).trans hw115_0)⟩ (fun hHeld => ?_)
              clear hK K
              refine norm_ (a' := ?_) ?_ ?_
              rotate_left
              ·show Act.put _ (some 56) _ = _
               simp only [Act.put, List.setIfInBounds_toArray, List.set_cons_zero, List.set_cons_succ, i64_w, i32_w]
               rfl
              exact norm_ (by simp only [putAll, Act.put, List.setIfInBounds_toArray, List.set_cons_zero, List.set_cons_succ]) (hCont (v113, .slice Ao40 t116.length co40) _ ⟨hHeld, (by (with_reducible repeat (first | apply Kd.R_alloc | apply Kd.R_drewN | apply Kd.R_drew)); exact HO114.out), (by (with_reducible repeat (first | apply Kd.R_alloc | apply Kd.R_drewN | apply Kd.R_drew)); exact HO118.out), (by (with_reducible repeat (first | apply Kd.R_alloc | apply Kd.R_drewN | apply Kd.R_drew)); exact HO_108006.out), (by (with_reducible repeat (first | apply Kd.S_alloc | apply Kd.S_drewN | apply Kd.S_drew)); exact Kd.S_mono HO_108007.out (fun _ hk => hk.2)), (by (with_reducible repeat (first | refine blk_drewN ?_ _ | refine blk_drew ?_ | refine blk_alloc ?_ _)); exact KA.out), (by (with_reducible repeat (first | refine blk_drewN ?_ _ | refine blk_drew ?_ | refine blk_alloc ?_ _)); exact KB.out), (by (with_reducible repeat (first | refine blk_drewN ?_ _ | refine blk_drew ?_ | refine blk_alloc ?_ _)); exact KC.out), (by (with_reducible repeat (first | refine blk_drewN ?_ _ | refine blk_drew ?_ | refine blk_alloc ?_ _)); exact KE.out), (by repeat (first | (with_reducible first | exact HB.out | apply below_alloc | apply pw_below_drewN | apply below_drew1 | refine below_set ?_ GE104.out | refine below_set ?_ GE105.out | refine below_set ?_ GE106.out | refine below_set ?_ GE107.out) | exact HB.out))⟩)
             ·skip
              refine goes_ Tryz.func50 (by kernel_rfl) rfl #[.int .i64 (wrap64 (1 + (wrap64 (Int.tmod a0_0 6)))), .slice A115_0 (rd_L2 l0_1 x8_2).length c115_0] (by rfl) rfl rfl (by (try simp only [List.map_toArray, List.map_cons, List.map_nil]); first | done | rfl | (simp only [List.length_drop, List.length_take]; rfl)) ?_
              with_reducible refine (dowellaw48_decode.calls (wrap64 (1 + (wrap64 (Int.tmod a0_0 6)))) _ _ (rd_L2 l0_1 x8_2) t116 _ ?side1 ?side2 A28.out).mono ?_
              (case side1 => repeat (first | exact (Kd.C_below HR115_0.out HB.out) | (with_reducible refine Kd.C_alloc ?_ _) | (with_reducible refine Kd.C_drewN ?_ _) | (with_reducible refine Kd.C_drew ?_)))
              (case side2 => exact HC115_0.out)
              rintro e w38 ⟨v117, rfl, ho0, hb⟩
              refine ⟨_, rfl, ?_⟩
              have n0_ := Aside0.mk (Kd.R_below (by (with_reducible repeat (first | apply Kd.R_alloc | apply Kd.R_drewN | apply Kd.R_drew)); exact HO_108006.out) hb)
              have n1_ := Aside0.mk (Kd.S_elder' (by (with_reducible repeat (first | apply Kd.S_alloc | apply Kd.S_drewN | apply Kd.S_drew)); exact HO_108007.out) (Kd.R_base ho0) hb)
              have n2_ := Aside0.mk (Kd.R_below (by (with_reducible repeat (first | apply Kd.R_alloc | apply Kd.R_drewN | apply Kd.R_drew)); exact HO114.out) hb)
              have n3_ := Aside0.mk (Kd.R_lower ho0 (below_size (by repeat (first | (with_reducible first | exact HB.out | apply below_alloc | apply pw_below_drewN | apply below_drew1 | refine below_set ?_ GE104.out | refine below_set ?_ GE105.out | refine below_set ?_ GE106.out | refine below_set ?_ GE107.out) | exact HB.out))))
              have n4_ := Aside0.mk (blk_below (g := gb104) (o := .cells #[.int .u8 a0_0, .slice (some ad115) l0_1.length c0_1, .slice A0_2 l0_2.length c0_2, .slice A0_3 l0_3.length c0_3] 70 (0, 0)) (by (with_reducible repeat (first | refine blk_drewN ?_ _ | refine blk_drew ?_ | refine blk_alloc ?_ _)); exact KA.out) hb)
              have n5_ := Aside0.mk (blk_below (g := gb105) (o := .cells #[.string a1_0, .slice A1_1 l1_1.length c1_1, .slice A1_2 l1_2.length c1_2, .slice A1_3 l1_3.length c1_3, .slice A1_4 l1_4.length c1_4, .slice A1_5 l1_5.length c1_5] 30 (0, 0)) (by (with_reducible repeat (first | refine blk_drewN ?_ _ | refine blk_drew ?_ | refine blk_alloc ?_ _)); exact KB.out) hb)
              have n6_ := Aside0.mk (blk_below (g := gb106) (o := .cells #[.string (⟨#[]⟩ : ByteArray), .slice none 0 0, .slice none 0 0, .slice none 0 0, .slice none 0 0, .slice none 0 0, .slice none 0 0, .slice none 0 0, .slice none 0 0, .slice none 0 0] 36 (0, 0)) (by (with_reducible repeat (first | refine blk_drewN ?_ _ | refine blk_drew ?_ | refine blk_alloc ?_ _)); exact KC.out) hb)
              have n7_ := Aside0.mk (blk_below (g := gb107) (o := .cells #[.string a1_0, .slice A1_1 l1_1.length c1_1, .slice A1_2 l1_2.length c1_2, .slice A1_3 l1_3.length c1_3, .slice A1_4 l1_4.length c1_4, .slice A1_5 l1_5.length c1_5, u108006, .slice Ao34 x108007_2.length co34, .slice none 0 0, .slice none 0 0] 36 (0, 0)) (by (with_reducible repeat (first | refine blk_drewN ?_ _ | refine blk_drew ?_ | refine blk_alloc ?_ _)); exact KE.out) hb)
              have n8_ := Aside0.mk (below_step (by repeat (first | (with_reducible first | exact HB.out | apply below_alloc | apply pw_below_drewN | apply below_drew1 | refine below_set ?_ GE104.out | refine below_set ?_ GE105.out | refine below_set ?_ GE106.out | refine below_set ?_ GE107.out) | exact HB.out)) hb)
              clear HO_108006
              clear HO_108007
              clear HO114
              clear KA
              clear KB
              clear KC
              clear KE
              clear HB
              have HO_108006 := n0_
              have HO_108007 := n1_
              have HO114 := n2_
              have HO118 := n3_
              have KA := n4_
              have KB := n5_
              have KC := n6_
              have KE := n7_
              have HB := n8_
              clear n0_ n1_ n2_ n3_ n4_ n5_ n6_ n7_ n8_
              (try clear hb)
              (try clear hb2)
              (try clear hk)
              (try clear hi)
              (try clear ho0)
              obtain ⟨Ao40, co40, eo40⟩ := Kd.R_slice HO118.out
              (first | subst eo40 | (injection eo40 with f1_ f2_ f3_; have f4_ := f1_.symm; have f5_ := f3_.symm; clear f1_ f2_ f3_; subst f4_; subst f5_))
              refine hK.out _ _ ⟨(blk_cell KE.out 0).trans rfl, (blk_cell KE.out 1).trans rfl, (blk_cell KE.out 2).trans rfl, (blk_cell KE.out 3).trans rfl, (blk_cell KE.out 4).trans rfl, (blk_cell KE.out 5).trans rfl, (blk_cell KE.out 6).trans rfl, (blk_cell KE.out 7).trans rfl, (blk_cell KE.out 8).trans rfl, (blk_cell KE.out 9).trans rfl, (blk_cell KA.out 0).trans rfl, (blk_cell KA.out 1).trans rfl, (blk_cell KA.out 2).trans rfl, (blk_cell KA.out 3).trans rfl, ((HB.out.cell (World.block_lt_of_cell? w _ hw115_0)).trans hw115_0)⟩ (fun hHeld => ?_)
              clear hK K
              refine norm_ (a' := ?_) ?_ ?_
              rotate_left
              ·show Act.put _ (some 56) _ = _
               simp only [Act.put, List.setIfInBounds_toArray, List.set_cons_zero, List.set_cons_succ, i64_w, i32_w]
               rfl
              refine one_ (i := 6) (N := some 49) #[true, true, true, true, true, true, true, true, true, true, true, true, true, true, false, false, false, false, false] rfl rfl (one_of HT_.out (by kernel_rfl)) (by decide) (fun K hK => ?_)
              have hcv39 := own_string (P := Tryz.prog) Tryz.underlying120 Tryz.underlying5 Tryz.underlying9 (Kd.own_of_R HO114.out)
              refine value_ (w1 := ?_) (v := ?_) (by rfl) rfl ?_ ?_
              rotate_left 2
              ·go_simp
               constructor
               ·rfl
               ·rfl
              clear hcv39
              refine hK.out _ _ ⟨(blk_cell KE.out 0).trans rfl, (blk_cell KE.out 1).trans rfl, (blk_cell KE.out 2).trans rfl, (blk_cell KE.out 3).trans rfl, (blk_cell KE.out 4).trans rfl, (blk_cell KE.out 5).trans rfl, (blk_cell KE.out 6).trans rfl, (blk_cell KE.out 7).trans rfl, (blk_cell KE.out 8).trans rfl, (blk_cell KE.out 9).trans rfl, (blk_cell KA.out 0).trans rfl, (blk_cell KA.out 1).trans rfl, (blk_cell KA.out 2).trans rfl, (blk_cell KA.out 3).trans rfl, ((HB.out.cell (World.block_lt_of_cell? w _ hw115_0)).trans hw115_0)⟩ (fun hHeld => ?_)
              clear hK K
              refine norm_ (a' := ?_) ?_ ?_
              rotate_left
              ·show Act.put _ (some 49) _ = _
               simp only [Act.put, List.setIfInBounds_toArray, List.set_cons_zero, List.set_cons_succ, i64_w, i32_w]
               rfl
              exact norm_ (by simp only [putAll, Act.put, List.setIfInBounds_toArray, List.set_cons_zero, List.set_cons_succ]) (hCont (v113, .slice Ao40 t116.length co40) _ ⟨hHeld, (by (with_reducible repeat (first | apply Kd.R_alloc | apply Kd.R_drewN | apply Kd.R_drew)); exact HO114.out), (by (with_reducible repeat (first | apply Kd.R_alloc | apply Kd.R_drewN | apply Kd.R_drew)); exact HO118.out), (by (with_reducible repeat (first | apply Kd.R_alloc | apply Kd.R_drewN | apply Kd.R_drew)); exact HO_108006.out), (by (with_reducible repeat (first | apply Kd.S_alloc | apply Kd.S_drewN | apply Kd.S_drew)); exact Kd.S_mono HO_108007.out (fun _ hk => hk.2)), (by (with_reducible repeat (first | refine blk_drewN ?_ _ | refine blk_drew ?_ | refine blk_alloc ?_ _)); exact KA.out), (by (with_reducible repeat (first | refine blk_drewN ?_ _ | refine blk_drew ?_ | refine blk_alloc ?_ _)); exact KB.out), (by (with_reducible repeat (first | refine blk_drewN ?_ _ | refine blk_drew ?_ | refine blk_alloc ?_ _)); exact KC.out), (by (with_reducible repeat (first | refine blk_drewN ?_ _ | refine blk_drew ?_ | refine blk_alloc ?_ _)); exact KE.out), (by repeat (first | (with_reducible first | exact HB.out | apply below_alloc | apply pw_below_drewN | apply below_drew1 | refine below_set ?_ GE104.out | refine below_set ?_ GE105.out | refine below_set ?_ GE106.out | refine below_set ?_ GE107.out) | exact HB.out))⟩)
            ·skip
             refine goes_ Tryz.func50 (by kernel_rfl) rfl #[.int .i64 (wrap64 (1 + (wrap64 (Int.tmod a0_0 6)))), .slice A115_0 (rd_L2 l0_1 x8_2).length c115_0] (by rfl) rfl rfl (by (try simp only [List.map_toArray, List.map_cons, List.map_nil]); first | done | rfl | (simp only [List.length_drop, List.length_take]; rfl)) ?_
             with_reducible refine (dowellaw48_decode.calls (wrap64 (1 + (wrap64 (Int.tmod a0_0 6)))) _ _ (rd_L2 l0_1 x8_2) t116 _ ?side1 ?side2 A28.out).mono ?_
             (case side1 => repeat (first | exact (Kd.C_below HR115_0.out HB.out) | (with_reducible refine Kd.C_alloc ?_ _) | (with_reducible refine Kd.C_drewN ?_ _) | (with_reducible refine Kd.C_drew ?_)))
             (case side2 => exact HC115_0.out)
             rintro e w36 ⟨v117, rfl, ho0, hb⟩
             refine ⟨_, rfl, ?_⟩
             have n0_ := Aside0.mk (Kd.R_below (by (with_reducible repeat (first | apply Kd.R_alloc | apply Kd.R_drewN | apply Kd.R_drew)); exact HO_108006.out) hb)
             have n1_ := Aside0.mk (Kd.S_elder' (by (with_reducible repeat (first | apply Kd.S_alloc | apply Kd.S_drewN | apply Kd.S_drew)); exact HO_108007.out) (Kd.R_base ho0) hb)
             have n2_ := Aside0.mk (Kd.R_lower ho0 (below_size (by repeat (first | (with_reducible first | exact HB.out | apply below_alloc | apply pw_below_drewN | apply below_drew1 | refine below_set ?_ GE104.out | refine below_set ?_ GE105.out | refine below_set ?_ GE106.out | refine below_set ?_ GE107.out) | exact HB.out))))
             have n3_ := Aside0.mk (blk_below (g := gb104) (o := .cells #[.int .u8 a0_0, .slice (some ad115) l0_1.length c0_1, .slice A0_2 l0_2.length c0_2, .slice A0_3 l0_3.length c0_3] 70 (0, 0)) (by (with_reducible repeat (first | refine blk_drewN ?_ _ | refine blk_drew ?_ | refine blk_alloc ?_ _)); exact KA.out) hb)
             have n4_ := Aside0.mk (blk_below (g := gb105) (o := .cells #[.string a1_0, .slice A1_1 l1_1.length c1_1, .slice A1_2 l1_2.length c1_2, .slice A1_3 l1_3.length c1_3, .slice A1_4 l1_4.length c1_4, .slice A1_5 l1_5.length c1_5] 30 (0, 0)) (by (with_reducible repeat (first | refine blk_drewN ?_ _ | refine blk_drew ?_ | refine blk_alloc ?_ _)); exact KB.out) hb)
             have n5_ := Aside0.mk (blk_below (g := gb106) (o := .cells #[.string (⟨#[]⟩ : ByteArray), .slice none 0 0, .slice none 0 0, .slice none 0 0, .slice none 0 0, .slice none 0 0, .slice none 0 0, .slice none 0 0, .slice none 0 0, .slice none 0 0] 36 (0, 0)) (by (with_reducible repeat (first | refine blk_drewN ?_ _ | refine blk_drew ?_ | refine blk_alloc ?_ _)); exact KC.out) hb)
             have n6_ := Aside0.mk (blk_below (g := gb107) (o := .cells #[.string a1_0, .slice A1_1 l1_1.length c1_1, .slice A1_2 l1_2.length c1_2, .slice A1_3 l1_3.length c1_3, .slice A1_4 l1_4.length c1_4, .slice A1_5 l1_5.length c1_5, u108006, .slice Ao34 x108007_2.length co34, .slice none 0 0, .slice none 0 0] 36 (0, 0)) (by (with_reducible repeat (first | refine blk_drewN ?_ _ | refine blk_drew ?_ | refine blk_alloc ?_ _)); exact KE.out) hb)
             have n7_ := Aside0.mk (below_step (by repeat (first | (with_reducible first | exact HB.out | apply below_alloc | apply pw_below_drewN | apply below_drew1 | refine below_set ?_ GE104.out | refine below_set ?_ GE105.out | refine below_set ?_ GE106.out | refine below_set ?_ GE107.out) | exact HB.out)) hb)
             clear HO_108006
             clear HO_108007
             clear KA
             clear KB
             clear KC
             clear KE
             clear HB
             have HO_108006 := n0_
             have HO_108007 := n1_
             have HO118 := n2_
             have KA := n3_
             have KB := n4_
             have KC := n5_
             have KE := n6_
             have HB := n7_
             clear n0_ n1_ n2_ n3_ n4_ n5_ n6_ n7_
             (try clear hb)
             (try clear hb2)
             (try clear hk)
             (try clear hi)
             (try clear ho0)
             refine hK.out _ _ ⟨(blk_cell KE.out 0).trans rfl, (blk_cell KE.out 1).trans rfl, (blk_cell KE.out 2).trans rfl, (blk_cell KE.out 3).trans rfl, (blk_cell KE.out 4).trans rfl, (blk_cell KE.out 5).trans rfl, (blk_cell KE.out 6).trans rfl, (blk_cell KE.out 7).trans rfl, (blk_cell KE.out 8).trans rfl, (blk_cell KE.out 9).trans rfl, (blk_cell KA.out 0).trans rfl, (blk_cell KA.out 1).trans rfl, (blk_cell KA.out 2).trans rfl, (blk_cell KA.out 3).trans rfl, ((HB.out.cell (World.block_lt_of_cell? w _ hw115_0)).trans hw115_0)⟩ (fun hHeld => ?_)
             clear hK K
             refine norm_ (a' := ?_) ?_ ?_
             rotate_left
             ·show Act.put _ (some 56) _ = _
              simp only [Act.put, List.setIfInBounds_toArray, List.set_cons_zero, List.set_cons_succ, i64_w, i32_w]
              rfl
             refine one_ (i := 5) (N := some 48) #[true, true, true, true, true, true, false, true, true, true, true, true, true, true, false, false, false, false, false] rfl rfl (one_of HT_.out (by kernel_rfl)) (by decide) (fun K hK => ?_)
             refine Kd.R_lit_step (Kd.int .u8) _ 5 ?hg (N := 48) ?hd (xs := ([114, (49 + ((x8_2) % 256)) % 256] : List Int)) (inner := [.int .u8 114, .int .u8 ((49 + ((x8_2) % 256)) % 256)]) (ok := fun _ => True) (okp := fun _ => True) ?hr ?hp (fun _ hk => hk) trivial (Below.refl _ _) (Nat.le_refl _) (by simp) ?_; (case hd => rfl); (case hg => rfl); (case hr => first | (go_simp; done) | (go_simp; rfl) | (go_simp; rw [wrap_sum49])); (case hp => exact (Reps.one (show Kd.M (Kd.int .u8) _ _ _ 114 [.int .u8 114] from rfl) (Reps.one (show Kd.M (Kd.int .u8) _ _ _ ((49 + ((x8_2) % 256)) % 256) [.int .u8 ((49 + ((x8_2) % 256)) % 256)] from rfl) (Reps.none _ _))))
             intro v113 w37 ho38 hb hg_ hnew_
             clear hg_ hnew_
             (first | rw [← Ny112.out] at ho38 | (simp only [Int.reduceToNat] at ho38; rw [← Ny112.out] at ho38))
             have n0_ := Aside0.mk (Kd.R_below (by (with_reducible repeat (first | apply Kd.R_alloc | apply Kd.R_drewN | apply Kd.R_drew)); exact HO_108006.out) hb)
             have n1_ := Aside0.mk (Kd.S_below (by (with_reducible repeat (first | apply Kd.S_alloc | apply Kd.S_drewN | apply Kd.S_drew)); exact HO_108007.out) hb)
             have n2_ := Aside0.mk (Kd.R_below (by (with_reducible repeat (first | apply Kd.R_alloc | apply Kd.R_drewN | apply Kd.R_drew)); exact HO118.out) hb)
             have n3_ := Aside0.mk (Kd.R_lower ho38 (below_size (by repeat (first | (with_reducible first | exact HB.out | apply below_alloc | apply pw_below_drewN | apply below_drew1 | refine below_set ?_ GE104.out | refine below_set ?_ GE105.out | refine below_set ?_ GE106.out | refine below_set ?_ GE107.out) | exact HB.out))))
             have n4_ := Aside0.mk (blk_below (g := gb104) (o := .cells #[.int .u8 a0_0, .slice (some ad115) l0_1.length c0_1, .slice A0_2 l0_2.length c0_2, .slice A0_3 l0_3.length c0_3] 70 (0, 0)) (by (with_reducible repeat (first | refine blk_drewN ?_ _ | refine blk_drew ?_ | refine blk_alloc ?_ _)); exact KA.out) hb)
             have n5_ := Aside0.mk (blk_below (g := gb105) (o := .cells #[.string a1_0, .slice A1_1 l1_1.length c1_1, .slice A1_2 l1_2.length c1_2, .slice A1_3 l1_3.length c1_3, .slice A1_4 l1_4.length c1_4, .slice A1_5 l1_5.length c1_5] 30 (0, 0)) (by (with_reducible repeat (first | refine blk_drewN ?_ _ | refine blk_drew ?_ | refine blk_alloc ?_ _)); exact KB.out) hb)
             have n6_ := Aside0.mk (blk_below (g := gb106) (o := .cells #[.string (⟨#[]⟩ : ByteArray), .slice none 0 0, .slice none 0 0, .slice none 0 0, .slice none 0 0, .slice none 0 0, .slice none 0 0, .slice none 0 0, .slice none 0 0, .slice none 0 0] 36 (0, 0)) (by (with_reducible repeat (first | refine blk_drewN ?_ _ | refine blk_drew ?_ | refine blk_alloc ?_ _)); exact KC.out) hb)
             have n7_ := Aside0.mk (blk_below (g := gb107) (o := .cells #[.string a1_0, .slice A1_1 l1_1.length c1_1, .slice A1_2 l1_2.length c1_2, .slice A1_3 l1_3.length c1_3, .slice A1_4 l1_4.length c1_4, .slice A1_5 l1_5.length c1_5, u108006, .slice Ao34 x108007_2.length co34, .slice none 0 0, .slice none 0 0] 36 (0, 0)) (by (with_reducible repeat (first | refine blk_drewN ?_ _ | refine blk_drew ?_ | refine blk_alloc ?_ _)); exact KE.out) hb)
             have n8_ := Aside0.mk (below_step (by repeat (first | (with_reducible first | exact HB.out | apply below_alloc | apply pw_below_drewN | apply below_drew1 | refine below_set ?_ GE104.out | refine below_set ?_ GE105.out | refine below_set ?_ GE106.out | refine below_set ?_ GE107.out) | exact HB.out)) hb)
             clear HO_108006
             clear HO_108007
             clear HO118
             clear KA
             clear KB
             clear KC
             clear KE
             clear HB
             have HO_108006 := n0_
             have HO_108007 := n1_
             have HO118 := n2_
             have HO114 := n3_
             have KA := n4_
             have KB := n5_
             have KC := n6_
             have KE := n7_
             have HB := n8_
             clear n0_ n1_ n2_ n3_ n4_ n5_ n6_ n7_ n8_
             clear hb ho38
             obtain ⟨Ao40, co40, eo40⟩ := Kd.R_slice HO118.out
             (first | subst eo40 | (injection eo40 with f1_ f2_ f3_; have f4_ := f1_.symm; have f5_ := f3_.symm; clear f1_ f2_ f3_; subst f4_; subst f5_))
             refine hK.out _ _ ⟨(blk_cell KE.out 0).trans rfl, (blk_cell KE.out 1).trans rfl, (blk_cell KE.out 2).trans rfl, (blk_cell KE.out 3).trans rfl, (blk_cell KE.out 4).trans rfl, (blk_cell KE.out 5).trans rfl, (blk_cell KE.out 6).trans rfl, (blk_cell KE.out 7).trans rfl, (blk_cell KE.out 8).trans rfl, (blk_cell KE.out 9).trans rfl, (blk_cell KA.out 0).trans rfl, (blk_cell KA.out 1).trans rfl, (blk_cell KA.out 2).trans rfl, (blk_cell KA.out 3).trans rfl, ((HB.out.cell (World.block_lt_of_cell? w _ hw115_0)).trans hw115_0)⟩ (fun hHeld => ?_)
             clear hK K
             refine norm_ (a' := ?_) ?_ ?_
             rotate_left
             ·show Act.put _ (some 48) _ = _
              simp only [Act.put, List.setIfInBounds_toArray, List.set_cons_zero, List.set_cons_succ, i64_w, i32_w]
              rfl
             refine one_ (i := 6) (N := some 49) #[true, true, true, true, true, true, true, true, true, true, true, true, true, true, false, false, false, false, false] rfl rfl (one_of HT_.out (by kernel_rfl)) (by decide) (fun K hK => ?_)
             have hcv39 := own_string (P := Tryz.prog) Tryz.underlying120 Tryz.underlying5 Tryz.underlying9 (Kd.own_of_R HO114.out)
             refine value_ (w1 := ?_) (v := ?_) (by rfl) rfl ?_ ?_
             rotate_left 2
             ·go_simp
              constructor
              ·rfl
              ·rfl
             clear hcv39
             refine hK.out _ _ ⟨(blk_cell KE.out 0).trans rfl, (blk_cell KE.out 1).trans rfl, (blk_cell KE.out 2).trans rfl, (blk_cell KE.out 3).trans rfl, (blk_cell KE.out 4).trans rfl, (blk_cell KE.out 5).trans rfl, (blk_cell KE.out 6).trans rfl, (blk_cell KE.out 7).trans rfl, (blk_cell KE.out 8).trans rfl, (blk_cell KE.out 9).trans rfl, (blk_cell KA.out 0).trans rfl, (blk_cell KA.out 1).trans rfl, (blk_cell KA.out 2).trans rfl, (blk_cell KA.out 3).trans rfl, ((HB.out.cell (World.block_lt_of_cell? w _ hw115_0)).trans hw115_0)⟩ (fun hHeld => ?_)
             clear hK K
             refine norm_ (a' := ?_) ?_ ?_
             rotate_left
             ·show Act.put _ (some 49) _ = _
              simp only [Act.put, List.setIfInBounds_toArray, List.set_cons_zero, List.set_cons_succ, i64_w, i32_w]
              rfl
             exact norm_ (by simp only [putAll, Act.put, List.setIfInBounds_toArray, List.set_cons_zero, List.set_cons_succ]) (hCont (v113, .slice Ao40 t116.length co40) _ ⟨hHeld, (by (with_reducible repeat (first | apply Kd.R_alloc | apply Kd.R_drewN | apply Kd.R_drew)); exact HO114.out), (by (with_reducible repeat (first | apply Kd.R_alloc | apply Kd.R_drewN | apply Kd.R_drew)); exact HO118.out), (by (with_reducible repeat (first | apply Kd.R_alloc | apply Kd.R_drewN | apply Kd.R_drew)); exact HO_108006.out), (by (with_reducible repeat (first | apply Kd.S_alloc | apply Kd.S_drewN | apply Kd.S_drew)); exact Kd.S_mono HO_108007.out (fun _ hk => hk.2)), (by (with_reducible repeat (first | refine blk_drewN ?_ _ | refine blk_drew ?_ | refine blk_alloc ?_ _)); exact KA.out), (by (with_reducible repeat (first | refine blk_drewN ?_ _ | refine blk_drew ?_ | refine blk_alloc ?_ _)); exact KB.out), (by (with_reducible repeat (first | refine blk_drewN ?_ _ | refine blk_drew ?_ | refine blk_alloc ?_ _)); exact KC.out), (by (with_reducible repeat (first | refine blk_drewN ?_ _ | refine blk_drew ?_ | refine blk_alloc ?_ _)); exact KE.out), (by repeat (first | (with_reducible first | exact HB.out | apply below_alloc | apply pw_below_drewN | apply below_drew1 | refine below_set ?_ GE104.out | refine below_set ?_ GE105.out | refine below_set ?_ GE106.out | refine below_set ?_ GE107.out) | exact HB.out))⟩)
           rintro ⟨v113, v117⟩ w41 ⟨hS_, h0_, h1_, h2_, h3_, h4_, h5_, h6_, h7_, h8_⟩
           have n0_ : Aside0 (Kd.R (Kd.int .u8) 5 w41 w.heap.size (fun _ => True) v113 y112) := ⟨h0_⟩
           have n1_ : Aside0 (Kd.R k62 73 w41 w.heap.size (fun _ => True) v117 t116) := ⟨h1_⟩
           have n2_ : Aside0 (Kd.R Kd.string 9 w41 w.heap.size (fun _ => True) u108006 x108006_1) := ⟨h2_⟩
           have n3_ : Aside0 (Kd.S k70 40 w41 w.heap.size (fun k_ => some k_ ≠ (v117 : Value).ownBlock) (.slice Ao34 x108007_2.length co34) x108007_2) := ⟨h3_⟩
           have n4_ : Aside0 (w41.heap[gb104]? = some (.cells #[.int .u8 a0_0, .slice (some ad115) l0_1.length c0_1, .slice A0_2 l0_2.length c0_2, .slice A0_3 l0_3.length c0_3] 70 (0, 0))) := ⟨h4_⟩
           have n5_ : Aside0 (w41.heap[gb105]? = some (.cells #[.string a1_0, .slice A1_1 l1_1.length c1_1, .slice A1_2 l1_2.length c1_2, .slice A1_3 l1_3.length c1_3, .slice A1_4 l1_4.length c1_4, .slice A1_5 l1_5.length c1_5] 30 (0, 0))) := ⟨h5_⟩
           have n6_ : Aside0 (w41.heap[gb106]? = some (.cells #[.string (⟨#[]⟩ : ByteArray), .slice none 0 0, .slice none 0 0, .slice none 0 0, .slice none 0 0, .slice none 0 0, .slice none 0 0, .slice none 0 0, .slice none 0 0, .slice none 0 0] 36 (0, 0))) := ⟨h6_⟩
           have n7_ : Aside0 (w41.heap[gb107]? = some (.cells #[.string a1_0, .slice A1_1 l1_1.length c1_1, .slice A1_2 l1_2.length c1_2, .slice A1_3 l1_3.length c1_3, .slice A1_4 l1_4.length c1_4, .slice A1_5 l1_5.length c1_5, u108006, .slice Ao34 x108007_2.length co34, .slice none 0 0, .slice none 0 0] 36 (0, 0))) := ⟨h7_⟩
           have n8_ : Aside0 (Below w.heap.size w w41) := ⟨h8_⟩
           clear HO_108006
           clear HO_108007
           clear KA
           clear KB
           clear KC
           clear KE
           clear HB
           clear h0_ h1_ h2_ h3_ h4_ h5_ h6_ h7_ h8_
           have HO114 := n0_
           have HO118 := n1_
           have HO_108006 := n2_
           have HO_108007 := n3_
           have KA := n4_
           have KB := n5_
           have KC := n6_
           have KE := n7_
           have HB := n8_
           clear n0_ n1_ n2_ n3_ n4_ n5_ n6_ n7_ n8_
           have hHeld : w41.cell? ⟨gb107, 0, none⟩ = some (.string a1_0) ∧ w41.cell? ⟨gb107, 1, none⟩ = some (.slice A1_1 l1_1.length c1_1) ∧ w41.cell? ⟨gb107, 2, none⟩ = some (.slice A1_2 l1_2.length c1_2) ∧ w41.cell? ⟨gb107, 3, none⟩ = some (.slice A1_3 l1_3.length c1_3) ∧ w41.cell? ⟨gb107, 4, none⟩ = some (.slice A1_4 l1_4.length c1_4) ∧ w41.cell? ⟨gb107, 5, none⟩ = some (.slice A1_5 l1_5.length c1_5) ∧ w41.cell? ⟨gb107, 6, none⟩ = some (u108006) ∧ w41.cell? ⟨gb107, 7, none⟩ = some (.slice Ao34 x108007_2.length co34) ∧ w41.cell? ⟨gb107, 8, none⟩ = some (.slice none 0 0) ∧ w41.cell? ⟨gb107, 9, none⟩ = some (.slice none 0 0) ∧ w41.cell? ⟨gb104, 0, none⟩ = some (.int .u8 a0_0) ∧ w41.cell? ⟨gb104, 1, none⟩ = some (.slice (some ad115) l0_1.length c0_1) ∧ w41.cell? ⟨gb104, 2, none⟩ = some (.slice A0_2 l0_2.length c0_2) ∧ w41.cell? ⟨gb104, 3, none⟩ = some (.slice A0_3 l0_3.length c0_3) ∧ w41.cell? (ad115.add (x8_2).toNat) = some (.slice A115_0 (rd_L2 l0_1 x8_2).length c115_0) := hS_
           obtain ⟨Ao42, co42, eo42⟩ := Kd.R_slice HO118.out
           (first | subst eo42 | (injection eo42 with f1_ f2_ f3_; have f4_ := f1_.symm; have f5_ := f3_.symm; clear f1_ f2_ f3_; subst f4_; subst f5_))
           refine norm_ (a' := ?_) ?_ ?_
           rotate_left
           ·simp only [putAll, Act.put, List.setIfInBounds_toArray, List.set_cons_zero, List.set_cons_succ]
            rfl
           refine pure_ (i := 14) (N := some 57) (v := ?_) (a' := ?_) #[true, true, true, true, true, true, true, true, true, true, true, true, true, true, true, false, false, false, false] rfl rfl (any_of HT_.out (by kernel_rfl)) (fun _ _ _ h => h) (Or.inl ⟨by rfl, ?_⟩) ?_ ?_
           rotate_left
           ·intro w'
            go_simp
            with_reducible rfl
           rotate_left
           ·simp only [Act.put, List.setIfInBounds_toArray, List.set_cons_zero, List.set_cons_succ, i64_w, i32_w]
            rfl
           refine one_ (i := 15) (N := some 58) #[true, true, true, true, true, true, true, true, true, true, true, true, true, true, true, true, false, false, false] rfl rfl (one_of HT_.out (by kernel_rfl)) (by decide) (fun K hK => ?_)
           refine value_ (w1 := ?_) (v := ?_) (by rfl) rfl ?_ ?_
           rotate_left 2
           ·go_simp
            constructor
            ·rfl
            ·rfl
           refine hK.out _ _ ⟨(blk_cell (blk_alloc KE.out _) 0).trans rfl, (blk_cell (blk_alloc KE.out _) 1).trans rfl, (blk_cell (blk_alloc KE.out _) 2).trans rfl, (blk_cell (blk_alloc KE.out _) 3).trans rfl, (blk_cell (blk_alloc KE.out _) 4).trans rfl, (blk_cell (blk_alloc KE.out _) 5).trans rfl, (blk_cell (blk_alloc KE.out _) 6).trans rfl, (blk_cell (blk_alloc KE.out _) 7).trans rfl, (blk_cell (blk_alloc KE.out _) 8).trans rfl, (blk_cell (blk_alloc KE.out _) 9).trans rfl, (blk_cell (blk_alloc KA.out _) 0).trans rfl, (blk_cell (blk_alloc KA.out _) 1).trans rfl, (blk_cell (blk_alloc KA.out _) 2).trans rfl, (blk_cell (blk_alloc KA.out _) 3).trans rfl, (World.cell?_alloc_lt _ _ _ (World.block_lt_of_cell? _ _ (((HB.out.cell (World.block_lt_of_cell? w _ hw115_0)).trans hw115_0)))).trans (((HB.out.cell (World.block_lt_of_cell? w _ hw115_0)).trans hw115_0))⟩ (fun hHeld => ?_)
           clear hK K
           refine norm_ (a' := ?_) ?_ ?_
           rotate_left
           ·show Act.put _ (some 58) _ = _
            simp only [Act.put, List.setIfInBounds_toArray, List.set_cons_zero, List.set_cons_succ, i64_w, i32_w]
            rfl
           refine one_ (i := 16) (N := some 59) #[true, true, true, true, true, true, true, true, true, true, true, true, true, true, true, true, true, false, false] rfl rfl (one_of HT_.out (by kernel_rfl)) (by decide) (fun K hK => ?_)
           refine Kd.S_append_step k70 (w0 := w) w.heap.size (by rfl) (.tmp 44) (.tmp 58) 32 40 (.agg #[(.string ⟨#[]⟩), (.slice none 0 0)]) 40 rfl Tryz.underlying32 info70 rfl (by decide) (by omega) (.slice Ao34 x108007_2.length co34) x108007_2 (⟨strOfNums y112, t116⟩ : S70) [.string (strOfNums y112), .slice Ao42 t116.length co42] (fun _ => True) (fun k_ => some k_ = (.slice Ao42 t116.length co42 : Value).ownBlock) rfl rfl ?aP (fun k_ hk_ => ((Kd.R_mono (ok' := fun k_ => ((fun _ => True)) k_ ∧ some k_ ≠ (.slice Ao34 x108007_2.length co34 : Value).ownBlock) (Kd.R_apart' (HO118.out) (Kd.S_typed HO_108007.out) (by decide)) (fun k_ hk => ⟨trivial, hk.2⟩))).1 k_ hk_.symm) ?aF ?aO ?aB ?aS ?aL ?_
           (case aP => exact k70_mkM _ _ _ (⟨strOfNums y112, t116⟩ : S70) (Kd.R_mono (Kd.R_tight rfl (Kd.R_mono (ok' := fun k_ => ((fun _ => True)) k_ ∧ some k_ ≠ (.slice Ao34 x108007_2.length co34 : Value).ownBlock) (Kd.R_apart' (HO118.out) (Kd.S_typed HO_108007.out) (by decide)) (fun k_ hk => ⟨trivial, hk.2⟩))) (fun _ h_ => h_)))
           (case aB => exact (by repeat (first | (with_reducible first | exact HB.out | apply below_alloc | apply pw_below_drewN | apply below_drew1 | refine below_set ?_ GE104.out | refine below_set ?_ GE105.out | refine below_set ?_ GE106.out | refine below_set ?_ GE107.out) | exact HB.out)))
           (case aF => exact (fun _ _ => trivial))
           (case aO => exact (by (with_reducible repeat (first | apply Kd.S_alloc | apply Kd.S_drewN | apply Kd.S_drew)); exact Kd.S_mono HO_108007.out (fun k_ hk => ⟨trivial, fun e_ => hk e_⟩)))
           (case aS => exact (below_size (by repeat (first | (with_reducible first | exact HB.out | apply below_alloc | apply pw_below_drewN | apply below_drew1 | refine below_set ?_ GE104.out | refine below_set ?_ GE105.out | refine below_set ?_ GE106.out | refine below_set ?_ GE107.out) | exact HB.out))))
           (case aL => have := LMc29.out; omega)
           intro v120 w43 ho hb hg hat
           rw [← Ny119.out] at ho
           have n0_ := Aside0.mk (Kd.R_over' (by (with_reducible repeat (first | apply Kd.R_alloc | apply Kd.R_drewN | apply Kd.R_drew)); exact HO_108006.out) (Kd.S_typed (by (with_reducible repeat (first | apply Kd.S_alloc | apply Kd.S_drewN | apply Kd.S_drew)); exact HO_108007.out)) (by decide) hg)
           have n1_ := Aside0.mk (blk_grown (g := gb104) (o := .cells #[.int .u8 a0_0, .slice (some ad115) l0_1.length c0_1, .slice A0_2 l0_2.length c0_2, .slice A0_3 l0_3.length c0_3] 70 (0, 0)) (by (with_reducible repeat (first | refine blk_drewN ?_ _ | refine blk_drew ?_ | refine blk_alloc ?_ _)); exact KA.out) hg (Kd.S_ne HO_108007.out KA.out (by decide)))
           have n2_ := Aside0.mk (blk_grown (g := gb105) (o := .cells #[.string a1_0, .slice A1_1 l1_1.length c1_1, .slice A1_2 l1_2.length c1_2, .slice A1_3 l1_3.length c1_3, .slice A1_4 l1_4.length c1_4, .slice A1_5 l1_5.length c1_5] 30 (0, 0)) (by (with_reducible repeat (first | refine blk_drewN ?_ _ | refine blk_drew ?_ | refine blk_alloc ?_ _)); exact KB.out) hg (Kd.S_ne HO_108007.out KB.out (by decide)))
           have n3_ := Aside0.mk (blk_grown (g := gb106) (o := .cells #[.string (⟨#[]⟩ : ByteArray), .slice none 0 0, .slice none 0 0, .slice none 0 0, .slice none 0 0, .slice none 0 0, .slice none 0 0, .slice none 0 0, .slice none 0 0, .slice none 0 0] 36 (0, 0)) (by (with_reducible repeat (first | refine blk_drewN ?_ _ | refine blk_drew ?_ | refine blk_alloc ?_ _)); exact KC.out) hg (Kd.S_ne HO_108007.out KC.out (by decide)))
           have n4_ := Aside0.mk (blk_grown (g := gb107) (o := .cells #[.string a1_0, .slice A1_1 l1_1.length c1_1, .slice A1_2 l1_2.length c1_2, .slice A1_3 l1_3.length c1_3, .slice A1_4 l1_4.length c1_4, .slice A1_5 l1_5.length c1_5, u108006, .slice Ao34 x108007_2.length co34, .slice none 0 0, .slice none 0 0] 36 (0, 0)) (by (with_reducible repeat (first | refine blk_drewN ?_ _ | refine blk_drew ?_ | refine blk_alloc ?_ _)); exact KE.out) hg (Kd.S_ne HO_108007.out KE.out (by decide)))
           have n5_ := Aside0.mk (Kd.R_over' (by (with_reducible repeat (first | apply Kd.R_alloc | apply Kd.R_drewN | apply Kd.R_drew)); exact HO114.out) (Kd.S_typed (by (with_reducible repeat (first | apply Kd.S_alloc | apply Kd.S_drewN | apply Kd.S_drew)); exact HO_108007.out)) (by decide) hg)
           have n6_ := Aside0.mk (hb)
           have n7_ := Aside0.mk (ho)
           clear HO_108006
           clear KA
           clear KB
           clear KC
           clear KE
           clear HO114
           clear HB
           clear HO_108007
           clear HO118
           have HO_108006 := n0_
           have KA := n1_
           have KB := n2_
           have KC := n3_
           have KE := n4_
           have HO114 := n5_
           have HB := n6_
           have HO121 := n7_
           clear n0_ n1_ n2_ n3_ n4_ n5_ n6_ n7_
           clear ho hb hg hat
           obtain ⟨Ao44, co44, eo44⟩ := Kd.S_slice HO121.out
           (first | subst eo44 | (injection eo44 with f1_ f2_ f3_; have f4_ := f1_.symm; have f5_ := f3_.symm; clear f1_ f2_ f3_; subst f4_; subst f5_))
           refine hK.out _ _ ⟨(blk_cell KE.out 0).trans rfl, (blk_cell KE.out 1).trans rfl, (blk_cell KE.out 2).trans rfl, (blk_cell KE.out 3).trans rfl, (blk_cell KE.out 4).trans rfl, (blk_cell KE.out 5).trans rfl, (blk_cell KE.out 6).trans rfl, (blk_cell KE.out 7).trans rfl, (blk_cell KE.out 8).trans rfl, (blk_cell KE.out 9).trans rfl, (blk_cell KA.out 0).trans rfl, (blk_cell KA.out 1).trans rfl, (blk_cell KA.out 2).trans rfl, (blk_cell KA.out 3).trans rfl, ((HB.out.cell (World.block_lt_of_cell? w _ hw115_0)).trans hw115_0)⟩ (fun hHeld => ?_)
           clear hK K
           refine norm_ (a' := ?_) ?_ ?_
           rotate_left
           ·show Act.put _ (some 59) _ = _
            simp only [Act.put, List.setIfInBounds_toArray, List.set_cons_zero, List.set_cons_succ, i64_w, i32_w]
            rfl
           refine pure_ (i := 17) (N := some 60) (v := ?_) (a' := ?_) #[true, true, true, true, true, true, true, true, true, true, true, true, true, true, true, true, true, true, false] rfl rfl (any_of HT_.out (by kernel_rfl)) (fun _ _ _ h => h) (Or.inl ⟨by rfl, ?_⟩) ?_ ?_
           rotate_left
           ·intro w'
            go_simp
            with_reducible rfl
           rotate_left
           ·simp only [Act.put, List.setIfInBounds_toArray, List.set_cons_zero, List.set_cons_succ, i64_w, i32_w]
            rfl
           refine last_ (i := 18) (N := none) #[true, true, true, true, true, true, true, true, true, true, true, true, true, true, true, true, true, true, true] rfl rfl (one_of HT_.out (by kernel_rfl)) (by decide) (fun K hK => ?_)
           have hs45 : w43.cell? ⟨gb107, 7, none⟩ = some (.slice Ao34 x108007_2.length co34) := (blk_cell KE.out 7).trans rfl
           have hfs45 := blk_frozen KE.out 7
           have hns45_0 := NB104_107.out
           have hns45_1 := NB105_107.out
           have hns45_2 := NB106_107.out
           have hms45_0 := NB107_104.out
           have hms45_1 := NB107_105.out
           have hms45_2 := NB107_106.out
           refine skip_ (w1 := ?_) (by rfl) rfl ?_ ?_
           rotate_left
           ·go_simp
            rfl
           refine hK.out _ _ ?_
           clear hK K
           refine done_ (done_of HT_.out (by kernel_rfl)) ?_
           try go_wp2
           go_roundg k2
           case measure => have := HK1.out; have := HK2.out; omega
           case rel => exact ⟨(wrap64 (x8_2 + 1)), (y119), (.slice Ao44 y119.length co44), (by first | rfl | (simp; done) | (simp [*]; done)), H', ⟨by have := HK1.out; have := HK2.out; omega⟩, ⟨by (with_reducible repeat (first | apply Kd.R_alloc | apply Kd.R_drewN | apply Kd.R_drew)); exact Kd.R_mono (Kd.R_far (p := ⟨gb107, 7, none⟩) (Kd.R_types HO_108006.out KE.out (by decide)) (fun _ hk => hk.2) (.slice Ao44 y119.length co44)) (fun _ hk => trivial)⟩, ⟨by (with_reducible repeat (first | apply Kd.S_alloc | apply Kd.S_drewN | apply Kd.S_drew)); exact Kd.S_mono (Kd.S_far (p := ⟨gb107, 7, none⟩) (Kd.S_types HO121.out KE.out (by decide)) (fun _ hk => hk.2) (.slice Ao44 y119.length co44)) (fun _ hk => trivial)⟩, ⟨by (with_reducible repeat (first | refine blk_drewN ?_ _ | refine blk_drew ?_ | refine blk_alloc ?_ _)); refine blk_far ?_ NB104_107.out _; (with_reducible repeat (first | refine blk_drewN ?_ _ | refine blk_drew ?_ | refine blk_alloc ?_ _)); exact KA.out⟩, ⟨by (with_reducible repeat (first | refine blk_drewN ?_ _ | refine blk_drew ?_ | refine blk_alloc ?_ _)); refine blk_far ?_ NB105_107.out _; (with_reducible repeat (first | refine blk_drewN ?_ _ | refine blk_drew ?_ | refine blk_alloc ?_ _)); exact KB.out⟩, ⟨by (with_reducible repeat (first | refine blk_drewN ?_ _ | refine blk_drew ?_ | refine blk_alloc ?_ _)); refine blk_far ?_ NB106_107.out _; (with_reducible repeat (first | refine blk_drewN ?_ _ | refine blk_drew ?_ | refine blk_alloc ?_ _)); exact KC.out⟩, ⟨by (with_reducible repeat (first | refine blk_drewN ?_ _ | refine blk_drew ?_ | refine blk_alloc ?_ _)); refine blk_put (cs := #[.string a1_0, .slice A1_1 l1_1.length c1_1, .slice A1_2 l1_2.length c1_2, .slice A1_3 l1_3.length c1_3, .slice A1_4 l1_4.length c1_4, .slice A1_5 l1_5.length c1_5, u108006, .slice Ao34 x108007_2.length co34, .slice none 0 0, .slice none 0 0]) ?_ 7 _ rfl; (with_reducible repeat (first | refine blk_drewN ?_ _ | refine blk_drew ?_ | refine blk_alloc ?_ _)); exact KE.out⟩, ⟨by repeat (first | (with_reducible first | exact HB.out | apply below_alloc | apply pw_below_drewN | apply below_drew1 | refine below_set ?_ GE104.out | refine below_set ?_ GE105.out | refine below_set ?_ GE106.out | refine below_set ?_ GE107.out) | exact HB.out)⟩⟩
          ·rw [if_neg c29] at H
           exact absurd H (by simp)
         ·rw [if_neg c27] at H
          exact absurd H (by simp)
        ·rw [if_neg c26] at H
         have c26b0 : decide (x8_2 < 6) = false := decide_eq_false c26
         clear c26
         have H' := Aside0.mk H
         clear H
         have hnb46 := NB104_105.out
         have hnc46 := NB105_104.out
         have hnb47 := NB104_106.out
         have hnc47 := NB106_104.out
         have hnb48 := NB104_107.out
         have hnc48 := NB107_104.out
         have hcz49_0 : wr.cell? ⟨gb104, 0, none⟩ = some (.int .u8 a0_0) := (blk_cell KA.out 0).trans rfl
         have hcz49_1 : wr.cell? ⟨gb104, 1, none⟩ = some (.slice A0_1 l0_1.length c0_1) := (blk_cell KA.out 1).trans rfl
         have hcz49_2 : wr.cell? ⟨gb104, 2, none⟩ = some (.slice A0_2 l0_2.length c0_2) := (blk_cell KA.out 2).trans rfl
         have hcz49_3 : wr.cell? ⟨gb104, 3, none⟩ = some (.slice A0_3 l0_3.length c0_3) := (blk_cell KA.out 3).trans rfl
         have hfz49_0 := blk_frozen KA.out 0
         have hfz49_1 := blk_frozen KA.out 1
         have hfz49_2 := blk_frozen KA.out 2
         have hfz49_3 := blk_frozen KA.out 3
         go_wp2
         go_meet
         case rel => exact ⟨_, (x108007_2), (u108007), H', ⟨by have := HK1.out; have := HK2.out; first | omega | exact Nat.le_refl _⟩, ⟨by (with_reducible repeat (first | apply Kd.R_alloc | apply Kd.R_drewN | apply Kd.R_drew)); exact HO_108006.out⟩, ⟨by (with_reducible repeat (first | apply Kd.S_alloc | apply Kd.S_drewN | apply Kd.S_drew)); exact HO_108007.out⟩, ⟨by (with_reducible repeat (first | refine blk_drewN ?_ _ | refine blk_drew ?_ | refine blk_alloc ?_ _)); exact KA.out⟩, ⟨by (with_reducible repeat (first | refine blk_drewN ?_ _ | refine blk_drew ?_ | refine blk_alloc ?_ _)); exact KB.out⟩, ⟨by (with_reducible repeat (first | refine blk_drewN ?_ _ | refine blk_drew ?_ | refine blk_alloc ?_ _)); exact KC.out⟩, ⟨by (with_reducible repeat (first | refine blk_drewN ?_ _ | refine blk_drew ?_ | refine blk_alloc ?_ _)); exact KE.out⟩, ⟨by repeat (first | (with_reducible first | exact HB.out | apply below_alloc | apply pw_below_drewN | apply below_drew1 | refine below_set ?_ GE104.out | refine below_set ?_ GE105.out | refine below_set ?_ GE106.out | refine below_set ?_ GE107.out) | exact HB.out)⟩⟩
       ·rw [if_neg c25] at H
        have c25b0 : decide (x8_2 < (l0_1.length : Int)) = false := decide_eq_false c25
        clear c25
        (first | rw [c25b0] | (simp only [i64_w, i32_w]; rw [c25b0]) | skip)
        have H' := Aside0.mk H
        clear H
        have hnb50 := NB104_105.out
        have hnc50 := NB105_104.out
        have hnb51 := NB104_106.out
        have hnc51 := NB106_104.out
        have hnb52 := NB104_107.out
        have hnc52 := NB107_104.out
        have hcz53_0 : wr.cell? ⟨gb104, 0, none⟩ = some (.int .u8 a0_0) := (blk_cell KA.out 0).trans rfl
        have hcz53_1 : wr.cell? ⟨gb104, 1, none⟩ = some (.slice A0_1 l0_1.length c0_1) := (blk_cell KA.out 1).trans rfl
        have hcz53_2 : wr.cell? ⟨gb104, 2, none⟩ = some (.slice A0_2 l0_2.length c0_2) := (blk_cell KA.out 2).trans rfl
        have hcz53_3 : wr.cell? ⟨gb104, 3, none⟩ = some (.slice A0_3 l0_3.length c0_3) := (blk_cell KA.out 3).trans rfl
        have hfz53_0 := blk_frozen KA.out 0
        have hfz53_1 := blk_frozen KA.out 1
        have hfz53_2 := blk_frozen KA.out 2
        have hfz53_3 := blk_frozen KA.out 3
        go_wp2
        go_meet
        case rel => exact ⟨_, (x108007_2), (u108007), H', ⟨by have := HK1.out; have := HK2.out; first | omega | exact Nat.le_refl _⟩, ⟨by (with_reducible repeat (first | apply Kd.R_alloc | apply Kd.R_drewN | apply Kd.R_drew)); exact HO_108006.out⟩, ⟨by (with_reducible repeat (first | apply Kd.S_alloc | apply Kd.S_drewN | apply Kd.S_drew)); exact HO_108007.out⟩, ⟨by (with_reducible repeat (first | refine blk_drewN ?_ _ | refine blk_drew ?_ | refine blk_alloc ?_ _)); exact KA.out⟩, ⟨by (with_reducible repeat (first | refine blk_drewN ?_ _ | refine blk_drew ?_ | refine blk_alloc ?_ _)); exact KB.out⟩, ⟨by (with_reducible repeat (first | refine blk_drewN ?_ _ | refine blk_drew ?_ | refine blk_alloc ?_ _)); exact KC.out⟩, ⟨by (with_reducible repeat (first | refine blk_drewN ?_ _ | refine blk_drew ?_ | refine blk_alloc ?_ _)); exact KE.out⟩, ⟨by repeat (first | (with_reducible first | exact HB.out | apply below_alloc | apply pw_below_drewN | apply below_drew1 | refine below_set ?_ GE104.out | refine below_set ?_ GE105.out | refine below_set ?_ GE106.out | refine below_set ?_ GE107.out) | exact HB.out)⟩⟩
    case rest =>
     clear HC24
     try clear c1
     try clear p1
     try clear q1
     try clear hx1
     try clear c2
     try clear p2
     try clear c3
     try clear hcv3
     try clear c4
     try clear c5
     try clear p6
     try clear c11
     try clear p11
     try clear q11
     try clear hx11
     try clear c21
     try clear c25
     try clear c25b0
     try clear c26
     try clear c26b0
     try clear c27
     try clear c29
     try clear c30
     try clear c31
     try clear c32
     try clear hcv38
     try clear hcv39
     try clear c46
     try clear c47
     try clear c48
     try clear c50
     try clear c51
     try clear c52
     try clear hcz33_0
     try clear hcz33_1
     try clear hcz33_2
     try clear hcz33_3
     try clear hcz49_0
     try clear hcz49_1
     try clear hcz49_2
     try clear hcz49_3
     try clear hcz53_0
     try clear hcz53_1
     try clear hcz53_2
     try clear hcz53_3
     try clear hfz33_0
     try clear hfz33_1
     try clear hfz33_2
     try clear hfz33_3
     try clear hfz49_0
     try clear hfz49_1
     try clear hfz49_2
     try clear hfz49_3
     try clear hfz53_0
     try clear hfz53_1
     try clear hfz53_2
     try clear hfz53_3
     try clear hx115_0
     try clear p115
     try clear q115
     obtain ⟨kq, x108007_23, u108007, HA, HJ23, HO_108006, HO_108007, KA, KB, KC, KE, HB⟩ := hcut
     cases kq with
     | zero => exact absurd HA.out (by simp [dowellaw48_Family.j2])
     | succ kj23 =>
      have H := HA.out
      clear HA
      simp only [dowellaw48_Family.j2] at H
      have HC54 := Aside0.mk H
      clear H
      go_upto_block 4 with (fail)
      go_cut [] (fun wc => ∃ (kq : Nat) (x108008_53 : List (S79)) (u108008 : Value), Aside0 (dowellaw48_Family.j4 kq (wrap64 (1 + (wrap64 (Int.tmod a0_0 6)))) a0_0 l0_1 l0_2 l0_3 a1_0 l1_1 l1_2 l1_3 l1_4 l1_5 a1_0 l1_1 l1_2 l1_3 l1_4 l1_5 x108006_1 x108007_23 x108008_53 = some (r1, r2, r3, r4, r5, r6, r7, r8, r9, r10)) ∧ Aside0 (kq ≤ kj23) ∧ Aside0 (Kd.R Kd.string 9 wc w.heap.size (fun _ => True) u108006 x108006_1) ∧ Aside0 (Kd.S k70 40 wc w.heap.size (fun _ => True) u108007 x108007_23) ∧ Aside0 (Kd.S k79 80 wc w.heap.size (fun _ => True) u108008 x108008_53) ∧ Aside0 (wc.heap[gb104]? = some (.cells #[.int .u8 a0_0, (.slice A0_1 l0_1.length c0_1), (.slice A0_2 l0_2.length c0_2), (.slice A0_3 l0_3.length c0_3)] 70 (0, 0))) ∧ Aside0 (wc.heap[gb105]? = some (.cells #[.string a1_0, (.slice A1_1 l1_1.length c1_1), (.slice A1_2 l1_2.length c1_2), (.slice A1_3 l1_3.length c1_3), (.slice A1_4 l1_4.length c1_4), (.slice A1_5 l1_5.length c1_5)] 30 (0, 0))) ∧ Aside0 (wc.heap[gb106]? = some (.cells #[.string (⟨#[]⟩ : ByteArray), (.slice none 0 0), (.slice none 0 0), (.slice none 0 0), (.slice none 0 0), (.slice none 0 0), (.slice none 0 0), (.slice none 0 0), (.slice none 0 0), (.slice none 0 0)] 36 (0, 0))) ∧ Aside0 (wc.heap[gb107]? = some (.cells #[.string a1_0, (.slice A1_1 l1_1.length c1_1), (.slice A1_2 l1_2.length c1_2), (.slice A1_3 l1_3.length c1_3), (.slice A1_4 l1_4.length c1_4), (.slice A1_5 l1_5.length c1_5), u108006, u108007, u108008, (.slice none 0 0)] 36 (0, 0))) ∧ Aside0 (Below w.heap.size w wc))
      case first =>
       have H := HC54.out
       clear HC54
       have H' := Aside0.mk H
       clear H
       go_wp2
       go_loopg [9] kj23 (fun kq v9 w' => ∃ (x9_3 : Int) (x108008_3 : List (S79)) (u108008 : Value), v9 = .int .i64 x9_3 ∧ Aside0 (dowellaw48_Family.l2 kq (wrap64 (1 + (wrap64 (Int.tmod a0_0 6)))) x9_3 a0_0 l0_1 l0_2 l0_3 a1_0 l1_1 l1_2 l1_3 l1_4 l1_5 a1_0 l1_1 l1_2 l1_3 l1_4 l1_5 x108006_1 x108007_23 x108008_3 = some (r1, r2, r3, r4, r5, r6, r7, r8, r9, r10)) ∧ Aside0 (kq ≤ kj23) ∧ Aside0 (Kd.R Kd.string 9 w' w.heap.size (fun _ => True) u108006 x108006_1) ∧ Aside0 (Kd.S k70 40 w' w.heap.size (fun _ => True) u108007 x108007_23) ∧ Aside0 (Kd.S k79 80 w' w.heap.size (fun _ => True) u108008 x108008_3) ∧ Aside0 (w'.heap[gb104]? = some (.cells #[.int .u8 a0_0, (.slice A0_1 l0_1.length c0_1), (.slice A0_2 l0_2.length c0_2), (.slice A0_3 l0_3.length c0_3)] 70 (0, 0))) ∧ Aside0 (w'.heap[gb105]? = some (.cells #[.string a1_0, (.slice A1_1 l1_1.length c1_1), (.slice A1_2 l1_2.length c1_2), (.slice A1_3 l1_3.length c1_3), (.slice A1_4 l1_4.length c1_4), (.slice A1_5 l1_5.length c1_5)] 30 (0, 0))) ∧ Aside0 (w'.heap[gb106]? = some (.cells #[.string (⟨#[]⟩ : ByteArray), (.slice none 0 0), (.slice none 0 0), (.slice none 0 0), (.slice none 0 0), (.slice none 0 0), (.slice none 0 0), (.slice none 0 0), (.slice none 0 0), (.slice none 0 0)] 36 (0, 0))) ∧ Aside0 (w'.heap[gb107]? = some (.cells #[.string a1_0, (.slice A1_1 l1_1.length c1_1), (.slice A1_2 l1_2.length c1_2), (.slice A1_3 l1_3.length c1_3), (.slice A1_4 l1_4.length c1_4), (.slice A1_5 l1_5.length c1_5), u108006, u108007, u108008, (.slice none 0 0)] 36 (0, 0))) ∧ Aside0 (Below w.heap.size w w'))
       case atStart => exact ⟨(0), (([] : List (S79))), (.slice none 0 0), (by first | rfl | (simp; done) | (simp [*]; done)), H', ⟨Nat.le_refl _⟩, ⟨by (with_reducible repeat (first | apply Kd.R_alloc | apply Kd.R_drewN | apply Kd.R_drew)); exact HO_108006.out⟩, ⟨by (with_reducible repeat (first | apply Kd.S_alloc | apply Kd.S_drewN | apply Kd.S_drew)); exact HO_108007.out⟩, ⟨by first | exact Kd.S_nil _ _ _ _ _ | exact Kd.N_nil _ _ _ _ _ | exact Kd.V_nil _ _ _ _ _ | exact Kd.Q_nil _ _ _ _ _ | exact Kd.R_nil _ _ _ _ _⟩, ⟨by (with_reducible repeat (first | refine blk_drewN ?_ _ | refine blk_drew ?_ | refine blk_alloc ?_ _)); exact KA.out⟩, ⟨by (with_reducible repeat (first | refine blk_drewN ?_ _ | refine blk_drew ?_ | refine blk_alloc ?_ _)); exact KB.out⟩, ⟨by (with_reducible repeat (first | refine blk_drewN ?_ _ | refine blk_drew ?_ | refine blk_alloc ?_ _)); exact KC.out⟩, ⟨by (with_reducible repeat (first | refine blk_drewN ?_ _ | refine blk_drew ?_ | refine blk_alloc ?_ _)); exact KE.out⟩, ⟨by repeat (first | (with_reducible first | exact HB.out | apply below_alloc | apply pw_below_drewN | apply below_drew1 | refine below_set ?_ GE104.out | refine below_set ?_ GE105.out | refine below_set ?_ GE106.out | refine below_set ?_ GE107.out) | exact HB.out)⟩⟩
       case round =>
        clear H'
        try clear c1
        try clear p1
        try clear q1
        try clear hx1
        try clear c2
        try clear p2
        try clear c3
        try clear hcv3
        try clear c4
        try clear c5
        try clear p6
        try clear c11
        try clear p11
        try clear q11
        try clear hx11
        try clear c21
        try clear c25
        try clear c25b0
        try clear c26
        try clear c26b0
        try clear c27
        try clear c29
        try clear c30
        try clear c31
        try clear c32
        try clear hcv38
        try clear hcv39
        try clear c46
        try clear c47
        try clear c48
        try clear c50
        try clear c51
        try clear c52
        try clear hcz33_0
        try clear hcz33_1
        try clear hcz33_2
        try clear hcz33_3
        try clear hcz49_0
        try clear hcz49_1
        try clear hcz49_2
        try clear hcz49_3
        try clear hcz53_0
        try clear hcz53_1
        try clear hcz53_2
        try clear hcz53_3
        try clear hfz33_0
        try clear hfz33_1
        try clear hfz33_2
        try clear hfz33_3
        try clear hfz49_0
        try clear hfz49_1
        try clear hfz49_2
        try clear hfz49_3
        try clear hfz53_0
        try clear hfz53_1
        try clear hfz53_2
        try clear hfz53_3
        try clear hx115_0
        try clear p1
        try clear p11
        try clear p115
        try clear p2
        try clear p6
        try clear q1
        try clear q11
        try clear q115
        obtain ⟨x9_3, x108008_3, u108008, rfl, HA, HK3, HO_108006, HO_108007, HO_108008, KA, KB, KC, KE, HB⟩ := hrel
        cases gk with
        | zero => exact absurd HA.out (by simp [dowellaw48_Family.l2])
        | succ k3 =>
         have H := HA.out
         clear HA
         simp only [dowellaw48_Family.l2] at H
         by_cases c55 : x9_3 < (l0_2.length : Int)
         ·rw [if_pos c55] at H
          have c55b0 : decide (x9_3 < (l0_2.length : Int)) = true := decide_eq_true c55
          clear c55
          (first | rw [c55b0] | (simp only [i64_w, i32_w]; rw [c55b0]) | skip)
          by_cases c56 : x9_3 < 4
          ·rw [if_pos c56] at H
           have c56b0 : decide (x9_3 < 4) = true := decide_eq_true c56
           clear c56
           by_cases c57 : (l1_2.length : Int) > 0
           ·rw [if_pos c57] at H
            have c57b0 : decide (0 < (l1_2.length : Int)) = true := decide_eq_true c57
            have c57b1 : decide (0 < l1_2.length) = true := decide_eq_true (by omega)
            clear c57
            by_cases c58 : (l1_2.length : Int) = 0
            ·rw [if_pos c58] at H
             exact absurd H (by simp)
            ·rw [if_neg c58] at H
             have c58b0 : ((l1_2.length : Int) == 0) = false := beq_eq_false_iff_ne.mpr c58
             have c58b1 : ((l1_2.length : Int) != 0) = true := bne_iff_ne.mpr c58
             have c58b2 : ¬ (l1_2 = []) := fun h_ => c58 (by rw [h_]; rfl)
             by_cases c59 : 0 ≤ x9_3
             ·rw [if_pos c59] at H
              have c59b0 : decide (0 ≤ x9_3) = true := decide_eq_true c59
              clear c59
              replace H := Option.bind_eq_some_iff.mp H
              obtain ⟨t123, A600, H⟩ := H
              replace H : (if x108008_3.length < 4398046511104 then (dowellaw48_Family.l2 k3 (wrap64 (1 + (wrap64 (Int.tmod a0_0 6)))) (wrap64 (x9_3 + 1)) a0_0 l0_1 l0_2 l0_3 a1_0 l1_1 l1_2 l1_3 l1_4 l1_5 a1_0 l1_1 l1_2 l1_3 l1_4 l1_5 x108006_1 x108007_23 (x108008_3 ++ [(⟨Int.tmod x9_3 (l1_2.length : Int), t123⟩ : S79)])) else (none)) = some (r1, r2, r3, r4, r5, r6, r7, r8, r9, r10) := H
              have A60 := Aside0.mk A600
              clear A600
              by_cases c61 : x108008_3.length < 4398046511104
              ·rw [if_pos c61] at H
               have LMc61 := Aside0.mk c61
               clear c61
               obtain ⟨y126, hy126⟩ : ∃ y_ : List (S79), y_ = (x108008_3 ++ [(⟨Int.tmod x9_3 (l1_2.length : Int), t123⟩ : S79)]) := ⟨_, rfl⟩
               replace H : (dowellaw48_Family.l2 k3 (wrap64 (1 + (wrap64 (Int.tmod a0_0 6)))) (wrap64 (x9_3 + 1)) a0_0 l0_1 l0_2 l0_3 a1_0 l1_1 l1_2 l1_3 l1_4 l1_5 a1_0 l1_1 l1_2 l1_3 l1_4 l1_5 x108006_1 x108007_23 y126) = some (r1, r2, r3, r4, r5, r6, r7, r8, r9, r10) := by first | (rw [hy126]; with_reducible exact H) | (have H2_ := (Option.bind_some _ _).symm.trans H; rw [hy126]; with_reducible exact H2_) | (have H2_ := (Option.bind_some _ _).symm.trans H; with_reducible exact H2_) | with_reducible exact H | (rw [hy126]; exact H) | exact H
               have Ny126 := Aside0.mk hy126
               clear hy126
               have H' := Aside0.mk H
               clear H
               have hnb62 := NB104_105.out
               have hnc62 := NB105_104.out
               have hnb63 := NB104_106.out
               have hnc63 := NB106_104.out
               have hnb64 := NB104_107.out
               have hnc64 := NB107_104.out
               have hcz65_0 : wr.cell? ⟨gb104, 0, none⟩ = some (.int .u8 a0_0) := (blk_cell KA.out 0).trans rfl
               have hcz65_1 : wr.cell? ⟨gb104, 1, none⟩ = some (.slice A0_1 l0_1.length c0_1) := (blk_cell KA.out 1).trans rfl
               have hcz65_2 : wr.cell? ⟨gb104, 2, none⟩ = some (.slice A0_2 l0_2.length c0_2) := (blk_cell KA.out 2).trans rfl
               have hcz65_3 : wr.cell? ⟨gb104, 3, none⟩ = some (.slice A0_3 l0_3.length c0_3) := (blk_cell KA.out 3).trans rfl
               have hfz65_0 := blk_frozen KA.out 0
               have hfz65_1 := blk_frozen KA.out 1
               have hfz65_2 := blk_frozen KA.out 2
               have hfz65_3 := blk_frozen KA.out 3
               have hnb66 := NB105_106.out
               have hnc66 := NB106_105.out
               have hnb67 := NB105_107.out
               have hnc67 := NB107_105.out
               have hcz68_0 : wr.cell? ⟨gb105, 0, none⟩ = some (.string a1_0) := (blk_cell KB.out 0).trans rfl
               have hcz68_1 : wr.cell? ⟨gb105, 1, none⟩ = some (.slice A1_1 l1_1.length c1_1) := (blk_cell KB.out 1).trans rfl
               have hcz68_2 : wr.cell? ⟨gb105, 2, none⟩ = some (.slice A1_2 l1_2.length c1_2) := (blk_cell KB.out 2).trans rfl
               have hcz68_3 : wr.cell? ⟨gb105, 3, none⟩ = some (.slice A1_3 l1_3.length c1_3) := (blk_cell KB.out 3).trans rfl
               have hcz68_4 : wr.cell? ⟨gb105, 4, none⟩ = some (.slice A1_4 l1_4.length c1_4) := (blk_cell KB.out 4).trans rfl
               have hcz68_5 : wr.cell? ⟨gb105, 5, none⟩ = some (.slice A1_5 l1_5.length c1_5) := (blk_cell KB.out 5).trans rfl
               have hfz68_0 := blk_frozen KB.out 0
               have hfz68_1 := blk_frozen KB.out 1
               have hfz68_2 := blk_frozen KB.out 2
               have hfz68_3 := blk_frozen KB.out 3
               have hfz68_4 := blk_frozen KB.out 4
               have hfz68_5 := blk_frozen KB.out 5
               try go_wp2
               have n0_ := Aside0.mk (Kd.R_drew HO_108006.out)
               have n1_ := Aside0.mk (Kd.S_drew HO_108007.out)
               have n2_ := Aside0.mk (Kd.S_drew HO_108008.out)
               have n3_ := Aside0.mk (blk_drew KA.out)
               have n4_ := Aside0.mk (blk_drew KB.out)
               have n5_ := Aside0.mk (blk_drew KC.out)
               have n6_ := Aside0.mk (blk_drew KE.out)
               have n7_ := Aside0.mk (below_drew1 HB.out)
               clear HO_108006
               clear HO_108007
               clear HO_108008
               clear KA
               clear KB
               clear KC
               clear KE
               clear HB
               have HO_108006 := n0_
               have HO_108007 := n1_
               have HO_108008 := n2_
               have KA := n3_
               have KB := n4_
               have KC := n5_
               have KE := n6_
               have HB := n7_
               clear n0_ n1_ n2_ n3_ n4_ n5_ n6_ n7_
               have p122 : 0 ≤ (x9_3 : Int) := of_decide_eq_true (by first | (with_reducible assumption) | assumption)
               have q122 : x9_3 < (l0_2.length : Int) := of_decide_eq_true (by first | (with_reducible assumption) | assumption)
               obtain ⟨ad122, A122_0, c122_0, e122, hx122_0, hl122_0, hi122_0⟩ := at_L2 HR0_2.out x9_3 p122 q122
               have hw122_0 := hx122_0
               cases e122
               replace hx122_0 := (HB.out.cell (World.block_lt_of_cell? w _ hx122_0)).trans hx122_0
               have HR122_0 := Aside0.mk hi122_0
               have HC122_0 := Aside0.mk hl122_0
               clear hi122_0 hl122_0
               replace p122 := eq_true p122
               replace q122 := eq_true q122
               refine start_ (n := 20) (S := fun w' => w'.cell? ⟨gb107, 0, none⟩ = some (.string a1_0) ∧ w'.cell? ⟨gb107, 1, none⟩ = some (.slice A1_1 l1_1.length c1_1) ∧ w'.cell? ⟨gb107, 2, none⟩ = some (.slice A1_2 l1_2.length c1_2) ∧ w'.cell? ⟨gb107, 3, none⟩ = some (.slice A1_3 l1_3.length c1_3) ∧ w'.cell? ⟨gb107, 4, none⟩ = some (.slice A1_4 l1_4.length c1_4) ∧ w'.cell? ⟨gb107, 5, none⟩ = some (.slice A1_5 l1_5.length c1_5) ∧ w'.cell? ⟨gb107, 6, none⟩ = some (u108006) ∧ w'.cell? ⟨gb107, 7, none⟩ = some (u108007) ∧ w'.cell? ⟨gb107, 8, none⟩ = some (u108008) ∧ w'.cell? ⟨gb107, 9, none⟩ = some (.slice none 0 0) ∧ w'.cell? ⟨gb105, 0, none⟩ = some (.string a1_0) ∧ w'.cell? ⟨gb105, 1, none⟩ = some (.slice A1_1 l1_1.length c1_1) ∧ w'.cell? ⟨gb105, 2, none⟩ = some (.slice A1_2 l1_2.length c1_2) ∧ w'.cell? ⟨gb105, 3, none⟩ = some (.slice A1_3 l1_3.length c1_3) ∧ w'.cell? ⟨gb105, 4, none⟩ = some (.slice A1_4 l1_4.length c1_4) ∧ w'.cell? ⟨gb105, 5, none⟩ = some (.slice A1_5 l1_5.length c1_5) ∧ w'.cell? ⟨gb104, 0, none⟩ = some (.int .u8 a0_0) ∧ w'.cell? ⟨gb104, 1, none⟩ = some (.slice A0_1 l0_1.length c0_1) ∧ w'.cell? ⟨gb104, 2, none⟩ = some (.slice (some ad122) l0_2.length c0_2) ∧ w'.cell? ⟨gb104, 3, none⟩ = some (.slice A0_3 l0_3.length c0_3) ∧ w'.cell? (ad122.add (x9_3).toNat) = some (.slice A122_0 (rd_L2 l0_2 x9_3).length c122_0)) (ds := [19]) #[false, false, false, false, false, false, false, false, false, false, false, false, false, false, false, false, false, false, false, false] (by kernel_rfl) rfl rfl ⟨(blk_cell KE.out 0).trans rfl, (blk_cell KE.out 1).trans rfl, (blk_cell KE.out 2).trans rfl, (blk_cell KE.out 3).trans rfl, (blk_cell KE.out 4).trans rfl, (blk_cell KE.out 5).trans rfl, (blk_cell KE.out 6).trans rfl, (blk_cell KE.out 7).trans rfl, (blk_cell KE.out 8).trans rfl, (blk_cell KE.out 9).trans rfl, (blk_cell KB.out 0).trans rfl, (blk_cell KB.out 1).trans rfl, (blk_cell KB.out 2).trans rfl, (blk_cell KB.out 3).trans rfl, (blk_cell KB.out 4).trans rfl, (blk_cell KB.out 5).trans rfl, (blk_cell KA.out 0).trans rfl, (blk_cell KA.out 1).trans rfl, (blk_cell KA.out 2).trans rfl, (blk_cell KA.out 3).trans rfl, ((HB.out.cell (World.block_lt_of_cell? w _ hw122_0)).trans hw122_0)⟩ (fun hHeld => ?_); refine with_tabW dowellaw48_Family.tab14 dowellaw48_Family.bits14 (fun HT_ HW_ => ?_)
               generalize wr.drew = w69 at HO_108006 HO_108007 HO_108008 KA KB KC KE HB HR122_0 hx122_0 hHeld ⊢
               refine pure_ (i := 0) (N := some 79) (v := ?_) (a' := ?_) #[true, false, false, false, false, false, false, false, false, false, false, false, false, false, false, false, false, false, false, false] rfl rfl (any_of HT_.out (by kernel_rfl)) (fun _ _ _ h => h) (Or.inl ⟨by rfl, ?_⟩) ?_ ?_
               rotate_left
               ·intro w'
                go_simp
                with_reducible rfl
               rotate_left
               ·simp only [Act.put, List.setIfInBounds_toArray, List.set_cons_zero, List.set_cons_succ, i64_w, i32_w]
                rfl
               refine pure_ (i := 2) (N := some 81) (v := ?_) (a' := ?_) #[true, false, true, false, false, false, false, false, false, false, false, false, false, false, false, false, false, false, false, false] rfl rfl (any_of HT_.out (by kernel_rfl)) (fun _ _ _ h => h) (Or.inl ⟨by rfl, ?_⟩) ?_ ?_
               rotate_left
               ·intro w'
                go_simp
                with_reducible rfl
               rotate_left
               ·simp only [Act.put, List.setIfInBounds_toArray, List.set_cons_zero, List.set_cons_succ, i64_w, i32_w]
                rfl
               refine pure_ (i := 3) (N := some 82) (v := ?_) (a' := ?_) #[true, false, true, true, false, false, false, false, false, false, false, false, false, false, false, false, false, false, false, false] rfl rfl (any_of HT_.out (by kernel_rfl)) (fun _ _ _ h => h) (Or.inl ⟨by rfl, ?_⟩) ?_ ?_
               rotate_left
               ·intro w'
                go_simp
                with_reducible rfl
               rotate_left
               ·simp only [Act.put, List.setIfInBounds_toArray, List.set_cons_zero, List.set_cons_succ, i64_w, i32_w]
                rfl
               refine pure_ (i := 4) (N := some 83) (v := ?_) (a' := ?_) #[true, false, true, true, true, false, false, false, false, false, false, false, false, false, false, false, false, false, false, false] rfl rfl (any_of HT_.out (by kernel_rfl)) (fun _ _ _ h => h) (Or.inl ⟨by rfl, ?_⟩) ?_ ?_
               rotate_left
               ·intro w'
                go_simp
                with_reducible rfl
               rotate_left
               ·simp only [Act.put, List.setIfInBounds_toArray, List.set_cons_zero, List.set_cons_succ, i64_w, i32_w]
                rfl
               refine pure_ (i := 8) (N := some 87) (v := ?_) (a' := ?_) #[true, false, true, true, true, false, false, false, true, false, false, false, false, false, false, false, false, false, false, false] rfl rfl (any_of HT_.out (by kernel_rfl)) (fun _ _ _ h => h) (Or.inl ⟨by rfl, ?_⟩) ?_ ?_
               rotate_left
               ·intro w'
                go_simp
                with_reducible rfl
               rotate_left
               ·simp only [Act.put, List.setIfInBounds_toArray, List.set_cons_zero, List.set_cons_succ, i64_w, i32_w]
                rfl
               refine pure_ (i := 9) (N := some 88) (v := ?_) (a' := ?_) #[true, false, true, true, true, false, false, false, true, true, false, false, false, false, false, false, false, false, false, false] rfl rfl (any_of HT_.out (by kernel_rfl)) (fun _ _ _ h => h) (Or.inl ⟨by rfl, ?_⟩) ?_ ?_
               rotate_left
               ·intro w'
                go_simp
                with_reducible rfl
               rotate_left
               ·simp only [Act.put, List.setIfInBounds_toArray, List.set_cons_zero, List.set_cons_succ, i64_w, i32_w]
                rfl
               refine pure_ (i := 11) (N := some 90) (v := ?_) (a' := ?_) #[true, false, true, true, true, false, false, false, true, true, false, true, false, false, false, false, false, false, false, false] rfl rfl (any_of HT_.out (by kernel_rfl)) (fun _ _ _ h => h) (Or.inl ⟨by rfl, ?_⟩) ?_ ?_
               rotate_left
               ·intro w'
                go_simp
                with_reducible rfl
               rotate_left
               ·simp only [Act.put, List.setIfInBounds_toArray, List.set_cons_zero, List.set_cons_succ, i64_w, i32_w]
                rfl
               refine take_ (i := 1) (N := some 80) (v := ?_) (a' := ?_) #[true, true, true, true, true, false, false, false, true, true, false, true, false, false, false, false, false, false, false, false] rfl rfl (take_ofW HT_.out HW_.out (by kernel_rfl)) (fun _ _ _ h => h) (Or.inl ⟨by rfl, ?_⟩) hHeld ?_ ?_
               rotate_left
               ·rintro w' ⟨s0, s1, s2, s3, s4, s5, s6, s7, s8, s9, s10, s11, s12, s13, s14, s15, s16, s17, s18, s19, s20⟩
                go_simp
                with_reducible rfl
               rotate_left
               ·simp only [Act.put, List.setIfInBounds_toArray, List.set_cons_zero, List.set_cons_succ, i64_w, i32_w]
                rfl
               refine take_ (i := 5) (N := some 84) (v := ?_) (a' := ?_) #[true, true, true, true, true, true, false, false, true, true, false, true, false, false, false, false, false, false, false, false] rfl rfl (take_ofW HT_.out HW_.out (by kernel_rfl)) (fun _ _ _ h => h) (Or.inl ⟨by rfl, ?_⟩) hHeld ?_ ?_
               rotate_left
               ·rintro w' ⟨s0, s1, s2, s3, s4, s5, s6, s7, s8, s9, s10, s11, s12, s13, s14, s15, s16, s17, s18, s19, s20⟩
                go_simp
                with_reducible rfl
               rotate_left
               ·simp only [Act.put, List.setIfInBounds_toArray, List.set_cons_zero, List.set_cons_succ, i64_w, i32_w]
                rfl
               refine pure_ (i := 6) (N := some 85) (v := ?_) (a' := ?_) #[true, true, true, true, true, true, true, false, true, true, false, true, false, false, false, false, false, false, false, false] rfl rfl (any_of HT_.out (by kernel_rfl)) (fun _ _ _ h => h) (Or.inl ⟨by rfl, ?_⟩) ?_ ?_
               rotate_left
               ·intro w'
                go_simp
                with_reducible rfl
               rotate_left
               ·simp only [Act.put, List.setIfInBounds_toArray, List.set_cons_zero, List.set_cons_succ, i64_w, i32_w]
                rfl
               refine pure_ (i := 7) (N := some 86) (v := ?_) (a' := ?_) #[true, true, true, true, true, true, true, true, true, true, false, true, false, false, false, false, false, false, false, false] rfl rfl (any_of HT_.out (by kernel_rfl)) (fun _ _ _ h => h) (Or.inl ⟨by rfl, ?_⟩) ?_ ?_
               rotate_left
               ·intro w'
                go_simp
                with_reducible rfl
               rotate_left
               ·simp only [Act.put, List.setIfInBounds_toArray, List.set_cons_zero, List.set_cons_succ, i64_w, i32_w]
                rfl
               refine take_ (i := 10) (N := some 89) (v := ?_) (a' := ?_) #[true, true, true, true, true, true, true, true, true, true, true, true, false, false, false, false, false, false, false, false] rfl rfl (take_ofW HT_.out HW_.out (by kernel_rfl)) (fun _ _ _ h => h) (Or.inl ⟨by rfl, ?_⟩) hHeld ?_ ?_
               rotate_left
               ·rintro w' ⟨s0, s1, s2, s3, s4, s5, s6, s7, s8, s9, s10, s11, s12, s13, s14, s15, s16, s17, s18, s19, s20⟩
                go_simp
                with_reducible rfl
               rotate_left
               ·simp only [Act.put, List.setIfInBounds_toArray, List.set_cons_zero, List.set_cons_succ, i64_w, i32_w]
                rfl
               refine pure_ (i := 12) (N := some 91) (v := ?_) (a' := ?_) #[true, true, true, true, true, true, true, true, true, true, true, true, true, false, false, false, false, false, false, false] rfl rfl (any_of HT_.out (by kernel_rfl)) (fun _ _ _ h => h) (Or.inl ⟨by rfl, ?_⟩) ?_ ?_
               rotate_left
               ·intro w'
                go_simp
                with_reducible rfl
               rotate_left
               ·simp only [Act.put, List.setIfInBounds_toArray, List.set_cons_zero, List.set_cons_succ, i64_w, i32_w]
                rfl
               refine take_ (i := 13) (N := some 92) (v := ?_) (a' := ?_) #[true, true, true, true, true, true, true, true, true, true, true, true, true, true, false, false, false, false, false, false] rfl rfl (take_ofW HT_.out HW_.out (by kernel_rfl)) (fun _ _ _ h => h) (Or.inl ⟨by rfl, ?_⟩) hHeld ?_ ?_
               rotate_left
               ·rintro w' ⟨s0, s1, s2, s3, s4, s5, s6, s7, s8, s9, s10, s11, s12, s13, s14, s15, s16, s17, s18, s19, s20⟩
                go_simp
                with_reducible rfl
               rotate_left
               ·simp only [Act.put, List.setIfInBounds_toArray, List.set_cons_zero, List.set_cons_succ, i64_w, i32_w]
                rfl
               refine one_ (i := 14) (N := some 93) #[true, true, true, true, true, true, true, true, true, true, true, true, true, true, true, false, false, false, false, false] rfl rfl (one_of HT_.out (by kernel_rfl)) (by decide) (fun K hK => ?_)
               refine goes_ Tryz.func50 (by kernel_rfl) rfl #[.int .i64 (wrap64 (1 + (wrap64 (Int.tmod a0_0 6)))), .slice A122_0 (rd_L2 l0_2 x9_3).length c122_0] (by rfl) rfl rfl (by (try simp only [List.map_toArray, List.map_cons, List.map_nil]); first | done | rfl | (simp only [List.length_drop, List.length_take]; rfl)) ?_
               with_reducible refine (dowellaw48_decode.calls (wrap64 (1 + (wrap64 (Int.tmod a0_0 6)))) _ _ (rd_L2 l0_2 x9_3) t123 _ ?side1 ?side2 A60.out).mono ?_
               (case side1 => repeat (first | exact (Kd.C_below HR122_0.out HB.out) | (with_reducible refine Kd.C_alloc ?_ _) | (with_reducible refine Kd.C_drewN ?_ _) | (with_reducible refine Kd.C_drew ?_)))
               (case side2 => exact HC122_0.out)
               rintro e w70 ⟨v124, rfl, ho0, hb⟩
               refine ⟨_, rfl, ?_⟩
               have n0_ := Aside0.mk (Kd.R_below (by (with_reducible repeat (first | apply Kd.R_alloc | apply Kd.R_drewN | apply Kd.R_drew)); exact HO_108006.out) hb)
               have n1_ := Aside0.mk (Kd.S_elder' (by (with_reducible repeat (first | apply Kd.S_alloc | apply Kd.S_drewN | apply Kd.S_drew)); exact HO_108007.out) (Kd.R_base ho0) hb)
               have n2_ := Aside0.mk (Kd.S_elder' (by (with_reducible repeat (first | apply Kd.S_alloc | apply Kd.S_drewN | apply Kd.S_drew)); exact HO_108008.out) (Kd.R_base ho0) hb)
               have n3_ := Aside0.mk (Kd.R_lower ho0 (below_size (by repeat (first | (with_reducible first | exact HB.out | apply below_alloc | apply pw_below_drewN | apply below_drew1 | refine below_set ?_ GE104.out | refine below_set ?_ GE105.out | refine below_set ?_ GE106.out | refine below_set ?_ GE107.out) | exact HB.out))))
               have n4_ := Aside0.mk (blk_below (g := gb104) (o := .cells #[.int .u8 a0_0, .slice A0_1 l0_1.length c0_1, .slice (some ad122) l0_2.length c0_2, .slice A0_3 l0_3.length c0_3] 70 (0, 0)) (by (with_reducible repeat (first | refine blk_drewN ?_ _ | refine blk_drew ?_ | refine blk_alloc ?_ _)); exact KA.out) hb)
               have n5_ := Aside0.mk (blk_below (g := gb105) (o := .cells #[.string a1_0, .slice A1_1 l1_1.length c1_1, .slice A1_2 l1_2.length c1_2, .slice A1_3 l1_3.length c1_3, .slice A1_4 l1_4.length c1_4, .slice A1_5 l1_5.length c1_5] 30 (0, 0)) (by (with_reducible repeat (first | refine blk_drewN ?_ _ | refine blk_drew ?_ | refine blk_alloc ?_ _)); exact KB.out) hb)
               have n6_ := Aside0.mk (blk_below (g := gb106) (o := .cells #[.string (⟨#[]⟩ : ByteArray), .slice none 0 0, .slice none 0 0, .slice none 0 0, .slice none 0 0, .slice none 0 0, .slice none 0 0, .slice none 0 0, .slice none 0 0, .slice none 0 0] 36 (0, 0)) (by (with_reducible repeat (first | refine blk_drewN ?_ _ | refine blk_drew ?_ | refine blk_alloc ?_ _)); exact KC.out) hb)
               have n7_ := Aside0.mk (blk_below (g := gb107) (o := .cells #[.string a1_0, .slice A1_1 l1_1.length c1_1, .slice A1_2 l1_2.length c1_2, .slice A1_3 l1_3.length c1_3, .slice A1_4 l1_4.length c1_4, .slice A1_5 l1_5.length c1_5, u108006, u108007, u108008, .slice none 0 0] 36 (0, 0)) (by (with_reducible repeat (first | refine blk_drewN ?_ _ | refine blk_drew ?_ | refine blk_alloc ?_ _)); exact KE.out) hb)
               have n8_ := Aside0.mk (below_step (by repeat (first | (with_reducible first | exact HB.out | apply below_alloc | apply pw_below_drewN | apply below_drew1 | refine below_set ?_ GE104.out | refine below_set ?_ GE105.out | refine below_set ?_ GE106.out | refine below_set ?_ GE107.out) | exact HB.out)) hb)
               clear HO_108006
               clear HO_108007
               clear HO_108008
               clear KA
               clear KB
               clear KC
               clear KE
               clear HB
               have HO_108006 := n0_
               have HO_108007 := n1_
               have HO_108008 := n2_
               have HO125 := n3_
               have KA := n4_
               have KB := n5_
               have KC := n6_
               have KE := n7_
               have HB := n8_
               clear n0_ n1_ n2_ n3_ n4_ n5_ n6_ n7_ n8_
               (try clear hb)
               (try clear hb2)
               (try clear hk)
               (try clear hi)
               (try clear ho0)
               obtain ⟨Ao71, co71, eo71⟩ := Kd.R_slice HO125.out
               (first | subst eo71 | (injection eo71 with f1_ f2_ f3_; have f4_ := f1_.symm; have f5_ := f3_.symm; clear f1_ f2_ f3_; subst f4_; subst f5_))
               refine hK.out _ _ ⟨(blk_cell KE.out 0).trans rfl, (blk_cell KE.out 1).trans rfl, (blk_cell KE.out 2).trans rfl, (blk_cell KE.out 3).trans rfl, (blk_cell KE.out 4).trans rfl, (blk_cell KE.out 5).trans rfl, (blk_cell KE.out 6).trans rfl, (blk_cell KE.out 7).trans rfl, (blk_cell KE.out 8).trans rfl, (blk_cell KE.out 9).trans rfl, (blk_cell KB.out 0).trans rfl, (blk_cell KB.out 1).trans rfl, (blk_cell KB.out 2).trans rfl, (blk_cell KB.out 3).trans rfl, (blk_cell KB.out 4).trans rfl, (blk_cell KB.out 5).trans rfl, (blk_cell KA.out 0).trans rfl, (blk_cell KA.out 1).trans rfl, (blk_cell KA.out 2).trans rfl, (blk_cell KA.out 3).trans rfl, ((HB.out.cell (World.block_lt_of_cell? w _ hw122_0)).trans hw122_0)⟩ (fun hHeld => ?_)
               clear hK K
               refine norm_ (a' := ?_) ?_ ?_
               rotate_left
               ·show Act.put _ (some 93) _ = _
                simp only [Act.put, List.setIfInBounds_toArray, List.set_cons_zero, List.set_cons_succ, i64_w, i32_w]
                rfl
               refine pure_ (i := 15) (N := some 94) (v := ?_) (a' := ?_) #[true, true, true, true, true, true, true, true, true, true, true, true, true, true, true, true, false, false, false, false] rfl rfl (any_of HT_.out (by kernel_rfl)) (fun _ _ _ h => h) (Or.inl ⟨by rfl, ?_⟩) ?_ ?_
               rotate_left
               ·intro w'
                go_simp
                with_reducible rfl
               rotate_left
               ·simp only [Act.put, List.setIfInBounds_toArray, List.set_cons_zero, List.set_cons_succ, i64_w, i32_w]
                rfl
               refine one_ (i := 16) (N := some 95) #[true, true, true, true, true, true, true, true, true, true, true, true, true, true, true, true, true, false, false, false] rfl rfl (one_of HT_.out (by kernel_rfl)) (by decide) (fun K hK => ?_)
               refine value_ (w1 := ?_) (v := ?_) (by rfl) rfl ?_ ?_
               rotate_left 2
               ·go_simp
                constructor
                ·rfl
                ·rfl
               refine hK.out _ _ ⟨(blk_cell (blk_alloc KE.out _) 0).trans rfl, (blk_cell (blk_alloc KE.out _) 1).trans rfl, (blk_cell (blk_alloc KE.out _) 2).trans rfl, (blk_cell (blk_alloc KE.out _) 3).trans rfl, (blk_cell (blk_alloc KE.out _) 4).trans rfl, (blk_cell (blk_alloc KE.out _) 5).trans rfl, (blk_cell (blk_alloc KE.out _) 6).trans rfl, (blk_cell (blk_alloc KE.out _) 7).trans rfl, (blk_cell (blk_alloc KE.out _) 8).trans rfl, (blk_cell (blk_alloc KE.out _) 9).trans rfl, (blk_cell (blk_alloc KB.out _) 0).trans rfl, (blk_cell (blk_alloc KB.out _) 1).trans rfl, (blk_cell (blk_alloc KB.out _) 2).trans rfl, (blk_cell (blk_alloc KB.out _) 3).trans rfl, (blk_cell (blk_alloc KB.out _) 4).trans rfl, (blk_cell (blk_alloc KB.out _) 5).trans rfl, (blk_cell (blk_alloc KA.out _) 0).trans rfl, (blk_cell (blk_alloc KA.out _) 1).trans rfl, (blk_cell (blk_alloc KA.out _) 2).trans rfl, (blk_cell (blk_alloc KA.out _) 3).trans rfl, (World.cell?_alloc_lt _ _ _ (World.block_lt_of_cell? _ _ (((HB.out.cell (World.block_lt_of_cell? w _ hw122_0)).trans hw122_0)))).trans (((HB.out.cell (World.block_lt_of_cell? w _ hw122_0)).trans hw122_0))⟩ (fun hHeld => ?_)
               clear hK K
               refine norm_ (a' := ?_) ?_ ?_
               rotate_left
               ·show Act.put _ (some 95) _ = _
                simp only [Act.put, List.setIfInBounds_toArray, List.set_cons_zero, List.set_cons_succ, i64_w, i32_w]
                rfl
               refine one_ (i := 17) (N := some 96) #[true, true, true, true, true, true, true, true, true, true, true, true, true, true, true, true, true, true, false, false] rfl rfl (one_of HT_.out (by kernel_rfl)) (by decide) (fun K hK => ?_)
               refine Kd.S_append_step k79 (w0 := w) w.heap.size (by rfl) (.tmp 80) (.tmp 95) 33 80 (.agg #[(.int .i64 0), (.slice none 0 0)]) 32 rfl Tryz.underlying33 info79 rfl (by decide) (by omega) u108008 x108008_3 (⟨Int.tmod x9_3 (l1_2.length : Int), t123⟩ : S79) [.int .i64 (Int.tmod x9_3 (l1_2.length : Int)), .slice Ao71 t123.length co71] (fun _ => True) (fun k_ => some k_ = (.slice Ao71 t123.length co71 : Value).ownBlock) rfl rfl ?aP (fun k_ hk_ => ((Kd.R_mono (ok' := fun k_ => ((fun _ => True)) k_ ∧ some k_ ≠ (u108008 : Value).ownBlock) (Kd.R_apart' (HO125.out) (Kd.S_typed HO_108008.out) (by decide)) (fun k_ hk => ⟨trivial, hk.2⟩))).1 k_ hk_.symm) ?aF ?aO ?aB ?aS ?aL ?_
               (case aP => exact k79_mkM _ _ _ (⟨Int.tmod x9_3 (l1_2.length : Int), t123⟩ : S79) (Kd.R_mono (Kd.R_tight rfl (Kd.R_mono (ok' := fun k_ => ((fun _ => True)) k_ ∧ some k_ ≠ (u108008 : Value).ownBlock) (Kd.R_apart' (HO125.out) (Kd.S_typed HO_108008.out) (by decide)) (fun k_ hk => ⟨trivial, hk.2⟩))) (fun _ h_ => h_)))
               (case aB => exact (by repeat (first | (with_reducible first | exact HB.out | apply below_alloc | apply pw_below_drewN | apply below_drew1 | refine below_set ?_ GE104.out | refine below_set ?_ GE105.out | refine below_set ?_ GE106.out | refine below_set ?_ GE107.out) | exact HB.out)))
               (case aF => exact (fun _ _ => trivial))
               (case aO => exact (by (with_reducible repeat (first | apply Kd.S_alloc | apply Kd.S_drewN | apply Kd.S_drew)); exact Kd.S_mono HO_108008.out (fun k_ hk => ⟨trivial, fun e_ => hk.2 e_⟩)))
               (case aS => exact (below_size (by repeat (first | (with_reducible first | exact HB.out | apply below_alloc | apply pw_below_drewN | apply below_drew1 | refine below_set ?_ GE104.out | refine below_set ?_ GE105.out | refine below_set ?_ GE106.out | refine below_set ?_ GE107.out) | exact HB.out))))
               (case aL => have := LMc61.out; omega)
               intro v127 w72 ho hb hg hat
               rw [← Ny126.out] at ho
               have n0_ := Aside0.mk (Kd.R_over' (by (with_reducible repeat (first | apply Kd.R_alloc | apply Kd.R_drewN | apply Kd.R_drew)); exact HO_108006.out) (Kd.S_typed (by (with_reducible repeat (first | apply Kd.S_alloc | apply Kd.S_drewN | apply Kd.S_drew)); exact HO_108008.out)) (by decide) hg)
               have n1_ := Aside0.mk (Kd.S_over' (by (with_reducible repeat (first | apply Kd.S_alloc | apply Kd.S_drewN | apply Kd.S_drew)); exact HO_108007.out) (Kd.S_typed (by (with_reducible repeat (first | apply Kd.S_alloc | apply Kd.S_drewN | apply Kd.S_drew)); exact HO_108008.out)) (by decide) hg)
               have n2_ := Aside0.mk (blk_grown (g := gb104) (o := .cells #[.int .u8 a0_0, .slice A0_1 l0_1.length c0_1, .slice (some ad122) l0_2.length c0_2, .slice A0_3 l0_3.length c0_3] 70 (0, 0)) (by (with_reducible repeat (first | refine blk_drewN ?_ _ | refine blk_drew ?_ | refine blk_alloc ?_ _)); exact KA.out) hg (Kd.S_ne HO_108008.out KA.out (by decide)))
               have n3_ := Aside0.mk (blk_grown (g := gb105) (o := .cells #[.string a1_0, .slice A1_1 l1_1.length c1_1, .slice A1_2 l1_2.length c1_2, .slice A1_3 l1_3.length c1_3, .slice A1_4 l1_4.length c1_4, .slice A1_5 l1_5.length c1_5] 30 (0, 0)) (by (with_reducible repeat (first | refine blk_drewN ?_ _ | refine blk_drew ?_ | refine blk_alloc ?_ _)); exact KB.out) hg (Kd.S_ne HO_108008.out KB.out (by decide)))
               have n4_ := Aside0.mk (blk_grown (g := gb106) (o := .cells #[.string (⟨#[]⟩ : ByteArray), .slice none 0 0, .slice none 0 0, .slice none 0 0, .slice none 0 0, .slice none 0 0, .slice none 0 0, .slice none 0 0, .slice none 0 0, .slice none 0 0] 36 (0, 0)) (by (with_reducible repeat (first | refine blk_drewN ?_ _ | refine blk_drew ?_ | refine blk_alloc ?_ _)); exact KC.out) hg (Kd.S_ne HO_108008.out KC.out (by decide)))
               have n5_ := Aside0.mk (blk_grown (g := gb107) (o := .cells #[.string a1_0, .slice A1_1 l1_1.length c1_1, .slice A1_2 l1_2.length c1_2, .slice A1_3 l1_3.length c1_3, .slice A1_4 l1_4.length c1_4, .slice A1_5 l1_5.length c1_5, u108006, u108007, u108008, .slice none 0 0] 36 (0, 0)) (by (with_reducible repeat (first | refine blk_drewN ?_ _ | refine blk_drew ?_ | refine blk_alloc ?_ _)); exact KE.out) hg (Kd.S_ne HO_108008.out KE.out (by decide)))
               have n6_ := Aside0.mk (hb)
               have n7_ := Aside0.mk (ho)
               clear HO_108006
               clear HO_108007
               clear KA
               clear KB
               clear KC
               clear KE
               clear HB
               clear HO_108008
               clear HO125
               have HO_108006 := n0_
               have HO_108007 := n1_
               have KA := n2_
               have KB := n3_
               have KC := n4_
               have KE := n5_
               have HB := n6_
               have HO128 := n7_
               clear n0_ n1_ n2_ n3_ n4_ n5_ n6_ n7_
               clear ho hb hg hat
               obtain ⟨Ao73, co73, eo73⟩ := Kd.S_slice HO128.out
               (first | subst eo73 | (injection eo73 with f1_ f2_ f3_; have f4_ := f1_.symm; have f5_ := f3_.symm; clear f1_ f2_ f3_; subst f4_; subst f5_))
               refine hK.out _ _ ⟨(blk_cell KE.out 0).trans rfl, (blk_cell KE.out 1).trans rfl, (blk_cell KE.out 2).trans rfl, (blk_cell KE.out 3).trans rfl, (blk_cell KE.out 4).trans rfl, (blk_cell KE.out 5).trans rfl, (blk_cell KE.out 6).trans rfl, (blk_cell KE.out 7).trans rfl, (blk_cell KE.out 8).trans rfl, (blk_cell KE.out 9).trans rfl, (blk_cell KB.out 0).trans rfl, (blk_cell KB.out 1).trans rfl, (blk_cell KB.out 2).trans rfl, (blk_cell KB.out 3).trans rfl, (blk_cell KB.out 4).trans rfl, (blk_cell KB.out 5).trans rfl, (blk_cell KA.out 0).trans rfl, (blk_cell KA.out 1).trans rfl, (blk_cell KA.out 2).trans rfl, (blk_cell KA.out 3).trans rfl, ((HB.out.cell (World.block_lt_of_cell? w _ hw122_0)).trans hw122_0)⟩ (fun hHeld => ?_)
               clear hK K
               refine norm_ (a' := ?_) ?_ ?_
               rotate_left
               ·show Act.put _ (some 96) _ = _
                simp only [Act.put, List.setIfInBounds_toArray, List.set_cons_zero, List.set_cons_succ, i64_w, i32_w]
                rfl
               refine pure_ (i := 18) (N := some 97) (v := ?_) (a' := ?_) #[true, true, true, true, true, true, true, true, true, true, true, true, true, true, true, true, true, true, true, false] rfl rfl (any_of HT_.out (by kernel_rfl)) (fun _ _ _ h => h) (Or.inl ⟨by rfl, ?_⟩) ?_ ?_
               rotate_left
               ·intro w'
                go_simp
                with_reducible rfl
               rotate_left
               ·simp only [Act.put, List.setIfInBounds_toArray, List.set_cons_zero, List.set_cons_succ, i64_w, i32_w]
                rfl
               refine last_ (i := 19) (N := none) #[true, true, true, true, true, true, true, true, true, true, true, true, true, true, true, true, true, true, true, true] rfl rfl (one_of HT_.out (by kernel_rfl)) (by decide) (fun K hK => ?_)
               have hs74 : w72.cell? ⟨gb107, 8, none⟩ = some (u108008) := (blk_cell KE.out 8).trans rfl
               have hfs74 := blk_frozen KE.out 8
               have hns74_0 := NB104_107.out
               have hns74_1 := NB105_107.out
               have hns74_2 := NB106_107.out
               have hms74_0 := NB107_104.out
               have hms74_1 := NB107_105.out
               have hms74_2 := NB107_106.out
               refine skip_ (w1 := ?_) (by rfl) rfl ?_ ?_
               rotate_left
               ·go_simp
                rfl
               refine hK.out _ _ ?_
               clear hK K
               refine done_ (done_of HT_.out (by kernel_rfl)) ?_
               try go_wp2
               go_roundg k3
               case measure => have := HK1.out; have := HJ23.out; have := HK3.out; omega
               case rel => exact ⟨(wrap64 (x9_3 + 1)), (y126), (.slice Ao73 y126.length co73), (by first | rfl | (simp; done) | (simp [*]; done)), H', ⟨by have := HK1.out; have := HJ23.out; have := HK3.out; omega⟩, ⟨by (with_reducible repeat (first | apply Kd.R_alloc | apply Kd.R_drewN | apply Kd.R_drew)); exact Kd.R_mono (Kd.R_far (p := ⟨gb107, 8, none⟩) (Kd.R_types HO_108006.out KE.out (by decide)) (fun _ hk => hk.2) (.slice Ao73 y126.length co73)) (fun _ hk => trivial)⟩, ⟨by (with_reducible repeat (first | apply Kd.S_alloc | apply Kd.S_drewN | apply Kd.S_drew)); exact Kd.S_mono (Kd.S_far (p := ⟨gb107, 8, none⟩) (Kd.S_types HO_108007.out KE.out (by decide)) (fun _ hk => hk.2) (.slice Ao73 y126.length co73)) (fun _ hk => trivial)⟩, ⟨by (with_reducible repeat (first | apply Kd.S_alloc | apply Kd.S_drewN | apply Kd.S_drew)); exact Kd.S_mono (Kd.S_far (p := ⟨gb107, 8, none⟩) (Kd.S_types HO128.out KE.out (by decide)) (fun _ hk => hk.2) (.slice Ao73 y126.length co73)) (fun _ hk => trivial)⟩, ⟨by (with_reducible repeat (first | refine blk_drewN ?_ _ | refine blk_drew ?_ | refine blk_alloc ?_ _)); refine blk_far ?_ NB104_107.out _; (with_reducible repeat (first | refine blk_drewN ?_ _ | refine blk_drew ?_ | refine blk_alloc ?_ _)); exact KA.out⟩, ⟨by (with_reducible repeat (first | refine blk_drewN ?_ _ | refine blk_drew ?_ | refine blk_alloc ?_ _)); refine blk_far ?_ NB105_107.out _; (with_reducible repeat (first | refine blk_drewN ?_ _ | refine blk_drew ?_ | refine blk_alloc ?_ _)); exact KB.out⟩, ⟨by (with_reducible repeat (first | refine blk_drewN ?_ _ | refine blk_drew ?_ | refine blk_alloc ?_ _)); refine blk_far ?_ NB106_107.out _; (with_reducible repeat (first | refine blk_drewN ?_ _ | refine blk_drew ?_ | refine blk_alloc ?_ _)); exact KC.out⟩, ⟨by (with_reducible repeat (first | refine blk_drewN ?_ _ | refine blk_drew ?_ | refine blk_alloc ?_ _)); refine blk_put (cs := #[.string a1_0, .slice A1_1 l1_1.length c1_1, .slice A1_2 l1_2.length c1_2, .slice A1_3 l1_3.length c1_3, .slice A1_4 l1_4.length c1_4, .slice A1_5 l1_5.length c1_5, u108006, u108007, u108008, .slice none 0 0]) ?_ 8 _ rfl; (with_reducible repeat (first | refine blk_drewN ?_ _ | refine blk_drew ?_ | refine blk_alloc ?_ _)); exact KE.out⟩, ⟨by repeat (first | (with_reducible first | exact HB.out | apply below_alloc | apply pw_below_drewN | apply below_drew1 | refine below_set ?_ GE104.out | refine below_set ?_ GE105.out | refine below_set ?_ GE106.out | refine below_set ?_ GE107.out) | exact HB.out)⟩⟩
              ·rw [if_neg c61] at H
               exact absurd H (by simp)
             ·rw [if_neg c59] at H
              exact absurd H (by simp)
           ·rw [if_neg c57] at H
            have c57b0 : decide (0 < (l1_2.length : Int)) = false := decide_eq_false c57
            have c57b1 : decide (0 < l1_2.length) = false := decide_eq_false (by omega)
            clear c57
            have H' := Aside0.mk H
            clear H
            have hnb75 := NB104_105.out
            have hnc75 := NB105_104.out
            have hnb76 := NB104_106.out
            have hnc76 := NB106_104.out
            have hnb77 := NB104_107.out
            have hnc77 := NB107_104.out
            have hcz78_0 : wr.cell? ⟨gb104, 0, none⟩ = some (.int .u8 a0_0) := (blk_cell KA.out 0).trans rfl
            have hcz78_1 : wr.cell? ⟨gb104, 1, none⟩ = some (.slice A0_1 l0_1.length c0_1) := (blk_cell KA.out 1).trans rfl
            have hcz78_2 : wr.cell? ⟨gb104, 2, none⟩ = some (.slice A0_2 l0_2.length c0_2) := (blk_cell KA.out 2).trans rfl
            have hcz78_3 : wr.cell? ⟨gb104, 3, none⟩ = some (.slice A0_3 l0_3.length c0_3) := (blk_cell KA.out 3).trans rfl
            have hfz78_0 := blk_frozen KA.out 0
            have hfz78_1 := blk_frozen KA.out 1
            have hfz78_2 := blk_frozen KA.out 2
            have hfz78_3 := blk_frozen KA.out 3
            have hnb79 := NB105_106.out
            have hnc79 := NB106_105.out
            have hnb80 := NB105_107.out
            have hnc80 := NB107_105.out
            have hcz81_0 : wr.cell? ⟨gb105, 0, none⟩ = some (.string a1_0) := (blk_cell KB.out 0).trans rfl
            have hcz81_1 : wr.cell? ⟨gb105, 1, none⟩ = some (.slice A1_1 l1_1.length c1_1) := (blk_cell KB.out 1).trans rfl
            have hcz81_2 : wr.cell? ⟨gb105, 2, none⟩ = some (.slice A1_2 l1_2.length c1_2) := (blk_cell KB.out 2).trans rfl
            have hcz81_3 : wr.cell? ⟨gb105, 3, none⟩ = some (.slice A1_3 l1_3.length c1_3) := (blk_cell KB.out 3).trans rfl
            have hcz81_4 : wr.cell? ⟨gb105, 4, none⟩ = some (.slice A1_4 l1_4.length c1_4) := (blk_cell KB.out 4).trans rfl
            have hcz81_5 : wr.cell? ⟨gb105, 5, none⟩ = some (.slice A1_5 l1_5.length c1_5) := (blk_cell KB.out 5).trans rfl
            have hfz81_0 := blk_frozen KB.out 0
            have hfz81_1 := blk_frozen KB.out 1
            have hfz81_2 := blk_frozen KB.out 2
            have hfz81_3 := blk_frozen KB.out 3
            have hfz81_4 := blk_frozen KB.out 4
            have hfz81_5 := blk_frozen KB.out 5
            go_wp2
            go_meet
            case rel => exact ⟨_, (x108008_3), (u108008), H', ⟨by have := HK1.out; have := HJ23.out; have := HK3.out; first | omega | exact Nat.le_refl _⟩, ⟨by (with_reducible repeat (first | apply Kd.R_alloc | apply Kd.R_drewN | apply Kd.R_drew)); exact HO_108006.out⟩, ⟨by (with_reducible repeat (first | apply Kd.S_alloc | apply Kd.S_drewN | apply Kd.S_drew)); exact HO_108007.out⟩, ⟨by (with_reducible repeat (first | apply Kd.S_alloc | apply Kd.S_drewN | apply Kd.S_drew)); exact HO_108008.out⟩, ⟨by (with_reducible repeat (first | refine blk_drewN ?_ _ | refine blk_drew ?_ | refine blk_alloc ?_ _)); exact KA.out⟩, ⟨by (with_reducible repeat (first | refine blk_drewN ?_ _ | refine blk_drew ?_ | refine blk_alloc ?_ _)); exact KB.out⟩, ⟨by (with_reducible repeat (first | refine blk_drewN ?_ _ | refine blk_drew ?_ | refine blk_alloc ?_ _)); exact KC.out⟩, ⟨by (with_reducible repeat (first | refine blk_drewN ?_ _ | refine blk_drew ?_ | refine blk_alloc ?_ _)); exact KE.out⟩, ⟨by repeat (first | (with_reducible first | exact HB.out | apply below_alloc | apply pw_below_drewN | apply below_drew1 | refine below_set ?_ GE104.out | refine below_set ?_ GE105.out | refine below_set ?_ GE106.out | refine below_set ?_ GE107.out) | exact HB.out)⟩⟩
          ·rw [if_neg c56] at H
           have c56b0 : decide (x9_3 < 4) = false := decide_eq_false c56
           clear c56
           have H' := Aside0.mk H
           clear H
           have hnb82 := NB104_105.out
           have hnc82 := NB105_104.out
           have hnb83 := NB104_106.out
           have hnc83 := NB106_104.out
           have hnb84 := NB104_107.out
           have hnc84 := NB107_104.out
           have hcz85_0 : wr.cell? ⟨gb104, 0, none⟩ = some (.int .u8 a0_0) := (blk_cell KA.out 0).trans rfl
           have hcz85_1 : wr.cell? ⟨gb104, 1, none⟩ = some (.slice A0_1 l0_1.length c0_1) := (blk_cell KA.out 1).trans rfl
           have hcz85_2 : wr.cell? ⟨gb104, 2, none⟩ = some (.slice A0_2 l0_2.length c0_2) := (blk_cell KA.out 2).trans rfl
           have hcz85_3 : wr.cell? ⟨gb104, 3, none⟩ = some (.slice A0_3 l0_3.length c0_3) := (blk_cell KA.out 3).trans rfl
           have hfz85_0 := blk_frozen KA.out 0
           have hfz85_1 := blk_frozen KA.out 1
           have hfz85_2 := blk_frozen KA.out 2
           have hfz85_3 := blk_frozen KA.out 3
           go_wp2
           go_meet
           case rel => exact ⟨_, (x108008_3), (u108008), H', ⟨by have := HK1.out; have := HJ23.out; have := HK3.out; first | omega | exact Nat.le_refl _⟩, ⟨by (with_reducible repeat (first | apply Kd.R_alloc | apply Kd.R_drewN | apply Kd.R_drew)); exact HO_108006.out⟩, ⟨by (with_reducible repeat (first | apply Kd.S_alloc | apply Kd.S_drewN | apply Kd.S_drew)); exact HO_108007.out⟩, ⟨by (with_reducible repeat (first | apply Kd.S_alloc | apply Kd.S_drewN | apply Kd.S_drew)); exact HO_108008.out⟩, ⟨by (with_reducible repeat (first | refine blk_drewN ?_ _ | refine blk_drew ?_ | refine blk_alloc ?_ _)); exact KA.out⟩, ⟨by (with_reducible repeat (first | refine blk_drewN ?_ _ | refine blk_drew ?_ | refine blk_alloc ?_ _)); exact KB.out⟩, ⟨by (with_reducible repeat (first | refine blk_drewN ?_ _ | refine blk_drew ?_ | refine blk_alloc ?_ _)); exact KC.out⟩, ⟨by (with_reducible repeat (first | refine blk_drewN ?_ _ | refine blk_drew ?_ | refine blk_alloc ?_ _)); exact KE.out⟩, ⟨by repeat (first | (with_reducible first | exact HB.out | apply below_alloc | apply pw_below_drewN | apply below_drew1 | refine below_set ?_ GE104.out | refine below_set ?_ GE105.out | refine below_set ?_ GE106.out | refine below_set ?_ GE107.out) | exact HB.out)⟩⟩
         ·rw [if_neg c55] at H
          have c55b0 : decide (x9_3 < (l0_2.length : Int)) = false := decide_eq_false c55
          clear c55
          (first | rw [c55b0] | (simp only [i64_w, i32_w]; rw [c55b0]) | skip)
          have H' := Aside0.mk H
          clear H
          have hnb86 := NB104_105.out
          have hnc86 := NB105_104.out
          have hnb87 := NB104_106.out
          have hnc87 := NB106_104.out
          have hnb88 := NB104_107.out
          have hnc88 := NB107_104.out
          have hcz89_0 : wr.cell? ⟨gb104, 0, none⟩ = some (.int .u8 a0_0) := (blk_cell KA.out 0).trans rfl
          have hcz89_1 : wr.cell? ⟨gb104, 1, none⟩ = some (.slice A0_1 l0_1.length c0_1) := (blk_cell KA.out 1).trans rfl
          have hcz89_2 : wr.cell? ⟨gb104, 2, none⟩ = some (.slice A0_2 l0_2.length c0_2) := (blk_cell KA.out 2).trans rfl
          have hcz89_3 : wr.cell? ⟨gb104, 3, none⟩ = some (.slice A0_3 l0_3.length c0_3) := (blk_cell KA.out 3).trans rfl
          have hfz89_0 := blk_frozen KA.out 0
          have hfz89_1 := blk_frozen KA.out 1
          have hfz89_2 := blk_frozen KA.out 2
          have hfz89_3 := blk_frozen KA.out 3
          go_wp2
          go_meet
          case rel => exact ⟨_, (x108008_3), (u108008), H', ⟨by have := HK1.out; have := HJ23.out; have := HK3.out; first | omega | exact Nat.le_refl _⟩, ⟨by (with_reducible repeat (first | apply Kd.R_alloc | apply Kd.R_drewN | apply Kd.R_drew)); exact HO_108006.out⟩, ⟨by (with_reducible repeat (first | apply Kd.S_alloc | apply Kd.S_drewN | apply Kd.S_drew)); exact HO_108007.out⟩, ⟨by (with_reducible repeat (first | apply Kd.S_alloc | apply Kd.S_drewN | apply Kd.S_drew)); exact HO_108008.out⟩, ⟨by (with_reducible repeat (first | refine blk_drewN ?_ _ | refine blk_drew ?_ | refine blk_alloc ?_ _)); exact KA.out⟩, ⟨by (with_reducible repeat (first | refine blk_drewN ?_ _ | refine blk_drew ?_ | refine blk_alloc ?_ _)); exact KB.out⟩, ⟨by (with_reducible repeat (first | refine blk_drewN ?_ _ | refine blk_drew ?_ | refine blk_alloc ?_ _)); exact KC.out⟩, ⟨by (with_reducible repeat (first | refine blk_drewN ?_ _ | refine blk_drew ?_ | refine blk_alloc ?_ _)); exact KE.out⟩, ⟨by repeat (first | (with_reducible first | exact HB.out | apply below_alloc | apply pw_below_drewN | apply below_drew1 | refine below_set ?_ GE104.out | refine below_set ?_ GE105.out | refine below_set ?_ GE106.out | refine below_set ?_ GE107.out) | exact HB.out)⟩⟩
      case rest =>
       clear HC54
       try clear c1
       try clear p1
       try clear q1
       try clear hx1
       try clear c2
       try clear p2
       try clear c3
       try clear hcv3
       try clear c4
       try clear c5
       try clear c6
       try clear p6
       try clear c7
       try clear c8
       try clear c11
       try clear p11
       try clear q11
       try clear hx11
       try clear c12
       try clear p12
       try clear q12
       try clear hx12
       try clear c21
       try clear c25
       try clear c25b0
       try clear c26
       try clear c26b0
       try clear c27
       try clear c29
       try clear c30
       try clear c31
       try clear c32
       try clear hcv38
       try clear hcv39
       try clear c46
       try clear c47
       try clear c48
       try clear c50
       try clear c51
       try clear c52
       try clear c55
       try clear c55b0
       try clear c56
       try clear c56b0
       try clear c57
       try clear c57b0
       try clear c57b1
       try clear c58
       try clear c58b0
       try clear c58b1
       try clear c58b2
       try clear c59
       try clear c59b0
       try clear c61
       try clear c62
       try clear c63
       try clear c64
       try clear p64
       try clear c66
       try clear c67
       try clear c75
       try clear c76
       try clear c77
       try clear c79
       try clear c80
       try clear c82
       try clear c83
       try clear c84
       try clear c86
       try clear c87
       try clear c88
       try clear hcz33_0
       try clear hcz33_1
       try clear hcz33_2
       try clear hcz33_3
       try clear hcz49_0
       try clear hcz49_1
       try clear hcz49_2
       try clear hcz49_3
       try clear hcz53_0
       try clear hcz53_1
       try clear hcz53_2
       try clear hcz53_3
       try clear hcz65_0
       try clear hcz65_1
       try clear hcz65_2
       try clear hcz65_3
       try clear hcz68_0
       try clear hcz68_1
       try clear hcz68_2
       try clear hcz68_3
       try clear hcz68_4
       try clear hcz68_5
       try clear hcz78_0
       try clear hcz78_1
       try clear hcz78_2
       try clear hcz78_3
       try clear hcz81_0
       try clear hcz81_1
       try clear hcz81_2
       try clear hcz81_3
       try clear hcz81_4
       try clear hcz81_5
       try clear hcz85_0
       try clear hcz85_1
       try clear hcz85_2
       try clear hcz85_3
       try clear hcz89_0
       try clear hcz89_1
       try clear hcz89_2
       try clear hcz89_3
       try clear hfz33_0
       try clear hfz33_1
       try clear hfz33_2
       try clear hfz33_3
       try clear hfz49_0
       try clear hfz49_1
       try clear hfz49_2
       try clear hfz49_3
       try clear hfz53_0
       try clear hfz53_1
       try clear hfz53_2
       try clear hfz53_3
       try clear hfz65_0
       try clear hfz65_1
       try clear hfz65_2
       try clear hfz65_3
       try clear hfz68_0
       try clear hfz68_1
       try clear hfz68_2
       try clear hfz68_3
       try clear hfz68_4
       try clear hfz68_5
       try clear hfz78_0
       try clear hfz78_1
       try clear hfz78_2
       try clear hfz78_3
       try clear hfz81_0
       try clear hfz81_1
       try clear hfz81_2
       try clear hfz81_3
       try clear hfz81_4
       try clear hfz81_5
       try clear hfz85_0
       try clear hfz85_1
       try clear hfz85_2
       try clear hfz85_3
       try clear hfz89_0
       try clear hfz89_1
       try clear hfz89_2
       try clear hfz89_3
       try clear hx115_0
       try clear hx122_0
       try clear p1
       try clear p11
       try clear p115
       try clear p122
       try clear p2
       try clear p6
       try clear q1
       try clear q11
       try clear q115
       try clear q122
       obtain ⟨kq, x108008_53, u108008, HA, HJ53, HO_108006, HO_108007, HO_108008, KA, KB, KC, KE, HB⟩ := hcut
       cases kq with
       | zero => exact absurd HA.out (by simp [dowellaw48_Family.j4])
       | succ kj53 =>
        have H := HA.out
        clear HA
        simp only [dowellaw48_Family.j4] at H
        have H' := Aside0.mk H
        clear H
        go_wp2
        go_loopg [10] kj53 (fun kq v10 w' => ∃ (x10_4 : Int) (x108009_4 : List (S83)) (u108009 : Value), v10 = .int .i64 x10_4 ∧ Aside0 (dowellaw48_Family.l3 kq (wrap64 (1 + (wrap64 (Int.tmod a0_0 6)))) x10_4 a0_0 l0_1 l0_2 l0_3 a1_0 l1_1 l1_2 l1_3 l1_4 l1_5 a1_0 l1_1 l1_2 l1_3 l1_4 l1_5 x108006_1 x108007_23 x108008_53 x108009_4 = some (r1, r2, r3, r4, r5, r6, r7, r8, r9, r10)) ∧ Aside0 (kq ≤ kj53) ∧ Aside0 (Kd.R Kd.string 9 w' w.heap.size (fun _ => True) u108006 x108006_1) ∧ Aside0 (Kd.S k70 40 w' w.heap.size (fun _ => True) u108007 x108007_23) ∧ Aside0 (Kd.S k79 80 w' w.heap.size (fun _ => True) u108008 x108008_53) ∧ Aside0 (Kd.S k83 86 w' w.heap.size (fun _ => True) u108009 x108009_4) ∧ Aside0 (w'.heap[gb104]? = some (.cells #[.int .u8 a0_0, (.slice A0_1 l0_1.length c0_1), (.slice A0_2 l0_2.length c0_2), (.slice A0_3 l0_3.length c0_3)] 70 (0, 0))) ∧ Aside0 (w'.heap[gb105]? = some (.cells #[.string a1_0, (.slice A1_1 l1_1.length c1_1), (.slice A1_2 l1_2.length c1_2), (.slice A1_3 l1_3.length c1_3), (.slice A1_4 l1_4.length c1_4), (.slice A1_5 l1_5.length c1_5)] 30 (0, 0))) ∧ Aside0 (w'.heap[gb106]? = some (.cells #[.string (⟨#[]⟩ : ByteArray), (.slice none 0 0), (.slice none 0 0), (.slice none 0 0), (.slice none 0 0), (.slice none 0 0), (.slice none 0 0), (.slice none 0 0), (.slice none 0 0), (.slice none 0 0)] 36 (0, 0))) ∧ Aside0 (w'.heap[gb107]? = some (.cells #[.string a1_0, (.slice A1_1 l1_1.length c1_1), (.slice A1_2 l1_2.length c1_2), (.slice A1_3 l1_3.length c1_3), (.slice A1_4 l1_4.length c1_4), (.slice A1_5 l1_5.length c1_5), u108006, u108007, u108008, u108009] 36 (0, 0))) ∧ Aside0 (Below w.heap.size w w'))
        case atStart => exact ⟨(0), (([] : List (S83))), (.slice none 0 0), (by first | rfl | (simp; done) | (simp [*]; done)), H', ⟨Nat.le_refl _⟩, ⟨by (with_reducible repeat (first | apply Kd.R_alloc | apply Kd.R_drewN | apply Kd.R_drew)); exact HO_108006.out⟩, ⟨by (with_reducible repeat (first | apply Kd.S_alloc | apply Kd.S_drewN | apply Kd.S_drew)); exact HO_108007.out⟩, ⟨by (with_reducible repeat (first | apply Kd.S_alloc | apply Kd.S_drewN | apply Kd.S_drew)); exact HO_108008.out⟩, ⟨by first | exact Kd.S_nil _ _ _ _ _ | exact Kd.N_nil _ _ _ _ _ | exact Kd.V_nil _ _ _ _ _ | exact Kd.Q_nil _ _ _ _ _ | exact Kd.R_nil _ _ _ _ _⟩, ⟨by (with_reducible repeat (first | refine blk_drewN ?_ _ | refine blk_drew ?_ | refine blk_alloc ?_ _)); exact KA.out⟩, ⟨by (with_reducible repeat (first | refine blk_drewN ?_ _ | refine blk_drew ?_ | refine blk_alloc ?_ _)); exact KB.out⟩, ⟨by (with_reducible repeat (first | refine blk_drewN ?_ _ | refine blk_drew ?_ | refine blk_alloc ?_ _)); exact KC.out⟩, ⟨by (with_reducible repeat (first | refine blk_drewN ?_ _ | refine blk_drew ?_ | refine blk_alloc ?_ _)); exact KE.out⟩, ⟨by repeat (first | (with_reducible first | exact HB.out | apply below_alloc | apply pw_below_drewN | apply below_drew1 | refine below_set ?_ GE104.out | refine below_set ?_ GE105.out | refine below_set ?_ GE106.out | refine below_set ?_ GE107.out) | exact HB.out)⟩⟩
        case round =>
         clear H'
         try clear c1
         try clear p1
         try clear q1
         try clear hx1
         try clear c2
         try clear p2
         try clear c3
         try clear hcv3
         try clear c4
         try clear c5
         try clear c6
         try clear p6
         try clear c7
         try clear c8
         try clear c11
         try clear p11
         try clear q11
         try clear hx11
         try clear c12
         try clear p12
         try clear q12
         try clear hx12
         try clear c21
         try clear c25
         try clear c25b0
         try clear c26
         try clear c26b0
         try clear c27
         try clear c29
         try clear c30
         try clear c31
         try clear c32
         try clear hcv38
         try clear hcv39
         try clear c46
         try clear c47
         try clear c48
         try clear c50
         try clear c51
         try clear c52
         try clear c55
         try clear c55b0
         try clear c56
         try clear c56b0
         try clear c57
         try clear c57b0
         try clear c57b1
         try clear c58
         try clear c58b0
         try clear c58b1
         try clear c58b2
         try clear c59
         try clear c59b0
         try clear c61
         try clear c62
         try clear c63
         try clear c64
         try clear p64
         try clear c66
         try clear c67
         try clear c75
         try clear c76
         try clear c77
         try clear c79
         try clear c80
         try clear c82
         try clear c83
         try clear c84
         try clear c86
         try clear c87
         try clear c88
         try clear hcz33_0
         try clear hcz33_1
         try clear hcz33_2
         try clear hcz33_3
         try clear hcz49_0
         try clear hcz49_1
         try clear hcz49_2
         try clear hcz49_3
         try clear hcz53_0
         try clear hcz53_1
         try clear hcz53_2
         try clear hcz53_3
         try clear hcz65_0
         try clear hcz65_1
         try clear hcz65_2
         try clear hcz65_3
         try clear hcz68_0
         try clear hcz68_1
         try clear hcz68_2
         try clear hcz68_3
         try clear hcz68_4
         try clear hcz68_5
         try clear hcz78_0
         try clear hcz78_1
         try clear hcz78_2
         try clear hcz78_3
         try clear hcz81_0
         try clear hcz81_1
         try clear hcz81_2
         try clear hcz81_3
         try clear hcz81_4
         try clear hcz81_5
         try clear hcz85_0
         try clear hcz85_1
         try clear hcz85_2
         try clear hcz85_3
         try clear hcz89_0
         try clear hcz89_1
         try clear hcz89_2
         try clear hcz89_3
         try clear hfz33_0
         try clear hfz33_1
         try clear hfz33_2
         try clear hfz33_3
         try clear hfz49_0
         try clear hfz49_1
         try clear hfz49_2
         try clear hfz49_3
         try clear hfz53_0
         try clear hfz53_1
         try clear hfz53_2
         try clear hfz53_3
         try clear hfz65_0
         try clear hfz65_1
         try clear hfz65_2
         try clear hfz65_3
         try clear hfz68_0
         try clear hfz68_1
         try clear hfz68_2
         try clear hfz68_3
         try clear hfz68_4
         try clear hfz68_5
         try clear hfz78_0
         try clear hfz78_1
         try clear hfz78_2
         try clear hfz78_3
         try clear hfz81_0
         try clear hfz81_1
         try clear hfz81_2
         try clear hfz81_3
         try clear hfz81_4
         try clear hfz81_5
         try clear hfz85_0
         try clear hfz85_1
         try clear hfz85_2
         try clear hfz85_3
         try clear hfz89_0
         try clear hfz89_1
         try clear hfz89_2
         try clear hfz89_3
         try clear hx115_0
         try clear hx122_0
         try clear p1
         try clear p11
         try clear p115
         try clear p12
         try clear p122
         try clear p2
         try clear p6
         try clear p64
         try clear q1
         try clear q11
         try clear q115
         try clear q12
         try clear q122
         obtain ⟨x10_4, x108009_4, u108009, rfl, HA, HK4, HO_108006, HO_108007, HO_108008, HO_108009, KA, KB, KC, KE, HB⟩ := hrel
         cases gk with
         | zero => exact absurd HA.out (by simp [dowellaw48_Family.l3])
         | succ k4 =>
          have H := HA.out
          clear HA
          simp only [dowellaw48_Family.l3] at H
          by_cases c90 : x10_4 < (l0_3.length : Int)
          ·rw [if_pos c90] at H
           have c90b0 : decide (x10_4 < (l0_3.length : Int)) = true := decide_eq_true c90
           clear c90
           by_cases c91 : x10_4 < 4
           ·rw [if_pos c91] at H
            have c91b0 : decide (x10_4 < 4) = true := decide_eq_true c91
            clear c91
            by_cases c92 : (l1_3.length : Int) > 0
            ·rw [if_pos c92] at H
             have c92b0 : decide (0 < (l1_3.length : Int)) = true := decide_eq_true c92
             have c92b1 : decide (0 < l1_3.length) = true := decide_eq_true (by omega)
             clear c92
             by_cases c93 : (l1_3.length : Int) = 0
             ·rw [if_pos c93] at H
              exact absurd H (by simp)
             ·rw [if_neg c93] at H
              have c93b0 : ((l1_3.length : Int) == 0) = false := beq_eq_false_iff_ne.mpr c93
              have c93b1 : ((l1_3.length : Int) != 0) = true := bne_iff_ne.mpr c93
              have c93b2 : ¬ (l1_3 = []) := fun h_ => c93 (by rw [h_]; rfl)
              obtain ⟨ji94, hji94⟩ : ∃ j_ : Int, (Int.tmod x10_4 (l1_3.length : Int)) = j_ := ⟨_, rfl⟩
              replace H : (if 0 ≤ (ji94) then (if (ji94) < (l1_3.length : Int) then (if 0 ≤ x10_4 then ((dowellaw48_decode.f (wrap64 (1 + (wrap64 (Int.tmod a0_0 6)))) (rd_L2 l0_3 x10_4)).bind fun t132 => (if x108009_4.length < 1954687338268 then (dowellaw48_Family.l3 k4 (wrap64 (1 + (wrap64 (Int.tmod a0_0 6)))) (wrap64 (x10_4 + 1)) a0_0 l0_1 l0_2 l0_3 a1_0 l1_1 l1_2 l1_3 l1_4 l1_5 a1_0 l1_1 l1_2 l1_3 l1_4 l1_5 x108006_1 x108007_23 x108008_53 (x108009_4 ++ [(⟨t132, ji94, (⟨(rd_T81 l1_3 (ji94)).f0, wrap64 (100 + x10_4), (rd_T81 l1_3 (ji94)).f2, (rd_T81 l1_3 (ji94)).f3⟩ : S81)⟩ : S83)])) else (none))) else (none)) else (none)) else (none)) = some (r1, r2, r3, r4, r5, r6, r7, r8, r9, r10) := by first | (rw [hji94] at H; exact H) | (simp only [hji94] at H ⊢; exact H)
              by_cases c95 : 0 ≤ (ji94)
              ·rw [if_pos c95] at H
               have c95b0 : decide (0 ≤ (ji94)) = true := decide_eq_true c95
               clear c95
               by_cases c96 : (ji94) < (l1_3.length : Int)
               ·rw [if_pos c96] at H
                have c96b0 : decide ((ji94) < (l1_3.length : Int)) = true := decide_eq_true c96
                clear c96
                by_cases c97 : 0 ≤ x10_4
                ·rw [if_pos c97] at H
                 have c97b0 : decide (0 ≤ x10_4) = true := decide_eq_true c97
                 clear c97
                 replace H := Option.bind_eq_some_iff.mp H
                 obtain ⟨t132, A980, H⟩ := H
                 replace H : (if x108009_4.length < 1954687338268 then (dowellaw48_Family.l3 k4 (wrap64 (1 + (wrap64 (Int.tmod a0_0 6)))) (wrap64 (x10_4 + 1)) a0_0 l0_1 l0_2 l0_3 a1_0 l1_1 l1_2 l1_3 l1_4 l1_5 a1_0 l1_1 l1_2 l1_3 l1_4 l1_5 x108006_1 x108007_23 x108008_53 (x108009_4 ++ [(⟨t132, ji94, (⟨(rd_T81 l1_3 (ji94)).f0, wrap64 (100 + x10_4), (rd_T81 l1_3 (ji94)).f2, (rd_T81 l1_3 (ji94)).f3⟩ : S81)⟩ : S83)])) else (none)) = some (r1, r2, r3, r4, r5, r6, r7, r8, r9, r10) := H
                 have A98 := Aside0.mk A980
                 clear A980
                 by_cases c99 : x108009_4.length < 1954687338268
                 ·rw [if_pos c99] at H
                  have LMc99 := Aside0.mk c99
                  clear c99
                  obtain ⟨y135, hy135⟩ : ∃ y_ : List (S83), y_ = (x108009_4 ++ [(⟨t132, ji94, (⟨(rd_T81 l1_3 (ji94)).f0, wrap64 (100 + x10_4), (rd_T81 l1_3 (ji94)).f2, (rd_T81 l1_3 (ji94)).f3⟩ : S81)⟩ : S83)]) := ⟨_, rfl⟩
                  replace H : (dowellaw48_Family.l3 k4 (wrap64 (1 + (wrap64 (Int.tmod a0_0 6)))) (wrap64 (x10_4 + 1)) a0_0 l0_1 l0_2 l0_3 a1_0 l1_1 l1_2 l1_3 l1_4 l1_5 a1_0 l1_1 l1_2 l1_3 l1_4 l1_5 x108006_1 x108007_23 x108008_53 y135) = some (r1, r2, r3, r4, r5, r6, r7, r8, r9, r10) := by first | (rw [hy135]; with_reducible exact H) | (have H2_ := (Option.bind_some _ _).symm.trans H; rw [hy135]; with_reducible exact H2_) | (have H2_ := (Option.bind_some _ _).symm.trans H; with_reducible exact H2_) | with_reducible exact H | (rw [hy135]; exact H) | exact H
                  have Ny135 := Aside0.mk hy135
                  clear hy135
                  have H' := Aside0.mk H
                  clear H
                  have hnb100 := NB104_105.out
                  have hnc100 := NB105_104.out
                  have hnb101 := NB104_106.out
                  have hnc101 := NB106_104.out
                  have hnb102 := NB104_107.out
                  have hnc102 := NB107_104.out
                  have hcz103_0 : wr.cell? ⟨gb104, 0, none⟩ = some (.int .u8 a0_0) := (blk_cell KA.out 0).trans rfl
                  have hcz103_1 : wr.cell? ⟨gb104, 1, none⟩ = some (.slice A0_1 l0_1.length c0_1) := (blk_cell KA.out 1).trans rfl
                  have hcz103_2 : wr.cell? ⟨gb104, 2, none⟩ = some (.slice A0_2 l0_2.length c0_2) := (blk_cell KA.out 2).trans rfl
                  have hcz103_3 : wr.cell? ⟨gb104, 3, none⟩ = some (.slice A0_3 l0_3.length c0_3) := (blk_cell KA.out 3).trans rfl
                  have hfz103_0 := blk_frozen KA.out 0
                  have hfz103_1 := blk_frozen KA.out 1
                  have hfz103_2 := blk_frozen KA.out 2
                  have hfz103_3 := blk_frozen KA.out 3
                  have hnb104 := NB105_106.out
                  have hnc104 := NB106_105.out
                  have hnb105 := NB105_107.out
                  have hnc105 := NB107_105.out
                  have hcz106_0 : wr.cell? ⟨gb105, 0, none⟩ = some (.string a1_0) := (blk_cell KB.out 0).trans rfl
                  have hcz106_1 : wr.cell? ⟨gb105, 1, none⟩ = some (.slice A1_1 l1_1.length c1_1) := (blk_cell KB.out 1).trans rfl
                  have hcz106_2 : wr.cell? ⟨gb105, 2, none⟩ = some (.slice A1_2 l1_2.length c1_2) := (blk_cell KB.out 2).trans rfl
                  have hcz106_3 : wr.cell? ⟨gb105, 3, none⟩ = some (.slice A1_3 l1_3.length c1_3) := (blk_cell KB.out 3).trans rfl
                  have hcz106_4 : wr.cell? ⟨gb105, 4, none⟩ = some (.slice A1_4 l1_4.length c1_4) := (blk_cell KB.out 4).trans rfl
                  have hcz106_5 : wr.cell? ⟨gb105, 5, none⟩ = some (.slice A1_5 l1_5.length c1_5) := (blk_cell KB.out 5).trans rfl
                  have hfz106_0 := blk_frozen KB.out 0
                  have hfz106_1 := blk_frozen KB.out 1
                  have hfz106_2 := blk_frozen KB.out 2
                  have hfz106_3 := blk_frozen KB.out 3
                  have hfz106_4 := blk_frozen KB.out 4
                  have hfz106_5 := blk_frozen KB.out 5
                  have p129 : 0 ≤ ((ji94) : Int) := of_decide_eq_true (by first | (with_reducible assumption) | assumption)
                  have q129 : (ji94) < (l1_3.length : Int) := of_decide_eq_true (by first | (with_reducible assumption) | assumption)
                  obtain ⟨ad129, e129, hx129_0, hx129_1, hx129_2, hx129_3⟩ := at_T81 HR1_3.out (ji94) p129 q129
                  cases e129
                  replace hx129_0 := (HB.out.cell (World.block_lt_of_cell? w _ hx129_0)).trans hx129_0
                  replace hx129_1 := (HB.out.cell (World.block_lt_of_cell? w _ hx129_1)).trans hx129_1
                  replace hx129_2 := (HB.out.cell (World.block_lt_of_cell? w _ hx129_2)).trans hx129_2
                  replace hx129_3 := (HB.out.cell (World.block_lt_of_cell? w _ hx129_3)).trans hx129_3
                  replace p129 := eq_true p129
                  replace q129 := eq_true q129
                  try go_wp2_with (first | ((with_reducible refine gate_dst (N := 12) rfl ?_); (try (refine gate_guard (by rfl) ?_; dsimp only)); refine box_event ?hg (N := 12) ?hd (cs := #[.string (⟨#[]⟩ : ByteArray), .int .i64 0, .int .i64 0, .int .i64 0]) (t := 84) ?hr ?_; (case hd => rfl); (case hg => rfl); (case hr => first | (go_simp; done) | (go_simp; rfl)); intro gb130 hg w107 hbox hb; have n0_ := Aside0.mk (Kd.R_below (by (with_reducible repeat (first | apply Kd.R_alloc | apply Kd.R_drewN | apply Kd.R_drew)); exact HO_108006.out) hb); have n1_ := Aside0.mk (Kd.S_below (by (with_reducible repeat (first | apply Kd.S_alloc | apply Kd.S_drewN | apply Kd.S_drew)); exact HO_108007.out) hb); have n2_ := Aside0.mk (Kd.S_below (by (with_reducible repeat (first | apply Kd.S_alloc | apply Kd.S_drewN | apply Kd.S_drew)); exact HO_108008.out) hb); have n3_ := Aside0.mk (Kd.S_below (by (with_reducible repeat (first | apply Kd.S_alloc | apply Kd.S_drewN | apply Kd.S_drew)); exact HO_108009.out) hb); have n4_ := Aside0.mk (blk_below (g := gb104) (o := .cells #[.int .u8 a0_0, .slice A0_1 l0_1.length c0_1, .slice A0_2 l0_2.length c0_2, .slice A0_3 l0_3.length c0_3] 70 (0, 0)) (by (with_reducible repeat (first | refine blk_drewN ?_ _ | refine blk_drew ?_ | refine blk_alloc ?_ _)); exact KA.out) hb); have n5_ := Aside0.mk (blk_below (g := gb105) (o := .cells #[.string a1_0, .slice A1_1 l1_1.length c1_1, .slice A1_2 l1_2.length c1_2, .slice (some ad129) l1_3.length c1_3, .slice A1_4 l1_4.length c1_4, .slice A1_5 l1_5.length c1_5] 30 (0, 0)) (by (with_reducible repeat (first | refine blk_drewN ?_ _ | refine blk_drew ?_ | refine blk_alloc ?_ _)); exact KB.out) hb); have n6_ := Aside0.mk (blk_below (g := gb106) (o := .cells #[.string (⟨#[]⟩ : ByteArray), .slice none 0 0, .slice none 0 0, .slice none 0 0, .slice none 0 0, .slice none 0 0, .slice none 0 0, .slice none 0 0, .slice none 0 0, .slice none 0 0] 36 (0, 0)) (by (with_reducible repeat (first | refine blk_drewN ?_ _ | refine blk_drew ?_ | refine blk_alloc ?_ _)); exact KC.out) hb); have n7_ := Aside0.mk (blk_below (g := gb107) (o := .cells #[.string a1_0, .slice A1_1 l1_1.length c1_1, .slice A1_2 l1_2.length c1_2, .slice (some ad129) l1_3.length c1_3, .slice A1_4 l1_4.length c1_4, .slice A1_5 l1_5.length c1_5, u108006, u108007, u108008, u108009] 36 (0, 0)) (by (with_reducible repeat (first | refine blk_drewN ?_ _ | refine blk_drew ?_ | refine blk_alloc ?_ _)); exact KE.out) hb); have n8_ := Aside0.mk (below_step (by repeat (first | (with_reducible first | exact HB.out | apply below_alloc | apply pw_below_drewN | apply below_drew1 | refine below_set ?_ GE104.out | refine below_set ?_ GE105.out | refine below_set ?_ GE106.out | refine below_set ?_ GE107.out) | exact HB.out)) hb); have n9_ := Aside0.mk (hbox); have n10_ := Aside0.mk ((by rw [hg]; exact (below_size (by repeat (first | (with_reducible first | exact HB.out | apply below_alloc | apply pw_below_drewN | apply below_drew1 | refine below_set ?_ GE104.out | refine below_set ?_ GE105.out | refine below_set ?_ GE106.out | refine below_set ?_ GE107.out) | exact HB.out))) : w.heap.size ≤ gb130)); have n11_ := Aside0.mk ((by rw [hg]; exact (below_size (by repeat (first | (with_reducible first | exact HB.out | apply below_alloc | apply pw_below_drewN | apply below_drew1 | refine below_set ?_ GE104.out | refine below_set ?_ GE105.out | refine below_set ?_ GE106.out | refine below_set ?_ GE107.out) | exact HB.out))) : w.heap.size ≤ gb130)); have n12_ := Aside0.mk ((by rw [hg]; exact Nat.ne_of_lt (blk_lt (g := gb104) (o := .cells #[.int .u8 a0_0, .slice A0_1 l0_1.length c0_1, .slice A0_2 l0_2.length c0_2, .slice A0_3 l0_3.length c0_3] 70 (0, 0)) (by (with_reducible repeat (first | refine blk_drewN ?_ _ | refine blk_drew ?_ | refine blk_alloc ?_ _)); exact KA.out)) : gb104 ≠ gb130)); have n13_ := Aside0.mk ((by rw [hg]; exact Nat.ne_of_gt (blk_lt (g := gb104) (o := .cells #[.int .u8 a0_0, .slice A0_1 l0_1.length c0_1, .slice A0_2 l0_2.length c0_2, .slice A0_3 l0_3.length c0_3] 70 (0, 0)) (by (with_reducible repeat (first | refine blk_drewN ?_ _ | refine blk_drew ?_ | refine blk_alloc ?_ _)); exact KA.out)) : gb130 ≠ gb104)); have n14_ := Aside0.mk ((by rw [hg]; exact Nat.ne_of_lt (blk_lt (g := gb105) (o := .cells #[.string a1_0, .slice A1_1 l1_1.length c1_1, .slice A1_2 l1_2.length c1_2, .slice (some ad129) l1_3.length c1_3, .slice A1_4 l1_4.length c1_4, .slice A1_5 l1_5.length c1_5] 30 (0, 0)) (by (with_reducible repeat (first | refine blk_drewN ?_ _ | refine blk_drew ?_ | refine blk_alloc ?_ _)); exact KB.out)) : gb105 ≠ gb130)); have n15_ := Aside0.mk ((by rw [hg]; exact Nat.ne_of_gt (blk_lt (g := gb105) (o := .cells #[.string a1_0, .slice A1_1 l1_1.length c1_1, .slice A1_2 l1_2.length c1_2, .slice (some ad129) l1_3.length c1_3, .slice A1_4 l1_4.length c1_4, .slice A1_5 l1_5.length c1_5] 30 (0, 0)) (by (with_reducible repeat (first | refine blk_drewN ?_ _ | refine blk_drew ?_ | refine blk_alloc ?_ _)); exact KB.out)) : gb130 ≠ gb105)); have n16_ := Aside0.mk ((by rw [hg]; exact Nat.ne_of_lt (blk_lt (g := gb106) (o := .cells #[.string (⟨#[]⟩ : ByteArray), .slice none 0 0, .slice none 0 0, .slice none 0 0, .slice none 0 0, .slice none 0 0, .slice none 0 0, .slice none 0 0, .slice none 0 0, .slice none 0 0] 36 (0, 0)) (by (with_reducible repeat (first | refine blk_drewN ?_ _ | refine blk_drew ?_ | refine blk_alloc ?_ _)); exact KC.out)) : gb106 ≠ gb130)); have n17_ := Aside0.mk ((by rw [hg]; exact Nat.ne_of_gt (blk_lt (g := gb106) (o := .cells #[.string (⟨#[]⟩ : ByteArray), .slice none 0 0, .slice none 0 0, .slice none 0 0, .slice none 0 0, .slice none 0 0, .slice none 0 0, .slice none 0 0, .slice none 0 0, .slice none 0 0] 36 (0, 0)) (by (with_reducible repeat (first | refine blk_drewN ?_ _ | refine blk_drew ?_ | refine blk_alloc ?_ _)); exact KC.out)) : gb130 ≠ gb106)); have n18_ := Aside0.mk ((by rw [hg]; exact Nat.ne_of_lt (blk_lt (g := gb107) (o := .cells #[.string a1_0, .slice A1_1 l1_1.length c1_1, .slice A1_2 l1_2.length c1_2, .slice (some ad129) l1_3.length c1_3, .slice A1_4 l1_4.length c1_4, .slice A1_5 l1_5.length c1_5, u108006, u108007, u108008, u108009] 36 (0, 0)) (by (with_reducible repeat (first | refine blk_drewN ?_ _ | refine blk_drew ?_ | refine blk_alloc ?_ _)); exact KE.out)) : gb107 ≠ gb130)); have n19_ := Aside0.mk ((by rw [hg]; exact Nat.ne_of_gt (blk_lt (g := gb107) (o := .cells #[.string a1_0, .slice A1_1 l1_1.length c1_1, .slice A1_2 l1_2.length c1_2, .slice (some ad129) l1_3.length c1_3, .slice A1_4 l1_4.length c1_4, .slice A1_5 l1_5.length c1_5, u108006, u108007, u108008, u108009] 36 (0, 0)) (by (with_reducible repeat (first | refine blk_drewN ?_ _ | refine blk_drew ?_ | refine blk_alloc ?_ _)); exact KE.out)) : gb130 ≠ gb107)); clear HO_108006; clear HO_108007; clear HO_108008; clear HO_108009; clear KA; clear KB; clear KC; clear KE; clear HB; have HO_108006 := n0_; have HO_108007 := n1_; have HO_108008 := n2_; have HO_108009 := n3_; have KA := n4_; have KB := n5_; have KC := n6_; have KE := n7_; have HB := n8_; have BK130 := n9_; have GW130 := n10_; have GE130 := n11_; have NB104_130 := n12_; have NB130_104 := n13_; have NB105_130 := n14_; have NB130_105 := n15_; have NB106_130 := n16_; have NB130_106 := n17_; have NB107_130 := n18_; have NB130_107 := n19_; clear n0_ n1_ n2_ n3_ n4_ n5_ n6_ n7_ n8_ n9_ n10_ n11_ n12_ n13_ n14_ n15_ n16_ n17_ n18_ n19_; clear hb hbox hg; have hnb108 := NB130_104.out; have hnc108 := NB104_130.out; have hnb109 := NB130_105.out; have hnc109 := NB105_130.out; have hnb110 := NB130_106.out; have hnc110 := NB106_130.out; have hnb111 := NB130_107.out; have hnc111 := NB107_130.out; have hcz112_0 : w107.cell? ⟨gb130, 0, none⟩ = some (.string (⟨#[]⟩ : ByteArray)) := (blk_cell BK130.out 0).trans rfl; have hcz112_1 : w107.cell? ⟨gb130, 1, none⟩ = some (.int .i64 0) := (blk_cell BK130.out 1).trans rfl; have hcz112_2 : w107.cell? ⟨gb130, 2, none⟩ = some (.int .i64 0) := (blk_cell BK130.out 2).trans rfl; have hcz112_3 : w107.cell? ⟨gb130, 3, none⟩ = some (.int .i64 0) := (blk_cell BK130.out 3).trans rfl; have hfz112_0 := blk_frozen BK130.out 0; have hfz112_1 := blk_frozen BK130.out 1; have hfz112_2 := blk_frozen BK130.out 2; have hfz112_3 := blk_frozen BK130.out 3))
                  have n0_ : Aside0 (Kd.R Kd.string 9 (((((w107.setCell ⟨gb130, 0, none⟩ (.string ((rd_T81 l1_3 (ji94)).f0))).setCell ⟨gb130, 1, none⟩ (.int .i64 ((rd_T81 l1_3 (ji94)).f1))).setCell ⟨gb130, 2, none⟩ (.int .i64 ((rd_T81 l1_3 (ji94)).f2))).setCell ⟨gb130, 3, none⟩ (.int .i64 ((rd_T81 l1_3 (ji94)).f3))).setCell ⟨gb130, 1, none⟩ (.int .i64 (wrap64 (100 + x10_4)))) w.heap.size (fun _ => True) u108006 x108006_1) := ⟨by (with_reducible repeat (first | apply Kd.R_alloc | apply Kd.R_drewN | apply Kd.R_drew)); exact Kd.R_mono (Kd.R_far (p := ⟨gb130, 1, none⟩) (Kd.R_far (p := ⟨gb130, 3, none⟩) (Kd.R_far (p := ⟨gb130, 2, none⟩) (Kd.R_far (p := ⟨gb130, 1, none⟩) (Kd.R_far (p := ⟨gb130, 0, none⟩) (Kd.R_types HO_108006.out BK130.out (by decide)) (fun _ hk => hk.2) (.string ((rd_T81 l1_3 (ji94)).f0))) (fun _ hk => hk.2) (.int .i64 ((rd_T81 l1_3 (ji94)).f1))) (fun _ hk => hk.2) (.int .i64 ((rd_T81 l1_3 (ji94)).f2))) (fun _ hk => hk.2) (.int .i64 ((rd_T81 l1_3 (ji94)).f3))) (fun _ hk => hk.2) (.int .i64 (wrap64 (100 + x10_4)))) (fun _ hk => trivial)⟩
                  have n1_ : Aside0 (Kd.S k70 40 (((((w107.setCell ⟨gb130, 0, none⟩ (.string ((rd_T81 l1_3 (ji94)).f0))).setCell ⟨gb130, 1, none⟩ (.int .i64 ((rd_T81 l1_3 (ji94)).f1))).setCell ⟨gb130, 2, none⟩ (.int .i64 ((rd_T81 l1_3 (ji94)).f2))).setCell ⟨gb130, 3, none⟩ (.int .i64 ((rd_T81 l1_3 (ji94)).f3))).setCell ⟨gb130, 1, none⟩ (.int .i64 (wrap64 (100 + x10_4)))) w.heap.size (fun _ => True) u108007 x108007_23) := ⟨by (with_reducible repeat (first | apply Kd.S_alloc | apply Kd.S_drewN | apply Kd.S_drew)); exact Kd.S_mono (Kd.S_far (p := ⟨gb130, 1, none⟩) (Kd.S_far (p := ⟨gb130, 3, none⟩) (Kd.S_far (p := ⟨gb130, 2, none⟩) (Kd.S_far (p := ⟨gb130, 1, none⟩) (Kd.S_far (p := ⟨gb130, 0, none⟩) (Kd.S_types HO_108007.out BK130.out (by decide)) (fun _ hk => hk.2) (.string ((rd_T81 l1_3 (ji94)).f0))) (fun _ hk => hk.2) (.int .i64 ((rd_T81 l1_3 (ji94)).f1))) (fun _ hk => hk.2) (.int .i64 ((rd_T81 l1_3 (ji94)).f2))) (fun _ hk => hk.2) (.int .i64 ((rd_T81 l1_3 (ji94)).f3))) (fun _ hk => hk.2) (.int .i64 (wrap64 (100 + x10_4)))) (fun _ hk => trivial)⟩
                  have n2_ : Aside0 (Kd.S k79 80 (((((w107.setCell ⟨gb130, 0, none⟩ (.string ((rd_T81 l1_3 (ji94)).f0))).setCell ⟨gb130, 1, none⟩ (.int .i64 ((rd_T81 l1_3 (ji94)).f1))).setCell ⟨gb130, 2, none⟩ (.int .i64 ((rd_T81 l1_3 (ji94)).f2))).setCell ⟨gb130, 3, none⟩ (.int .i64 ((rd_T81 l1_3 (ji94)).f3))).setCell ⟨gb130, 1, none⟩ (.int .i64 (wrap64 (100 + x10_4)))) w.heap.size (fun _ => True) u108008 x108008_53) := ⟨by (with_reducible repeat (first | apply Kd.S_alloc | apply Kd.S_drewN | apply Kd.S_drew)); exact Kd.S_mono (Kd.S_far (p := ⟨gb130, 1, none⟩) (Kd.S_far (p := ⟨gb130, 3, none⟩) (Kd.S_far (p := ⟨gb130, 2, none⟩) (Kd.S_far (p := ⟨gb130, 1, none⟩) (Kd.S_far (p := ⟨gb130, 0, none⟩) (Kd.S_types HO_108008.out BK130.out (by decide)) (fun _ hk => hk.2) (.string ((rd_T81 l1_3 (ji94)).f0))) (fun _ hk => hk.2) (.int .i64 ((rd_T81 l1_3 (ji94)).f1))) (fun _ hk => hk.2) (.int .i64 ((rd_T81 l1_3 (ji94)).f2))) (fun _ hk => hk.2) (.int .i64 ((rd_T81 l1_3 (ji94)).f3))) (fun _ hk => hk.2) (.int .i64 (wrap64 (100 + x10_4)))) (fun _ hk => trivial)⟩
                  have n3_ : Aside0 (Kd.S k83 86 (((((w107.setCell ⟨gb130, 0, none⟩ (.string ((rd_T81 l1_3 (ji94)).f0))).setCell ⟨gb130, 1, none⟩ (.int .i64 ((rd_T81 l1_3 (ji94)).f1))).setCell ⟨gb130, 2, none⟩ (.int .i64 ((rd_T81 l1_3 (ji94)).f2))).setCell ⟨gb130, 3, none⟩ (.int .i64 ((rd_T81 l1_3 (ji94)).f3))).setCell ⟨gb130, 1, none⟩ (.int .i64 (wrap64 (100 + x10_4)))) w.heap.size (fun _ => True) u108009 x108009_4) := ⟨by (with_reducible repeat (first | apply Kd.S_alloc | apply Kd.S_drewN | apply Kd.S_drew)); exact Kd.S_mono (Kd.S_far (p := ⟨gb130, 1, none⟩) (Kd.S_far (p := ⟨gb130, 3, none⟩) (Kd.S_far (p := ⟨gb130, 2, none⟩) (Kd.S_far (p := ⟨gb130, 1, none⟩) (Kd.S_far (p := ⟨gb130, 0, none⟩) (Kd.S_types HO_108009.out BK130.out (by decide)) (fun _ hk => hk.2) (.string ((rd_T81 l1_3 (ji94)).f0))) (fun _ hk => hk.2) (.int .i64 ((rd_T81 l1_3 (ji94)).f1))) (fun _ hk => hk.2) (.int .i64 ((rd_T81 l1_3 (ji94)).f2))) (fun _ hk => hk.2) (.int .i64 ((rd_T81 l1_3 (ji94)).f3))) (fun _ hk => hk.2) (.int .i64 (wrap64 (100 + x10_4)))) (fun _ hk => trivial)⟩
                  have n4_ : Aside0 ((((((w107.setCell ⟨gb130, 0, none⟩ (.string ((rd_T81 l1_3 (ji94)).f0))).setCell ⟨gb130, 1, none⟩ (.int .i64 ((rd_T81 l1_3 (ji94)).f1))).setCell ⟨gb130, 2, none⟩ (.int .i64 ((rd_T81 l1_3 (ji94)).f2))).setCell ⟨gb130, 3, none⟩ (.int .i64 ((rd_T81 l1_3 (ji94)).f3))).setCell ⟨gb130, 1, none⟩ (.int .i64 (wrap64 (100 + x10_4)))).heap[gb104]? = some (.cells #[.int .u8 a0_0, .slice A0_1 l0_1.length c0_1, .slice A0_2 l0_2.length c0_2, .slice A0_3 l0_3.length c0_3] 70 (0, 0))) := ⟨by (with_reducible repeat (first | refine blk_drewN ?_ _ | refine blk_drew ?_ | refine blk_alloc ?_ _)); refine blk_far ?_ NB104_130.out _; (with_reducible repeat (first | refine blk_drewN ?_ _ | refine blk_drew ?_ | refine blk_alloc ?_ _)); refine blk_far ?_ NB104_130.out _; (with_reducible repeat (first | refine blk_drewN ?_ _ | refine blk_drew ?_ | refine blk_alloc ?_ _)); refine blk_far ?_ NB104_130.out _; (with_reducible repeat (first | refine blk_drewN ?_ _ | refine blk_drew ?_ | refine blk_alloc ?_ _)); refine blk_far ?_ NB104_130.out _; (with_reducible repeat (first | refine blk_drewN ?_ _ | refine blk_drew ?_ | refine blk_alloc ?_ _)); refine blk_far ?_ NB104_130.out _; (with_reducible repeat (first | refine blk_drewN ?_ _ | refine blk_drew ?_ | refine blk_alloc ?_ _)); exact KA.out⟩
                  have n5_ : Aside0 ((((((w107.setCell ⟨gb130, 0, none⟩ (.string ((rd_T81 l1_3 (ji94)).f0))).setCell ⟨gb130, 1, none⟩ (.int .i64 ((rd_T81 l1_3 (ji94)).f1))).setCell ⟨gb130, 2, none⟩ (.int .i64 ((rd_T81 l1_3 (ji94)).f2))).setCell ⟨gb130, 3, none⟩ (.int .i64 ((rd_T81 l1_3 (ji94)).f3))).setCell ⟨gb130, 1, none⟩ (.int .i64 (wrap64 (100 + x10_4)))).heap[gb105]? = some (.cells #[.string a1_0, .slice A1_1 l1_1.length c1_1, .slice A1_2 l1_2.length c1_2, .slice (some ad129) l1_3.length c1_3, .slice A1_4 l1_4.length c1_4, .slice A1_5 l1_5.length c1_5] 30 (0, 0))) := ⟨by (with_reducible repeat (first | refine blk_drewN ?_ _ | refine blk_drew ?_ | refine blk_alloc ?_ _)); refine blk_far ?_ NB105_130.out _; (with_reducible repeat (first | refine blk_drewN ?_ _ | refine blk_drew ?_ | refine blk_alloc ?_ _)); refine blk_far ?_ NB105_130.out _; (with_reducible repeat (first | refine blk_drewN ?_ _ | refine blk_drew ?_ | refine blk_alloc ?_ _)); refine blk_far ?_ NB105_130.out _; (with_reducible repeat (first | refine blk_drewN ?_ _ | refine blk_drew ?_ | refine blk_alloc ?_ _)); refine blk_far ?_ NB105_130.out _; (with_reducible repeat (first | refine blk_drewN ?_ _ | refine blk_drew ?_ | refine blk_alloc ?_ _)); refine blk_far ?_ NB105_130.out _; (with_reducible repeat (first | refine blk_drewN ?_ _ | refine blk_drew ?_ | refine blk_alloc ?_ _)); exact KB.out⟩
                  have n6_ : Aside0 ((((((w107.setCell ⟨gb130, 0, none⟩ (.string ((rd_T81 l1_3 (ji94)).f0))).setCell ⟨gb130, 1, none⟩ (.int .i64 ((rd_T81 l1_3 (ji94)).f1))).setCell ⟨gb130, 2, none⟩ (.int .i64 ((rd_T81 l1_3 (ji94)).f2))).setCell ⟨gb130, 3, none⟩ (.int .i64 ((rd_T81 l1_3 (ji94)).f3))).setCell ⟨gb130, 1, none⟩ (.int .i64 (wrap64 (100 + x10_4)))).heap[gb106]? = some (.cells #[.string (⟨#[]⟩ : ByteArray), .slice none 0 0, .slice none 0 0, .slice none 0 0, .slice none 0 0, .slice none 0 0, .slice none 0 0, .slice none 0 0, .slice none 0 0, .slice none 0 0] 36 (0, 0))) := ⟨by (with_reducible repeat (first | refine blk_drewN ?_ _ | refine blk_drew ?_ | refine blk_alloc ?_ _)); refine blk_far ?_ NB106_130.out _; (with_reducible repeat (first | refine blk_drewN ?_ _ | refine blk_drew ?_ | refine blk_alloc ?_ _)); refine blk_far ?_ NB106_130.out _; (with_reducible repeat (first | refine blk_drewN ?_ _ | refine blk_drew ?_ | refine blk_alloc ?_ _)); refine blk_far ?_ NB106_130.out _; (with_reducible repeat (first | refine blk_drewN ?_ _ | refine blk_drew ?_ | refine blk_alloc ?_ _)); refine blk_far ?_ NB106_130.out _; (with_reducible repeat (first | refine blk_drewN ?_ _ | refine blk_drew ?_ | refine blk_alloc ?_ _)); refine blk_far ?_ NB106_130.out _; (with_reducible repeat (first | refine blk_drewN ?_ _ | refine blk_drew ?_ | refine blk_alloc ?_ _)); exact KC.out⟩
                  have n7_ : Aside0 ((((((w107.setCell ⟨gb130, 0, none⟩ (.string ((rd_T81 l1_3 (ji94)).f0))).setCell ⟨gb130, 1, none⟩ (.int .i64 ((rd_T81 l1_3 (ji94)).f1))).setCell ⟨gb130, 2, none⟩ (.int .i64 ((rd_T81 l1_3 (ji94)).f2))).setCell ⟨gb130, 3, none⟩ (.int .i64 ((rd_T81 l1_3 (ji94)).f3))).setCell ⟨gb130, 1, none⟩ (.int .i64 (wrap64 (100 + x10_4)))).heap[gb107]? = some (.cells #[.string a1_0, .slice A1_1 l1_1.length c1_1, .slice A1_2 l1_2.length c1_2, .slice (some ad129) l1_3.length c1_3, .slice A1_4 l1_4.length c1_4, .slice A1_5 l1_5.length c1_5, u108006, u108007, u108008, u108009] 36 (0, 0))) := ⟨by (with_reducible repeat (first | refine blk_drewN ?_ _ | refine blk_drew ?_ | refine blk_alloc ?_ _)); refine blk_far ?_ NB107_130.out _; (with_reducible repeat (first | refine blk_drewN ?_ _ | refine blk_drew ?_ | refine blk_alloc ?_ _)); refine blk_far ?_ NB107_130.out _; (with_reducible repeat (first | refine blk_drewN ?_ _ | refine blk_drew ?_ | refine blk_alloc ?_ _)); refine blk_far ?_ NB107_130.out _; (with_reducible repeat (first | refine blk_drewN ?_ _ | refine blk_drew ?_ | refine blk_alloc ?_ _)); refine blk_far ?_ NB107_130.out _; (with_reducible repeat (first | refine blk_drewN ?_ _ | refine blk_drew ?_ | refine blk_alloc ?_ _)); refine blk_far ?_ NB107_130.out _; (with_reducible repeat (first | refine blk_drewN ?_ _ | refine blk_drew ?_ | refine blk_alloc ?_ _)); exact KE.out⟩
                  have n8_ : Aside0 ((((((w107.setCell ⟨gb130, 0, none⟩ (.string ((rd_T81 l1_3 (ji94)).f0))).setCell ⟨gb130, 1, none⟩ (.int .i64 ((rd_T81 l1_3 (ji94)).f1))).setCell ⟨gb130, 2, none⟩ (.int .i64 ((rd_T81 l1_3 (ji94)).f2))).setCell ⟨gb130, 3, none⟩ (.int .i64 ((rd_T81 l1_3 (ji94)).f3))).setCell ⟨gb130, 1, none⟩ (.int .i64 (wrap64 (100 + x10_4)))).heap[gb130]? = some (.cells #[.string ((rd_T81 l1_3 (ji94)).f0), .int .i64 (wrap64 (100 + x10_4)), .int .i64 ((rd_T81 l1_3 (ji94)).f2), .int .i64 ((rd_T81 l1_3 (ji94)).f3)] 84 (0, 0))) := ⟨by (with_reducible repeat (first | refine blk_drewN ?_ _ | refine blk_drew ?_ | refine blk_alloc ?_ _)); refine blk_put (cs := #[.string ((rd_T81 l1_3 (ji94)).f0), .int .i64 ((rd_T81 l1_3 (ji94)).f1), .int .i64 ((rd_T81 l1_3 (ji94)).f2), .int .i64 ((rd_T81 l1_3 (ji94)).f3)]) ?_ 1 _ rfl; (with_reducible repeat (first | refine blk_drewN ?_ _ | refine blk_drew ?_ | refine blk_alloc ?_ _)); refine blk_put (cs := #[.string ((rd_T81 l1_3 (ji94)).f0), .int .i64 ((rd_T81 l1_3 (ji94)).f1), .int .i64 ((rd_T81 l1_3 (ji94)).f2), .int .i64 0]) ?_ 3 _ rfl; (with_reducible repeat (first | refine blk_drewN ?_ _ | refine blk_drew ?_ | refine blk_alloc ?_ _)); refine blk_put (cs := #[.string ((rd_T81 l1_3 (ji94)).f0), .int .i64 ((rd_T81 l1_3 (ji94)).f1), .int .i64 0, .int .i64 0]) ?_ 2 _ rfl; (with_reducible repeat (first | refine blk_drewN ?_ _ | refine blk_drew ?_ | refine blk_alloc ?_ _)); refine blk_put (cs := #[.string ((rd_T81 l1_3 (ji94)).f0), .int .i64 0, .int .i64 0, .int .i64 0]) ?_ 1 _ rfl; (with_reducible repeat (first | refine blk_drewN ?_ _ | refine blk_drew ?_ | refine blk_alloc ?_ _)); refine blk_put (cs := #[.string (⟨#[]⟩ : ByteArray), .int .i64 0, .int .i64 0, .int .i64 0]) ?_ 0 _ rfl; (with_reducible repeat (first | refine blk_drewN ?_ _ | refine blk_drew ?_ | refine blk_alloc ?_ _)); exact BK130.out⟩
                  have n9_ : Aside0 (Below w.heap.size w (((((w107.setCell ⟨gb130, 0, none⟩ (.string ((rd_T81 l1_3 (ji94)).f0))).setCell ⟨gb130, 1, none⟩ (.int .i64 ((rd_T81 l1_3 (ji94)).f1))).setCell ⟨gb130, 2, none⟩ (.int .i64 ((rd_T81 l1_3 (ji94)).f2))).setCell ⟨gb130, 3, none⟩ (.int .i64 ((rd_T81 l1_3 (ji94)).f3))).setCell ⟨gb130, 1, none⟩ (.int .i64 (wrap64 (100 + x10_4))))) := ⟨by repeat (first | (with_reducible first | exact HB.out | apply below_alloc | apply pw_below_drewN | apply below_drew1 | refine below_set ?_ GE104.out | refine below_set ?_ GE105.out | refine below_set ?_ GE106.out | refine below_set ?_ GE107.out | refine below_set ?_ GE130.out) | exact HB.out)⟩
                  (try clear HO_108006)
                  (try clear HO_108007)
                  (try clear HO_108008)
                  (try clear HO_108009)
                  (try clear KA)
                  (try clear KB)
                  (try clear KC)
                  (try clear KE)
                  (try clear BK130)
                  (try clear HB)
                  generalize (((((w107.setCell ⟨gb130, 0, none⟩ (.string ((rd_T81 l1_3 (ji94)).f0))).setCell ⟨gb130, 1, none⟩ (.int .i64 ((rd_T81 l1_3 (ji94)).f1))).setCell ⟨gb130, 2, none⟩ (.int .i64 ((rd_T81 l1_3 (ji94)).f2))).setCell ⟨gb130, 3, none⟩ (.int .i64 ((rd_T81 l1_3 (ji94)).f3))).setCell ⟨gb130, 1, none⟩ (.int .i64 (wrap64 (100 + x10_4)))) = w113 at n0_ n1_ n2_ n3_ n4_ n5_ n6_ n7_ n8_ n9_ ⊢
                  have HO_108006 := n0_
                  have HO_108007 := n1_
                  have HO_108008 := n2_
                  have HO_108009 := n3_
                  have KA := n4_
                  have KB := n5_
                  have KC := n6_
                  have KE := n7_
                  have BK130 := n8_
                  have HB := n9_
                  clear n0_ n1_ n2_ n3_ n4_ n5_ n6_ n7_ n8_ n9_
                  have n0_ := Aside0.mk (Kd.R_drew HO_108006.out)
                  have n1_ := Aside0.mk (Kd.S_drew HO_108007.out)
                  have n2_ := Aside0.mk (Kd.S_drew HO_108008.out)
                  have n3_ := Aside0.mk (Kd.S_drew HO_108009.out)
                  have n4_ := Aside0.mk (blk_drew KA.out)
                  have n5_ := Aside0.mk (blk_drew KB.out)
                  have n6_ := Aside0.mk (blk_drew KC.out)
                  have n7_ := Aside0.mk (blk_drew KE.out)
                  have n8_ := Aside0.mk (blk_drew BK130.out)
                  have n9_ := Aside0.mk (below_drew1 HB.out)
                  clear HO_108006
                  clear HO_108007
                  clear HO_108008
                  clear HO_108009
                  clear KA
                  clear KB
                  clear KC
                  clear KE
                  clear BK130
                  clear HB
                  have HO_108006 := n0_
                  have HO_108007 := n1_
                  have HO_108008 := n2_
                  have HO_108009 := n3_
                  have KA := n4_
                  have KB := n5_
                  have KC := n6_
                  have KE := n7_
                  have BK130 := n8_
                  have HB := n9_
                  clear n0_ n1_ n2_ n3_ n4_ n5_ n6_ n7_ n8_ n9_
                  have p131 : 0 ≤ (x10_4 : Int) := of_decide_eq_true (by first | (with_reducible assumption) | assumption)
                  have q131 : x10_4 < (l0_3.length : Int) := of_decide_eq_true (by first | (with_reducible assumption) | assumption)
                  obtain ⟨ad131, A131_0, c131_0, e131, hx131_0, hl131_0, hi131_0⟩ := at_L2 HR0_3.out x10_4 p131 q131
                  have hw131_0 := hx131_0
                  cases e131
                  replace hx131_0 := (HB.out.cell (World.block_lt_of_cell? w _ hx131_0)).trans hx131_0
                  have HR131_0 := Aside0.mk hi131_0
                  have HC131_0 := Aside0.mk hl131_0
                  clear hi131_0 hl131_0
                  replace p131 := eq_true p131
                  replace q131 := eq_true q131
                  refine start_ (n := 16) (S := fun w' => w'.cell? ⟨gb107, 0, none⟩ = some (.string a1_0) ∧ w'.cell? ⟨gb107, 1, none⟩ = some (.slice A1_1 l1_1.length c1_1) ∧ w'.cell? ⟨gb107, 2, none⟩ = some (.slice A1_2 l1_2.length c1_2) ∧ w'.cell? ⟨gb107, 3, none⟩ = some (.slice (some ad129) l1_3.length c1_3) ∧ w'.cell? ⟨gb107, 4, none⟩ = some (.slice A1_4 l1_4.length c1_4) ∧ w'.cell? ⟨gb107, 5, none⟩ = some (.slice A1_5 l1_5.length c1_5) ∧ w'.cell? ⟨gb107, 6, none⟩ = some (u108006) ∧ w'.cell? ⟨gb107, 7, none⟩ = some (u108007) ∧ w'.cell? ⟨gb107, 8, none⟩ = some (u108008) ∧ w'.cell? ⟨gb107, 9, none⟩ = some (u108009) ∧ w'.cell? ⟨gb104, 0, none⟩ = some (.int .u8 a0_0) ∧ w'.cell? ⟨gb104, 1, none⟩ = some (.slice A0_1 l0_1.length c0_1) ∧ w'.cell? ⟨gb104, 2, none⟩ = some (.slice A0_2 l0_2.length c0_2) ∧ w'.cell? ⟨gb104, 3, none⟩ = some (.slice (some ad131) l0_3.length c0_3) ∧ w'.cell? ⟨gb130, 0, none⟩ = some (.string ((rd_T81 l1_3 (ji94)).f0)) ∧ w'.cell? ⟨gb130, 1, none⟩ = some (.int .i64 (wrap64 (100 + x10_4))) ∧ w'.cell? ⟨gb130, 2, none⟩ = some (.int .i64 ((rd_T81 l1_3 (ji94)).f2)) ∧ w'.cell? ⟨gb130, 3, none⟩ = some (.int .i64 ((rd_T81 l1_3 (ji94)).f3)) ∧ w'.cell? (ad131.add (x10_4).toNat) = some (.slice A131_0 (rd_L2 l0_3 x10_4).length c131_0)) (ds := [15]) #[false, false, false, false, false, false, false, false, false, false, false, false, false, false, false, false] (by kernel_rfl) rfl rfl ⟨(blk_cell KE.out 0).trans rfl, (blk_cell KE.out 1).trans rfl, (blk_cell KE.out 2).trans rfl, (blk_cell KE.out 3).trans rfl, (blk_cell KE.out 4).trans rfl, (blk_cell KE.out 5).trans rfl, (blk_cell KE.out 6).trans rfl, (blk_cell KE.out 7).trans rfl, (blk_cell KE.out 8).trans rfl, (blk_cell KE.out 9).trans rfl, (blk_cell KA.out 0).trans rfl, (blk_cell KA.out 1).trans rfl, (blk_cell KA.out 2).trans rfl, (blk_cell KA.out 3).trans rfl, (blk_cell BK130.out 0).trans rfl, (blk_cell BK130.out 1).trans rfl, (blk_cell BK130.out 2).trans rfl, (blk_cell BK130.out 3).trans rfl, ((HB.out.cell (World.block_lt_of_cell? w _ hw131_0)).trans hw131_0)⟩ (fun hHeld => ?_); refine with_tabW dowellaw48_Family.tab21 dowellaw48_Family.bits21 (fun HT_ HW_ => ?_)
                  generalize w113.drew = w114 at HO_108006 HO_108007 HO_108008 HO_108009 KA KB KC KE BK130 HB HR131_0 hx131_0 hHeld ⊢
                  refine pure_ (i := 0) (N := some 128) (v := ?_) (a' := ?_) #[true, false, false, false, false, false, false, false, false, false, false, false, false, false, false, false] rfl rfl (any_of HT_.out (by kernel_rfl)) (fun _ _ _ h => h) (Or.inl ⟨by rfl, ?_⟩) ?_ ?_
                  rotate_left
                  ·intro w'
                   go_simp
                   with_reducible rfl
                  rotate_left
                  ·simp only [Act.put, List.setIfInBounds_toArray, List.set_cons_zero, List.set_cons_succ, i64_w, i32_w]
                   rfl
                  refine pure_ (i := 2) (N := some 130) (v := ?_) (a' := ?_) #[true, false, true, false, false, false, false, false, false, false, false, false, false, false, false, false] rfl rfl (any_of HT_.out (by kernel_rfl)) (fun _ _ _ h => h) (Or.inl ⟨by rfl, ?_⟩) ?_ ?_
                  rotate_left
                  ·intro w'
                   go_simp
                   with_reducible rfl
                  rotate_left
                  ·simp only [Act.put, List.setIfInBounds_toArray, List.set_cons_zero, List.set_cons_succ, i64_w, i32_w]
                   rfl
                  refine pure_ (i := 3) (N := some 131) (v := ?_) (a' := ?_) #[true, false, true, true, false, false, false, false, false, false, false, false, false, false, false, false] rfl rfl (any_of HT_.out (by kernel_rfl)) (fun _ _ _ h => h) (Or.inl ⟨by rfl, ?_⟩) ?_ ?_
                  rotate_left
                  ·intro w'
                   go_simp
                   with_reducible rfl
                  rotate_left
                  ·simp only [Act.put, List.setIfInBounds_toArray, List.set_cons_zero, List.set_cons_succ, i64_w, i32_w]
                   rfl
                  refine pure_ (i := 5) (N := some 133) (v := ?_) (a' := ?_) #[true, false, true, true, false, true, false, false, false, false, false, false, false, false, false, false] rfl rfl (any_of HT_.out (by kernel_rfl)) (fun _ _ _ h => h) (Or.inl ⟨by rfl, ?_⟩) ?_ ?_
                  rotate_left
                  ·intro w'
                   go_simp
                   with_reducible rfl
                  rotate_left
                  ·simp only [Act.put, List.setIfInBounds_toArray, List.set_cons_zero, List.set_cons_succ, i64_w, i32_w]
                   rfl
                  refine pure_ (i := 9) (N := some 137) (v := ?_) (a' := ?_) #[true, false, true, true, false, true, false, false, false, true, false, false, false, false, false, false] rfl rfl (any_of HT_.out (by kernel_rfl)) (fun _ _ _ h => h) (Or.inl ⟨by rfl, ?_⟩) ?_ ?_
                  rotate_left
                  ·intro w'
                   go_simp
                   with_reducible rfl
                  rotate_left
                  ·simp only [Act.put, List.setIfInBounds_toArray, List.set_cons_zero, List.set_cons_succ, i64_w, i32_w]
                   rfl
                  refine take_ (i := 1) (N := some 129) (v := ?_) (a' := ?_) #[true, true, true, true, false, true, false, false, false, true, false, false, false, false, false, false] rfl rfl (take_ofW HT_.out HW_.out (by kernel_rfl)) (fun _ _ _ h => h) (Or.inl ⟨by rfl, ?_⟩) hHeld ?_ ?_
                  rotate_left
                  ·rintro w' ⟨s0, s1, s2, s3, s4, s5, s6, s7, s8, s9, s10, s11, s12, s13, s14, s15, s16, s17, s18⟩
                   go_simp
                   with_reducible rfl
                  rotate_left
                  ·simp only [Act.put, List.setIfInBounds_toArray, List.set_cons_zero, List.set_cons_succ, i64_w, i32_w]
                   rfl
                  refine take_ (i := 4) (N := some 132) (v := ?_) (a' := ?_) #[true, true, true, true, true, true, false, false, false, true, false, false, false, false, false, false] rfl rfl (take_ofW HT_.out HW_.out (by kernel_rfl)) (fun _ _ _ h => h) (Or.inl ⟨by rfl, ?_⟩) hHeld ?_ ?_
                  rotate_left
                  ·rintro w' ⟨s0, s1, s2, s3, s4, s5, s6, s7, s8, s9, s10, s11, s12, s13, s14, s15, s16, s17, s18⟩
                   go_simp
                   with_reducible rfl
                  rotate_left
                  ·simp only [Act.put, List.setIfInBounds_toArray, List.set_cons_zero, List.set_cons_succ, i64_w, i32_w]
                   rfl
                  refine pure_ (i := 6) (N := some 134) (v := ?_) (a' := ?_) #[true, true, true, true, true, true, true, false, false, true, false, false, false, false, false, false] rfl rfl (any_of HT_.out (by kernel_rfl)) (fun _ _ _ h => h) (Or.inl ⟨by rfl, ?_⟩) ?_ ?_
                  rotate_left
                  ·intro w'
                   go_simp
                   with_reducible rfl
                  rotate_left
                  ·simp only [Act.put, List.setIfInBounds_toArray, List.set_cons_zero, List.set_cons_succ, i64_w, i32_w]
                   rfl
                  refine take_ (i := 7) (N := some 135) (v := ?_) (a' := ?_) #[true, true, true, true, true, true, true, true, false, true, false, false, false, false, false, false] rfl rfl (take_ofW HT_.out HW_.out (by kernel_rfl)) (fun _ _ _ h => h) (Or.inl ⟨by rfl, ?_⟩) hHeld ?_ ?_
                  rotate_left
                  ·rintro w' ⟨s0, s1, s2, s3, s4, s5, s6, s7, s8, s9, s10, s11, s12, s13, s14, s15, s16, s17, s18⟩
                   go_simp
                   with_reducible rfl
                  rotate_left
                  ·simp only [Act.put, List.setIfInBounds_toArray, List.set_cons_zero, List.set_cons_succ, i64_w, i32_w]
                   rfl
                  refine take_ (i := 10) (N := some 138) (v := ?_) (a' := ?_) #[true, true, true, true, true, true, true, true, false, true, true, false, false, false, false, false] rfl rfl (take_ofW HT_.out HW_.out (by kernel_rfl)) (fun _ _ _ h => h) (Or.inl ⟨by rfl, ?_⟩) hHeld ?_ ?_
                  rotate_left
                  ·rintro w' ⟨s0, s1, s2, s3, s4, s5, s6, s7, s8, s9, s10, s11, s12, s13, s14, s15, s16, s17, s18⟩
                   go_simp
                   with_reducible rfl
                  rotate_left
                  ·simp only [Act.put, List.setIfInBounds_toArray, List.set_cons_zero, List.set_cons_succ, i64_w, i32_w]
                   rfl
                  refine one_ (i := 8) (N := some 136) #[true, true, true, true, true, true, true, true, true, true, true, false, false, false, false, false] rfl rfl (one_of HT_.out (by kernel_rfl)) (by decide) (fun K hK => ?_)
                  refine goes_ Tryz.func50 (by kernel_rfl) rfl #[.int .i64 (wrap64 (1 + (wrap64 (Int.tmod a0_0 6)))), .slice A131_0 (rd_L2 l0_3 x10_4).length c131_0] (by rfl) rfl rfl (by (try simp only [List.map_toArray, List.map_cons, List.map_nil]); first | done | rfl | (simp only [List.length_drop, List.length_take]; rfl)) ?_
                  with_reducible refine (dowellaw48_decode.calls (wrap64 (1 + (wrap64 (Int.tmod a0_0 6)))) _ _ (rd_L2 l0_3 x10_4) t132 _ ?side1 ?side2 A98.out).mono ?_
                  (case side1 => repeat (first | exact (Kd.C_below HR131_0.out HB.out) | (with_reducible refine Kd.C_alloc ?_ _) | (with_reducible refine Kd.C_drewN ?_ _) | (with_reducible refine Kd.C_drew ?_)))
                  (case side2 => exact HC131_0.out)
                  rintro e w115 ⟨v133, rfl, ho0, hb⟩
                  refine ⟨_, rfl, ?_⟩
                  have n0_ := Aside0.mk (Kd.R_below (by (with_reducible repeat (first | apply Kd.R_alloc | apply Kd.R_drewN | apply Kd.R_drew)); exact HO_108006.out) hb)
                  have n1_ := Aside0.mk (Kd.S_elder' (by (with_reducible repeat (first | apply Kd.S_alloc | apply Kd.S_drewN | apply Kd.S_drew)); exact HO_108007.out) (Kd.R_base ho0) hb)
                  have n2_ := Aside0.mk (Kd.S_elder' (by (with_reducible repeat (first | apply Kd.S_alloc | apply Kd.S_drewN | apply Kd.S_drew)); exact HO_108008.out) (Kd.R_base ho0) hb)
                  have n3_ := Aside0.mk (Kd.S_elder' (by (with_reducible repeat (first | apply Kd.S_alloc | apply Kd.S_drewN | apply Kd.S_drew)); exact HO_108009.out) (Kd.R_base ho0) hb)
                  have n4_ := Aside0.mk (Kd.R_lower ho0 (below_size (by repeat (first | (with_reducible first | exact HB.out | apply below_alloc | apply pw_below_drewN | apply below_drew1 | refine below_set ?_ GE104.out | refine below_set ?_ GE105.out | refine below_set ?_ GE106.out | refine below_set ?_ GE107.out | refine below_set ?_ GE130.out) | exact HB.out))))
                  have n5_ := Aside0.mk (blk_below (g := gb104) (o := .cells #[.int .u8 a0_0, .slice A0_1 l0_1.length c0_1, .slice A0_2 l0_2.length c0_2, .slice (some ad131) l0_3.length c0_3] 70 (0, 0)) (by (with_reducible repeat (first | refine blk_drewN ?_ _ | refine blk_drew ?_ | refine blk_alloc ?_ _)); exact KA.out) hb)
                  have n6_ := Aside0.mk (blk_below (g := gb105) (o := .cells #[.string a1_0, .slice A1_1 l1_1.length c1_1, .slice A1_2 l1_2.length c1_2, .slice (some ad129) l1_3.length c1_3, .slice A1_4 l1_4.length c1_4, .slice A1_5 l1_5.length c1_5] 30 (0, 0)) (by (with_reducible repeat (first | refine blk_drewN ?_ _ | refine blk_drew ?_ | refine blk_alloc ?_ _)); exact KB.out) hb)
                  have n7_ := Aside0.mk (blk_below (g := gb106) (o := .cells #[.string (⟨#[]⟩ : ByteArray), .slice none 0 0, .slice none 0 0, .slice none 0 0, .slice none 0 0, .slice none 0 0, .slice none 0 0, .slice none 0 0, .slice none 0 0, .slice none 0 0] 36 (0, 0)) (by (with_reducible repeat (first | refine blk_drewN ?_ _ | refine blk_drew ?_ | refine blk_alloc ?_ _)); exact KC.out) hb)
                  have n8_ := Aside0.mk (blk_below (g := gb107) (o := .cells #[.string a1_0, .slice A1_1 l1_1.length c1_1, .slice A1_2 l1_2.length c1_2, .slice (some ad129) l1_3.length c1_3, .slice A1_4 l1_4.length c1_4, .slice A1_5 l1_5.length c1_5, u108006, u108007, u108008, u108009] 36 (0, 0)) (by (with_reducible repeat (first | refine blk_drewN ?_ _ | refine blk_drew ?_ | refine blk_alloc ?_ _)); exact KE.out) hb)
                  have n9_ := Aside0.mk (blk_below (g := gb130) (o := .cells #[.string ((rd_T81 l1_3 (ji94)).f0), .int .i64 (wrap64 (100 + x10_4)), .int .i64 ((rd_T81 l1_3 (ji94)).f2), .int .i64 ((rd_T81 l1_3 (ji94)).f3)] 84 (0, 0)) (by (with_reducible repeat (first | refine blk_drewN ?_ _ | refine blk_drew ?_ | refine blk_alloc ?_ _)); exact BK130.out) hb)
                  have n10_ := Aside0.mk (below_step (by repeat (first | (with_reducible first | exact HB.out | apply below_alloc | apply pw_below_drewN | apply below_drew1 | refine below_set ?_ GE104.out | refine below_set ?_ GE105.out | refine below_set ?_ GE106.out | refine below_set ?_ GE107.out | refine below_set ?_ GE130.out) | exact HB.out)) hb)
                  clear HO_108006
                  clear HO_108007
                  clear HO_108008
                  clear HO_108009
                  clear KA
                  clear KB
                  clear KC
                  clear KE
                  clear BK130
                  clear HB
                  have HO_108006 := n0_
                  have HO_108007 := n1_
                  have HO_108008 := n2_
                  have HO_108009 := n3_
                  have HO134 := n4_
                  have KA := n5_
                  have KB := n6_
                  have KC := n7_
                  have KE := n8_
                  have BK130 := n9_
                  have HB := n10_
                  clear n0_ n1_ n2_ n3_ n4_ n5_ n6_ n7_ n8_ n9_ n10_
                  (try clear hb)
                  (try clear hb2)
                  (try clear hk)
                  (try clear hi)
                  (try clear ho0)
                  obtain ⟨Ao116, co116, eo116⟩ := Kd.R_slice HO134.out
                  (first | subst eo116 | (injection eo116 with f1_ f2_ f3_; have f4_ := f1_.symm; have f5_ := f3_.symm; clear f1_ f2_ f3_; subst f4_; subst f5_))
                  refine hK.out _ _ ⟨(blk_cell KE.out 0).trans rfl, (blk_cell KE.out 1).trans rfl, (blk_cell KE.out 2).trans rfl, (blk_cell KE.out 3).trans rfl, (blk_cell KE.out 4).trans rfl, (blk_cell KE.out 5).trans rfl, (blk_cell KE.out 6).trans rfl, (blk_cell KE.out 7).trans rfl, (blk_cell KE.out 8).trans rfl, (blk_cell KE.out 9).trans rfl, (blk_cell KA.out 0).trans rfl, (blk_cell KA.out 1).trans rfl, (blk_cell KA.out 2).trans rfl, (blk_cell KA.out 3).trans rfl, (blk_cell BK130.out 0).trans rfl, (blk_cell BK130.out 1).trans rfl, (blk_cell BK130.out 2).trans rfl, (blk_cell BK130.out 3).trans rfl, ((HB.out.cell (World.block_lt_of_cell? w _ hw131_0)).trans hw131_0)⟩ (fun hHeld => ?_)
                  clear hK K
                  refine norm_ (a' := ?_) ?_ ?_
                  rotate_left
                  ·show Act.put _ (some 136) _ = _
                   simp only [Act.put, List.setIfInBounds_toArray, List.set_cons_zero, List.set_cons_succ, i64_w, i32_w]
                   rfl
                  refine pure_ (i := 11) (N := some 139) (v := ?_) (a' := ?_) #[true, true, true, true, true, true, true, true, true, true, true, true, false, false, false, false] rfl rfl (any_of HT_.out (by kernel_rfl)) (fun _ _ _ h => h) (Or.inl ⟨by rfl, ?_⟩) ?_ ?_
                  rotate_left
                  ·intro w'
                   go_simp
                   with_reducible rfl
                  rotate_left
                  ·simp only [Act.put, List.setIfInBounds_toArray, List.set_cons_zero, List.set_cons_succ, i64_w, i32_w]
                   rfl
                  refine one_ (i := 12) (N := some 140) #[true, true, true, true, true, true, true, true, true, true, true, true, true, false, false, false] rfl rfl (one_of HT_.out (by kernel_rfl)) (by decide) (fun K hK => ?_)
                  refine value_ (w1 := ?_) (v := ?_) (by rfl) rfl ?_ ?_
                  rotate_left 2
                  ·go_simp
                   constructor
                   ·rfl
                   ·rfl
                  refine hK.out _ _ ⟨(blk_cell (blk_alloc KE.out _) 0).trans rfl, (blk_cell (blk_alloc KE.out _) 1).trans rfl, (blk_cell (blk_alloc KE.out _) 2).trans rfl, (blk_cell (blk_alloc KE.out _) 3).trans rfl, (blk_cell (blk_alloc KE.out _) 4).trans rfl, (blk_cell (blk_alloc KE.out _) 5).trans rfl, (blk_cell (blk_alloc KE.out _) 6).trans rfl, (blk_cell (blk_alloc KE.out _) 7).trans rfl, (blk_cell (blk_alloc KE.out _) 8).trans rfl, (blk_cell (blk_alloc KE.out _) 9).trans rfl, (blk_cell (blk_alloc KA.out _) 0).trans rfl, (blk_cell (blk_alloc KA.out _) 1).trans rfl, (blk_cell (blk_alloc KA.out _) 2).trans rfl, (blk_cell (blk_alloc KA.out _) 3).trans rfl, (blk_cell (blk_alloc BK130.out _) 0).trans rfl, (blk_cell (blk_alloc BK130.out _) 1).trans rfl, (blk_cell (blk_alloc BK130.out _) 2).trans rfl, (blk_cell (blk_alloc BK130.out _) 3).trans rfl, (World.cell?_alloc_lt _ _ _ (World.block_lt_of_cell? _ _ (((HB.out.cell (World.block_lt_of_cell? w _ hw131_0)).trans hw131_0)))).trans (((HB.out.cell (World.block_lt_of_cell? w _ hw131_0)).trans hw131_0))⟩ (fun hHeld => ?_)
                  clear hK K
                  refine norm_ (a' := ?_) ?_ ?_
                  rotate_left
                  ·show Act.put _ (some 140) _ = _
                   simp only [Act.put, List.setIfInBounds_toArray, List.set_cons_zero, List.set_cons_succ, i64_w, i32_w]
                   rfl
                  refine one_ (i := 13) (N := some 141) #[true, true, true, true, true, true, true, true, true, true, true, true, true, true, false, false] rfl rfl (one_of HT_.out (by kernel_rfl)) (by decide) (fun K hK => ?_)
                  refine Kd.S_append_step k83 (w0 := w) w.heap.size (by rfl) (.tmp 129) (.tmp 140) 34 86 (.agg #[(.slice none 0 0), (.int .i64 0), (.string ⟨#[]⟩), (.int .i64 0), (.int .i64 0), (.int .i64 0)]) 72 rfl Tryz.underlying34 info83 rfl (by decide) (by omega) u108009 x108009_4 (⟨t132, ji94, (⟨(rd_T81 l1_3 (ji94)).f0, wrap64 (100 + x10_4), (rd_T81 l1_3 (ji94)).f2, (rd_T81 l1_3 (ji94)).f3⟩ : S81)⟩ : S83) [.slice Ao116 t132.length co116, .int .i64 ji94, .string ((rd_T81 l1_3 (ji94)).f0), .int .i64 (wrap64 (100 + x10_4)), .int .i64 ((rd_T81 l1_3 (ji94)).f2), .int .i64 ((rd_T81 l1_3 (ji94)).f3)] (fun _ => True) (fun k_ => some k_ = (.slice Ao116 t132.length co116 : Value).ownBlock) rfl rfl ?aP (fun k_ hk_ => ((Kd.R_mono (ok' := fun k_ => ((fun _ => True)) k_ ∧ some k_ ≠ (u108009 : Value).ownBlock) (Kd.R_apart' (HO134.out) (Kd.S_typed HO_108009.out) (by decide)) (fun k_ hk => ⟨trivial, hk.2⟩))).1 k_ hk_.symm) ?aF ?aO ?aB ?aS ?aL ?_
                  (case aP => exact k83_mkM _ _ _ (⟨t132, ji94, (⟨(rd_T81 l1_3 (ji94)).f0, wrap64 (100 + x10_4), (rd_T81 l1_3 (ji94)).f2, (rd_T81 l1_3 (ji94)).f3⟩ : S81)⟩ : S83) (Kd.R_mono (Kd.R_tight rfl (Kd.R_mono (ok' := fun k_ => ((fun _ => True)) k_ ∧ some k_ ≠ (u108009 : Value).ownBlock) (Kd.R_apart' (HO134.out) (Kd.S_typed HO_108009.out) (by decide)) (fun k_ hk => ⟨trivial, hk.2⟩))) (fun _ h_ => h_)))
                  (case aB => exact (by repeat (first | (with_reducible first | exact HB.out | apply below_alloc | apply pw_below_drewN | apply below_drew1 | refine below_set ?_ GE104.out | refine below_set ?_ GE105.out | refine below_set ?_ GE106.out | refine below_set ?_ GE107.out | refine below_set ?_ GE130.out) | exact HB.out)))
                  (case aF => exact (fun _ _ => trivial))
                  (case aO => exact (by (with_reducible repeat (first | apply Kd.S_alloc | apply Kd.S_drewN | apply Kd.S_drew)); exact Kd.S_mono HO_108009.out (fun k_ hk => ⟨trivial, fun e_ => hk.2 e_⟩)))
                  (case aS => exact (below_size (by repeat (first | (with_reducible first | exact HB.out | apply below_alloc | apply pw_below_drewN | apply below_drew1 | refine below_set ?_ GE104.out | refine below_set ?_ GE105.out | refine below_set ?_ GE106.out | refine below_set ?_ GE107.out | refine below_set ?_ GE130.out) | exact HB.out))))
                  (case aL => have := LMc99.out; omega)
                  intro v136 w117 ho hb hg hat
                  rw [← Ny135.out] at ho
                  have n0_ := Aside0.mk (Kd.R_over' (by (with_reducible repeat (first | apply Kd.R_alloc | apply Kd.R_drewN | apply Kd.R_drew)); exact HO_108006.out) (Kd.S_typed (by (with_reducible repeat (first | apply Kd.S_alloc | apply Kd.S_drewN | apply Kd.S_drew)); exact HO_108009.out)) (by decide) hg)
                  have n1_ := Aside0.mk (Kd.S_over' (by (with_reducible repeat (first | apply Kd.S_alloc | apply Kd.S_drewN | apply Kd.S_drew)); exact HO_108007.out) (Kd.S_typed (by (with_reducible repeat (first | apply Kd.S_alloc | apply Kd.S_drewN | apply Kd.S_drew)); exact HO_108009.out)) (by decide) hg)
                  have n2_ := Aside0.mk (Kd.S_over' (by (with_reducible repeat (first | apply Kd.S_alloc | apply Kd.S_drewN | apply Kd.S_drew)); exact HO_108008.out) (Kd.S_typed (by (with_reducible repeat (first | apply Kd.S_alloc | apply Kd.S_drewN | apply Kd.S_drew)); exact HO_108009.out)) (by decide) hg)
                  have n3_ := Aside0.mk (blk_grown (g := gb104) (o := .cells #[.int .u8 a0_0, .slice A0_1 l0_1.length c0_1, .slice A0_2 l0_2.length c0_2, .slice (some ad131) l0_3.length c0_3] 70 (0, 0)) (by (with_reducible repeat (first | refine blk_drewN ?_ _ | refine blk_drew ?_ | refine blk_alloc ?_ _)); exact KA.out) hg (Kd.S_ne HO_108009.out KA.out (by decide)))
                  have n4_ := Aside0.mk (blk_grown (g := gb105) (o := .cells #[.string a1_0, .slice A1_1 l1_1.length c1_1, .slice A1_2 l1_2.length c1_2, .slice (some ad129) l1_3.length c1_3, .slice A1_4 l1_4.length c1_4, .slice A1_5 l1_5.length c1_5] 30 (0, 0)) (by (with_reducible repeat (first | refine blk_drewN ?_ _ | refine blk_drew ?_ | refine blk_alloc ?_ _)); exact KB.out) hg (Kd.S_ne HO_108009.out KB.out (by decide)))
                  have n5_ := Aside0.mk (blk_grown (g := gb106) (o := .cells #[.string (⟨#[]⟩ : ByteArray), .slice none 0 0, .slice none 0 0, .slice none 0 0, .slice none 0 0, .slice none 0 0, .slice none 0 0, .slice none 0 0, .slice none 0 0, .slice none 0 0] 36 (0, 0)) (by (with_reducible repeat (first | refine blk_drewN ?_ _ | refine blk_drew ?_ | refine blk_alloc ?_ _)); exact KC.out) hg (Kd.S_ne HO_108009.out KC.out (by decide)))
                  have n6_ := Aside0.mk (blk_grown (g := gb107) (o := .cells #[.string a1_0, .slice A1_1 l1_1.length c1_1, .slice A1_2 l1_2.length c1_2, .slice (some ad129) l1_3.length c1_3, .slice A1_4 l1_4.length c1_4, .slice A1_5 l1_5.length c1_5, u108006, u108007, u108008, u108009] 36 (0, 0)) (by (with_reducible repeat (first | refine blk_drewN ?_ _ | refine blk_drew ?_ | refine blk_alloc ?_ _)); exact KE.out) hg (Kd.S_ne HO_108009.out KE.out (by decide)))
                  have n7_ := Aside0.mk (blk_grown (g := gb130) (o := .cells #[.string ((rd_T81 l1_3 (ji94)).f0), .int .i64 (wrap64 (100 + x10_4)), .int .i64 ((rd_T81 l1_3 (ji94)).f2), .int .i64 ((rd_T81 l1_3 (ji94)).f3)] 84 (0, 0)) (by (with_reducible repeat (first | refine blk_drewN ?_ _ | refine blk_drew ?_ | refine blk_alloc ?_ _)); exact BK130.out) hg (Kd.S_ne HO_108009.out BK130.out (by decide)))
                  have n8_ := Aside0.mk (hb)
                  have n9_ := Aside0.mk (ho)
                  clear HO_108006
                  clear HO_108007
                  clear HO_108008
                  clear KA
                  clear KB
                  clear KC
                  clear KE
                  clear BK130
                  clear HB
                  clear HO_108009
                  clear HO134
                  have HO_108006 := n0_
                  have HO_108007 := n1_
                  have HO_108008 := n2_
                  have KA := n3_
                  have KB := n4_
                  have KC := n5_
                  have KE := n6_
                  have BK130 := n7_
                  have HB := n8_
                  have HO137 := n9_
                  clear n0_ n1_ n2_ n3_ n4_ n5_ n6_ n7_ n8_ n9_
                  clear ho hb hg hat
                  obtain ⟨Ao118, co118, eo118⟩ := Kd.S_slice HO137.out
                  (first | subst eo118 | (injection eo118 with f1_ f2_ f3_; have f4_ := f1_.symm; have f5_ := f3_.symm; clear f1_ f2_ f3_; subst f4_; subst f5_))
                  refine hK.out _ _ ⟨(blk_cell KE.out 0).trans rfl, (blk_cell KE.out 1).trans rfl, (blk_cell KE.out 2).trans rfl, (blk_cell KE.out 3).trans rfl, (blk_cell KE.out 4).trans rfl, (blk_cell KE.out 5).trans rfl, (blk_cell KE.out 6).trans rfl, (blk_cell KE.out 7).trans rfl, (blk_cell KE.out 8).trans rfl, (blk_cell KE.out 9).trans rfl, (blk_cell KA.out 0).trans rfl, (blk_cell KA.out 1).trans rfl, (blk_cell KA.out 2).trans rfl, (blk_cell KA.out 3).trans rfl, (blk_cell BK130.out 0).trans rfl, (blk_cell BK130.out 1).trans rfl, (blk_cell BK130.out 2).trans rfl, (blk_cell BK130.out 3).trans rfl, ((HB.out.cell (World.block_lt_of_cell? w _ hw131_0)).trans hw131_0)⟩ (fun hHeld => ?_)
                  clear hK K
                  refine norm_ (a' := ?_) ?_ ?_
                  rotate_left
                  ·show Act.put _ (some 141) _ = _
                   simp only [Act.put, List.setIfInBounds_toArray, List.set_cons_zero, List.set_cons_succ, i64_w, i32_w]
                   rfl
                  refine pure_ (i := 14) (N := some 142) (v := ?_) (a' := ?_) #[true, true, true, true, true, true, true, true, true, true, true, true, true, true, true, false] rfl rfl (any_of HT_.out (by kernel_rfl)) (fun _ _ _ h => h) (Or.inl ⟨by rfl, ?_⟩) ?_ ?_
                  rotate_left
                  ·intro w'
                   go_simp
                   with_reducible rfl
                  rotate_left
                  ·simp only [Act.put, List.setIfInBounds_toArray, List.set_cons_zero, List.set_cons_succ, i64_w, i32_w]
                   rfl
                  refine last_ (i := 15) (N := none) #[true, true, true, true, true, true, true, true, true, true, true, true, true, true, true, true] rfl rfl (one_of HT_.out (by kernel_rfl)) (by decide) (fun K hK => ?_)
                  have hs119 : w117.cell? ⟨gb107, 9, none⟩ = some (u108009) := (blk_cell KE.out 9).trans rfl
                  have hfs119 := blk_frozen KE.out 9
                  have hns119_0 := NB104_107.out
                  have hns119_1 := NB105_107.out
                  have hns119_2 := NB106_107.out
                  have hns119_4 := NB130_107.out
                  have hms119_0 := NB107_104.out
                  have hms119_1 := NB107_105.out
                  have hms119_2 := NB107_106.out
                  have hms119_4 := NB107_130.out
                  refine skip_ (w1 := ?_) (by rfl) rfl ?_ ?_
                  rotate_left
                  ·go_simp
                   rfl
                  refine hK.out _ _ ?_
                  clear hK K
                  refine done_ (done_of HT_.out (by kernel_rfl)) ?_
                  try go_wp2
                  go_roundg k4
                  case measure => have := HK1.out; have := HJ23.out; have := HJ53.out; have := HK4.out; omega
                  case rel => exact ⟨(wrap64 (x10_4 + 1)), (y135), (.slice Ao118 y135.length co118), (by first | rfl | (simp; done) | (simp [*]; done)), H', ⟨by have := HK1.out; have := HJ23.out; have := HJ53.out; have := HK4.out; omega⟩, ⟨by (with_reducible repeat (first | apply Kd.R_alloc | apply Kd.R_drewN | apply Kd.R_drew)); exact Kd.R_mono (Kd.R_far (p := ⟨gb107, 9, none⟩) (Kd.R_types HO_108006.out KE.out (by decide)) (fun _ hk => hk.2) (.slice Ao118 y135.length co118)) (fun _ hk => trivial)⟩, ⟨by (with_reducible repeat (first | apply Kd.S_alloc | apply Kd.S_drewN | apply Kd.S_drew)); exact Kd.S_mono (Kd.S_far (p := ⟨gb107, 9, none⟩) (Kd.S_types HO_108007.out KE.out (by decide)) (fun _ hk => hk.2) (.slice Ao118 y135.length co118)) (fun _ hk => trivial)⟩, ⟨by (with_reducible repeat (first | apply Kd.S_alloc | apply Kd.S_drewN | apply Kd.S_drew)); exact Kd.S_mono (Kd.S_far (p := ⟨gb107, 9, none⟩) (Kd.S_types HO_108008.out KE.out (by decide)) (fun _ hk => hk.2) (.slice Ao118 y135.length co118)) (fun _ hk => trivial)⟩, ⟨by (with_reducible repeat (first | apply Kd.S_alloc | apply Kd.S_drewN | apply Kd.S_drew)); exact Kd.S_mono (Kd.S_far (p := ⟨gb107, 9, none⟩) (Kd.S_types HO137.out KE.out (by decide)) (fun _ hk => hk.2) (.slice Ao118 y135.length co118)) (fun _ hk => trivial)⟩, ⟨by (with_reducible repeat (first | refine blk_drewN ?_ _ | refine blk_drew ?_ | refine blk_alloc ?_ _)); refine blk_far ?_ NB104_107.out _; (with_reducible repeat (first | refine blk_drewN ?_ _ | refine blk_drew ?_ | refine blk_alloc ?_ _)); exact KA.out⟩, ⟨by (with_reducible repeat (first | refine blk_drewN ?_ _ | refine blk_drew ?_ | refine blk_alloc ?_ _)); refine blk_far ?_ NB105_107.out _; (with_reducible repeat (first | refine blk_drewN ?_ _ | refine blk_drew ?_ | refine blk_alloc ?_ _)); exact KB.out⟩, ⟨by (with_reducible repeat (first | refine blk_drewN ?_ _ | refine blk_drew ?_ | refine blk_alloc ?_ _)); refine blk_far ?_ NB106_107.out _; (with_reducible repeat (first | refine blk_drewN ?_ _ | refine blk_drew ?_ | refine blk_alloc ?_ _)); exact KC.out⟩, ⟨by (with_reducible repeat (first | refine blk_drewN ?_ _ | refine blk_drew ?_ | refine blk_alloc ?_ _)); refine blk_put (cs := #[.string a1_0, .slice A1_1 l1_1.length c1_1, .slice A1_2 l1_2.length c1_2, .slice (some ad129) l1_3.length c1_3, .slice A1_4 l1_4.length c1_4, .slice A1_5 l1_5.length c1_5, u108006, u108007, u108008, u108009]) ?_ 9 _ rfl; (with_reducible repeat (first | refine blk_drewN ?_ _ | refine blk_drew ?_ | refine blk_alloc ?_ _)); exact KE.out⟩, ⟨by repeat (first | (with_reducible first | exact HB.out | apply below_alloc | apply pw_below_drewN | apply below_drew1 | refine below_set ?_ GE104.out | refine below_set ?_ GE105.out | refine below_set ?_ GE106.out | refine below_set ?_ GE107.out | refine below_set ?_ GE130.out) | exact HB.out)⟩⟩
                 ·rw [if_neg c99] at H
                  exact absurd H (by simp)
                ·rw [if_neg c97] at H
                 exact absurd H (by simp)
               ·rw [if_neg c96] at H
                exact absurd H (by simp)
              ·rw [if_neg c95] at H
               exact absurd H (by simp)
            ·rw [if_neg c92] at H
             have c92b0 : decide (0 < (l1_3.length : Int)) = false := decide_eq_false c92
             have c92b1 : decide (0 < l1_3.length) = false := decide_eq_false (by omega)
             clear c92
             simp only [Option.some.injEq, Prod.mk.injEq] at H
             obtain ⟨rfl, rfl, rfl, rfl, rfl, rfl, rfl, rfl, rfl, rfl⟩ := H
             have hnb120 := NB104_105.out
             have hnc120 := NB105_104.out
             have hnb121 := NB104_106.out
             have hnc121 := NB106_104.out
             have hnb122 := NB104_107.out
             have hnc122 := NB107_104.out
             have hcz123_0 : wr.cell? ⟨gb104, 0, none⟩ = some (.int .u8 a0_0) := (blk_cell KA.out 0).trans rfl
             have hcz123_1 : wr.cell? ⟨gb104, 1, none⟩ = some (.slice A0_1 l0_1.length c0_1) := (blk_cell KA.out 1).trans rfl
             have hcz123_2 : wr.cell? ⟨gb104, 2, none⟩ = some (.slice A0_2 l0_2.length c0_2) := (blk_cell KA.out 2).trans rfl
             have hcz123_3 : wr.cell? ⟨gb104, 3, none⟩ = some (.slice A0_3 l0_3.length c0_3) := (blk_cell KA.out 3).trans rfl
             have hfz123_0 := blk_frozen KA.out 0
             have hfz123_1 := blk_frozen KA.out 1
             have hfz123_2 := blk_frozen KA.out 2
             have hfz123_3 := blk_frozen KA.out 3
             have hnb124 := NB105_106.out
             have hnc124 := NB106_105.out
             have hnb125 := NB105_107.out
             have hnc125 := NB107_105.out
             have hcz126_0 : wr.cell? ⟨gb105, 0, none⟩ = some (.string a1_0) := (blk_cell KB.out 0).trans rfl
             have hcz126_1 : wr.cell? ⟨gb105, 1, none⟩ = some (.slice A1_1 l1_1.length c1_1) := (blk_cell KB.out 1).trans rfl
             have hcz126_2 : wr.cell? ⟨gb105, 2, none⟩ = some (.slice A1_2 l1_2.length c1_2) := (blk_cell KB.out 2).trans rfl
             have hcz126_3 : wr.cell? ⟨gb105, 3, none⟩ = some (.slice A1_3 l1_3.length c1_3) := (blk_cell KB.out 3).trans rfl
             have hcz126_4 : wr.cell? ⟨gb105, 4, none⟩ = some (.slice A1_4 l1_4.length c1_4) := (blk_cell KB.out 4).trans rfl
             have hcz126_5 : wr.cell? ⟨gb105, 5, none⟩ = some (.slice A1_5 l1_5.length c1_5) := (blk_cell KB.out 5).trans rfl
             have hfz126_0 := blk_frozen KB.out 0
             have hfz126_1 := blk_frozen KB.out 1
             have hfz126_2 := blk_frozen KB.out 2
             have hfz126_3 := blk_frozen KB.out 3
             have hfz126_4 := blk_frozen KB.out 4
             have hfz126_5 := blk_frozen KB.out 5
             have hnb127 := NB107_106.out
             have hnc127 := NB106_107.out
             have hcz128_0 : wr.cell? ⟨gb107, 0, none⟩ = some (.string a1_0) := (blk_cell KE.out 0).trans rfl
             have hcz128_1 : wr.cell? ⟨gb107, 1, none⟩ = some (.slice A1_1 l1_1.length c1_1) := (blk_cell KE.out 1).trans rfl
             have hcz128_2 : wr.cell? ⟨gb107, 2, none⟩ = some (.slice A1_2 l1_2.length c1_2) := (blk_cell KE.out 2).trans rfl
             have hcz128_3 : wr.cell? ⟨gb107, 3, none⟩ = some (.slice A1_3 l1_3.length c1_3) := (blk_cell KE.out 3).trans rfl
             have hcz128_4 : wr.cell? ⟨gb107, 4, none⟩ = some (.slice A1_4 l1_4.length c1_4) := (blk_cell KE.out 4).trans rfl
             have hcz128_5 : wr.cell? ⟨gb107, 5, none⟩ = some (.slice A1_5 l1_5.length c1_5) := (blk_cell KE.out 5).trans rfl
             have hcz128_6 : wr.cell? ⟨gb107, 6, none⟩ = some (u108006) := (blk_cell KE.out 6).trans rfl
             have hcz128_7 : wr.cell? ⟨gb107, 7, none⟩ = some (u108007) := (blk_cell KE.out 7).trans rfl
             have hcz128_8 : wr.cell? ⟨gb107, 8, none⟩ = some (u108008) := (blk_cell KE.out 8).trans rfl
             have hcz128_9 : wr.cell? ⟨gb107, 9, none⟩ = some (u108009) := (blk_cell KE.out 9).trans rfl
             have hfz128_0 := blk_frozen KE.out 0
             have hfz128_1 := blk_frozen KE.out 1
             have hfz128_2 := blk_frozen KE.out 2
             have hfz128_3 := blk_frozen KE.out 3
             have hfz128_4 := blk_frozen KE.out 4
             have hfz128_5 := blk_frozen KE.out 5
             have hfz128_6 := blk_frozen KE.out 6
             have hfz128_7 := blk_frozen KE.out 7
             have hfz128_8 := blk_frozen KE.out 8
             have hfz128_9 := blk_frozen KE.out 9
             have hcz129_0 : wr.cell? ⟨gb106, 0, none⟩ = some (.string (⟨#[]⟩ : ByteArray)) := (blk_cell KC.out 0).trans rfl
             have hcz129_1 : wr.cell? ⟨gb106, 1, none⟩ = some (.slice none 0 0) := (blk_cell KC.out 1).trans rfl
             have hcz129_2 : wr.cell? ⟨gb106, 2, none⟩ = some (.slice none 0 0) := (blk_cell KC.out 2).trans rfl
             have hcz129_3 : wr.cell? ⟨gb106, 3, none⟩ = some (.slice none 0 0) := (blk_cell KC.out 3).trans rfl
             have hcz129_4 : wr.cell? ⟨gb106, 4, none⟩ = some (.slice none 0 0) := (blk_cell KC.out 4).trans rfl
             have hcz129_5 : wr.cell? ⟨gb106, 5, none⟩ = some (.slice none 0 0) := (blk_cell KC.out 5).trans rfl
             have hcz129_6 : wr.cell? ⟨gb106, 6, none⟩ = some (.slice none 0 0) := (blk_cell KC.out 6).trans rfl
             have hcz129_7 : wr.cell? ⟨gb106, 7, none⟩ = some (.slice none 0 0) := (blk_cell KC.out 7).trans rfl
             have hcz129_8 : wr.cell? ⟨gb106, 8, none⟩ = some (.slice none 0 0) := (blk_cell KC.out 8).trans rfl
             have hcz129_9 : wr.cell? ⟨gb106, 9, none⟩ = some (.slice none 0 0) := (blk_cell KC.out 9).trans rfl
             have hfz129_0 := blk_frozen KC.out 0
             have hfz129_1 := blk_frozen KC.out 1
             have hfz129_2 := blk_frozen KC.out 2
             have hfz129_3 := blk_frozen KC.out 3
             have hfz129_4 := blk_frozen KC.out 4
             have hfz129_5 := blk_frozen KC.out 5
             have hfz129_6 := blk_frozen KC.out 6
             have hfz129_7 := blk_frozen KC.out 7
             have hfz129_8 := blk_frozen KC.out 8
             have hfz129_9 := blk_frozen KC.out 9
             obtain ⟨Ao130, co130, eo130⟩ := Kd.R_slice HO_108006.out
             subst eo130
             obtain ⟨Ao131, co131, eo131⟩ := Kd.S_slice HO_108007.out
             subst eo131
             obtain ⟨Ao132, co132, eo132⟩ := Kd.S_slice HO_108008.out
             subst eo132
             obtain ⟨Ao133, co133, eo133⟩ := Kd.S_slice HO_108009.out
             subst eo133
             go_wp2
             refine bodyPost_ret (results_cell_row rfl _ _ gb106 36 #[.string a1_0, .slice A1_1 l1_1.length c1_1, .slice A1_2 l1_2.length c1_2, .slice A1_3 l1_3.length c1_3, .slice A1_4 l1_4.length c1_4, .slice A1_5 l1_5.length c1_5, .slice Ao130 x108006_1.length co130, .slice Ao131 x108007_23.length co131, .slice Ao132 x108008_53.length co132, .slice Ao133 x108009_4.length co133] (0, 0) _ rfl (by (with_reducible repeat (first | refine blk_drewN ?_ _ | refine blk_drew ?_ | refine blk_alloc ?_ _)); refine blk_put (cs := #[.string a1_0, .slice A1_1 l1_1.length c1_1, .slice A1_2 l1_2.length c1_2, .slice A1_3 l1_3.length c1_3, .slice A1_4 l1_4.length c1_4, .slice A1_5 l1_5.length c1_5, .slice Ao130 x108006_1.length co130, .slice Ao131 x108007_23.length co131, .slice Ao132 x108008_53.length co132, .slice none 0 0]) ?_ 9 _ rfl; (with_reducible repeat (first | refine blk_drewN ?_ _ | refine blk_drew ?_ | refine blk_alloc ?_ _)); refine blk_put (cs := #[.string a1_0, .slice A1_1 l1_1.length c1_1, .slice A1_2 l1_2.length c1_2, .slice A1_3 l1_3.length c1_3, .slice A1_4 l1_4.length c1_4, .slice A1_5 l1_5.length c1_5, .slice Ao130 x108006_1.length co130, .slice Ao131 x108007_23.length co131, .slice none 0 0, .slice none 0 0]) ?_ 8 _ rfl; (with_reducible repeat (first | refine blk_drewN ?_ _ | refine blk_drew ?_ | refine blk_alloc ?_ _)); refine blk_put (cs := #[.string a1_0, .slice A1_1 l1_1.length c1_1, .slice A1_2 l1_2.length c1_2, .slice A1_3 l1_3.length c1_3, .slice A1_4 l1_4.length c1_4, .slice A1_5 l1_5.length c1_5, .slice Ao130 x108006_1.length co130, .slice none 0 0, .slice none 0 0, .slice none 0 0]) ?_ 7 _ rfl; (with_reducible repeat (first | refine blk_drewN ?_ _ | refine blk_drew ?_ | refine blk_alloc ?_ _)); refine blk_put (cs := #[.string a1_0, .slice A1_1 l1_1.length c1_1, .slice A1_2 l1_2.length c1_2, .slice A1_3 l1_3.length c1_3, .slice A1_4 l1_4.length c1_4, .slice A1_5 l1_5.length c1_5, .slice none 0 0, .slice none 0 0, .slice none 0 0, .slice none 0 0]) ?_ 6 _ rfl; (with_reducible repeat (first | refine blk_drewN ?_ _ | refine blk_drew ?_ | refine blk_alloc ?_ _)); refine blk_put (cs := #[.string a1_0, .slice A1_1 l1_1.length c1_1, .slice A1_2 l1_2.length c1_2, .slice A1_3 l1_3.length c1_3, .slice A1_4 l1_4.length c1_4, .slice none 0 0, .slice none 0 0, .slice none 0 0, .slice none 0 0, .slice none 0 0]) ?_ 5 _ rfl; (with_reducible repeat (first | refine blk_drewN ?_ _ | refine blk_drew ?_ | refine blk_alloc ?_ _)); refine blk_put (cs := #[.string a1_0, .slice A1_1 l1_1.length c1_1, .slice A1_2 l1_2.length c1_2, .slice A1_3 l1_3.length c1_3, .slice none 0 0, .slice none 0 0, .slice none 0 0, .slice none 0 0, .slice none 0 0, .slice none 0 0]) ?_ 4 _ rfl; (with_reducible repeat (first | refine blk_drewN ?_ _ | refine blk_drew ?_ | refine blk_alloc ?_ _)); refine blk_put (cs := #[.string a1_0, .slice A1_1 l1_1.length c1_1, .slice A1_2 l1_2.length c1_2, .slice none 0 0, .slice none 0 0, .slice none 0 0, .slice none 0 0, .slice none 0 0, .slice none 0 0, .slice none 0 0]) ?_ 3 _ rfl; (with_reducible repeat (first | refine blk_drewN ?_ _ | refine blk_drew ?_ | refine blk_alloc ?_ _)); refine blk_put (cs := #[.string a1_0, .slice A1_1 l1_1.length c1_1, .slice none 0 0, .slice none 0 0, .slice none 0 0, .slice none 0 0, .slice none 0 0, .slice none 0 0, .slice none 0 0, .slice none 0 0]) ?_ 2 _ rfl; (with_reducible repeat (first | refine blk_drewN ?_ _ | refine blk_drew ?_ | refine blk_alloc ?_ _)); refine blk_put (cs := #[.string a1_0, .slice none 0 0, .slice none 0 0, .slice none 0 0, .slice none 0 0, .slice none 0 0, .slice none 0 0, .slice none 0 0, .slice none 0 0, .slice none 0 0]) ?_ 1 _ rfl; (with_reducible repeat (first | refine blk_drewN ?_ _ | refine blk_drew ?_ | refine blk_alloc ?_ _)); refine blk_put (cs := #[.string (⟨#[]⟩ : ByteArray), .slice none 0 0, .slice none 0 0, .slice none 0 0, .slice none 0 0, .slice none 0 0, .slice none 0 0, .slice none 0 0, .slice none 0 0, .slice none 0 0]) ?_ 0 _ rfl; (with_reducible repeat (first | refine blk_drewN ?_ _ | refine blk_drew ?_ | refine blk_alloc ?_ _)); exact KC.out) Tryz.underlying36 rfl (by kernel_rfl)) rfl ?_
             exact ⟨_, _, _, _, by first | rfl | (simp [errW_none, errW_some] <;> rfl) | (simp [*, errW_none, errW_some] <;> rfl), by (with_reducible repeat (first | apply Kd.R_alloc | apply Kd.R_drewN | apply Kd.R_drew)); exact Kd.R_mono (Kd.R_far (p := ⟨gb106, 9, none⟩) (Kd.R_far (p := ⟨gb106, 8, none⟩) (Kd.R_far (p := ⟨gb106, 7, none⟩) (Kd.R_far (p := ⟨gb106, 6, none⟩) (Kd.R_far (p := ⟨gb106, 5, none⟩) (Kd.R_far (p := ⟨gb106, 4, none⟩) (Kd.R_far (p := ⟨gb106, 3, none⟩) (Kd.R_far (p := ⟨gb106, 2, none⟩) (Kd.R_far (p := ⟨gb106, 1, none⟩) (Kd.R_far (p := ⟨gb106, 0, none⟩) (Kd.R_types HO_108006.out KC.out (by decide)) (fun _ hk => hk.2) (.string a1_0)) (fun _ hk => hk.2) (.slice A1_1 l1_1.length c1_1)) (fun _ hk => hk.2) (.slice A1_2 l1_2.length c1_2)) (fun _ hk => hk.2) (.slice A1_3 l1_3.length c1_3)) (fun _ hk => hk.2) (.slice A1_4 l1_4.length c1_4)) (fun _ hk => hk.2) (.slice A1_5 l1_5.length c1_5)) (fun _ hk => hk.2) (.slice Ao130 x108006_1.length co130)) (fun _ hk => hk.2) (.slice Ao131 x108007_23.length co131)) (fun _ hk => hk.2) (.slice Ao132 x108008_53.length co132)) (fun _ hk => hk.2) (.slice Ao133 x108009_4.length co133)) (fun _ hk => trivial), by (with_reducible repeat (first | apply Kd.S_alloc | apply Kd.S_drewN | apply Kd.S_drew)); exact Kd.S_mono (Kd.S_far (p := ⟨gb106, 9, none⟩) (Kd.S_far (p := ⟨gb106, 8, none⟩) (Kd.S_far (p := ⟨gb106, 7, none⟩) (Kd.S_far (p := ⟨gb106, 6, none⟩) (Kd.S_far (p := ⟨gb106, 5, none⟩) (Kd.S_far (p := ⟨gb106, 4, none⟩) (Kd.S_far (p := ⟨gb106, 3, none⟩) (Kd.S_far (p := ⟨gb106, 2, none⟩) (Kd.S_far (p := ⟨gb106, 1, none⟩) (Kd.S_far (p := ⟨gb106, 0, none⟩) (Kd.S_types HO_108007.out KC.out (by decide)) (fun _ hk => hk.2) (.string a1_0)) (fun _ hk => hk.2) (.slice A1_1 l1_1.length c1_1)) (fun _ hk => hk.2) (.slice A1_2 l1_2.length c1_2)) (fun _ hk => hk.2) (.slice A1_3 l1_3.length c1_3)) (fun _ hk => hk.2) (.slice A1_4 l1_4.length c1_4)) (fun _ hk => hk.2) (.slice A1_5 l1_5.length c1_5)) (fun _ hk => hk.2) (.slice Ao130 x108006_1.length co130)) (fun _ hk => hk.2) (.slice Ao131 x108007_23.length co131)) (fun _ hk => hk.2) (.slice Ao132 x108008_53.length co132)) (fun _ hk => hk.2) (.slice Ao133 x108009_4.length co133)) (fun _ hk => trivial), by (with_reducible repeat (first | apply Kd.S_alloc | apply Kd.S_drewN | apply Kd.S_drew)); exact Kd.S_mono (Kd.S_far (p := ⟨gb106, 9, none⟩) (Kd.S_far (p := ⟨gb106, 8, none⟩) (Kd.S_far (p := ⟨gb106, 7, none⟩) (Kd.S_far (p := ⟨gb106, 6, none⟩) (Kd.S_far (p := ⟨gb106, 5, none⟩) (Kd.S_far (p := ⟨gb106, 4, none⟩) (Kd.S_far (p := ⟨gb106, 3, none⟩) (Kd.S_far (p := ⟨gb106, 2, none⟩) (Kd.S_far (p := ⟨gb106, 1, none⟩) (Kd.S_far (p := ⟨gb106, 0, none⟩) (Kd.S_types HO_108008.out KC.out (by decide)) (fun _ hk => hk.2) (.string a1_0)) (fun _ hk => hk.2) (.slice A1_1 l1_1.length c1_1)) (fun _ hk => hk.2) (.slice A1_2 l1_2.length c1_2)) (fun _ hk => hk.2) (.slice A1_3 l1_3.length c1_3)) (fun _ hk => hk.2) (.slice A1_4 l1_4.length c1_4)) (fun _ hk => hk.2) (.slice A1_5 l1_5.length c1_5)) (fun _ hk => hk.2) (.slice Ao130 x108006_1.length co130)) (fun _ hk => hk.2) (.slice Ao131 x108007_23.length co131)) (fun _ hk => hk.2) (.slice Ao132 x108008_53.length co132)) (fun _ hk => hk.2) (.slice Ao133 x108009_4.length co133)) (fun _ hk => trivial), by (with_reducible repeat (first | apply Kd.S_alloc | apply Kd.S_drewN | apply Kd.S_drew)); exact Kd.S_mono (Kd.S_far (p := ⟨gb106, 9, none⟩) (Kd.S_far (p := ⟨gb106, 8, none⟩) (Kd.S_far (p := ⟨gb106, 7, none⟩) (Kd.S_far (p := ⟨gb106, 6, none⟩) (Kd.S_far (p := ⟨gb106, 5, none⟩) (Kd.S_far (p := ⟨gb106, 4, none⟩) (Kd.S_far (p := ⟨gb106, 3, none⟩) (Kd.S_far (p := ⟨gb106, 2, none⟩) (Kd.S_far (p := ⟨gb106, 1, none⟩) (Kd.S_far (p := ⟨gb106, 0, none⟩) (Kd.S_types HO_108009.out KC.out (by decide)) (fun _ hk => hk.2) (.string a1_0)) (fun _ hk => hk.2) (.slice A1_1 l1_1.length c1_1)) (fun _ hk => hk.2) (.slice A1_2 l1_2.length c1_2)) (fun _ hk => hk.2) (.slice A1_3 l1_3.length c1_3)) (fun _ hk => hk.2) (.slice A1_4 l1_4.length c1_4)) (fun _ hk => hk.2) (.slice A1_5 l1_5.length c1_5)) (fun _ hk => hk.2) (.slice Ao130 x108006_1.length co130)) (fun _ hk => hk.2) (.slice Ao131 x108007_23.length co131)) (fun _ hk => hk.2) (.slice Ao132 x108008_53.length co132)) (fun _ hk => hk.2) (.slice Ao133 x108009_4.length co133)) (fun _ hk => trivial), by repeat (first | (with_reducible first | exact HB.out | apply below_alloc | apply pw_below_drewN | apply below_drew1 | refine below_set ?_ GE104.out | refine below_set ?_ GE105.out | refine below_set ?_ GE106.out | refine below_set ?_ GE107.out) | exact HB.out)⟩
           ·rw [if_neg c91] at H
            have c91b0 : decide (x10_4 < 4) = false := decide_eq_false c91
            clear c91
            simp only [Option.some.injEq, Prod.mk.injEq] at H
            obtain ⟨rfl, rfl, rfl, rfl, rfl, rfl, rfl, rfl, rfl, rfl⟩ := H
            have hnb134 := NB104_105.out
            have hnc134 := NB105_104.out
            have hnb135 := NB104_106.out
            have hnc135 := NB106_104.out
            have hnb136 := NB104_107.out
            have hnc136 := NB107_104.out
            have hcz137_0 : wr.cell? ⟨gb104, 0, none⟩ = some (.int .u8 a0_0) := (blk_cell KA.out 0).trans rfl
            have hcz137_1 : wr.cell? ⟨gb104, 1, none⟩ = some (.slice A0_1 l0_1.length c0_1) := (blk_cell KA.out 1).trans rfl
            have hcz137_2 : wr.cell? ⟨gb104, 2, none⟩ = some (.slice A0_2 l0_2.length c0_2) := (blk_cell KA.out 2).trans rfl
            have hcz137_3 : wr.cell? ⟨gb104, 3, none⟩ = some (.slice A0_3 l0_3.length c0_3) := (blk_cell KA.out 3).trans rfl
            have hfz137_0 := blk_frozen KA.out 0
            have hfz137_1 := blk_frozen KA.out 1
            have hfz137_2 := blk_frozen KA.out 2
            have hfz137_3 := blk_frozen KA.out 3
            have hnb138 := NB107_105.out
            have hnc138 := NB105_107.out
            have hnb139 := NB107_106.out
            have hnc139 := NB106_107.out
            have hcz140_0 : wr.cell? ⟨gb107, 0, none⟩ = some (.string a1_0) := (blk_cell KE.out 0).trans rfl
            have hcz140_1 : wr.cell? ⟨gb107, 1, none⟩ = some (.slice A1_1 l1_1.length c1_1) := (blk_cell KE.out 1).trans rfl
            have hcz140_2 : wr.cell? ⟨gb107, 2, none⟩ = some (.slice A1_2 l1_2.length c1_2) := (blk_cell KE.out 2).trans rfl
            have hcz140_3 : wr.cell? ⟨gb107, 3, none⟩ = some (.slice A1_3 l1_3.length c1_3) := (blk_cell KE.out 3).trans rfl
            have hcz140_4 : wr.cell? ⟨gb107, 4, none⟩ = some (.slice A1_4 l1_4.length c1_4) := (blk_cell KE.out 4).trans rfl
            have hcz140_5 : wr.cell? ⟨gb107, 5, none⟩ = some (.slice A1_5 l1_5.length c1_5) := (blk_cell KE.out 5).trans rfl
            have hcz140_6 : wr.cell? ⟨gb107, 6, none⟩ = some (u108006) := (blk_cell KE.out 6).trans rfl
            have hcz140_7 : wr.cell? ⟨gb107, 7, none⟩ = some (u108007) := (blk_cell KE.out 7).trans rfl
            have hcz140_8 : wr.cell? ⟨gb107, 8, none⟩ = some (u108008) := (blk_cell KE.out 8).trans rfl
            have hcz140_9 : wr.cell? ⟨gb107, 9, none⟩ = some (u108009) := (blk_cell KE.out 9).trans rfl
            have hfz140_0 := blk_frozen KE.out 0
            have hfz140_1 := blk_frozen KE.out 1
            have hfz140_2 := blk_frozen KE.out 2
            have hfz140_3 := blk_frozen KE.out 3
            have hfz140_4 := blk_frozen KE.out 4
            have hfz140_5 := blk_frozen KE.out 5
            have hfz140_6 := blk_frozen KE.out 6
            have hfz140_7 := blk_frozen KE.out 7
            have hfz140_8 := blk_frozen KE.out 8
            have hfz140_9 := blk_frozen KE.out 9
            have hnb141 := NB106_105.out
            have hnc141 := NB105_106.out
            have hcz142_0 : wr.cell? ⟨gb106, 0, none⟩ = some (.string (⟨#[]⟩ : ByteArray)) := (blk_cell KC.out 0).trans rfl
            have hcz142_1 : wr.cell? ⟨gb106, 1, none⟩ = some (.slice none 0 0) := (blk_cell KC.out 1).trans rfl
            have hcz142_2 : wr.cell? ⟨gb106, 2, none⟩ = some (.slice none 0 0) := (blk_cell KC.out 2).trans rfl
            have hcz142_3 : wr.cell? ⟨gb106, 3, none⟩ = some (.slice none 0 0) := (blk_cell KC.out 3).trans rfl
            have hcz142_4 : wr.cell? ⟨gb106, 4, none⟩ = some (.slice none 0 0) := (blk_cell KC.out 4).trans rfl
            have hcz142_5 : wr.cell? ⟨gb106, 5, none⟩ = some (.slice none 0 0) := (blk_cell KC.out 5).trans rfl
            have hcz142_6 : wr.cell? ⟨gb106, 6, none⟩ = some (.slice none 0 0) := (blk_cell KC.out 6).trans rfl
            have hcz142_7 : wr.cell? ⟨gb106, 7, none⟩ = some (.slice none 0 0) := (blk_cell KC.out 7).trans rfl
            have hcz142_8 : wr.cell? ⟨gb106, 8, none⟩ = some (.slice none 0 0) := (blk_cell KC.out 8).trans rfl
            have hcz142_9 : wr.cell? ⟨gb106, 9, none⟩ = some (.slice none 0 0) := (blk_cell KC.out 9).trans rfl
            have hfz142_0 := blk_frozen KC.out 0
            have hfz142_1 := blk_frozen KC.out 1
            have hfz142_2 := blk_frozen KC.out 2
            have hfz142_3 := blk_frozen KC.out 3
            have hfz142_4 := blk_frozen KC.out 4
            have hfz142_5 := blk_frozen KC.out 5
            have hfz142_6 := blk_frozen KC.out 6
            have hfz142_7 := blk_frozen KC.out 7
            have hfz142_8 := blk_frozen KC.out 8
            have hfz142_9 := blk_frozen KC.out 9
            obtain ⟨Ao143, co143, eo143⟩ := Kd.R_slice HO_108006.out
            subst eo143
            obtain ⟨Ao144, co144, eo144⟩ := Kd.S_slice HO_108007.out
            subst eo144
            obtain ⟨Ao145, co145, eo145⟩ := Kd.S_slice HO_108008.out
            subst eo145
            obtain ⟨Ao146, co146, eo146⟩ := Kd.S_slice HO_108009.out
            subst eo146
            go_wp2
            refine bodyPost_ret (results_cell_row rfl _ _ gb106 36 #[.string a1_0, .slice A1_1 l1_1.length c1_1, .slice A1_2 l1_2.length c1_2, .slice A1_3 l1_3.length c1_3, .slice A1_4 l1_4.length c1_4, .slice A1_5 l1_5.length c1_5, .slice Ao143 x108006_1.length co143, .slice Ao144 x108007_23.length co144, .slice Ao145 x108008_53.length co145, .slice Ao146 x108009_4.length co146] (0, 0) _ rfl (by (with_reducible repeat (first | refine blk_drewN ?_ _ | refine blk_drew ?_ | refine blk_alloc ?_ _)); refine blk_put (cs := #[.string a1_0, .slice A1_1 l1_1.length c1_1, .slice A1_2 l1_2.length c1_2, .slice A1_3 l1_3.length c1_3, .slice A1_4 l1_4.length c1_4, .slice A1_5 l1_5.length c1_5, .slice Ao143 x108006_1.length co143, .slice Ao144 x108007_23.length co144, .slice Ao145 x108008_53.length co145, .slice none 0 0]) ?_ 9 _ rfl; (with_reducible repeat (first | refine blk_drewN ?_ _ | refine blk_drew ?_ | refine blk_alloc ?_ _)); refine blk_put (cs := #[.string a1_0, .slice A1_1 l1_1.length c1_1, .slice A1_2 l1_2.length c1_2, .slice A1_3 l1_3.length c1_3, .slice A1_4 l1_4.length c1_4, .slice A1_5 l1_5.length c1_5, .slice Ao143 x108006_1.length co143, .slice Ao144 x108007_23.length co144, .slice none 0 0, .slice none 0 0]) ?_ 8 _ rfl; (with_reducible repeat (first | refine blk_drewN ?_ _ | refine blk_drew ?_ | refine blk_alloc ?_ _)); refine blk_put (cs := #[.string a1_0, .slice A1_1 l1_1.length c1_1, .slice A1_2 l1_2.length c1_2, .slice A1_3 l1_3.length c1_3, .slice A1_4 l1_4.length c1_4, .slice A1_5 l1_5.length c1_5, .slice Ao143 x108006_1.length co143, .slice none 0 0, .slice none 0 0, .slice none 0 0]) ?_ 7 _ rfl; (with_reducible repeat (first | refine blk_drewN ?_ _ | refine blk_drew ?_ | refine blk_alloc ?_ _)); refine blk_put (cs := #[.string a1_0, .slice A1_1 l1_1.length c1_1, .slice A1_2 l1_2.length c1_2, .slice A1_3 l1_3.length c1_3, .slice A1_4 l1_4.length c1_4, .slice A1_5 l1_5.length c1_5, .slice none 0 0, .slice none 0 0, .slice none 0 0, .slice none 0 0]) ?_ 6 _ rfl; (with_reducible repeat (first | refine blk_drewN ?_ _ | refine blk_drew ?_ | refine blk_alloc ?_ _)); refine blk_put (cs := #[.string a1_0, .slice A1_1 l1_1.length c1_1, .slice A1_2 l1_2.length c1_2, .slice A1_3 l1_3.length c1_3, .slice A1_4 l1_4.length c1_4, .slice none 0 0, .slice none 0 0, .slice none 0 0, .slice none 0 0, .slice none 0 0]) ?_ 5 _ rfl; (with_reducible repeat (first | refine blk_drewN ?_ _ | refine blk_drew ?_ | refine blk_alloc ?_ _)); refine blk_put (cs := #[.string a1_0, .slice A1_1 l1_1.length c1_1, .slice A1_2 l1_2.length c1_2, .slice A1_3 l1_3.length c1_3, .slice none 0 0, .slice none 0 0, .slice none 0 0, .slice none 0 0, .slice none 0 0, .slice none 0 0]) ?_ 4 _ rfl; (with_reducible repeat (first | refine blk_drewN ?_ _ | refine blk_drew ?_ | refine blk_alloc ?_ _)); refine blk_put (cs := #[.string a1_0, .slice A1_1 l1_1.length c1_1, .slice A1_2 l1_2.length c1_2, .slice none 0 0, .slice none 0 0, .slice none 0 0, .slice none 0 0, .slice none 0 0, .slice none 0 0, .slice none 0 0]) ?_ 3 _ rfl; (with_reducible repeat (first | refine blk_drewN ?_ _ | refine blk_drew ?_ | refine blk_alloc ?_ _)); refine blk_put (cs := #[.string a1_0, .slice A1_1 l1_1.length c1_1, .slice none 0 0, .slice none 0 0, .slice none 0 0, .slice none 0 0, .slice none 0 0, .slice none 0 0, .slice none 0 0, .slice none 0 0]) ?_ 2 _ rfl; (with_reducible repeat (first | refine blk_drewN ?_ _ | refine blk_drew ?_ | refine blk_alloc ?_ _)); refine blk_put (cs := #[.string a1_0, .slice none 0 0, .slice none 0 0, .slice none 0 0, .slice none 0 0, .slice none 0 0, .slice none 0 0, .slice none 0 0, .slice none 0 0, .slice none 0 0]) ?_ 1 _ rfl; (with_reducible repeat (first | refine blk_drewN ?_ _ | refine blk_drew ?_ | refine blk_alloc ?_ _)); refine blk_put (cs := #[.string (⟨#[]⟩ : ByteArray), .slice none 0 0, .slice none 0 0, .slice none 0 0, .slice none 0 0, .slice none 0 0, .slice none 0 0, .slice none 0 0, .slice none 0 0, .slice none 0 0]) ?_ 0 _ rfl; (with_reducible repeat (first | refine blk_drewN ?_ _ | refine blk_drew ?_ | refine blk_alloc ?_ _)); exact KC.out) Tryz.underlying36 rfl (by kernel_rfl)) rfl ?_
            exact ⟨_, _, _, _, by first | rfl | (simp [errW_none, errW_some] <;> rfl) | (simp [*, errW_none, errW_some] <;> rfl), by (with_reducible repeat (first | apply Kd.R_alloc | apply Kd.R_drewN | apply Kd.R_drew)); exact Kd.R_mono (Kd.R_far (p := ⟨gb106, 9, none⟩) (Kd.R_far (p := ⟨gb106, 8, none⟩) (Kd.R_far (p := ⟨gb106, 7, none⟩) (Kd.R_far (p := ⟨gb106, 6, none⟩) (Kd.R_far (p := ⟨gb106, 5, none⟩) (Kd.R_far (p := ⟨gb106, 4, none⟩) (Kd.R_far (p := ⟨gb106, 3, none⟩) (Kd.R_far (p := ⟨gb106, 2, none⟩) (Kd.R_far (p := ⟨gb106, 1, none⟩) (Kd.R_far (p := ⟨gb106, 0, none⟩) (Kd.R_types HO_108006.out KC.out (by decide)) (fun _ hk => hk.2) (.string a1_0)) (fun _ hk => hk.2) (.slice A1_1 l1_1.length c1_1)) (fun _ hk => hk.2) (.slice A1_2 l1_2.length c1_2)) (fun _ hk => hk.2) (.slice A1_3 l1_3.length c1_3)) (fun _ hk => hk.2) (.slice A1_4 l1_4.length c1_4)) (fun _ hk => hk.2) (.slice A1_5 l1_5.length c1_5)) (fun _ hk => hk.2) (.slice Ao143 x108006_1.length co143)) (fun _ hk => hk.2) (.slice Ao144 x108007_23.length co144)) (fun _ hk => hk.2) (.slice Ao145 x108008_53.length co145)) (fun _ hk => hk.2) (.slice Ao146 x108009_4.length co146)) (fun _ hk => trivial), by (with_reducible repeat (first | apply Kd.S_alloc | apply Kd.S_drewN | apply Kd.S_drew)); exact Kd.S_mono (Kd.S_far (p := ⟨gb106, 9, none⟩) (Kd.S_far (p := ⟨gb106, 8, none⟩) (Kd.S_far (p := ⟨gb106, 7, none⟩) (Kd.S_far (p := ⟨gb106, 6, none⟩) (Kd.S_far (p := ⟨gb106, 5, none⟩) (Kd.S_far (p := ⟨gb106, 4, none⟩) (Kd.S_far (p := ⟨gb106, 3, none⟩) (Kd.S_far (p := ⟨gb106, 2, none⟩) (Kd.S_far (p := ⟨gb106, 1, none⟩) (Kd.S_far (p := ⟨gb106, 0, none⟩) (Kd.S_types HO_108007.out KC.out (by decide)) (fun _ hk => hk.2) (.string a1_0)) (fun _ hk => hk.2) (.slice A1_1 l1_1.length c1_1)) (fun _ hk => hk.2) (.slice A1_2 l1_2.length c1_2)) (fun _ hk => hk.2) (.slice A1_3 l1_3.length c1_3)) (fun _ hk => hk.2) (.slice A1_4 l1_4.length c1_4)) (fun _ hk => hk.2) (.slice A1_5 l1_5.length c1_5)) (fun _ hk => hk.2) (.slice Ao143 x108006_1.length co143)) (fun _ hk => hk.2) (.slice Ao144 x108007_23.length co144)) (fun _ hk => hk.2) (.slice Ao145 x108008_53.length co145)) (fun _ hk => hk.2) (.slice Ao146 x108009_4.length co146)) (fun _ hk => trivial), by (with_reducible repeat (first | apply Kd.S_alloc | apply Kd.S_drewN | apply Kd.S_drew)); exact Kd.S_mono (Kd.S_far (p := ⟨gb106, 9, none⟩) (Kd.S_far (p := ⟨gb106, 8, none⟩) (Kd.S_far (p := ⟨gb106, 7, none⟩) (Kd.S_far (p := ⟨gb106, 6, none⟩) (Kd.S_far (p := ⟨gb106, 5, none⟩) (Kd.S_far (p := ⟨gb106, 4, none⟩) (Kd.S_far (p := ⟨gb106, 3, none⟩) (Kd.S_far (p := ⟨gb106, 2, none⟩) (Kd.S_far (p := ⟨gb106, 1, none⟩) (Kd.S_far (p := ⟨gb106, 0, none⟩) (Kd.S_types HO_108008.out KC.out (by decide)) (fun _ hk => hk.2) (.string a1_0)) (fun _ hk => hk.2) (.slice A1_1 l1_1.length c1_1)) (fun _ hk => hk.2) (.slice A1_2 l1_2.length c1_2)) (fun _ hk => hk.2) (.slice A1_3 l1_3.length c1_3)) (fun _ hk => hk.2) (.slice A1_4 l1_4.length c1_4)) (fun _ hk => hk.2) (.slice A1_5 l1_5.length c1_5)) (fun _ hk => hk.2) (.slice Ao143 x108006_1.length co143)) (fun _ hk => hk.2) (.slice Ao144 x108007_23.length co144)) (fun _ hk => hk.2) (.slice Ao145 x108008_53.length co145)) (fun _ hk => hk.2) (.slice Ao146 x108009_4.length co146)) (fun _ hk => trivial), by (with_reducible repeat (first | apply Kd.S_alloc | apply Kd.S_drewN | apply Kd.S_drew)); exact Kd.S_mono (Kd.S_far (p := ⟨gb106, 9, none⟩) (Kd.S_far (p := ⟨gb106, 8, none⟩) (Kd.S_far (p := ⟨gb106, 7, none⟩) (Kd.S_far (p := ⟨gb106, 6, none⟩) (Kd.S_far (p := ⟨gb106, 5, none⟩) (Kd.S_far (p := ⟨gb106, 4, none⟩) (Kd.S_far (p := ⟨gb106, 3, none⟩) (Kd.S_far (p := ⟨gb106, 2, none⟩) (Kd.S_far (p := ⟨gb106, 1, none⟩) (Kd.S_far (p := ⟨gb106, 0, none⟩) (Kd.S_types HO_108009.out KC.out (by decide)) (fun _ hk => hk.2) (.string a1_0)) (fun _ hk => hk.2) (.slice A1_1 l1_1.length c1_1)) (fun _ hk => hk.2) (.slice A1_2 l1_2.length c1_2)) (fun _ hk => hk.2) (.slice A1_3 l1_3.length c1_3)) (fun _ hk => hk.2) (.slice A1_4 l1_4.length c1_4)) (fun _ hk => hk.2) (.slice A1_5 l1_5.length c1_5)) (fun _ hk => hk.2) (.slice Ao143 x108006_1.length co143)) (fun _ hk => hk.2) (.slice Ao144 x108007_23.length co144)) (fun _ hk => hk.2) (.slice Ao145 x108008_53.length co145)) (fun _ hk => hk.2) (.slice Ao146 x108009_4.length co146)) (fun _ hk => trivial), by repeat (first | (with_reducible first | exact HB.out | apply below_alloc | apply pw_below_drewN | apply below_drew1 | refine below_set ?_ GE104.out | refine below_set ?_ GE105.out | refine below_set ?_ GE106.out | refine below_set ?_ GE107.out) | exact HB.out)⟩
          ·rw [if_neg c90] at H
           have c90b0 : decide (x10_4 < (l0_3.length : Int)) = false := decide_eq_false c90
           clear c90
           simp only [Option.some.injEq, Prod.mk.injEq] at H
           obtain ⟨rfl, rfl, rfl, rfl, rfl, rfl, rfl, rfl, rfl, rfl⟩ := H
           have hnb147 := NB104_105.out
           have hnc147 := NB105_104.out
           have hnb148 := NB104_106.out
           have hnc148 := NB106_104.out
           have hnb149 := NB104_107.out
           have hnc149 := NB107_104.out
           have hcz150_0 : wr.cell? ⟨gb104, 0, none⟩ = some (.int .u8 a0_0) := (blk_cell KA.out 0).trans rfl
           have hcz150_1 : wr.cell? ⟨gb104, 1, none⟩ = some (.slice A0_1 l0_1.length c0_1) := (blk_cell KA.out 1).trans rfl
           have hcz150_2 : wr.cell? ⟨gb104, 2, none⟩ = some (.slice A0_2 l0_2.length c0_2) := (blk_cell KA.out 2).trans rfl
           have hcz150_3 : wr.cell? ⟨gb104, 3, none⟩ = some (.slice A0_3 l0_3.length c0_3) := (blk_cell KA.out 3).trans rfl
           have hfz150_0 := blk_frozen KA.out 0
           have hfz150_1 := blk_frozen KA.out 1
           have hfz150_2 := blk_frozen KA.out 2
           have hfz150_3 := blk_frozen KA.out 3
           have hnb151 := NB107_105.out
           have hnc151 := NB105_107.out
           have hnb152 := NB107_106.out
           have hnc152 := NB106_107.out
           have hcz153_0 : wr.cell? ⟨gb107, 0, none⟩ = some (.string a1_0) := (blk_cell KE.out 0).trans rfl
           have hcz153_1 : wr.cell? ⟨gb107, 1, none⟩ = some (.slice A1_1 l1_1.length c1_1) := (blk_cell KE.out 1).trans rfl
           have hcz153_2 : wr.cell? ⟨gb107, 2, none⟩ = some (.slice A1_2 l1_2.length c1_2) := (blk_cell KE.out 2).trans rfl
           have hcz153_3 : wr.cell? ⟨gb107, 3, none⟩ = some (.slice A1_3 l1_3.length c1_3) := (blk_cell KE.out 3).trans rfl
           have hcz153_4 : wr.cell? ⟨gb107, 4, none⟩ = some (.slice A1_4 l1_4.length c1_4) := (blk_cell KE.out 4).trans rfl
           have hcz153_5 : wr.cell? ⟨gb107, 5, none⟩ = some (.slice A1_5 l1_5.length c1_5) := (blk_cell KE.out 5).trans rfl
           have hcz153_6 : wr.cell? ⟨gb107, 6, none⟩ = some (u108006) := (blk_cell KE.out 6).trans rfl
           have hcz153_7 : wr.cell? ⟨gb107, 7, none⟩ = some (u108007) := (blk_cell KE.out 7).trans rfl
           have hcz153_8 : wr.cell? ⟨gb107, 8, none⟩ = some (u108008) := (blk_cell KE.out 8).trans rfl
           have hcz153_9 : wr.cell? ⟨gb107, 9, none⟩ = some (u108009) := (blk_cell KE.out 9).trans rfl
           have hfz153_0 := blk_frozen KE.out 0
           have hfz153_1 := blk_frozen KE.out 1
           have hfz153_2 := blk_frozen KE.out 2
           have hfz153_3 := blk_frozen KE.out 3
           have hfz153_4 := blk_frozen KE.out 4
           have hfz153_5 := blk_frozen KE.out 5
           have hfz153_6 := blk_frozen KE.out 6
           have hfz153_7 := blk_frozen KE.out 7
           have hfz153_8 := blk_frozen KE.out 8
           have hfz153_9 := blk_frozen KE.out 9
           have hnb154 := NB106_105.out
           have hnc154 := NB105_106.out
           have hcz155_0 : wr.cell? ⟨gb106, 0, none⟩ = some (.string (⟨#[]⟩ : ByteArray)) := (blk_cell KC.out 0).trans rfl
           have hcz155_1 : wr.cell? ⟨gb106, 1, none⟩ = some (.slice none 0 0) := (blk_cell KC.out 1).trans rfl
           have hcz155_2 : wr.cell? ⟨gb106, 2, none⟩ = some (.slice none 0 0) := (blk_cell KC.out 2).trans rfl
           have hcz155_3 : wr.cell? ⟨gb106, 3, none⟩ = some (.slice none 0 0) := (blk_cell KC.out 3).trans rfl
           have hcz155_4 : wr.cell? ⟨gb106, 4, none⟩ = some (.slice none 0 0) := (blk_cell KC.out 4).trans rfl
           have hcz155_5 : wr.cell? ⟨gb106, 5, none⟩ = some (.slice none 0 0) := (blk_cell KC.out 5).trans rfl
           have hcz155_6 : wr.cell? ⟨gb106, 6, none⟩ = some (.slice none 0 0) := (blk_cell KC.out 6).trans rfl
           have hcz155_7 : wr.cell? ⟨gb106, 7, none⟩ = some (.slice none 0 0) := (blk_cell KC.out 7).trans rfl
           have hcz155_8 : wr.cell? ⟨gb106, 8, none⟩ = some (.slice none 0 0) := (blk_cell KC.out 8).trans rfl
           have hcz155_9 : wr.cell? ⟨gb106, 9, none⟩ = some (.slice none 0 0) := (blk_cell KC.out 9).trans rfl
           have hfz155_0 := blk_frozen KC.out 0
           have hfz155_1 := blk_frozen KC.out 1
           have hfz155_2 := blk_frozen KC.out 2
           have hfz155_3 := blk_frozen KC.out 3
           have hfz155_4 := blk_frozen KC.out 4
           have hfz155_5 := blk_frozen KC.out 5
           have hfz155_6 := blk_frozen KC.out 6
           have hfz155_7 := blk_frozen KC.out 7
           have hfz155_8 := blk_frozen KC.out 8
           have hfz155_9 := blk_frozen KC.out 9
           obtain ⟨Ao156, co156, eo156⟩ := Kd.R_slice HO_108006.out
           subst eo156
           obtain ⟨Ao157, co157, eo157⟩ := Kd.S_slice HO_108007.out
           subst eo157
           obtain ⟨Ao158, co158, eo158⟩ := Kd.S_slice HO_108008.out
           subst eo158
           obtain ⟨Ao159, co159, eo159⟩ := Kd.S_slice HO_108009.out
           subst eo159
           go_wp2
           refine bodyPost_ret (results_cell_row rfl _ _ gb106 36 #[.string a1_0, .slice A1_1 l1_1.length c1_1, .slice A1_2 l1_2.length c1_2, .slice A1_3 l1_3.length c1_3, .slice A1_4 l1_4.length c1_4, .slice A1_5 l1_5.length c1_5, .slice Ao156 x108006_1.length co156, .slice Ao157 x108007_23.length co157, .slice Ao158 x108008_53.length co158, .slice Ao159 x108009_4.length co159] (0, 0) _ rfl (by (with_reducible repeat (first | refine blk_drewN ?_ _ | refine blk_drew ?_ | refine blk_alloc ?_ _)); refine blk_put (cs := #[.string a1_0, .slice A1_1 l1_1.length c1_1, .slice A1_2 l1_2.length c1_2, .slice A1_3 l1_3.length c1_3, .slice A1_4 l1_4.length c1_4, .slice A1_5 l1_5.length c1_5, .slice Ao156 x108006_1.length co156, .slice Ao157 x108007_23.length co157, .slice Ao158 x108008_53.length co158, .slice none 0 0]) ?_ 9 _ rfl; (with_reducible repeat (first | refine blk_drewN ?_ _ | refine blk_drew ?_ | refine blk_alloc ?_ _)); refine blk_put (cs := #[.string a1_0, .slice A1_1 l1_1.length c1_1, .slice A1_2 l1_2.length c1_2, .slice A1_3 l1_3.length c1_3, .slice A1_4 l1_4.length c1_4, .slice A1_5 l1_5.length c1_5, .slice Ao156 x108006_1.length co156, .slice Ao157 x108007_23.length co157, .slice none 0 0, .slice none 0 0]) ?_ 8 _ rfl; (with_reducible repeat (first | refine blk_drewN ?_ _ | refine blk_drew ?_ | refine blk_alloc ?_ _)); refine blk_put (cs := #[.string a1_0, .slice A1_1 l1_1.length c1_1, .slice A1_2 l1_2.length c1_2, .slice A1_3 l1_3.length c1_3, .slice A1_4 l1_4.length c1_4, .slice A1_5 l1_5.length c1_5, .slice Ao156 x108006_1.length co156, .slice none 0 0, .slice none 0 0, .slice none 0 0]) ?_ 7 _ rfl; (with_reducible repeat (first | refine blk_drewN ?_ _ | refine blk_drew ?_ | refine blk_alloc ?_ _)); refine blk_put (cs := #[.string a1_0, .slice A1_1 l1_1.length c1_1, .slice A1_2 l1_2.length c1_2, .slice A1_3 l1_3.length c1_3, .slice A1_4 l1_4.length c1_4, .slice A1_5 l1_5.length c1_5, .slice none 0 0, .slice none 0 0, .slice none 0 0, .slice none 0 0]) ?_ 6 _ rfl; (with_reducible repeat (first | refine blk_drewN ?_ _ | refine blk_drew ?_ | refine blk_alloc ?_ _)); refine blk_put (cs := #[.string a1_0, .slice A1_1 l1_1.length c1_1, .slice A1_2 l1_2.length c1_2, .slice A1_3 l1_3.length c1_3, .slice A1_4 l1_4.length c1_4, .slice none 0 0, .slice none 0 0, .slice none 0 0, .slice none 0 0, .slice none 0 0]) ?_ 5 _ rfl; (with_reducible repeat (first | refine blk_drewN ?_ _ | refine blk_drew ?_ | refine blk_alloc ?_ _)); refine blk_put (cs := #[.string a1_0, .slice A1_1 l1_1.length c1_1, .slice A1_2 l1_2.length c1_2, .slice A1_3 l1_3.length c1_3, .slice none 0 0, .slice none 0 0, .slice none 0 0, .slice none 0 0, .slice none 0 0, .slice none 0 0]) ?_ 4 _ rfl; (with_reducible repeat (first | refine blk_drewN ?_ _ | refine blk_drew ?_ | refine blk_alloc ?_ _)); refine blk_put (cs := #[.string a1_0, .slice A1_1 l1_1.length c1_1, .slice A1_2 l1_2.length c1_2, .slice none 0 0, .slice none 0 0, .slice none 0 0, .slice none 0 0, .slice none 0 0, .slice none 0 0, .slice none 0 0]) ?_ 3 _ rfl; (with_reducible repeat (first | refine blk_drewN ?_ _ | refine blk_drew ?_ | refine blk_alloc ?_ _)); refine blk_put (cs := #[.string a1_0, .slice A1_1 l1_1.length c1_1, .slice none 0 0, .slice none 0 0, .slice none 0 0, .slice none 0 0, .slice none 0 0, .slice none 0 0, .slice none 0 0, .slice none 0 0]) ?_ 2 _ rfl; (with_reducible repeat (first | refine blk_drewN ?_ _ | refine blk_drew ?_ | refine blk_alloc ?_ _)); refine blk_put (cs := #[.string a1_0, .slice none 0 0, .slice none 0 0, .slice none 0 0, .slice none 0 0, .slice none 0 0, .slice none 0 0, .slice none 0 0, .slice none 0 0, .slice none 0 0]) ?_ 1 _ rfl; (with_reducible repeat (first | refine blk_drewN ?_ _ | refine blk_drew ?_ | refine blk_alloc ?_ _)); refine blk_put (cs := #[.string (⟨#[]⟩ : ByteArray), .slice none 0 0, .slice none 0 0, .slice none 0 0, .slice none 0 0, .slice none 0 0, .slice none 0 0, .slice none 0 0, .slice none 0 0, .slice none 0 0]) ?_ 0 _ rfl; (with_reducible repeat (first | refine blk_drewN ?_ _ | refine blk_drew ?_ | refine blk_alloc ?_ _)); exact KC.out) Tryz.underlying36 rfl (by kernel_rfl)) rfl ?_
           exact ⟨_, _, _, _, by first | rfl | (simp [errW_none, errW_some] <;> rfl) | (simp [*, errW_none, errW_some] <;> rfl), by (with_reducible repeat (first | apply Kd.R_alloc | apply Kd.R_drewN | apply Kd.R_drew)); exact Kd.R_mono (Kd.R_far (p := ⟨gb106, 9, none⟩) (Kd.R_far (p := ⟨gb106, 8, none⟩) (Kd.R_far (p := ⟨gb106, 7, none⟩) (Kd.R_far (p := ⟨gb106, 6, none⟩) (Kd.R_far (p := ⟨gb106, 5, none⟩) (Kd.R_far (p := ⟨gb106, 4, none⟩) (Kd.R_far (p := ⟨gb106, 3, none⟩) (Kd.R_far (p := ⟨gb106, 2, none⟩) (Kd.R_far (p := ⟨gb106, 1, none⟩) (Kd.R_far (p := ⟨gb106, 0, none⟩) (Kd.R_types HO_108006.out KC.out (by decide)) (fun _ hk => hk.2) (.string a1_0)) (fun _ hk => hk.2) (.slice A1_1 l1_1.length c1_1)) (fun _ hk => hk.2) (.slice A1_2 l1_2.length c1_2)) (fun _ hk => hk.2) (.slice A1_3 l1_3.length c1_3)) (fun _ hk => hk.2) (.slice A1_4 l1_4.length c1_4)) (fun _ hk => hk.2) (.slice A1_5 l1_5.length c1_5)) (fun _ hk => hk.2) (.slice Ao156 x108006_1.length co156)) (fun _ hk => hk.2) (.slice Ao157 x108007_23.length co157)) (fun _ hk => hk.2) (.slice Ao158 x108008_53.length co158)) (fun _ hk => hk.2) (.slice Ao159 x108009_4.length co159)) (fun _ hk => trivial), by (with_reducible repeat (first | apply Kd.S_alloc | apply Kd.S_drewN | apply Kd.S_drew)); exact Kd.S_mono (Kd.S_far (p := ⟨gb106, 9, none⟩) (Kd.S_far (p := ⟨gb106, 8, none⟩) (Kd.S_far (p := ⟨gb106, 7, none⟩) (Kd.S_far (p := ⟨gb106, 6, none⟩) (Kd.S_far (p := ⟨gb106, 5, none⟩) (Kd.S_far (p := ⟨gb106, 4, none⟩) (Kd.S_far (p := ⟨gb106, 3, none⟩) (Kd.S_far (p := ⟨gb106, 2, none⟩) (Kd.S_far (p := ⟨gb106, 1, none⟩) (Kd.S_far (p := ⟨gb106, 0, none⟩) (Kd.S_types HO_108007.out KC.out (by decide)) (fun _ hk => hk.2) (.string a1_0)) (fun _ hk => hk.2) (.slice A1_1 l1_1.length c1_1)) (fun _ hk => hk.2) (.slice A1_2 l1_2.length c1_2)) (fun _ hk => hk.2) (.slice A1_3 l1_3.length c1_3)) (fun _ hk => hk.2) (.slice A1_4 l1_4.length c1_4)) (fun _ hk => hk.2) (.slice A1_5 l1_5.length c1_5)) (fun _ hk => hk.2) (.slice Ao156 x108006_1.length co156)) (fun _ hk => hk.2) (.slice Ao157 x108007_23.length co157)) (fun _ hk => hk.2) (.slice Ao158 x108008_53.length co158)) (fun _ hk => hk.2) (.slice Ao159 x108009_4.length co159)) (fun _ hk => trivial), by (with_reducible repeat (first | apply Kd.S_alloc | apply Kd.S_drewN | apply Kd.S_drew)); exact Kd.S_mono (Kd.S_far (p := ⟨gb106, 9, none⟩) (Kd.S_far (p := ⟨gb106, 8, none⟩) (Kd.S_far (p := ⟨gb106, 7, none⟩) (Kd.S_far (p := ⟨gb106, 6, none⟩) (Kd.S_far (p := ⟨gb106, 5, none⟩) (Kd.S_far (p := ⟨gb106, 4, none⟩) (Kd.S_far (p := ⟨gb106, 3, none⟩) (Kd.S_far (p := ⟨gb106, 2, none⟩) (Kd.S_far (p := ⟨gb106, 1, none⟩) (Kd.S_far (p := ⟨gb106, 0, none⟩) (Kd.S_types HO_108008.out KC.out (by decide)) (fun _ hk => hk.2) (.string a1_0)) (fun _ hk => hk.2) (.slice A1_1 l1_1.length c1_1)) (fun _ hk => hk.2) (.slice A1_2 l1_2.length c1_2)) (fun _ hk => hk.2) (.slice A1_3 l1_3.length c1_3)) (fun _ hk => hk.2) (.slice A1_4 l1_4.length c1_4)) (fun _ hk => hk.2) (.slice A1_5 l1_5.length c1_5)) (fun _ hk => hk.2) (.slice Ao156 x108006_1.length co156)) (fun _ hk => hk.2) (.slice Ao157 x108007_23.length co157)) (fun _ hk => hk.2) (.slice Ao158 x108008_53.length co158)) (fun _ hk => hk.2) (.slice Ao159 x108009_4.length co159)) (fun _ hk => trivial), by (with_reducible repeat (first | apply Kd.S_alloc | apply Kd.S_drewN | apply Kd.S_drew)); exact Kd.S_mono (Kd.S_far (p := ⟨gb106, 9, none⟩) (Kd.S_far (p := ⟨gb106, 8, none⟩) (Kd.S_far (p := ⟨gb106, 7, none⟩) (Kd.S_far (p := ⟨gb106, 6, none⟩) (Kd.S_far (p := ⟨gb106, 5, none⟩) (Kd.S_far (p := ⟨gb106, 4, none⟩) (Kd.S_far (p := ⟨gb106, 3, none⟩) (Kd.S_far (p := ⟨gb106, 2, none⟩) (Kd.S_far (p := ⟨gb106, 1, none⟩) (Kd.S_far (p := ⟨gb106, 0, none⟩) (Kd.S_types HO_108009.out KC.out (by decide)) (fun _ hk => hk.2) (.string a1_0)) (fun _ hk => hk.2) (.slice A1_1 l1_1.length c1_1)) (fun _ hk => hk.2) (.slice A1_2 l1_2.length c1_2)) (fun _ hk => hk.2) (.slice A1_3 l1_3.length c1_3)) (fun _ hk => hk.2) (.slice A1_4 l1_4.length c1_4)) (fun _ hk => hk.2) (.slice A1_5 l1_5.length c1_5)) (fun _ hk => hk.2) (.slice Ao156 x108006_1.length co156)) (fun _ hk => hk.2) (.slice Ao157 x108007_23.length co157)) (fun _ hk => hk.2) (.slice Ao158 x108008_53.length co158)) (fun _ hk => hk.2) (.slice Ao159 x108009_4.length co159)) (fun _ hk => trivial), by repeat (first | (with_reducible first | exact HB.out | apply below_alloc | apply pw_below_drewN | apply below_drew1 | refine below_set ?_ GE104.out | refine below_set ?_ GE105.out | refine below_set ?_ GE106.out | refine below_set ?_ GE107.out) | exact HB.out)⟩

end Go.Proofs.YtcilmcoaondbmaaGreatDoor.PX
