/- VariantProducts returns true for every input and leaves its argument as it was. -/
import Derived.Test.YtbnmdlnpfikkcaaMB
import Derived.Test.YtbnmdlnpfikkcaaRows
import Derived.WalkKit
import Derived.ProofKit
import Derived.OpenShut
import Derived.ChangeOld
import Derived.SizedLaws
import Derived.Deep.Matrix
import Derived.Deep.SlicePairs
import Derived.Lib.SmallJoins
import Derived.Test.YtbnmdlnpfikkcaaME
/- The laws' arguments, opened: a description, a choice, a list of small numbers. -/
namespace Go.Proofs.Ytbnmdlnpfikkcaa.PX
open Go.ChangeShapes Go.WideShapes Go.RowKit Go.Proofs.YtbnmdlnpfikkcaaW.PrintWords Go.Proofs.YtbnmdlnpfikkcaaW.PrintLast Go.Proofs.YtbnmdlnpfikkcaaW.PrintMore
set_option linter.unusedVariables false
set_option linter.unusedSimpArgs false
theorem wf_i8 {n : Int} (h : (Lit.int .i8 n).wf = true) : -128 ≤ n ∧ n ≤ 127 := by
  simp [Lit.wf, IntKind.min, IntKind.max, IntKind.bits, IntKind.signed] at h
  omega
theorem wf_u8 {n : Int} (h : (Lit.int .u8 n).wf = true) : 0 ≤ n ∧ n ≤ 255 := by
  simp [Lit.wf, IntKind.min, IntKind.max, IntKind.bits, IntKind.signed] at h
  omega
theorem i8s_of {l : List Int} (h : ∀ n ∈ l, (Lit.int .i8 n).wf = true) : i8s l = true := by
  unfold i8s
  rw [List.all_eq_true]
  intro x hx
  simpa using wf_i8 (h x hx)
section
variable {H : Type} {enc : TypeId × Value → H} {w : World} {fuel : Nat} {v : Value} {x : DataW H × List MemPlace}
theorem rows_open (h : DataW.trod enc Try.prog w 0 (fun _ => true) true fuel 22 [v] = some x) : ∃ A R c, v = .slice A R.length c ∧ R.length ≤ c ∧ Kd.C (Kd.slice 95 (Kd.int .i8)) w A R.length R ∧ All8 R := by
  rcases Go.Deep.open_int_rows Try.underlying22 Try.underlying57 Try.underlying95 (by kernel_rfl) (by kernel_rfl) h with ⟨hcs, _⟩ | ⟨a, len, cap, A, L, C, Z, hcs, _, hl, hm, _, hr⟩
  · simp only [List.cons.injEq, and_true] at hcs
    exact ⟨none, [], 0, hcs, Nat.le_refl _, C_zero _ _ _, fun r hr => by cases hr⟩
  · simp only [List.cons.injEq, and_true] at hcs
    have hlen : ((List.range len).map fun r => (Z r).take (L r)).length = len := by simp
    refine ⟨some a, (List.range len).map fun r => (Z r).take (L r), cap, by rw [hlen]; exact hcs, by rw [hlen]; exact hl, ?_, ?_⟩
    · refine ⟨rfl, by rw [hlen]; exact Nat.le_trans hl hm, fun _ => ⟨a, rfl, fun j p hj => ?_⟩⟩
      have hjl : j < len := by have := (List.getElem?_eq_some_iff.1 hj).1; omega
      have hp : p = (Z j).take (L j) := by
        rw [List.getElem?_map, List.getElem?_range hjl] at hj
        simpa using hj.symm
      obtain ⟨h1, h2, h3, h4, h5, h6, h7⟩ := hr j (by omega)
      have hpl : p.length = L j := by rw [hp, List.length_take]; omega
      have hmx : maxLen = 9223372036854775807 := rfl
      refine ⟨[.slice (A j) (L j) (C j)], rfl, ⟨A j, C j, by rw [hpl], by rw [hpl]; exact h2, rfl, by omega, fun hpos => ?_⟩, fun i u hu => ?_⟩
      · cases hA : A j with
        | none => have := h6 hA; omega
        | some a' =>
          obtain ⟨_, hc⟩ := h7 a' hA
          refine ⟨a', rfl, fun i n hn => ⟨[.int .i8 n], rfl, rfl, fun q u hu => ?_⟩⟩
          have hil : i < p.length := (List.getElem?_eq_some_iff.1 hn).1
          rcases q with _ | q
          · simp only [List.getElem?_cons_zero, Option.some.injEq] at hu
            have e : (Kd.int .i8).sz = 1 := rfl
            rw [e, Nat.mul_one, Nat.add_zero, hc i (by omega), ← hu]
            congr 2
            rw [hp, List.getElem?_take, if_pos (by omega)] at hn
            rw [List.getD_eq_getElem?_getD, hn]
            rfl
          · simp at hu
      · rcases i with _ | i
        · simp only [List.getElem?_cons_zero, Option.some.injEq] at hu
          have e : (Kd.slice 95 (Kd.int .i8)).sz = 1 := rfl
          rw [e, Nat.mul_one, Nat.add_zero, h1, hu]
        · simp at hu
    · intro r hrm
      obtain ⟨j, hj, rfl⟩ := List.mem_map.1 hrm
      obtain ⟨_, _, _, _, h5, _, _⟩ := hr j (by have := List.mem_range.1 hj; omega)
      exact i8s_of fun n hn => h5 n (List.mem_of_mem_take hn)
set_option maxRecDepth 100000 in
theorem kin_open {base : Nat} {d : DataW H} {p : List MemPlace} (hv : Value.okWide Try.prog w .any base 24 v) (h : DataW.Trod enc Try.prog w 0 (fun _ => true) true 24 v d p) :
    ∃ a R G O B1 B2 B3 d1 d2 d3, v = kinV a R G O B1 B2 B3 d1 d2 d3 ∧ 0 ≤ a ∧ a ≤ 255 ∧ KinAt w R G O B1 B2 B3 d1 d2 d3 := by
  obtain ⟨v0, v1, v2, v3, y0, y1, y2, y3, n, rfl, _, _, t0, t1, t2, t3⟩ := Go.Joins.open_agg4 Try.underlying24 (by kernel_rfl) (by kernel_rfl) hv h
  obtain ⟨a, h0, _, hw⟩ := DataW.trod_int Try.underlying5 t0
  simp only [List.cons.injEq, and_true] at h0
  subst h0
  obtain ⟨B1, R, d1, rfl, l1, c1, r1⟩ := rows_open t1
  obtain ⟨B2, G, d2, rfl, l2, c2, r2⟩ := rows_open t2
  obtain ⟨B3, O, d3, rfl, l3, c3, r3⟩ := rows_open t3
  obtain ⟨g0, g1⟩ := wf_u8 hw
  exact ⟨a, R, G, O, B1, B2, B3, d1, d2, d3, rfl, g0, g1, ⟨c1, l1, c2, l2, c3, l3, r1, r2, r3⟩⟩
end
end Go.Proofs.Ytbnmdlnpfikkcaa.PX
/- VariantProducts: the walk. -/
namespace Go.Proofs.Ytbnmdlnpfikkcaa.PX
open Go.RowKit Go.Proofs.YtbnmdlnpfikkcaaW.PrintWords Go.Proofs.YtbnmdlnpfikkcaaW.PrintLast Go.Proofs.YtbnmdlnpfikkcaaW.PrintMore
set_option linter.unusedVariables false
set_option linter.unusedSimpArgs false
set_option maxRecDepth 100000 in
set_option maxHeartbeats 16000000 in
theorem law10 (a : Int) (R G O : List (List Int)) (B1 B2 B3 : Option Addr) (d1 d2 d3 : Nat) (w : World) (h0 : 0 ≤ a) (h255 : a ≤ 255) (hk : KinAt w R G O B1 B2 B3 d1 d2 d3) :
    Calls Try.prog 10 #[kinV a R G O B1 B2 B3 d1 d2 d3] w fun e w' => e = .returned (.bool true) ∧ Below w.heap.size w w' := by
  have hu41 := Try.underlying41
  unfold kinV
  have HK := Aside0.mk hk
  have HB0 := Aside0.mk ((Below.refl _ w).alloc (Nat.le_refl _) (.cells (kinC a R G O B1 B2 B3 d1 d2 d3) 24))
  have HK0 := Aside0.mk (heap_alloc_new w (.cells (kinC a R G O B1 B2 B3 d1 d2 d3) 24))
  clear hk
  go_enter Try.func10, Try.ntmps10
  go_wp2_with fail
  refine (known_calls _).mono ?_
  rintro e w2 ⟨rfl, hb⟩
  have HB2 := Aside0.mk (below_step HB0.out hb)
  have HK2 := Aside0.mk (blk_below HK0.out hb)
  clear hb
  go_upto_region 3 with (fail)
  go_cut [3] (fun v3 wc => ∃ g H, v3 = .pointer (some ⟨g, 0, none⟩) ∧ Aside0 (Laid w wc (famK a R G O) g H))
  case first =>
    obtain ⟨k0, k1, k2, k3⟩ := kin_cells HK2.out
    obtain ⟨a0, a1, a2, a3⟩ := kin_cells (blk_alloc HK2.out (.cells zeroC 41))
    unfold zeroC at a0 a1 a2 a3
    go_region_with (first
      | (go_at_call 13; refine (plain_ft _).mono ?_; rintro e w3 ⟨A1, A2, A3, A4, A5, c1, c2, c3, c4, c5, rfl, hbase, hb⟩; have hb2 := below_step (show Below w2.heap.size w2 _ from (by first | exact below_drew (Below.refl _ _) | exact below_alloc (below_drew (Below.refl _ _)) _)) hb; have HB3 := Aside0.mk (below_step HB2.out hb2); have HK3 := Aside0.mk (blk_below HK2.out hb2); obtain ⟨m0, m1, m2, m3⟩ := kin_cells HK3.out; obtain ⟨n0, n1, n2, n3⟩ := kin_cells (blk_alloc HK3.out (.cells zeroC 41)); unfold zeroC at n0 n1 n2 n3; have HBase := Aside0.mk hbase; have hs3 := hb.size; (try have HG3 := Aside0.mk (blk_below (show (w2.drew.alloc (.cells zeroC 41)).heap[w2.heap.size]? = _ from heap_alloc_new w2.drew (.cells zeroC 41)) hb)); clear hbase hb hb2)
      | (go_at_call 12; refine (fam_ft h0 h255 HK.out.a1 HK.out.a2 HK.out.a3 (HK.out.below (below_step HB3.out ?b1)).r1 HK.out.l1 (HK.out.below (below_step HB3.out ?b2)).r2 HK.out.l2 (HK.out.below (below_step HB3.out ?b3)).r3 HK.out.l3 (HBase.out.below ?b4)).mono ?_; (case b1 => first | exact Below.refl _ _ | exact below_alloc (Below.refl _ _) _); (case b2 => first | exact Below.refl _ _ | exact below_alloc (Below.refl _ _) _); (case b3 => first | exact Below.refl _ _ | exact below_alloc (Below.refl _ _) _); (case b4 => first | exact Below.refl _ _ | exact below_alloc (Below.refl _ _) _); rintro e w4 ⟨H, rfl, hF, hb⟩; unfold fv; have HB4 := Aside0.mk (below_step HB3.out (below_step (show Below w3.heap.size w3 _ from (by first | exact Below.refl _ _ | exact below_alloc (Below.refl _ _) _)) hb)); have HF4 := Aside0.mk hF; (first | (have HG4 := Aside0.mk (blk_below HG3.out hb); obtain ⟨z0, z1, z2, z3, z4, z5, z6, z7, z8, z9⟩ := zero_cells HG4.out; obtain ⟨y0, y1, y2, y3, y4, y5, y6, y7, y8, y9⟩ := zero_frozen HG4.out) | (have HG4 := Aside0.mk (blk_below (heap_alloc_new w3 (.cells zeroC 41)) hb); obtain ⟨z0, z1, z2, z3, z4, z5, z6, z7, z8, z9⟩ := zero_cells HG4.out; obtain ⟨y0, y1, y2, y3, y4, y5, y6, y7, y8, y9⟩ := zero_frozen HG4.out) | skip)))
    all_goals
      go_wp2_with fail
      go_meet
      case rel => first
        | (refine ⟨_, H, rfl, ⟨?_⟩⟩; (with_reducible exact laid_allocX HB4.out HF4.out))
        | (refine ⟨_, H, rfl, ⟨?_⟩⟩; (with_reducible refine laid_setX HB4.out HF4.out HB2.out.size HG4.out ?_); intro h; simp at h hs3; omega)
        | (refine ⟨_, H, rfl, ⟨?_⟩⟩; (with_reducible refine laid_setX HB4.out HF4.out HB3.out.size HG4.out ?_); intro h; simp at h hs3; omega)
  case rest =>
    obtain ⟨g, H, rfl, HL⟩ := hcut
    obtain ⟨hn1, hn6, _⟩ := nOf_ok h0 h255
    obtain ⟨D, hD⟩ : ∃ D, D = famK a R G O := ⟨_, rfl⟩
    have hDo : D.opts.length = nOf a := by rw [hD]; exact famK_opts a R G O
    have hFW : FW D := ⟨by omega, by omega, by rw [hD]; exact famK_chk R G O h0 h255, by rw [hDo, hD]; exact famK_rules R G O, by rw [hD]; exact famK_small R G O h0 h255, by rw [hDo, hD]; rfl, by rw [hDo, hD]; exact famK_PW R G O h0 h255, by rw [hD]; rfl, by rw [hD]; rfl, by rw [hD]; rfl⟩
    rw [← hD] at HL
    rw [← hDo] at hn1 hn6
    have HW := Aside0.mk hFW
    clear hD hDo hFW
    have HKc := Aside0.mk HL.out.box
    have HFc := Aside0.mk HL.out.fam
    have HBc := Aside0.mk HL.out.low
    clear HL HB0 HK0 HB2 HK2 HK
    obtain ⟨k0, k1, k2, k3, k4, k5, k6, k7, k8, k9⟩ := box_cells HKc.out
    go_wp2_with fail
    clear k0 k1 k2 k3 k4 k5 k6 k7 k8 k9
    refine (ref_sets D.opts.length wc hn1 hn6).mono ?_
    rintro e w5 ⟨As, cs, rfl, hcs, hCs, hb⟩
    have HB5 := Aside0.mk (below_step HBc.out hb)
    have HK5 := Aside0.mk (blk_below HKc.out hb)
    have HF5 := Aside0.mk (HFc.out.below hb)
    have HCS := Aside0.mk hCs
    have hsl := setsL_length D.opts.length
    obtain ⟨SL, hSL⟩ : ∃ s, s = setsL D.opts.length := ⟨_, rfl⟩
    rw [← hSL] at HCS hcs hsl ⊢
    have HSL := Aside0.mk hSL
    have h64 : 2 ^ D.opts.length ≤ 2 ^ 6 := Nat.pow_le_pow_right (by decide) hn6
    have hs64 : SL.length ≤ 64 := by omega
    have HSLN := Aside0.mk hsl
    clear hb hCs hcs hSL hsl h64 HBc HKc HFc
    go_wp2_with fail
    go_loopg [6, 5] D.opts.length (fun gk v6 v5 w' => ∃ i : Nat, v6 = .int .i64 (i : Int) ∧ v5 = .int .i64 ((usedM D i : Nat) : Int) ∧ Aside0 (i ≤ D.opts.length) ∧ Aside0 (D.opts.length - i ≤ gk) ∧ Aside0 (Below w5.heap.size w5 w'))
    case atStart => exact ⟨0, rfl, rfl, ⟨Nat.zero_le _⟩, ⟨Nat.sub_le _ _⟩, ⟨Below.refl _ _⟩⟩
    case round =>
      obtain ⟨i, rfl, rfl, HI, HGI, HBi⟩ := hrel
      obtain ⟨k0, k1, k2, k3, k4, k5, k6, k7, k8, k9⟩ := box_cells (blk_below HK5.out HBi.out)
      have hul := usedM_lt D i (by have := HI.out; omega)
      have HUS : Aside0 (usedM D (i + 1) = if uses D i then usedM D i ||| 2 ^ i else usedM D i) := ⟨rfl⟩
      obtain ⟨U, hU⟩ : ∃ U, U = usedM D i := ⟨_, rfl⟩
      rw [← hU] at hul HUS ⊢
      have HUL := Aside0.mk hul
      have HUU := Aside0.mk hU
      clear hU hul
      by_cases hi : i < D.opts.length
      · have q0 : decide ((i : Int) < (D.opts.length : Int)) = true := by simpa using hi
        have q1 : decide (i < D.opts.length) = true := by simpa using hi
        have p0 : 0 ≤ (i : Int) := by omega
        have p1 : (i : Int) < (D.opts.length : Int) := by omega
        have p12 : i < 12 := by omega
        have CU := Lib.hid (used_calls D H (i : Int) wr (HF5.out.below HBi.out) HW.out.ck p0 p1)
        go_wp2_with fail
        clear k0 k1 k2 k3 k4 k5 k6 k7 k8 k9
        refine CU.out.mono ?_
        rintro e w6 ⟨A1, c1, A2, c2, L1, L2, rfl, hL1, hL2, hc1, hc2, hC1, hC2, hb⟩
        have HB6 := Aside0.mk (below_step HBi.out hb)
        have hu1 : L1.length ≤ 48 := by rw [hL1]; exact Nat.le_trans (useL_length _ _ _) HW.out.pw.gn
        have hu2 : L2.length ≤ 48 := by rw [hL2]; exact Nat.le_trans (useL_length _ _ _) HW.out.pw.on
        have hus : uses D i = decide (0 < L1.length + L2.length) := by unfold uses; rw [← hL1, ← hL2]
        clear hb hL1 hL2 hc1 hc2 hC1 hC2 CU
        by_cases hz : 0 < L1.length + L2.length
        · have z0 : decide ((L1.length : Int) + (L2.length : Int) > 0) = true := by simp; omega
          have z1 : decide (0 < (L1.length : Int) + (L2.length : Int)) = true := by simp; omega
          have HY : Aside0 (usedM D (i + 1) = U ||| 2 ^ i) := ⟨by rw [HUS.out, hus, decide_eq_true hz]; rfl⟩
          clear hus hz
          go_wp2_with fail
          go_roundg (D.opts.length - (i + 1))
          case measure => have := HGI.out; omega
          case rel => exact ⟨i + 1, by go_num, by rw [HY.out, ← or_i64 HUL.out p12], ⟨hi⟩, ⟨Nat.le_refl _⟩, HB6⟩
        · have z0 : decide ((L1.length : Int) + (L2.length : Int) > 0) = false := by simp; omega
          have z1 : decide (0 < (L1.length : Int) + (L2.length : Int)) = false := by simp; omega
          have HY : Aside0 (usedM D (i + 1) = U) := ⟨by rw [HUS.out, hus, decide_eq_false hz]; rfl⟩
          clear hus hz
          go_wp2_with fail
          go_roundg (D.opts.length - (i + 1))
          case measure => have := HGI.out; omega
          case rel => exact ⟨i + 1, by go_num, by rw [HY.out], ⟨hi⟩, ⟨Nat.le_refl _⟩, HB6⟩
      · have q0 : decide ((i : Int) < (D.opts.length : Int)) = false := by simpa using hi
        have q1 : decide (i < D.opts.length) = false := by simpa using hi
        have hin : i = D.opts.length := by have := HI.out; omega
        rw [hin] at HUU
        clear hin HI HGI HUS
        go_wp2_with fail
        clear k0 k1 k2 k3 k4 k5 k6 k7 k8 k9 q0 q1 hi
        obtain ⟨w6, hw6⟩ : ∃ W, W = wr := ⟨_, rfl⟩
        have HB6 : Aside0 (Below w5.heap.size w5 w6) := ⟨by rw [hw6]; exact HBi.out⟩
        rw [← hw6]
        clear hw6 HBi
        go_loopg [11, 10] SL.length (fun gk v11 v10 w' => ∃ (i : Nat) (SQ : List Int), v11 = .int .i64 (i : Int) ∧ Aside0 (i ≤ SL.length) ∧ Aside0 (SL.length - i ≤ gk) ∧ Aside0 (SQ.length ≤ i) ∧ Aside0 (∀ j : Nat, j < SQ.length → ∃ k, k < 2 ^ D.opts.length ∧ prA D (cfg D.opts.length k) = true ∧ rd SQ (j : Int) = ((setOf D.opts.length k : Nat) : Int)) ∧ Aside0 (Below w6.heap.size w6 w') ∧ Aside0 (Kd.R (Kd.int .i64) 3 w' w6.heap.size (fun _ => True) v10 SQ))
        case atStart => exact ⟨0, [], rfl, ⟨Nat.zero_le _⟩, ⟨Nat.sub_le _ _⟩, ⟨Nat.le_refl _⟩, ⟨fun j hj => absurd hj (Nat.not_lt_zero _)⟩, ⟨Below.refl _ _⟩, ⟨Kd.R_nil _ _ _ _ _⟩⟩
        case round =>
          obtain ⟨i, SQ, rfl, HI, HGI, HSL2, HSQ, HBi, HRS⟩ := hrel
          obtain ⟨A10, c10, hv10, hc10, hC10⟩ := Kd.R_reads HRS.out
          subst hv10
          clear hc10 hC10
          by_cases hi : i < SL.length
          · have q0 : decide ((i : Int) < (SL.length : Int)) = true := by simpa using hi
            have q1 : decide (i < SL.length) = true := by simpa using hi
            have p0 : 0 ≤ (i : Int) := by omega
            have p1 : (i : Int) < (SL.length : Int) := by omega
            obtain ⟨ad, hA, hx⟩ := Kd.at_int (Kd.C_below (Kd.C_below HCS.out HB6.out) HBi.out) (i : Int) p0 p1
            rw [Int.toNat_natCast] at hx
            subst hA
            obtain ⟨k, hk, hrd⟩ := rd_sets (n := D.opts.length) (i := i) (by have := HSLN.out; omega)
            rw [← HSL.out] at hrd
            obtain ⟨sv, hsv⟩ : ∃ s : Int, s = rd SL (i : Int) := ⟨_, rfl⟩
            rw [← hsv] at hx hrd
            have HCI := Aside0.mk hx
            obtain ⟨NL, hNL⟩ : ∃ n, n = cnames (cfg D.opts.length k) D.opts := ⟨_, rfl⟩
            obtain ⟨ep, hep⟩ : ∃ n, n = prE D (cfg D.opts.length k) := ⟨_, rfl⟩
            obtain ⟨nmP, hnmP⟩ : ∃ n, n = prN D (cfg D.opts.length k) := ⟨_, rfl⟩
            obtain ⟨IP, hIP⟩ : ∃ n, n = prI D (cfg D.opts.length k) := ⟨_, rfl⟩
            obtain ⟨DP, hDP⟩ : ∃ n, n = prD D (cfg D.opts.length k) := ⟨_, rfl⟩
            have HUP : Aside0 (∀ W, Below wr.heap.size wr W → Below w5.heap.size w5 W) := ⟨fun W hW => below_step (below_step HB6.out HBi.out) hW⟩
            have HNAM : Aside0 (∀ W, Below wr.heap.size wr W → Calls Try.prog 20 #[.agg #[.string D.nm, .slice H.A1 D.parts.length H.c1, .slice H.A2 D.insts.length H.c2, .slice H.A3 D.dims.length H.c3, .slice H.A4 D.cons.length H.c4, .slice H.A5 D.reqs.length H.c5, .slice H.A6 D.opts.length H.c6, .slice H.A7 D.rules.length H.c7, .slice H.A8 D.guards.length H.c8, .slice H.A9 D.overs.length H.c9], .int .i64 sv] W fun e w' => ∃ A cp, e = .returned (.slice A NL.length cp) ∧ NL.length ≤ cp ∧ Kd.C Kd.string w' A NL.length NL ∧ Below W.heap.size W w') := ⟨fun W hW => by
              have h := ref_names D H k W (HF5.out.below (HUP.out W hW)) hn6 hk
              rw [← hNL, ← hrd] at h
              exact h⟩
            have HPRO : Aside0 (∀ W A cp, Below wr.heap.size wr W → Kd.C Kd.string W A NL.length NL → NL.length ≤ cp → Calls Try.prog 34 #[.agg #[.string D.nm, .slice H.A1 D.parts.length H.c1, .slice H.A2 D.insts.length H.c2, .slice H.A3 D.dims.length H.c3, .slice H.A4 D.cons.length H.c4, .slice H.A5 D.reqs.length H.c5, .slice H.A6 D.opts.length H.c6, .slice H.A7 D.rules.length H.c7, .slice H.A8 D.guards.length H.c8, .slice H.A9 D.overs.length H.c9], .slice A NL.length cp] W fun e w' => ∃ cs, e = .returned (.tuple #[.agg cs, .int .i64 ep]) ∧ PFt w' W.heap.size cs nmP IP DP ∧ Below W.heap.size W w') := ⟨fun W A cp hW hC hc => by
              have h := prodK_calls D H k A cp W (HF5.out.below (HUP.out W hW)) HW.out hk (by rw [← hNL]; exact hC) (by rw [← hNL]; exact hc)
              rw [← hNL, ← hep, ← hnmP, ← hIP, ← hDP] at h
              exact h⟩
            have HKK := Aside0.mk hk
            have HRD := Aside0.mk hrd
            have HEP := Aside0.mk hep
            have HNM := Aside0.mk hnmP
            have HIP := Aside0.mk hIP
            have HDP := Aside0.mk hDP
            clear hNL hrd hsv hk hx hep hnmP hIP hDP
            go_upto_region 18 with (fail)
            have HNONE : Aside0 (∀ W, Below wr.heap.size wr W → Calls Try.prog 18 #[.agg #[.string D.nm, .slice H.A1 D.parts.length H.c1, .slice H.A2 D.insts.length H.c2, .slice H.A3 D.dims.length H.c3, .slice H.A4 D.cons.length H.c4, .slice H.A5 D.reqs.length H.c5, .slice H.A6 D.opts.length H.c6, .slice H.A7 D.rules.length H.c7, .slice H.A8 D.guards.length H.c8, .slice H.A9 D.overs.length H.c9]] W fun e w' => ∃ A cp, e = .returned (.slice A D.rules.length cp) ∧ D.rules.length ≤ cp ∧ Kd.C Kd.bool w' A D.rules.length (List.replicate D.rules.length false) ∧ Below W.heap.size W w') := ⟨fun W hW => ref_none D H W (HF5.out.below (HUP.out W hW)) HW.out.sm.rules⟩
            have HBRK : Aside0 (∀ W A cp, Below wr.heap.size wr W → Kd.C Kd.bool W A D.rules.length (List.replicate D.rules.length false) → D.rules.length ≤ cp → Calls Try.prog 32 #[.agg #[.string D.nm, .slice H.A1 D.parts.length H.c1, .slice H.A2 D.insts.length H.c2, .slice H.A3 D.dims.length H.c3, .slice H.A4 D.cons.length H.c4, .slice H.A5 D.reqs.length H.c5, .slice H.A6 D.opts.length H.c6, .slice H.A7 D.rules.length H.c7, .slice H.A8 D.guards.length H.c8, .slice H.A9 D.overs.length H.c9], .slice A D.rules.length cp, .int .i64 sv] W fun e w' => e = .returned (.int .i64 (idxP (fun x => !satR (cfg D.opts.length k) x) D.rules)) ∧ Below W.heap.size W w') := ⟨fun W A cp hW hC hc => by
              have h := ref_broken D H A cp sv W (HF5.out.below (HUP.out W hW)) HW.out.sm hC hc
              rw [HRD.out, brk_idx hn6 HKK.out _ _ HW.out.ru, ← HRD.out] at h
              exact h⟩
            go_cut [12, 13] (fun v12 v13 wq => ∃ g2 cs2, v12 = .pointer (some ⟨g2, 0, none⟩) ∧ v13 = .int .i64 ep ∧ Aside0 (Below wr.heap.size wr wq) ∧ Aside0 (wq.heap[g2]? = some (.cells cs2 35 (0, 0))) ∧ Aside0 (PAt wq cs2 nmP IP DP))
            case first =>
              refine start_ (n := 14) (S := fun w' => Below wr.heap.size wr w') (ds := []) #[false, false, false, false, false, false, false, false, false, false, false, false, false, false] (by kernel_rfl) rfl rfl (below_drew (Below.refl _ _)) (fun hHeld => ?_)
              generalize wr.drew = w19 at hHeld ⊢
              refine take_ (i := 0) (N := some 59) (v := ?_) (a' := ?_) #[true, false, false, false, false, false, false, false, false, false, false, false, false, false] rfl rfl (by kernel_rfl) (fun _ _ _ h => h) (Or.inl ⟨by rfl, ?_⟩) hHeld ?_ ?_
              rotate_left
              · intro w' hS
                obtain ⟨k0, k1, k2, k3, k4, k5, k6, k7, k8, k9⟩ := box_cells (blk_below HK5.out (HUP.out _ hS))
                go_simp
                with_reducible rfl
              rotate_left
              · simp only [Act.put, List.setIfInBounds_toArray, List.set_cons_zero, List.set_cons_succ, i64_w, i32_w]
                rfl
              refine take_ (i := 1) (N := some 60) (v := ?_) (a' := ?_) #[true, true, false, false, false, false, false, false, false, false, false, false, false, false] rfl rfl (by kernel_rfl) (fun _ _ _ h => h) (Or.inl ⟨by rfl, ?_⟩) hHeld ?_ ?_
              rotate_left
              · intro w' hS
                obtain ⟨k0, k1, k2, k3, k4, k5, k6, k7, k8, k9⟩ := box_cells (blk_below HK5.out (HUP.out _ hS))
                go_simp
                with_reducible rfl
              rotate_left
              · simp only [Act.put, List.setIfInBounds_toArray, List.set_cons_zero, List.set_cons_succ, i64_w, i32_w]
                rfl
              refine pure_ (i := 2) (N := some 61) (v := ?_) (a' := ?_) #[true, true, true, false, false, false, false, false, false, false, false, false, false, false] rfl rfl (by kernel_rfl) (fun _ _ _ h => h) (Or.inl ⟨by rfl, ?_⟩) ?_ ?_
              rotate_left
              · intro w'
                go_simp
                with_reducible rfl
              rotate_left
              · simp only [Act.put, List.setIfInBounds_toArray, List.set_cons_zero, List.set_cons_succ, i64_w, i32_w]
                rfl
              refine pure_ (i := 3) (N := some 62) (v := ?_) (a' := ?_) #[true, true, true, true, false, false, false, false, false, false, false, false, false, false] rfl rfl (by kernel_rfl) (fun _ _ _ h => h) (Or.inl ⟨by rfl, ?_⟩) ?_ ?_
              rotate_left
              · intro w'
                go_simp
                with_reducible rfl
              rotate_left
              · simp only [Act.put, List.setIfInBounds_toArray, List.set_cons_zero, List.set_cons_succ, i64_w, i32_w]
                rfl
              refine pure_ (i := 4) (N := some 63) (v := ?_) (a' := ?_) #[true, true, true, true, true, false, false, false, false, false, false, false, false, false] rfl rfl (by kernel_rfl) (fun _ _ _ h => h) (Or.inl ⟨by rfl, ?_⟩) ?_ ?_
              rotate_left
              · intro w'
                go_simp
                with_reducible rfl
              rotate_left
              · simp only [Act.put, List.setIfInBounds_toArray, List.set_cons_zero, List.set_cons_succ, i64_w, i32_w]
                rfl
              refine take_ (i := 5) (N := some 64) (v := ?_) (a' := ?_) #[true, true, true, true, true, true, false, false, false, false, false, false, false, false] rfl rfl (by kernel_rfl) (fun _ _ _ h => h) (Or.inl ⟨by rfl, ?_⟩) hHeld ?_ ?_
              rotate_left
              · intro w' hS
                have hx := cell_keep hS HCI.out
                go_simp
                with_reducible rfl
              rotate_left
              · simp only [Act.put, List.setIfInBounds_toArray, List.set_cons_zero, List.set_cons_succ, i64_w, i32_w]
                rfl
              refine two_ (i := 6) (j := 11) (Ni := some 65) (Nj := some 12) #[true, true, true, true, true, true, true, false, false, false, false, false, false, false] #[true, true, true, true, true, true, false, false, false, false, false, true, false, false] rfl rfl rfl rfl (by kernel_rfl) (by decide) (by decide) (fun K hK => ?_) (fun K hK => ?_)
              · refine goes_ Try.func20 (by kernel_rfl) rfl #[.agg #[.string D.nm, .slice H.A1 D.parts.length H.c1, .slice H.A2 D.insts.length H.c2, .slice H.A3 D.dims.length H.c3, .slice H.A4 D.cons.length H.c4, .slice H.A5 D.reqs.length H.c5, .slice H.A6 D.opts.length H.c6, .slice H.A7 D.rules.length H.c7, .slice H.A8 D.guards.length H.c8, .slice H.A9 D.overs.length H.c9], .int .i64 sv] (by rfl) rfl rfl (by (try simp only [List.map_toArray, List.map_cons, List.map_nil]); first | done | rfl) ?_
                refine (HNAM.out w19 hHeld).mono ?_
                rintro e wx1 ⟨An1, cn1, rfl, hcn1, hCn1, hbn1⟩
                refine ⟨_, rfl, ?_⟩
                have HX1 := Aside0.mk hCn1
                have HY1 := Aside0.mk hcn1
                clear hCn1 hcn1
                have hS1 := below_step hHeld hbn1
                refine hK.out _ _ hS1 (fun hH1 => ?_)
                clear hK K hbn1
                refine norm_ (a' := ?_) ?_ ?_
                rotate_left
                · show Act.put _ (some 65) _ = _
                  simp only [Act.put, List.setIfInBounds_toArray, List.set_cons_zero, List.set_cons_succ, i64_w, i32_w]
                  rfl
                refine two_ (i := 7) (j := 11) (Ni := some 66) (Nj := some 12) #[true, true, true, true, true, true, true, true, false, false, false, false, false, false] #[true, true, true, true, true, true, true, false, false, false, false, true, false, false] rfl rfl rfl rfl (by kernel_rfl) (by decide) (by decide) (fun K hK => ?_) (fun K hK => ?_)
                · refine goes_ Try.func34 (by kernel_rfl) rfl #[.agg #[.string D.nm, .slice H.A1 D.parts.length H.c1, .slice H.A2 D.insts.length H.c2, .slice H.A3 D.dims.length H.c3, .slice H.A4 D.cons.length H.c4, .slice H.A5 D.reqs.length H.c5, .slice H.A6 D.opts.length H.c6, .slice H.A7 D.rules.length H.c7, .slice H.A8 D.guards.length H.c8, .slice H.A9 D.overs.length H.c9], .slice An1 NL.length cn1] (by rfl) rfl rfl (by (try simp only [List.map_toArray, List.map_cons, List.map_nil]); first | done | rfl) ?_
                  refine (HPRO.out wx1 An1 cn1 hH1 HX1.out HY1.out).mono ?_
                  rintro e wx2 ⟨cs2, rfl, hP2, hbn2⟩
                  refine ⟨_, rfl, ?_⟩
                  have HP2 := Aside0.mk hP2
                  clear hP2
                  have hS2 := below_step hH1 hbn2
                  refine hK.out _ _ hS2 (fun hH2 => ?_)
                  clear hK K hbn2
                  refine norm_ (a' := ?_) ?_ ?_
                  rotate_left
                  · show Act.put _ (some 66) _ = _
                    simp only [Act.put, List.setIfInBounds_toArray, List.set_cons_zero, List.set_cons_succ, i64_w, i32_w]
                    rfl
                  refine pure_ (i := 8) (N := some 58) (v := ?_) (a' := ?_) #[true, true, true, true, true, true, true, true, true, false, false, false, false, false] rfl rfl (by kernel_rfl) (fun _ _ _ h => h) (Or.inl ⟨by rfl, ?_⟩) ?_ ?_
                  rotate_left
                  · intro w'
                    go_simp
                    with_reducible rfl
                  rotate_left
                  · simp only [Act.put, List.setIfInBounds_toArray, List.set_cons_zero, List.set_cons_succ, i64_w, i32_w]
                    rfl
                  refine pure_ (i := 9) (N := some 67) (v := ?_) (a' := ?_) #[true, true, true, true, true, true, true, true, true, true, false, false, false, false] rfl rfl (by kernel_rfl) (fun _ _ _ h => h) (Or.inl ⟨by rfl, ?_⟩) ?_ ?_
                  rotate_left
                  · intro w'
                    go_simp
                    with_reducible rfl
                  rotate_left
                  · simp only [Act.put, List.setIfInBounds_toArray, List.set_cons_zero, List.set_cons_succ, i64_w, i32_w]
                    rfl
                  refine pure_ (i := 10) (N := some 68) (v := ?_) (a' := ?_) #[true, true, true, true, true, true, true, true, true, true, true, false, false, false] rfl rfl (by kernel_rfl) (fun _ _ _ h => h) (Or.inl ⟨by rfl, ?_⟩) ?_ ?_
                  rotate_left
                  · intro w'
                    go_simp
                    with_reducible rfl
                  rotate_left
                  · simp only [Act.put, List.setIfInBounds_toArray, List.set_cons_zero, List.set_cons_succ, i64_w, i32_w]
                    rfl
                  refine one_ (i := 11) (N := some 12) #[true, true, true, true, true, true, true, true, true, true, true, true, false, false] rfl rfl (by kernel_rfl) (by decide) (fun K hK => ?_)
                  refine value_ (w1 := ?_) (v := ?_) (by rfl) rfl ?_ ?_
                  rotate_left 2
                  · go_simp
                    constructor
                    · rfl
                    · rfl
                  have HG3 := Aside0.mk (heap_alloc_new wx2 (.cells #[.string ⟨#[]⟩, .slice none 0 0, .slice none 0 0, .slice none 0 0, .slice none 0 0, .slice none 0 0] 35))
                  have HGL3 : Aside0 (wr.heap.size ≤ wx2.heap.size) := ⟨hH2.size⟩
                  obtain ⟨gb3, hgb3⟩ : ∃ g, g = wx2.heap.size := ⟨_, rfl⟩
                  refine hK.out _ _ (below_alloc hH2 _) (fun hH3 => ?_)
                  clear hK K
                  have HQ3 := Aside0.mk (below_alloc (Below.refl wx2.heap.size wx2) (.cells #[.string ⟨#[]⟩, .slice none 0 0, .slice none 0 0, .slice none 0 0, .slice none 0 0, .slice none 0 0] 35))
                  rw [← hgb3] at HG3 HGL3 ⊢
                  have HGE3 : Aside0 (wx2.heap.size ≤ gb3) := ⟨Nat.le_of_eq hgb3.symm⟩
                  generalize wx2.alloc (.cells #[.string ⟨#[]⟩, .slice none 0 0, .slice none 0 0, .slice none 0 0, .slice none 0 0, .slice none 0 0] 35) = wa3 at HG3 hH3 HQ3 ⊢
                  have hbs3 : gb3 < wa3.heap.size := blk_lt HG3.out
                  have HBS3 := Aside0.mk hbs3
                  clear hbs3 hgb3
                  refine norm_ (a' := ?_) ?_ ?_
                  rotate_left
                  · show Act.put _ (some 12) _ = _
                    simp only [Act.put, List.setIfInBounds_toArray, List.set_cons_zero, List.set_cons_succ, i64_w, i32_w]
                    rfl
                  obtain ⟨X1, X2, X4, X5, y1, y2, y4, y5, X3, y3, hcs, hl1, hl2, hsep⟩ := sep_new HP2.out.at_ HQ3.out HGE3.out
                  subst hcs
                  have HSEP := Aside0.mk hsep
                  have HL1 := Aside0.mk hl1
                  have HL2 := Aside0.mk hl2
                  clear hsep hl1 hl2
                  refine one_ (i := 12) (N := none) #[true, true, true, true, true, true, true, true, true, true, true, true, true, false] rfl rfl (by kernel_rfl) (by decide) (fun K hK => ?_)
                  obtain ⟨z0, z1, z2, z3, z4, z5⟩ := p_cells (show wa3.heap[gb3]? = some (.cells zeroP 35 (0, 0)) from HG3.out)
                  have f0 := blk_frozen HG3.out 0
                  have f1 := blk_frozen HG3.out 1
                  have f2 := blk_frozen HG3.out 2
                  have f3 := blk_frozen HG3.out 3
                  have f4 := blk_frozen HG3.out 4
                  have f5 := blk_frozen HG3.out 5
                  refine skip_ (w1 := ?_) (by rfl) rfl ?_ ?_
                  rotate_left
                  · go_simp
                    rfl
                  obtain ⟨hbox, hbel, hfar⟩ := put_prod (nm := nmP) (v1 := .slice X1 0 y1) (v2 := .slice X2 IP.length y2) (v3 := .slice X3 DP.length y3) (v4 := .slice X4 0 y4) (v5 := .slice X5 0 y5) hH3 HGL3.out (show wa3.heap[gb3]? = some (.cells zeroP 35 (0, 0)) from HG3.out)
                  have hat : PAt ((((((wa3.setCell ⟨gb3, 0, none⟩ (.string nmP)).setCell ⟨gb3, 1, none⟩ (.slice X1 0 y1)).setCell ⟨gb3, 2, none⟩ (.slice X2 IP.length y2)).setCell ⟨gb3, 3, none⟩ (.slice X3 DP.length y3)).setCell ⟨gb3, 4, none⟩ (.slice X4 0 y4)).setCell ⟨gb3, 5, none⟩ (.slice X5 0 y5)) #[.string nmP, .slice X1 0 y1, .slice X2 IP.length y2, .slice X3 DP.length y3, .slice X4 0 y4, .slice X5 0 y5] nmP IP DP := ⟨X1, X2, X4, X5, y1, y2, y4, y5, X3, y3, rfl, (HSEP.out _ hfar).1, HL1.out, (HSEP.out _ hfar).2, HL2.out⟩
                  refine hK.out _ _ hbel (fun hHs => ?_)
                  clear hK K hbel hfar z0 z1 z2 z3 z4 z5 f0 f1 f2 f3 f4 f5
                  have HBOX := Aside0.mk hbox
                  have HAT := Aside0.mk hat
                  clear hbox hat
                  generalize ((((((wa3.setCell ⟨gb3, 0, none⟩ (.string nmP)).setCell ⟨gb3, 1, none⟩ (.slice X1 0 y1)).setCell ⟨gb3, 2, none⟩ (.slice X2 IP.length y2)).setCell ⟨gb3, 3, none⟩ (.slice X3 DP.length y3)).setCell ⟨gb3, 4, none⟩ (.slice X4 0 y4)).setCell ⟨gb3, 5, none⟩ (.slice X5 0 y5)) = wz at HBOX HAT hHs ⊢
                  refine pure_ (i := 13) (N := some 13) (v := ?_) (a' := ?_) #[true, true, true, true, true, true, true, true, true, true, true, true, true, true] rfl rfl (by kernel_rfl) (fun _ _ _ h => h) (Or.inl ⟨by rfl, ?_⟩) ?_ ?_
                  rotate_left
                  · intro w'
                    go_simp
                    with_reducible rfl
                  rotate_left
                  · simp only [Act.put, List.setIfInBounds_toArray, List.set_cons_zero, List.set_cons_succ, i64_w, i32_w]
                    rfl
                  refine done_ (by kernel_rfl) ?_
                  go_wp2_with fail
                  go_meet
                  case rel => exact ⟨_, _, rfl, rfl, ⟨hHs⟩, HBOX, HAT⟩
                · refine value_ (w1 := ?_) (v := ?_) (by rfl) rfl ?_ ?_
                  rotate_left 2
                  · go_simp
                    constructor
                    · rfl
                    · rfl
                  have HG2 := Aside0.mk (heap_alloc_new wx1 (.cells #[.string ⟨#[]⟩, .slice none 0 0, .slice none 0 0, .slice none 0 0, .slice none 0 0, .slice none 0 0] 35))
                  have HGL2 : Aside0 (wr.heap.size ≤ wx1.heap.size) := ⟨hH1.size⟩
                  obtain ⟨gb2, hgb2⟩ : ∃ g, g = wx1.heap.size := ⟨_, rfl⟩
                  refine hK.out _ _ (below_alloc hH1 _) (fun hH2 => ?_)
                  clear hK K
                  have HX2 := Aside0.mk (Kd.C_below HX1.out (below_alloc (Below.refl _ _) (.cells #[.string ⟨#[]⟩, .slice none 0 0, .slice none 0 0, .slice none 0 0, .slice none 0 0, .slice none 0 0] 35)))
                  rw [← hgb2] at HG2 HGL2 ⊢
                  generalize wx1.alloc (.cells #[.string ⟨#[]⟩, .slice none 0 0, .slice none 0 0, .slice none 0 0, .slice none 0 0, .slice none 0 0] 35) = wa2 at HG2 hH2 HX2 ⊢
                  have hbs2 : gb2 < wa2.heap.size := blk_lt HG2.out
                  have HBS2 := Aside0.mk hbs2
                  clear hbs2 hgb2
                  refine norm_ (a' := ?_) ?_ ?_
                  rotate_left
                  · show Act.put _ (some 12) _ = _
                    simp only [Act.put, List.setIfInBounds_toArray, List.set_cons_zero, List.set_cons_succ, i64_w, i32_w]
                    rfl
                  refine one_ (i := 7) (N := some 66) #[true, true, true, true, true, true, true, true, false, false, false, true, false, false] rfl rfl (by kernel_rfl) (by decide) (fun K hK => ?_)
                  refine goes_ Try.func34 (by kernel_rfl) rfl #[.agg #[.string D.nm, .slice H.A1 D.parts.length H.c1, .slice H.A2 D.insts.length H.c2, .slice H.A3 D.dims.length H.c3, .slice H.A4 D.cons.length H.c4, .slice H.A5 D.reqs.length H.c5, .slice H.A6 D.opts.length H.c6, .slice H.A7 D.rules.length H.c7, .slice H.A8 D.guards.length H.c8, .slice H.A9 D.overs.length H.c9], .slice An1 NL.length cn1] (by rfl) rfl rfl (by (try simp only [List.map_toArray, List.map_cons, List.map_nil]); first | done | rfl) ?_
                  refine (HPRO.out wa2 An1 cn1 hH2 HX2.out HY1.out).mono ?_
                  rintro e wx3 ⟨cs3, rfl, hP3, hbn3⟩
                  refine ⟨_, rfl, ?_⟩
                  have HP3 := Aside0.mk hP3
                  clear hP3
                  have HG3 := Aside0.mk (blk_below HG2.out hbn3)
                  have hS3 := below_step hH2 hbn3
                  refine hK.out _ _ hS3 (fun hH3 => ?_)
                  clear hK K hbn3
                  refine norm_ (a' := ?_) ?_ ?_
                  rotate_left
                  · show Act.put _ (some 66) _ = _
                    simp only [Act.put, List.setIfInBounds_toArray, List.set_cons_zero, List.set_cons_succ, i64_w, i32_w]
                    rfl
                  refine pure_ (i := 8) (N := some 58) (v := ?_) (a' := ?_) #[true, true, true, true, true, true, true, true, true, false, false, true, false, false] rfl rfl (by kernel_rfl) (fun _ _ _ h => h) (Or.inl ⟨by rfl, ?_⟩) ?_ ?_
                  rotate_left
                  · intro w'
                    go_simp
                    with_reducible rfl
                  rotate_left
                  · simp only [Act.put, List.setIfInBounds_toArray, List.set_cons_zero, List.set_cons_succ, i64_w, i32_w]
                    rfl
                  refine pure_ (i := 9) (N := some 67) (v := ?_) (a' := ?_) #[true, true, true, true, true, true, true, true, true, true, false, true, false, false] rfl rfl (by kernel_rfl) (fun _ _ _ h => h) (Or.inl ⟨by rfl, ?_⟩) ?_ ?_
                  rotate_left
                  · intro w'
                    go_simp
                    with_reducible rfl
                  rotate_left
                  · simp only [Act.put, List.setIfInBounds_toArray, List.set_cons_zero, List.set_cons_succ, i64_w, i32_w]
                    rfl
                  refine pure_ (i := 10) (N := some 68) (v := ?_) (a' := ?_) #[true, true, true, true, true, true, true, true, true, true, true, true, false, false] rfl rfl (by kernel_rfl) (fun _ _ _ h => h) (Or.inl ⟨by rfl, ?_⟩) ?_ ?_
                  rotate_left
                  · intro w'
                    go_simp
                    with_reducible rfl
                  rotate_left
                  · simp only [Act.put, List.setIfInBounds_toArray, List.set_cons_zero, List.set_cons_succ, i64_w, i32_w]
                    rfl
                  obtain ⟨X1, X2, X4, X5, y1, y2, y4, y5, X3, y3, hcs, hl1, hl2, hsep⟩ := sep_old HP3.out HBS2.out
                  subst hcs
                  have HSEP := Aside0.mk hsep
                  have HL1 := Aside0.mk hl1
                  have HL2 := Aside0.mk hl2
                  clear hsep hl1 hl2
                  refine one_ (i := 12) (N := none) #[true, true, true, true, true, true, true, true, true, true, true, true, true, false] rfl rfl (by kernel_rfl) (by decide) (fun K hK => ?_)
                  obtain ⟨z0, z1, z2, z3, z4, z5⟩ := p_cells (show wx3.heap[gb2]? = some (.cells zeroP 35 (0, 0)) from HG3.out)
                  have f0 := blk_frozen HG3.out 0
                  have f1 := blk_frozen HG3.out 1
                  have f2 := blk_frozen HG3.out 2
                  have f3 := blk_frozen HG3.out 3
                  have f4 := blk_frozen HG3.out 4
                  have f5 := blk_frozen HG3.out 5
                  refine skip_ (w1 := ?_) (by rfl) rfl ?_ ?_
                  rotate_left
                  · go_simp
                    rfl
                  obtain ⟨hbox, hbel, hfar⟩ := put_prod (nm := nmP) (v1 := .slice X1 0 y1) (v2 := .slice X2 IP.length y2) (v3 := .slice X3 DP.length y3) (v4 := .slice X4 0 y4) (v5 := .slice X5 0 y5) hH3 HGL2.out (show wx3.heap[gb2]? = some (.cells zeroP 35 (0, 0)) from HG3.out)
                  have hat : PAt ((((((wx3.setCell ⟨gb2, 0, none⟩ (.string nmP)).setCell ⟨gb2, 1, none⟩ (.slice X1 0 y1)).setCell ⟨gb2, 2, none⟩ (.slice X2 IP.length y2)).setCell ⟨gb2, 3, none⟩ (.slice X3 DP.length y3)).setCell ⟨gb2, 4, none⟩ (.slice X4 0 y4)).setCell ⟨gb2, 5, none⟩ (.slice X5 0 y5)) #[.string nmP, .slice X1 0 y1, .slice X2 IP.length y2, .slice X3 DP.length y3, .slice X4 0 y4, .slice X5 0 y5] nmP IP DP := ⟨X1, X2, X4, X5, y1, y2, y4, y5, X3, y3, rfl, (HSEP.out _ hfar).1, HL1.out, (HSEP.out _ hfar).2, HL2.out⟩
                  refine hK.out _ _ hbel (fun hHs => ?_)
                  clear hK K hbel hfar z0 z1 z2 z3 z4 z5 f0 f1 f2 f3 f4 f5
                  have HBOX := Aside0.mk hbox
                  have HAT := Aside0.mk hat
                  clear hbox hat
                  generalize ((((((wx3.setCell ⟨gb2, 0, none⟩ (.string nmP)).setCell ⟨gb2, 1, none⟩ (.slice X1 0 y1)).setCell ⟨gb2, 2, none⟩ (.slice X2 IP.length y2)).setCell ⟨gb2, 3, none⟩ (.slice X3 DP.length y3)).setCell ⟨gb2, 4, none⟩ (.slice X4 0 y4)).setCell ⟨gb2, 5, none⟩ (.slice X5 0 y5)) = wz at HBOX HAT hHs ⊢
                  refine pure_ (i := 13) (N := some 13) (v := ?_) (a' := ?_) #[true, true, true, true, true, true, true, true, true, true, true, true, true, true] rfl rfl (by kernel_rfl) (fun _ _ _ h => h) (Or.inl ⟨by rfl, ?_⟩) ?_ ?_
                  rotate_left
                  · intro w'
                    go_simp
                    with_reducible rfl
                  rotate_left
                  · simp only [Act.put, List.setIfInBounds_toArray, List.set_cons_zero, List.set_cons_succ, i64_w, i32_w]
                    rfl
                  refine done_ (by kernel_rfl) ?_
                  go_wp2_with fail
                  go_meet
                  case rel => exact ⟨_, _, rfl, rfl, ⟨hHs⟩, HBOX, HAT⟩
              · refine value_ (w1 := ?_) (v := ?_) (by rfl) rfl ?_ ?_
                rotate_left 2
                · go_simp
                  constructor
                  · rfl
                  · rfl
                have HG1 := Aside0.mk (heap_alloc_new w19 (.cells #[.string ⟨#[]⟩, .slice none 0 0, .slice none 0 0, .slice none 0 0, .slice none 0 0, .slice none 0 0] 35))
                have HGL1 : Aside0 (wr.heap.size ≤ w19.heap.size) := ⟨hHeld.size⟩
                obtain ⟨gb1, hgb1⟩ : ∃ g, g = w19.heap.size := ⟨_, rfl⟩
                refine hK.out _ _ (below_alloc hHeld _) (fun hH1 => ?_)
                clear hK K
                rw [← hgb1] at HG1 HGL1 ⊢
                generalize w19.alloc (.cells #[.string ⟨#[]⟩, .slice none 0 0, .slice none 0 0, .slice none 0 0, .slice none 0 0, .slice none 0 0] 35) = wa1 at HG1 hH1 ⊢
                have hbs1 : gb1 < wa1.heap.size := blk_lt HG1.out
                have HBS1 := Aside0.mk hbs1
                clear hbs1 hgb1
                refine norm_ (a' := ?_) ?_ ?_
                rotate_left
                · show Act.put _ (some 12) _ = _
                  simp only [Act.put, List.setIfInBounds_toArray, List.set_cons_zero, List.set_cons_succ, i64_w, i32_w]
                  rfl
                refine one_ (i := 6) (N := some 65) #[true, true, true, true, true, true, true, false, false, false, false, true, false, false] rfl rfl (by kernel_rfl) (by decide) (fun K hK => ?_)
                refine goes_ Try.func20 (by kernel_rfl) rfl #[.agg #[.string D.nm, .slice H.A1 D.parts.length H.c1, .slice H.A2 D.insts.length H.c2, .slice H.A3 D.dims.length H.c3, .slice H.A4 D.cons.length H.c4, .slice H.A5 D.reqs.length H.c5, .slice H.A6 D.opts.length H.c6, .slice H.A7 D.rules.length H.c7, .slice H.A8 D.guards.length H.c8, .slice H.A9 D.overs.length H.c9], .int .i64 sv] (by rfl) rfl rfl (by (try simp only [List.map_toArray, List.map_cons, List.map_nil]); first | done | rfl) ?_
                refine (HNAM.out wa1 hH1).mono ?_
                rintro e wx2 ⟨An2, cn2, rfl, hcn2, hCn2, hbn2⟩
                refine ⟨_, rfl, ?_⟩
                have HX2 := Aside0.mk hCn2
                have HY2 := Aside0.mk hcn2
                clear hCn2 hcn2
                have HG2 := Aside0.mk (blk_below HG1.out hbn2)
                have HBS2 := Aside0.mk (Nat.lt_of_lt_of_le HBS1.out hbn2.size)
                have hS2 := below_step hH1 hbn2
                refine hK.out _ _ hS2 (fun hH2 => ?_)
                clear hK K hbn2
                refine norm_ (a' := ?_) ?_ ?_
                rotate_left
                · show Act.put _ (some 65) _ = _
                  simp only [Act.put, List.setIfInBounds_toArray, List.set_cons_zero, List.set_cons_succ, i64_w, i32_w]
                  rfl
                refine one_ (i := 7) (N := some 66) #[true, true, true, true, true, true, true, true, false, false, false, true, false, false] rfl rfl (by kernel_rfl) (by decide) (fun K hK => ?_)
                refine goes_ Try.func34 (by kernel_rfl) rfl #[.agg #[.string D.nm, .slice H.A1 D.parts.length H.c1, .slice H.A2 D.insts.length H.c2, .slice H.A3 D.dims.length H.c3, .slice H.A4 D.cons.length H.c4, .slice H.A5 D.reqs.length H.c5, .slice H.A6 D.opts.length H.c6, .slice H.A7 D.rules.length H.c7, .slice H.A8 D.guards.length H.c8, .slice H.A9 D.overs.length H.c9], .slice An2 NL.length cn2] (by rfl) rfl rfl (by (try simp only [List.map_toArray, List.map_cons, List.map_nil]); first | done | rfl) ?_
                refine (HPRO.out wx2 An2 cn2 hH2 HX2.out HY2.out).mono ?_
                rintro e wx3 ⟨cs3, rfl, hP3, hbn3⟩
                refine ⟨_, rfl, ?_⟩
                have HP3 := Aside0.mk hP3
                clear hP3
                have HG3 := Aside0.mk (blk_below HG2.out hbn3)
                have hS3 := below_step hH2 hbn3
                refine hK.out _ _ hS3 (fun hH3 => ?_)
                clear hK K hbn3
                refine norm_ (a' := ?_) ?_ ?_
                rotate_left
                · show Act.put _ (some 66) _ = _
                  simp only [Act.put, List.setIfInBounds_toArray, List.set_cons_zero, List.set_cons_succ, i64_w, i32_w]
                  rfl
                refine pure_ (i := 8) (N := some 58) (v := ?_) (a' := ?_) #[true, true, true, true, true, true, true, true, true, false, false, true, false, false] rfl rfl (by kernel_rfl) (fun _ _ _ h => h) (Or.inl ⟨by rfl, ?_⟩) ?_ ?_
                rotate_left
                · intro w'
                  go_simp
                  with_reducible rfl
                rotate_left
                · simp only [Act.put, List.setIfInBounds_toArray, List.set_cons_zero, List.set_cons_succ, i64_w, i32_w]
                  rfl
                refine pure_ (i := 9) (N := some 67) (v := ?_) (a' := ?_) #[true, true, true, true, true, true, true, true, true, true, false, true, false, false] rfl rfl (by kernel_rfl) (fun _ _ _ h => h) (Or.inl ⟨by rfl, ?_⟩) ?_ ?_
                rotate_left
                · intro w'
                  go_simp
                  with_reducible rfl
                rotate_left
                · simp only [Act.put, List.setIfInBounds_toArray, List.set_cons_zero, List.set_cons_succ, i64_w, i32_w]
                  rfl
                refine pure_ (i := 10) (N := some 68) (v := ?_) (a' := ?_) #[true, true, true, true, true, true, true, true, true, true, true, true, false, false] rfl rfl (by kernel_rfl) (fun _ _ _ h => h) (Or.inl ⟨by rfl, ?_⟩) ?_ ?_
                rotate_left
                · intro w'
                  go_simp
                  with_reducible rfl
                rotate_left
                · simp only [Act.put, List.setIfInBounds_toArray, List.set_cons_zero, List.set_cons_succ, i64_w, i32_w]
                  rfl
                obtain ⟨X1, X2, X4, X5, y1, y2, y4, y5, X3, y3, hcs, hl1, hl2, hsep⟩ := sep_old HP3.out HBS2.out
                subst hcs
                have HSEP := Aside0.mk hsep
                have HL1 := Aside0.mk hl1
                have HL2 := Aside0.mk hl2
                clear hsep hl1 hl2
                refine one_ (i := 12) (N := none) #[true, true, true, true, true, true, true, true, true, true, true, true, true, false] rfl rfl (by kernel_rfl) (by decide) (fun K hK => ?_)
                obtain ⟨z0, z1, z2, z3, z4, z5⟩ := p_cells (show wx3.heap[gb1]? = some (.cells zeroP 35 (0, 0)) from HG3.out)
                have f0 := blk_frozen HG3.out 0
                have f1 := blk_frozen HG3.out 1
                have f2 := blk_frozen HG3.out 2
                have f3 := blk_frozen HG3.out 3
                have f4 := blk_frozen HG3.out 4
                have f5 := blk_frozen HG3.out 5
                refine skip_ (w1 := ?_) (by rfl) rfl ?_ ?_
                rotate_left
                · go_simp
                  rfl
                obtain ⟨hbox, hbel, hfar⟩ := put_prod (nm := nmP) (v1 := .slice X1 0 y1) (v2 := .slice X2 IP.length y2) (v3 := .slice X3 DP.length y3) (v4 := .slice X4 0 y4) (v5 := .slice X5 0 y5) hH3 HGL1.out (show wx3.heap[gb1]? = some (.cells zeroP 35 (0, 0)) from HG3.out)
                have hat : PAt ((((((wx3.setCell ⟨gb1, 0, none⟩ (.string nmP)).setCell ⟨gb1, 1, none⟩ (.slice X1 0 y1)).setCell ⟨gb1, 2, none⟩ (.slice X2 IP.length y2)).setCell ⟨gb1, 3, none⟩ (.slice X3 DP.length y3)).setCell ⟨gb1, 4, none⟩ (.slice X4 0 y4)).setCell ⟨gb1, 5, none⟩ (.slice X5 0 y5)) #[.string nmP, .slice X1 0 y1, .slice X2 IP.length y2, .slice X3 DP.length y3, .slice X4 0 y4, .slice X5 0 y5] nmP IP DP := ⟨X1, X2, X4, X5, y1, y2, y4, y5, X3, y3, rfl, (HSEP.out _ hfar).1, HL1.out, (HSEP.out _ hfar).2, HL2.out⟩
                refine hK.out _ _ hbel (fun hHs => ?_)
                clear hK K hbel hfar z0 z1 z2 z3 z4 z5 f0 f1 f2 f3 f4 f5
                have HBOX := Aside0.mk hbox
                have HAT := Aside0.mk hat
                clear hbox hat
                generalize ((((((wx3.setCell ⟨gb1, 0, none⟩ (.string nmP)).setCell ⟨gb1, 1, none⟩ (.slice X1 0 y1)).setCell ⟨gb1, 2, none⟩ (.slice X2 IP.length y2)).setCell ⟨gb1, 3, none⟩ (.slice X3 DP.length y3)).setCell ⟨gb1, 4, none⟩ (.slice X4 0 y4)).setCell ⟨gb1, 5, none⟩ (.slice X5 0 y5)) = wz at HBOX HAT hHs ⊢
                refine pure_ (i := 13) (N := some 13) (v := ?_) (a' := ?_) #[true, true, true, true, true, true, true, true, true, true, true, true, true, true] rfl rfl (by kernel_rfl) (fun _ _ _ h => h) (Or.inl ⟨by rfl, ?_⟩) ?_ ?_
                rotate_left
                · intro w'
                  go_simp
                  with_reducible rfl
                rotate_left
                · simp only [Act.put, List.setIfInBounds_toArray, List.set_cons_zero, List.set_cons_succ, i64_w, i32_w]
                  rfl
                refine done_ (by kernel_rfl) ?_
                go_wp2_with fail
                go_meet
                case rel => exact ⟨_, _, rfl, rfl, ⟨hHs⟩, HBOX, HAT⟩
            case rest =>
              obtain ⟨wq, hwq⟩ : ∃ W, W = wc := ⟨_, rfl⟩
              rw [← hwq] at hcut ⊢
              clear hwq
              obtain ⟨g2, cs2, rfl, rfl, HBq, HBOX, HAT⟩ := hcut
              have hat := HAT.out
              obtain ⟨X1, X2, X4, X5, y1, y2, y4, y5, X3, y3, hcs, hr2, hl2, hr3, hl3⟩ := hat
              unfold pcs at hcs
              subst hcs
              clear hr2 hl2 hr3 hl3
              have HSZ : Aside0 (IP.length < 1000 ∧ DP.length < 1000) := ⟨by rw [HIP.out, HDP.out]; exact pr_small HW.out _⟩
              have HSM : Aside0 (∀ W ds, Below wq.heap.size wq W → PAt W ds nmP IP DP → Calls Try.prog 35 #[.agg #[.string nmP, .slice X1 0 y1, .slice X2 IP.length y2, .slice X3 DP.length y3, .slice X4 0 y4, .slice X5 0 y5], .agg ds] W fun e w' => e = .returned (.bool true) ∧ Below W.heap.size W w') := ⟨fun W ds hW hd => same_calls _ ds nmP IP DP W (HAT.out.below hW) hd HSZ.out.1 HSZ.out.2⟩
              obtain ⟨V2, hV2⟩ : ∃ v, v = idxP (fun x => !satR (cfg D.opts.length k) x) D.rules := ⟨_, rfl⟩
              rw [← hV2] at HBRK
              have HVV := Aside0.mk hV2
              clear hV2
              have HBQ2 : Aside0 (∀ W, Below wq.heap.size wq W → Below wr.heap.size wr W) := ⟨fun W hW => below_step HBq.out hW⟩
              go_upto_region 19 with (fail)
              by_cases hbr : V2 < 0
              · have d0 : decide (V2 ≥ 0) = false := by simp; omega
                have d1 : decide (0 ≤ V2) = false := by simp; omega
                have hpa : prA D (cfg D.opts.length k) = true := by unfold prA; rw [← HVV.out, decide_eq_true hbr]
                obtain rfl : ep = 0 := by rw [HEP.out]; unfold prE; rw [if_pos hpa]
                have HPA := Aside0.mk hpa
                clear hpa hbr
                refine start_ (n := 9) (S := fun w' => Below wq.heap.size wq w') (ds := []) #[false, false, false, false, false, false, false, false, false] (by kernel_rfl) rfl rfl (below_drew (Below.refl _ _)) (fun hHeld => ?_)
                generalize wq.drew = w19 at hHeld ⊢
                refine take_ (i := 0) (N := some 69) (v := ?_) (a' := ?_) #[true, false, false, false, false, false, false, false, false] rfl rfl (by kernel_rfl) (fun _ _ _ h => h) (Or.inl ⟨by rfl, ?_⟩) hHeld ?_ ?_
                rotate_left
                · intro w' hS
                  obtain ⟨k0, k1, k2, k3, k4, k5, k6, k7, k8, k9⟩ := box_cells (blk_below HK5.out (HUP.out _ (HBQ2.out _ hS)))
                  go_simp
                  with_reducible rfl
                rotate_left
                · simp only [Act.put, List.setIfInBounds_toArray, List.set_cons_zero, List.set_cons_succ, i64_w, i32_w]
                  rfl
                refine take_ (i := 1) (N := some 70) (v := ?_) (a' := ?_) #[true, true, false, false, false, false, false, false, false] rfl rfl (by kernel_rfl) (fun _ _ _ h => h) (Or.inl ⟨by rfl, ?_⟩) hHeld ?_ ?_
                rotate_left
                · intro w' hS
                  obtain ⟨k0, k1, k2, k3, k4, k5, k6, k7, k8, k9⟩ := box_cells (blk_below HK5.out (HUP.out _ (HBQ2.out _ hS)))
                  go_simp
                  with_reducible rfl
                rotate_left
                · simp only [Act.put, List.setIfInBounds_toArray, List.set_cons_zero, List.set_cons_succ, i64_w, i32_w]
                  rfl
                refine pure_ (i := 3) (N := some 72) (v := ?_) (a' := ?_) #[true, true, false, true, false, false, false, false, false] rfl rfl (by kernel_rfl) (fun _ _ _ h => h) (Or.inl ⟨by rfl, ?_⟩) ?_ ?_
                rotate_left
                · intro w'
                  go_simp
                  with_reducible rfl
                rotate_left
                · simp only [Act.put, List.setIfInBounds_toArray, List.set_cons_zero, List.set_cons_succ, i64_w, i32_w]
                  rfl
                refine pure_ (i := 4) (N := some 73) (v := ?_) (a' := ?_) #[true, true, false, true, true, false, false, false, false] rfl rfl (by kernel_rfl) (fun _ _ _ h => h) (Or.inl ⟨by rfl, ?_⟩) ?_ ?_
                rotate_left
                · intro w'
                  go_simp
                  with_reducible rfl
                rotate_left
                · simp only [Act.put, List.setIfInBounds_toArray, List.set_cons_zero, List.set_cons_succ, i64_w, i32_w]
                  rfl
                refine pure_ (i := 5) (N := some 74) (v := ?_) (a' := ?_) #[true, true, false, true, true, true, false, false, false] rfl rfl (by kernel_rfl) (fun _ _ _ h => h) (Or.inl ⟨by rfl, ?_⟩) ?_ ?_
                rotate_left
                · intro w'
                  go_simp
                  with_reducible rfl
                rotate_left
                · simp only [Act.put, List.setIfInBounds_toArray, List.set_cons_zero, List.set_cons_succ, i64_w, i32_w]
                  rfl
                refine take_ (i := 6) (N := some 75) (v := ?_) (a' := ?_) #[true, true, false, true, true, true, true, false, false] rfl rfl (by kernel_rfl) (fun _ _ _ h => h) (Or.inl ⟨by rfl, ?_⟩) hHeld ?_ ?_
                rotate_left
                · intro w' hS
                  have hx := cell_keep (HBQ2.out _ hS) HCI.out
                  go_simp
                  with_reducible rfl
                rotate_left
                · simp only [Act.put, List.setIfInBounds_toArray, List.set_cons_zero, List.set_cons_succ, i64_w, i32_w]
                  rfl
                refine one_ (i := 2) (N := some 71) #[true, true, true, true, true, true, true, false, false] rfl rfl (by kernel_rfl) (by decide) (fun K hK => ?_)
                refine goes_ Try.func18 (by kernel_rfl) rfl #[.agg #[.string D.nm, .slice H.A1 D.parts.length H.c1, .slice H.A2 D.insts.length H.c2, .slice H.A3 D.dims.length H.c3, .slice H.A4 D.cons.length H.c4, .slice H.A5 D.reqs.length H.c5, .slice H.A6 D.opts.length H.c6, .slice H.A7 D.rules.length H.c7, .slice H.A8 D.guards.length H.c8, .slice H.A9 D.overs.length H.c9]] (by rfl) rfl rfl (by (try simp only [List.map_toArray, List.map_cons, List.map_nil]); first | done | rfl) ?_
                refine (HNONE.out w19 (HBQ2.out _ hHeld)).mono ?_
                rintro e wx1 ⟨A1, c1, rfl, hc1, hC1, hb1⟩
                refine ⟨_, rfl, ?_⟩
                have HX1 := Aside0.mk hC1
                have HY1 := Aside0.mk hc1
                clear hC1 hc1
                have hS1 := below_step hHeld hb1
                refine hK.out _ _ hS1 (fun hH1 => ?_)
                clear hK K hb1
                refine norm_ (a' := ?_) ?_ ?_
                rotate_left
                · show Act.put _ (some 71) _ = _
                  simp only [Act.put, List.setIfInBounds_toArray, List.set_cons_zero, List.set_cons_succ, i64_w, i32_w]
                  rfl
                refine one_ (i := 7) (N := some 76) #[true, true, true, true, true, true, true, true, false] rfl rfl (by kernel_rfl) (by decide) (fun K hK => ?_)
                refine goes_ Try.func32 (by kernel_rfl) rfl #[.agg #[.string D.nm, .slice H.A1 D.parts.length H.c1, .slice H.A2 D.insts.length H.c2, .slice H.A3 D.dims.length H.c3, .slice H.A4 D.cons.length H.c4, .slice H.A5 D.reqs.length H.c5, .slice H.A6 D.opts.length H.c6, .slice H.A7 D.rules.length H.c7, .slice H.A8 D.guards.length H.c8, .slice H.A9 D.overs.length H.c9], .slice A1 D.rules.length c1, .int .i64 sv] (by rfl) rfl rfl (by (try simp only [List.map_toArray, List.map_cons, List.map_nil]); first | done | rfl) ?_
                refine (HBRK.out wx1 A1 c1 (HBQ2.out _ hH1) HX1.out HY1.out).mono ?_
                rintro e wx2 ⟨rfl, hb2⟩
                refine ⟨_, rfl, ?_⟩
                have hS2 := below_step hH1 hb2
                refine hK.out _ _ hS2 (fun hH2 => ?_)
                clear hK K hb2
                refine norm_ (a' := ?_) ?_ ?_
                rotate_left
                · show Act.put _ (some 76) _ = _
                  simp only [Act.put, List.setIfInBounds_toArray, List.set_cons_zero, List.set_cons_succ, i64_w, i32_w]
                  rfl
                refine pure_ (i := 8) (N := some 77) (v := ?_) (a' := ?_) #[true, true, true, true, true, true, true, true, true] rfl rfl (by kernel_rfl) (fun _ _ _ h => h) (Or.inl ⟨by rfl, ?_⟩) ?_ ?_
                rotate_left
                · intro w'
                  go_simp
                  with_reducible rfl
                rotate_left
                · simp only [Act.put, List.setIfInBounds_toArray, List.set_cons_zero, List.set_cons_succ, i64_w, i32_w]
                  rfl
                refine done_ (by kernel_rfl) ?_
                have HBx := Aside0.mk hH2
                have HREF : Aside0 (∀ W, Below wx2.heap.size wx2 W → Calls Try.prog 36 #[.agg #[.string D.nm, .slice H.A1 D.parts.length H.c1, .slice H.A2 D.insts.length H.c2, .slice H.A3 D.dims.length H.c3, .slice H.A4 D.cons.length H.c4, .slice H.A5 D.reqs.length H.c5, .slice H.A6 D.opts.length H.c6, .slice H.A7 D.rules.length H.c7, .slice H.A8 D.guards.length H.c8, .slice H.A9 D.overs.length H.c9], .int .i64 sv] W fun e w' => ∃ cs, e = .returned (.agg cs) ∧ PAt w' cs nmP IP DP ∧ Below W.heap.size W w') := ⟨fun W hW => by
                  have h := refP_calls D H k W (HF5.out.below (HUP.out W (HBQ2.out W (below_step HBx.out hW)))) HW.out HKK.out
                  rw [← HRD.out] at h
                  rw [HNM.out, HIP.out, HDP.out]
                  unfold prN prI prD
                  rw [if_pos HPA.out, if_pos HPA.out, if_pos HPA.out]
                  exact h⟩
                go_wp2_with fail
                obtain ⟨wy, hwy⟩ : ∃ W, W = wx2 := ⟨_, rfl⟩
                rw [← hwy] at HBx HREF ⊢
                clear hwy
                go_upto_region 22 with (fail)
                refine start_ (n := 13) (S := fun w' => Below wy.heap.size wy w') (ds := []) #[false, false, false, false, false, false, false, false, false, false, false, false, false] (by kernel_rfl) rfl rfl (below_drew (Below.refl _ _)) (fun hHeld => ?_)
                generalize wy.drew = w19 at hHeld ⊢
                refine take_ (i := 0) (N := some 86) (v := ?_) (a' := ?_) #[true, false, false, false, false, false, false, false, false, false, false, false, false] rfl rfl (by kernel_rfl) (fun _ _ _ h => h) (Or.inl ⟨by rfl, ?_⟩) hHeld ?_ ?_
                rotate_left
                · intro w' hS
                  have hpc := blk_below HBOX.out (below_step HBx.out hS)
                  have c0_ := (blk_cell hpc 0).trans rfl
                  have c1_ := (blk_cell hpc 1).trans rfl
                  have c2_ := (blk_cell hpc 2).trans rfl
                  have c3_ := (blk_cell hpc 3).trans rfl
                  have c4_ := (blk_cell hpc 4).trans rfl
                  have c5_ := (blk_cell hpc 5).trans rfl
                  go_simp
                  with_reducible rfl
                rotate_left
                · simp only [Act.put, List.setIfInBounds_toArray, List.set_cons_zero, List.set_cons_succ, i64_w, i32_w]
                  rfl
                refine take_ (i := 1) (N := some 87) (v := ?_) (a' := ?_) #[true, true, false, false, false, false, false, false, false, false, false, false, false] rfl rfl (by kernel_rfl) (fun _ _ _ h => h) (Or.inl ⟨by rfl, ?_⟩) hHeld ?_ ?_
                rotate_left
                · intro w' hS
                  obtain ⟨k0, k1, k2, k3, k4, k5, k6, k7, k8, k9⟩ := box_cells (blk_below HK5.out (HUP.out _ (HBQ2.out _ (below_step HBx.out hS))))
                  go_simp
                  with_reducible rfl
                rotate_left
                · simp only [Act.put, List.setIfInBounds_toArray, List.set_cons_zero, List.set_cons_succ, i64_w, i32_w]
                  rfl
                refine pure_ (i := 2) (N := some 88) (v := ?_) (a' := ?_) #[true, true, true, false, false, false, false, false, false, false, false, false, false] rfl rfl (by kernel_rfl) (fun _ _ _ h => h) (Or.inl ⟨by rfl, ?_⟩) ?_ ?_
                rotate_left
                · intro w'
                  go_simp
                  with_reducible rfl
                rotate_left
                · simp only [Act.put, List.setIfInBounds_toArray, List.set_cons_zero, List.set_cons_succ, i64_w, i32_w]
                  rfl
                refine pure_ (i := 3) (N := some 89) (v := ?_) (a' := ?_) #[true, true, true, true, false, false, false, false, false, false, false, false, false] rfl rfl (by kernel_rfl) (fun _ _ _ h => h) (Or.inl ⟨by rfl, ?_⟩) ?_ ?_
                rotate_left
                · intro w'
                  go_simp
                  with_reducible rfl
                rotate_left
                · simp only [Act.put, List.setIfInBounds_toArray, List.set_cons_zero, List.set_cons_succ, i64_w, i32_w]
                  rfl
                refine pure_ (i := 4) (N := some 90) (v := ?_) (a' := ?_) #[true, true, true, true, true, false, false, false, false, false, false, false, false] rfl rfl (by kernel_rfl) (fun _ _ _ h => h) (Or.inl ⟨by rfl, ?_⟩) ?_ ?_
                rotate_left
                · intro w'
                  go_simp
                  with_reducible rfl
                rotate_left
                · simp only [Act.put, List.setIfInBounds_toArray, List.set_cons_zero, List.set_cons_succ, i64_w, i32_w]
                  rfl
                refine take_ (i := 5) (N := some 91) (v := ?_) (a' := ?_) #[true, true, true, true, true, true, false, false, false, false, false, false, false] rfl rfl (by kernel_rfl) (fun _ _ _ h => h) (Or.inl ⟨by rfl, ?_⟩) hHeld ?_ ?_
                rotate_left
                · intro w' hS
                  have hx := cell_keep (HBQ2.out _ (below_step HBx.out hS)) HCI.out
                  go_simp
                  with_reducible rfl
                rotate_left
                · simp only [Act.put, List.setIfInBounds_toArray, List.set_cons_zero, List.set_cons_succ, i64_w, i32_w]
                  rfl
                refine one_ (i := 6) (N := some 92) #[true, true, true, true, true, true, true, false, false, false, false, false, false] rfl rfl (by kernel_rfl) (by decide) (fun K hK => ?_)
                refine goes_ Try.func36 (by kernel_rfl) rfl #[.agg #[.string D.nm, .slice H.A1 D.parts.length H.c1, .slice H.A2 D.insts.length H.c2, .slice H.A3 D.dims.length H.c3, .slice H.A4 D.cons.length H.c4, .slice H.A5 D.reqs.length H.c5, .slice H.A6 D.opts.length H.c6, .slice H.A7 D.rules.length H.c7, .slice H.A8 D.guards.length H.c8, .slice H.A9 D.overs.length H.c9], .int .i64 sv] (by rfl) rfl rfl (by (try simp only [List.map_toArray, List.map_cons, List.map_nil]); first | done | rfl) ?_
                refine (HREF.out w19 hHeld).mono ?_
                rintro e wx1 ⟨cs7, rfl, hP7, hb1⟩
                refine ⟨_, rfl, ?_⟩
                have HP7 := Aside0.mk hP7
                clear hP7
                have hS1 := below_step hHeld hb1
                refine hK.out _ _ hS1 (fun hH1 => ?_)
                clear hK K hb1
                refine norm_ (a' := ?_) ?_ ?_
                rotate_left
                · show Act.put _ (some 92) _ = _
                  simp only [Act.put, List.setIfInBounds_toArray, List.set_cons_zero, List.set_cons_succ, i64_w, i32_w]
                  rfl
                refine one_ (i := 7) (N := some 93) #[true, true, true, true, true, true, true, true, false, false, false, false, false] rfl rfl (by kernel_rfl) (by decide) (fun K hK => ?_)
                refine goes_ Try.func35 (by kernel_rfl) rfl #[.agg #[.string nmP, .slice X1 0 y1, .slice X2 IP.length y2, .slice X3 DP.length y3, .slice X4 0 y4, .slice X5 0 y5], .agg cs7] (by rfl) rfl rfl (by (try simp only [List.map_toArray, List.map_cons, List.map_nil]); first | done | rfl) ?_
                refine (HSM.out wx1 cs7 (below_step HBx.out hH1) HP7.out).mono ?_
                rintro e wx2 ⟨rfl, hb2⟩
                refine ⟨_, rfl, ?_⟩
                have hS2 := below_step hH1 hb2
                refine hK.out _ _ hS2 (fun hH2 => ?_)
                clear hK K hb2
                refine norm_ (a' := ?_) ?_ ?_
                rotate_left
                · show Act.put _ (some 93) _ = _
                  simp only [Act.put, List.setIfInBounds_toArray, List.set_cons_zero, List.set_cons_succ, i64_w, i32_w]
                  rfl
                refine pure_ (i := 8) (N := some 94) (v := ?_) (a' := ?_) #[true, true, true, true, true, true, true, true, true, false, false, false, false] rfl rfl (by kernel_rfl) (fun _ _ _ h => h) (Or.inl ⟨by rfl, ?_⟩) ?_ ?_
                rotate_left
                · intro w'
                  go_simp
                  with_reducible rfl
                rotate_left
                · simp only [Act.put, List.setIfInBounds_toArray, List.set_cons_zero, List.set_cons_succ, i64_w, i32_w]
                  rfl
                refine pure_ (i := 9) (N := some 95) (v := ?_) (a' := ?_) #[true, true, true, true, true, true, true, true, true, true, false, false, false] rfl rfl (by kernel_rfl) (fun _ _ _ h => h) (Or.inl ⟨by rfl, ?_⟩) ?_ ?_
                rotate_left
                · intro w'
                  go_simp
                  with_reducible rfl
                rotate_left
                · simp only [Act.put, List.setIfInBounds_toArray, List.set_cons_zero, List.set_cons_succ, i64_w, i32_w]
                  rfl
                refine pure_ (i := 10) (N := some 96) (v := ?_) (a' := ?_) #[true, true, true, true, true, true, true, true, true, true, true, false, false] rfl rfl (by kernel_rfl) (fun _ _ _ h => h) (Or.inl ⟨by rfl, ?_⟩) ?_ ?_
                rotate_left
                · intro w'
                  go_simp
                  with_reducible rfl
                rotate_left
                · simp only [Act.put, List.setIfInBounds_toArray, List.set_cons_zero, List.set_cons_succ, i64_w, i32_w]
                  rfl
                refine pure_ (i := 11) (N := some 97) (v := ?_) (a' := ?_) #[true, true, true, true, true, true, true, true, true, true, true, true, false] rfl rfl (by kernel_rfl) (fun _ _ _ h => h) (Or.inl ⟨by rfl, ?_⟩) ?_ ?_
                rotate_left
                · intro w'
                  go_simp
                  with_reducible rfl
                rotate_left
                · simp only [Act.put, List.setIfInBounds_toArray, List.set_cons_zero, List.set_cons_succ, i64_w, i32_w]
                  rfl
                refine pure_ (i := 12) (N := some 98) (v := ?_) (a' := ?_) #[true, true, true, true, true, true, true, true, true, true, true, true, true] rfl rfl (by kernel_rfl) (fun _ _ _ h => h) (Or.inl ⟨by rfl, ?_⟩) ?_ ?_
                rotate_left
                · intro w'
                  go_simp
                  with_reducible rfl
                rotate_left
                · simp only [Act.put, List.setIfInBounds_toArray, List.set_cons_zero, List.set_cons_succ, i64_w, i32_w]
                  rfl
                refine done_ (by kernel_rfl) ?_
                have HBz : Aside0 (Below wy.heap.size wy wx2) := ⟨hH2⟩
                go_wp2_with fail
                obtain ⟨wz, hwz⟩ : ∃ W, W = wx2 := ⟨_, rfl⟩
                rw [← hwz] at HBz ⊢
                clear hwz
                have HZQ : Aside0 (∀ W, Below wz.heap.size wz W → Below wq.heap.size wq W) := ⟨fun W hW => below_step (below_step HBx.out HBz.out) hW⟩
                go_loopg [14] SQ.length (fun gk v14 w' => ∃ j : Nat, v14 = .int .i64 (j : Int) ∧ Aside0 (j ≤ SQ.length) ∧ Aside0 (SQ.length - j ≤ gk) ∧ Aside0 (Below wz.heap.size wz w'))
                case atStart => exact ⟨0, rfl, ⟨Nat.zero_le _⟩, ⟨Nat.sub_le _ _⟩, ⟨Below.refl _ _⟩⟩
                case round =>
                  obtain ⟨j, rfl, HJ, HGJ, HBj⟩ := hrel
                  by_cases hj : j < SQ.length
                  · have q2 : decide ((j : Int) < (SQ.length : Int)) = true := by simpa using hj
                    have q3 : decide (j < SQ.length) = true := by simpa using hj
                    have p2 : 0 ≤ (j : Int) := by omega
                    have p3 : (j : Int) < (SQ.length : Int) := by omega
                    have hsl64 : SQ.length ≤ 64 := by have := HSL2.out; omega
                    obtain ⟨k2, hk2, hpa2, hrd2⟩ := HSQ.out j hj
                    have HWJ := Aside0.mk (HBQ2.out _ (HZQ.out _ HBj.out))
                    have hsi := cell_keep HWJ.out HCI.out
                    obtain ⟨adq, hAq, hxq⟩ := Kd.at_int (Kd.R_reads' (Kd.R_below HRS.out HWJ.out)).2.2 (j : Int) p2 p3
                    rw [Int.toNat_natCast] at hxq
                    subst hAq
                    obtain ⟨sq, hsq⟩ : ∃ s : Int, s = rd SQ (j : Int) := ⟨_, rfl⟩
                    rw [← hsq] at hxq hrd2
                    have hb1 : Go.bits .and .i64 sq (U : Int) = ((setOf D.opts.length k2 &&& U : Nat) : Int) := by rw [hrd2]; exact bits_and_i64_nat _ _ (by have := set_lt _ (show D.opts.length < 7 by omega) k2 hk2; omega) (by have := HUL.out; omega)
                    have hb2 : Go.bits .and .i64 sv (U : Int) = ((setOf D.opts.length k &&& U : Nat) : Int) := by rw [HRD.out]; exact bits_and_i64_nat _ _ (by have := set_lt _ (show D.opts.length < 7 by omega) k HKK.out; omega) (by have := HUL.out; omega)
                    have HK2 := Aside0.mk hk2
                    have HPA2 := Aside0.mk hpa2
                    have HRD2 := Aside0.mk hrd2
                    have HXQ := Aside0.mk hxq
                    clear hsq hk2 hpa2 hrd2
                    by_cases he : setOf D.opts.length k2 &&& U = setOf D.opts.length k &&& U
                    · have hbn : (Go.bits .and .i64 sq (U : Int) != Go.bits .and .i64 sv (U : Int)) = false := by rw [hb1, hb2, he]; simp
                      have HE := Aside0.mk he
                      clear hb1 hb2 he
                      go_upto_region 27 with (fail)
                      go_cut [117] (fun v117 wd => v117 = .bool false ∧ Aside0 (Below wr.heap.size wr wd))
                      case first =>
                        go_quiet (fail)
                        go_wp2_with fail
                        go_meet
                        case rel => exact ⟨rfl, ⟨pw_below_drewN (Below.refl _ _) _⟩⟩
                      case rest =>
                        obtain ⟨wd, hwd⟩ : ∃ W, W = wc := ⟨_, rfl⟩
                        rw [← hwd] at hcut ⊢
                        clear hwd
                        obtain ⟨rfl, HBd⟩ := hcut
                        clear hbn hsi hxq
                        obtain ⟨NL2, hNL2⟩ : ∃ n, n = cnames (cfg D.opts.length k2) D.opts := ⟨_, rfl⟩
                        have HUQ : Aside0 (∀ W, Below wr.heap.size wr W → Below w5.heap.size w5 W) := ⟨fun W hW => HUP.out _ (below_step HWJ.out hW)⟩
                        have HNAM2 : Aside0 (∀ W, Below wd.heap.size wd W → Calls Try.prog 20 #[.agg #[.string D.nm, .slice H.A1 D.parts.length H.c1, .slice H.A2 D.insts.length H.c2, .slice H.A3 D.dims.length H.c3, .slice H.A4 D.cons.length H.c4, .slice H.A5 D.reqs.length H.c5, .slice H.A6 D.opts.length H.c6, .slice H.A7 D.rules.length H.c7, .slice H.A8 D.guards.length H.c8, .slice H.A9 D.overs.length H.c9], .int .i64 sq] W fun e w' => ∃ A cp, e = .returned (.slice A NL2.length cp) ∧ NL2.length ≤ cp ∧ Kd.C Kd.string w' A NL2.length NL2 ∧ Below W.heap.size W w') := ⟨fun W hW => by
                          have h := ref_names D H k2 W (HF5.out.below (HUQ.out W (below_step HBd.out hW))) hn6 HK2.out
                          rw [← hNL2, ← HRD2.out] at h
                          exact h⟩
                        have HEQ : Aside0 (prE D (cfg D.opts.length k2) = 0 ∧ prN D (cfg D.opts.length k2) = nmP ∧ prI D (cfg D.opts.length k2) = IP ∧ prD D (cfg D.opts.length k2) = DP) := ⟨by
                          have he := HE.out
                          rw [HUU.out] at he
                          rw [HNM.out, HIP.out, HDP.out]
                          unfold prE prN prI prD
                          rw [if_pos HPA2.out, if_pos HPA2.out, if_pos HPA2.out, if_pos HPA2.out, if_pos HPA.out, if_pos HPA.out, if_pos HPA.out, dep_inst hn6 HK2.out HKK.out HW.out.pw he, dep_dim hn6 HK2.out HKK.out HW.out.pw he _ (Nat.le_refl _)]
                          exact ⟨rfl, rfl, rfl, rfl⟩⟩
                        have HPRO2 : Aside0 (∀ W A cp, Below wd.heap.size wd W → Kd.C Kd.string W A NL2.length NL2 → NL2.length ≤ cp → Calls Try.prog 34 #[.agg #[.string D.nm, .slice H.A1 D.parts.length H.c1, .slice H.A2 D.insts.length H.c2, .slice H.A3 D.dims.length H.c3, .slice H.A4 D.cons.length H.c4, .slice H.A5 D.reqs.length H.c5, .slice H.A6 D.opts.length H.c6, .slice H.A7 D.rules.length H.c7, .slice H.A8 D.guards.length H.c8, .slice H.A9 D.overs.length H.c9], .slice A NL2.length cp] W fun e w' => ∃ cs, e = .returned (.tuple #[.agg cs, .int .i64 0]) ∧ PFt w' W.heap.size cs nmP IP DP ∧ Below W.heap.size W w') := ⟨fun W A cp hW hC hc => by
                          have h := prodK_calls D H k2 A cp W (HF5.out.below (HUQ.out W (below_step HBd.out hW))) HW.out HK2.out (by rw [← hNL2]; exact hC) (by rw [← hNL2]; exact hc)
                          rw [← hNL2, HEQ.out.1, HEQ.out.2.1, HEQ.out.2.2.1, HEQ.out.2.2.2] at h
                          exact h⟩
                        clear hNL2
                        go_upto_region 28 with (fail)
                        go_cut [15, 16] (fun v15 v16 we => ∃ g3 cs3, v15 = .pointer (some ⟨g3, 0, none⟩) ∧ v16 = .int .i64 0 ∧ Aside0 (Below wd.heap.size wd we) ∧ Aside0 (we.heap[g3]? = some (.cells cs3 35 (0, 0))) ∧ Aside0 (PAt we cs3 nmP IP DP))
                        case first =>
                          refine start_ (n := 14) (S := fun w' => Below wd.heap.size wd w') (ds := []) #[false, false, false, false, false, false, false, false, false, false, false, false, false, false] (by kernel_rfl) rfl rfl (below_drew (Below.refl _ _)) (fun hHeld => ?_)
                          generalize wd.drew = w19 at hHeld ⊢
                          refine take_ (i := 0) (N := some 119) (v := ?_) (a' := ?_) #[true, false, false, false, false, false, false, false, false, false, false, false, false, false] rfl rfl (by kernel_rfl) (fun _ _ _ h => h) (Or.inl ⟨by rfl, ?_⟩) hHeld ?_ ?_
                          rotate_left
                          · intro w' hS
                            obtain ⟨k0, k1, k2, k3, k4, k5, k6, k7, k8, k9⟩ := box_cells (blk_below HK5.out (HUQ.out _ (below_step HBd.out hS)))
                            go_simp
                            with_reducible rfl
                          rotate_left
                          · simp only [Act.put, List.setIfInBounds_toArray, List.set_cons_zero, List.set_cons_succ, i64_w, i32_w]
                            rfl
                          refine take_ (i := 1) (N := some 120) (v := ?_) (a' := ?_) #[true, true, false, false, false, false, false, false, false, false, false, false, false, false] rfl rfl (by kernel_rfl) (fun _ _ _ h => h) (Or.inl ⟨by rfl, ?_⟩) hHeld ?_ ?_
                          rotate_left
                          · intro w' hS
                            obtain ⟨k0, k1, k2, k3, k4, k5, k6, k7, k8, k9⟩ := box_cells (blk_below HK5.out (HUQ.out _ (below_step HBd.out hS)))
                            go_simp
                            with_reducible rfl
                          rotate_left
                          · simp only [Act.put, List.setIfInBounds_toArray, List.set_cons_zero, List.set_cons_succ, i64_w, i32_w]
                            rfl
                          refine pure_ (i := 2) (N := some 121) (v := ?_) (a' := ?_) #[true, true, true, false, false, false, false, false, false, false, false, false, false, false] rfl rfl (by kernel_rfl) (fun _ _ _ h => h) (Or.inl ⟨by rfl, ?_⟩) ?_ ?_
                          rotate_left
                          · intro w'
                            go_simp
                            with_reducible rfl
                          rotate_left
                          · simp only [Act.put, List.setIfInBounds_toArray, List.set_cons_zero, List.set_cons_succ, i64_w, i32_w]
                            rfl
                          refine pure_ (i := 3) (N := some 122) (v := ?_) (a' := ?_) #[true, true, true, true, false, false, false, false, false, false, false, false, false, false] rfl rfl (by kernel_rfl) (fun _ _ _ h => h) (Or.inl ⟨by rfl, ?_⟩) ?_ ?_
                          rotate_left
                          · intro w'
                            go_simp
                            with_reducible rfl
                          rotate_left
                          · simp only [Act.put, List.setIfInBounds_toArray, List.set_cons_zero, List.set_cons_succ, i64_w, i32_w]
                            rfl
                          refine pure_ (i := 4) (N := some 123) (v := ?_) (a' := ?_) #[true, true, true, true, true, false, false, false, false, false, false, false, false, false] rfl rfl (by kernel_rfl) (fun _ _ _ h => h) (Or.inl ⟨by rfl, ?_⟩) ?_ ?_
                          rotate_left
                          · intro w'
                            go_simp
                            with_reducible rfl
                          rotate_left
                          · simp only [Act.put, List.setIfInBounds_toArray, List.set_cons_zero, List.set_cons_succ, i64_w, i32_w]
                            rfl
                          refine take_ (i := 5) (N := some 124) (v := ?_) (a' := ?_) #[true, true, true, true, true, true, false, false, false, false, false, false, false, false] rfl rfl (by kernel_rfl) (fun _ _ _ h => h) (Or.inl ⟨by rfl, ?_⟩) hHeld ?_ ?_
                          rotate_left
                          · intro w' hS
                            have hx := cell_keep (below_step HBd.out hS) HXQ.out
                            go_simp
                            with_reducible rfl
                          rotate_left
                          · simp only [Act.put, List.setIfInBounds_toArray, List.set_cons_zero, List.set_cons_succ, i64_w, i32_w]
                            rfl
                          refine two_ (i := 6) (j := 11) (Ni := some 125) (Nj := some 15) #[true, true, true, true, true, true, true, false, false, false, false, false, false, false] #[true, true, true, true, true, true, false, false, false, false, false, true, false, false] rfl rfl rfl rfl (by kernel_rfl) (by decide) (by decide) (fun K hK => ?_) (fun K hK => ?_)
                          · refine goes_ Try.func20 (by kernel_rfl) rfl #[.agg #[.string D.nm, .slice H.A1 D.parts.length H.c1, .slice H.A2 D.insts.length H.c2, .slice H.A3 D.dims.length H.c3, .slice H.A4 D.cons.length H.c4, .slice H.A5 D.reqs.length H.c5, .slice H.A6 D.opts.length H.c6, .slice H.A7 D.rules.length H.c7, .slice H.A8 D.guards.length H.c8, .slice H.A9 D.overs.length H.c9], .int .i64 sq] (by rfl) rfl rfl (by (try simp only [List.map_toArray, List.map_cons, List.map_nil]); first | done | rfl) ?_
                            refine (HNAM2.out w19 hHeld).mono ?_
                            rintro e wx1 ⟨An1, cn1, rfl, hcn1, hCn1, hbn1⟩
                            refine ⟨_, rfl, ?_⟩
                            have HX1 := Aside0.mk hCn1
                            have HY1 := Aside0.mk hcn1
                            clear hCn1 hcn1
                            have hS1 := below_step hHeld hbn1
                            refine hK.out _ _ hS1 (fun hH1 => ?_)
                            clear hK K hbn1
                            refine norm_ (a' := ?_) ?_ ?_
                            rotate_left
                            · show Act.put _ (some 125) _ = _
                              simp only [Act.put, List.setIfInBounds_toArray, List.set_cons_zero, List.set_cons_succ, i64_w, i32_w]
                              rfl
                            refine two_ (i := 7) (j := 11) (Ni := some 126) (Nj := some 15) #[true, true, true, true, true, true, true, true, false, false, false, false, false, false] #[true, true, true, true, true, true, true, false, false, false, false, true, false, false] rfl rfl rfl rfl (by kernel_rfl) (by decide) (by decide) (fun K hK => ?_) (fun K hK => ?_)
                            · refine goes_ Try.func34 (by kernel_rfl) rfl #[.agg #[.string D.nm, .slice H.A1 D.parts.length H.c1, .slice H.A2 D.insts.length H.c2, .slice H.A3 D.dims.length H.c3, .slice H.A4 D.cons.length H.c4, .slice H.A5 D.reqs.length H.c5, .slice H.A6 D.opts.length H.c6, .slice H.A7 D.rules.length H.c7, .slice H.A8 D.guards.length H.c8, .slice H.A9 D.overs.length H.c9], .slice An1 NL2.length cn1] (by rfl) rfl rfl (by (try simp only [List.map_toArray, List.map_cons, List.map_nil]); first | done | rfl) ?_
                              refine (HPRO2.out wx1 An1 cn1 hH1 HX1.out HY1.out).mono ?_
                              rintro e wx2 ⟨cs2, rfl, hP2, hbn2⟩
                              refine ⟨_, rfl, ?_⟩
                              have HP2 := Aside0.mk hP2
                              clear hP2
                              have hS2 := below_step hH1 hbn2
                              refine hK.out _ _ hS2 (fun hH2 => ?_)
                              clear hK K hbn2
                              refine norm_ (a' := ?_) ?_ ?_
                              rotate_left
                              · show Act.put _ (some 126) _ = _
                                simp only [Act.put, List.setIfInBounds_toArray, List.set_cons_zero, List.set_cons_succ, i64_w, i32_w]
                                rfl
                              refine pure_ (i := 8) (N := some 118) (v := ?_) (a' := ?_) #[true, true, true, true, true, true, true, true, true, false, false, false, false, false] rfl rfl (by kernel_rfl) (fun _ _ _ h => h) (Or.inl ⟨by rfl, ?_⟩) ?_ ?_
                              rotate_left
                              · intro w'
                                go_simp
                                with_reducible rfl
                              rotate_left
                              · simp only [Act.put, List.setIfInBounds_toArray, List.set_cons_zero, List.set_cons_succ, i64_w, i32_w]
                                rfl
                              refine pure_ (i := 9) (N := some 127) (v := ?_) (a' := ?_) #[true, true, true, true, true, true, true, true, true, true, false, false, false, false] rfl rfl (by kernel_rfl) (fun _ _ _ h => h) (Or.inl ⟨by rfl, ?_⟩) ?_ ?_
                              rotate_left
                              · intro w'
                                go_simp
                                with_reducible rfl
                              rotate_left
                              · simp only [Act.put, List.setIfInBounds_toArray, List.set_cons_zero, List.set_cons_succ, i64_w, i32_w]
                                rfl
                              refine pure_ (i := 10) (N := some 128) (v := ?_) (a' := ?_) #[true, true, true, true, true, true, true, true, true, true, true, false, false, false] rfl rfl (by kernel_rfl) (fun _ _ _ h => h) (Or.inl ⟨by rfl, ?_⟩) ?_ ?_
                              rotate_left
                              · intro w'
                                go_simp
                                with_reducible rfl
                              rotate_left
                              · simp only [Act.put, List.setIfInBounds_toArray, List.set_cons_zero, List.set_cons_succ, i64_w, i32_w]
                                rfl
                              refine one_ (i := 11) (N := some 15) #[true, true, true, true, true, true, true, true, true, true, true, true, false, false] rfl rfl (by kernel_rfl) (by decide) (fun K hK => ?_)
                              refine value_ (w1 := ?_) (v := ?_) (by rfl) rfl ?_ ?_
                              rotate_left 2
                              · go_simp
                                constructor
                                · rfl
                                · rfl
                              have HG3 := Aside0.mk (heap_alloc_new wx2 (.cells #[.string ⟨#[]⟩, .slice none 0 0, .slice none 0 0, .slice none 0 0, .slice none 0 0, .slice none 0 0] 35))
                              have HGL3 : Aside0 (wd.heap.size ≤ wx2.heap.size) := ⟨hH2.size⟩
                              obtain ⟨gb3, hgb3⟩ : ∃ g, g = wx2.heap.size := ⟨_, rfl⟩
                              refine hK.out _ _ (below_alloc hH2 _) (fun hH3 => ?_)
                              clear hK K
                              have HQ3 := Aside0.mk (below_alloc (Below.refl wx2.heap.size wx2) (.cells #[.string ⟨#[]⟩, .slice none 0 0, .slice none 0 0, .slice none 0 0, .slice none 0 0, .slice none 0 0] 35))
                              rw [← hgb3] at HG3 HGL3 ⊢
                              have HGE3 : Aside0 (wx2.heap.size ≤ gb3) := ⟨Nat.le_of_eq hgb3.symm⟩
                              generalize wx2.alloc (.cells #[.string ⟨#[]⟩, .slice none 0 0, .slice none 0 0, .slice none 0 0, .slice none 0 0, .slice none 0 0] 35) = wa3 at HG3 hH3 HQ3 ⊢
                              have hbs3 : gb3 < wa3.heap.size := blk_lt HG3.out
                              have HBS3 := Aside0.mk hbs3
                              clear hbs3 hgb3
                              refine norm_ (a' := ?_) ?_ ?_
                              rotate_left
                              · show Act.put _ (some 15) _ = _
                                simp only [Act.put, List.setIfInBounds_toArray, List.set_cons_zero, List.set_cons_succ, i64_w, i32_w]
                                rfl
                              obtain ⟨X1, X2, X4, X5, y1, y2, y4, y5, X3, y3, hcs, hl1, hl2, hsep⟩ := sep_new HP2.out.at_ HQ3.out HGE3.out
                              subst hcs
                              have HSEP := Aside0.mk hsep
                              have HL1 := Aside0.mk hl1
                              have HL2 := Aside0.mk hl2
                              clear hsep hl1 hl2
                              refine one_ (i := 12) (N := none) #[true, true, true, true, true, true, true, true, true, true, true, true, true, false] rfl rfl (by kernel_rfl) (by decide) (fun K hK => ?_)
                              obtain ⟨z0, z1, z2, z3, z4, z5⟩ := p_cells (show wa3.heap[gb3]? = some (.cells zeroP 35 (0, 0)) from HG3.out)
                              have f0 := blk_frozen HG3.out 0
                              have f1 := blk_frozen HG3.out 1
                              have f2 := blk_frozen HG3.out 2
                              have f3 := blk_frozen HG3.out 3
                              have f4 := blk_frozen HG3.out 4
                              have f5 := blk_frozen HG3.out 5
                              refine skip_ (w1 := ?_) (by rfl) rfl ?_ ?_
                              rotate_left
                              · go_simp
                                rfl
                              obtain ⟨hbox, hbel, hfar⟩ := put_prod (nm := nmP) (v1 := .slice X1 0 y1) (v2 := .slice X2 IP.length y2) (v3 := .slice X3 DP.length y3) (v4 := .slice X4 0 y4) (v5 := .slice X5 0 y5) hH3 HGL3.out (show wa3.heap[gb3]? = some (.cells zeroP 35 (0, 0)) from HG3.out)
                              have hat : PAt ((((((wa3.setCell ⟨gb3, 0, none⟩ (.string nmP)).setCell ⟨gb3, 1, none⟩ (.slice X1 0 y1)).setCell ⟨gb3, 2, none⟩ (.slice X2 IP.length y2)).setCell ⟨gb3, 3, none⟩ (.slice X3 DP.length y3)).setCell ⟨gb3, 4, none⟩ (.slice X4 0 y4)).setCell ⟨gb3, 5, none⟩ (.slice X5 0 y5)) #[.string nmP, .slice X1 0 y1, .slice X2 IP.length y2, .slice X3 DP.length y3, .slice X4 0 y4, .slice X5 0 y5] nmP IP DP := ⟨X1, X2, X4, X5, y1, y2, y4, y5, X3, y3, rfl, (HSEP.out _ hfar).1, HL1.out, (HSEP.out _ hfar).2, HL2.out⟩
                              refine hK.out _ _ hbel (fun hHs => ?_)
                              clear hK K hbel hfar z0 z1 z2 z3 z4 z5 f0 f1 f2 f3 f4 f5
                              have HBOX := Aside0.mk hbox
                              have HAT := Aside0.mk hat
                              clear hbox hat
                              generalize ((((((wa3.setCell ⟨gb3, 0, none⟩ (.string nmP)).setCell ⟨gb3, 1, none⟩ (.slice X1 0 y1)).setCell ⟨gb3, 2, none⟩ (.slice X2 IP.length y2)).setCell ⟨gb3, 3, none⟩ (.slice X3 DP.length y3)).setCell ⟨gb3, 4, none⟩ (.slice X4 0 y4)).setCell ⟨gb3, 5, none⟩ (.slice X5 0 y5)) = wz at HBOX HAT hHs ⊢
                              refine pure_ (i := 13) (N := some 16) (v := ?_) (a' := ?_) #[true, true, true, true, true, true, true, true, true, true, true, true, true, true] rfl rfl (by kernel_rfl) (fun _ _ _ h => h) (Or.inl ⟨by rfl, ?_⟩) ?_ ?_
                              rotate_left
                              · intro w'
                                go_simp
                                with_reducible rfl
                              rotate_left
                              · simp only [Act.put, List.setIfInBounds_toArray, List.set_cons_zero, List.set_cons_succ, i64_w, i32_w]
                                rfl
                              refine done_ (by kernel_rfl) ?_
                              go_wp2_with fail
                              go_meet
                              case rel => exact ⟨_, _, rfl, rfl, ⟨hHs⟩, HBOX, HAT⟩
                            · refine value_ (w1 := ?_) (v := ?_) (by rfl) rfl ?_ ?_
                              rotate_left 2
                              · go_simp
                                constructor
                                · rfl
                                · rfl
                              have HG2 := Aside0.mk (heap_alloc_new wx1 (.cells #[.string ⟨#[]⟩, .slice none 0 0, .slice none 0 0, .slice none 0 0, .slice none 0 0, .slice none 0 0] 35))
                              have HGL2 : Aside0 (wd.heap.size ≤ wx1.heap.size) := ⟨hH1.size⟩
                              obtain ⟨gb2, hgb2⟩ : ∃ g, g = wx1.heap.size := ⟨_, rfl⟩
                              refine hK.out _ _ (below_alloc hH1 _) (fun hH2 => ?_)
                              clear hK K
                              have HX2 := Aside0.mk (Kd.C_below HX1.out (below_alloc (Below.refl _ _) (.cells #[.string ⟨#[]⟩, .slice none 0 0, .slice none 0 0, .slice none 0 0, .slice none 0 0, .slice none 0 0] 35)))
                              rw [← hgb2] at HG2 HGL2 ⊢
                              generalize wx1.alloc (.cells #[.string ⟨#[]⟩, .slice none 0 0, .slice none 0 0, .slice none 0 0, .slice none 0 0, .slice none 0 0] 35) = wa2 at HG2 hH2 HX2 ⊢
                              have hbs2 : gb2 < wa2.heap.size := blk_lt HG2.out
                              have HBS2 := Aside0.mk hbs2
                              clear hbs2 hgb2
                              refine norm_ (a' := ?_) ?_ ?_
                              rotate_left
                              · show Act.put _ (some 15) _ = _
                                simp only [Act.put, List.setIfInBounds_toArray, List.set_cons_zero, List.set_cons_succ, i64_w, i32_w]
                                rfl
                              refine one_ (i := 7) (N := some 126) #[true, true, true, true, true, true, true, true, false, false, false, true, false, false] rfl rfl (by kernel_rfl) (by decide) (fun K hK => ?_)
                              refine goes_ Try.func34 (by kernel_rfl) rfl #[.agg #[.string D.nm, .slice H.A1 D.parts.length H.c1, .slice H.A2 D.insts.length H.c2, .slice H.A3 D.dims.length H.c3, .slice H.A4 D.cons.length H.c4, .slice H.A5 D.reqs.length H.c5, .slice H.A6 D.opts.length H.c6, .slice H.A7 D.rules.length H.c7, .slice H.A8 D.guards.length H.c8, .slice H.A9 D.overs.length H.c9], .slice An1 NL2.length cn1] (by rfl) rfl rfl (by (try simp only [List.map_toArray, List.map_cons, List.map_nil]); first | done | rfl) ?_
                              refine (HPRO2.out wa2 An1 cn1 hH2 HX2.out HY1.out).mono ?_
                              rintro e wx3 ⟨cs3, rfl, hP3, hbn3⟩
                              refine ⟨_, rfl, ?_⟩
                              have HP3 := Aside0.mk hP3
                              clear hP3
                              have HG3 := Aside0.mk (blk_below HG2.out hbn3)
                              have hS3 := below_step hH2 hbn3
                              refine hK.out _ _ hS3 (fun hH3 => ?_)
                              clear hK K hbn3
                              refine norm_ (a' := ?_) ?_ ?_
                              rotate_left
                              · show Act.put _ (some 126) _ = _
                                simp only [Act.put, List.setIfInBounds_toArray, List.set_cons_zero, List.set_cons_succ, i64_w, i32_w]
                                rfl
                              refine pure_ (i := 8) (N := some 118) (v := ?_) (a' := ?_) #[true, true, true, true, true, true, true, true, true, false, false, true, false, false] rfl rfl (by kernel_rfl) (fun _ _ _ h => h) (Or.inl ⟨by rfl, ?_⟩) ?_ ?_
                              rotate_left
                              · intro w'
                                go_simp
                                with_reducible rfl
                              rotate_left
                              · simp only [Act.put, List.setIfInBounds_toArray, List.set_cons_zero, List.set_cons_succ, i64_w, i32_w]
                                rfl
                              refine pure_ (i := 9) (N := some 127) (v := ?_) (a' := ?_) #[true, true, true, true, true, true, true, true, true, true, false, true, false, false] rfl rfl (by kernel_rfl) (fun _ _ _ h => h) (Or.inl ⟨by rfl, ?_⟩) ?_ ?_
                              rotate_left
                              · intro w'
                                go_simp
                                with_reducible rfl
                              rotate_left
                              · simp only [Act.put, List.setIfInBounds_toArray, List.set_cons_zero, List.set_cons_succ, i64_w, i32_w]
                                rfl
                              refine pure_ (i := 10) (N := some 128) (v := ?_) (a' := ?_) #[true, true, true, true, true, true, true, true, true, true, true, true, false, false] rfl rfl (by kernel_rfl) (fun _ _ _ h => h) (Or.inl ⟨by rfl, ?_⟩) ?_ ?_
                              rotate_left
                              · intro w'
                                go_simp
                                with_reducible rfl
                              rotate_left
                              · simp only [Act.put, List.setIfInBounds_toArray, List.set_cons_zero, List.set_cons_succ, i64_w, i32_w]
                                rfl
                              obtain ⟨X1, X2, X4, X5, y1, y2, y4, y5, X3, y3, hcs, hl1, hl2, hsep⟩ := sep_old HP3.out HBS2.out
                              subst hcs
                              have HSEP := Aside0.mk hsep
                              have HL1 := Aside0.mk hl1
                              have HL2 := Aside0.mk hl2
                              clear hsep hl1 hl2
                              refine one_ (i := 12) (N := none) #[true, true, true, true, true, true, true, true, true, true, true, true, true, false] rfl rfl (by kernel_rfl) (by decide) (fun K hK => ?_)
                              obtain ⟨z0, z1, z2, z3, z4, z5⟩ := p_cells (show wx3.heap[gb2]? = some (.cells zeroP 35 (0, 0)) from HG3.out)
                              have f0 := blk_frozen HG3.out 0
                              have f1 := blk_frozen HG3.out 1
                              have f2 := blk_frozen HG3.out 2
                              have f3 := blk_frozen HG3.out 3
                              have f4 := blk_frozen HG3.out 4
                              have f5 := blk_frozen HG3.out 5
                              refine skip_ (w1 := ?_) (by rfl) rfl ?_ ?_
                              rotate_left
                              · go_simp
                                rfl
                              obtain ⟨hbox, hbel, hfar⟩ := put_prod (nm := nmP) (v1 := .slice X1 0 y1) (v2 := .slice X2 IP.length y2) (v3 := .slice X3 DP.length y3) (v4 := .slice X4 0 y4) (v5 := .slice X5 0 y5) hH3 HGL2.out (show wx3.heap[gb2]? = some (.cells zeroP 35 (0, 0)) from HG3.out)
                              have hat : PAt ((((((wx3.setCell ⟨gb2, 0, none⟩ (.string nmP)).setCell ⟨gb2, 1, none⟩ (.slice X1 0 y1)).setCell ⟨gb2, 2, none⟩ (.slice X2 IP.length y2)).setCell ⟨gb2, 3, none⟩ (.slice X3 DP.length y3)).setCell ⟨gb2, 4, none⟩ (.slice X4 0 y4)).setCell ⟨gb2, 5, none⟩ (.slice X5 0 y5)) #[.string nmP, .slice X1 0 y1, .slice X2 IP.length y2, .slice X3 DP.length y3, .slice X4 0 y4, .slice X5 0 y5] nmP IP DP := ⟨X1, X2, X4, X5, y1, y2, y4, y5, X3, y3, rfl, (HSEP.out _ hfar).1, HL1.out, (HSEP.out _ hfar).2, HL2.out⟩
                              refine hK.out _ _ hbel (fun hHs => ?_)
                              clear hK K hbel hfar z0 z1 z2 z3 z4 z5 f0 f1 f2 f3 f4 f5
                              have HBOX := Aside0.mk hbox
                              have HAT := Aside0.mk hat
                              clear hbox hat
                              generalize ((((((wx3.setCell ⟨gb2, 0, none⟩ (.string nmP)).setCell ⟨gb2, 1, none⟩ (.slice X1 0 y1)).setCell ⟨gb2, 2, none⟩ (.slice X2 IP.length y2)).setCell ⟨gb2, 3, none⟩ (.slice X3 DP.length y3)).setCell ⟨gb2, 4, none⟩ (.slice X4 0 y4)).setCell ⟨gb2, 5, none⟩ (.slice X5 0 y5)) = wz at HBOX HAT hHs ⊢
                              refine pure_ (i := 13) (N := some 16) (v := ?_) (a' := ?_) #[true, true, true, true, true, true, true, true, true, true, true, true, true, true] rfl rfl (by kernel_rfl) (fun _ _ _ h => h) (Or.inl ⟨by rfl, ?_⟩) ?_ ?_
                              rotate_left
                              · intro w'
                                go_simp
                                with_reducible rfl
                              rotate_left
                              · simp only [Act.put, List.setIfInBounds_toArray, List.set_cons_zero, List.set_cons_succ, i64_w, i32_w]
                                rfl
                              refine done_ (by kernel_rfl) ?_
                              go_wp2_with fail
                              go_meet
                              case rel => exact ⟨_, _, rfl, rfl, ⟨hHs⟩, HBOX, HAT⟩
                          · refine value_ (w1 := ?_) (v := ?_) (by rfl) rfl ?_ ?_
                            rotate_left 2
                            · go_simp
                              constructor
                              · rfl
                              · rfl
                            have HG1 := Aside0.mk (heap_alloc_new w19 (.cells #[.string ⟨#[]⟩, .slice none 0 0, .slice none 0 0, .slice none 0 0, .slice none 0 0, .slice none 0 0] 35))
                            have HGL1 : Aside0 (wd.heap.size ≤ w19.heap.size) := ⟨hHeld.size⟩
                            obtain ⟨gb1, hgb1⟩ : ∃ g, g = w19.heap.size := ⟨_, rfl⟩
                            refine hK.out _ _ (below_alloc hHeld _) (fun hH1 => ?_)
                            clear hK K
                            rw [← hgb1] at HG1 HGL1 ⊢
                            generalize w19.alloc (.cells #[.string ⟨#[]⟩, .slice none 0 0, .slice none 0 0, .slice none 0 0, .slice none 0 0, .slice none 0 0] 35) = wa1 at HG1 hH1 ⊢
                            have hbs1 : gb1 < wa1.heap.size := blk_lt HG1.out
                            have HBS1 := Aside0.mk hbs1
                            clear hbs1 hgb1
                            refine norm_ (a' := ?_) ?_ ?_
                            rotate_left
                            · show Act.put _ (some 15) _ = _
                              simp only [Act.put, List.setIfInBounds_toArray, List.set_cons_zero, List.set_cons_succ, i64_w, i32_w]
                              rfl
                            refine one_ (i := 6) (N := some 125) #[true, true, true, true, true, true, true, false, false, false, false, true, false, false] rfl rfl (by kernel_rfl) (by decide) (fun K hK => ?_)
                            refine goes_ Try.func20 (by kernel_rfl) rfl #[.agg #[.string D.nm, .slice H.A1 D.parts.length H.c1, .slice H.A2 D.insts.length H.c2, .slice H.A3 D.dims.length H.c3, .slice H.A4 D.cons.length H.c4, .slice H.A5 D.reqs.length H.c5, .slice H.A6 D.opts.length H.c6, .slice H.A7 D.rules.length H.c7, .slice H.A8 D.guards.length H.c8, .slice H.A9 D.overs.length H.c9], .int .i64 sq] (by rfl) rfl rfl (by (try simp only [List.map_toArray, List.map_cons, List.map_nil]); first | done | rfl) ?_
                            refine (HNAM2.out wa1 hH1).mono ?_
                            rintro e wx2 ⟨An2, cn2, rfl, hcn2, hCn2, hbn2⟩
                            refine ⟨_, rfl, ?_⟩
                            have HX2 := Aside0.mk hCn2
                            have HY2 := Aside0.mk hcn2
                            clear hCn2 hcn2
                            have HG2 := Aside0.mk (blk_below HG1.out hbn2)
                            have HBS2 := Aside0.mk (Nat.lt_of_lt_of_le HBS1.out hbn2.size)
                            have hS2 := below_step hH1 hbn2
                            refine hK.out _ _ hS2 (fun hH2 => ?_)
                            clear hK K hbn2
                            refine norm_ (a' := ?_) ?_ ?_
                            rotate_left
                            · show Act.put _ (some 125) _ = _
                              simp only [Act.put, List.setIfInBounds_toArray, List.set_cons_zero, List.set_cons_succ, i64_w, i32_w]
                              rfl
                            refine one_ (i := 7) (N := some 126) #[true, true, true, true, true, true, true, true, false, false, false, true, false, false] rfl rfl (by kernel_rfl) (by decide) (fun K hK => ?_)
                            refine goes_ Try.func34 (by kernel_rfl) rfl #[.agg #[.string D.nm, .slice H.A1 D.parts.length H.c1, .slice H.A2 D.insts.length H.c2, .slice H.A3 D.dims.length H.c3, .slice H.A4 D.cons.length H.c4, .slice H.A5 D.reqs.length H.c5, .slice H.A6 D.opts.length H.c6, .slice H.A7 D.rules.length H.c7, .slice H.A8 D.guards.length H.c8, .slice H.A9 D.overs.length H.c9], .slice An2 NL2.length cn2] (by rfl) rfl rfl (by (try simp only [List.map_toArray, List.map_cons, List.map_nil]); first | done | rfl) ?_
                            refine (HPRO2.out wx2 An2 cn2 hH2 HX2.out HY2.out).mono ?_
                            rintro e wx3 ⟨cs3, rfl, hP3, hbn3⟩
                            refine ⟨_, rfl, ?_⟩
                            have HP3 := Aside0.mk hP3
                            clear hP3
                            have HG3 := Aside0.mk (blk_below HG2.out hbn3)
                            have hS3 := below_step hH2 hbn3
                            refine hK.out _ _ hS3 (fun hH3 => ?_)
                            clear hK K hbn3
                            refine norm_ (a' := ?_) ?_ ?_
                            rotate_left
                            · show Act.put _ (some 126) _ = _
                              simp only [Act.put, List.setIfInBounds_toArray, List.set_cons_zero, List.set_cons_succ, i64_w, i32_w]
                              rfl
                            refine pure_ (i := 8) (N := some 118) (v := ?_) (a' := ?_) #[true, true, true, true, true, true, true, true, true, false, false, true, false, false] rfl rfl (by kernel_rfl) (fun _ _ _ h => h) (Or.inl ⟨by rfl, ?_⟩) ?_ ?_
                            rotate_left
                            · intro w'
                              go_simp
                              with_reducible rfl
                            rotate_left
                            · simp only [Act.put, List.setIfInBounds_toArray, List.set_cons_zero, List.set_cons_succ, i64_w, i32_w]
                              rfl
                            refine pure_ (i := 9) (N := some 127) (v := ?_) (a' := ?_) #[true, true, true, true, true, true, true, true, true, true, false, true, false, false] rfl rfl (by kernel_rfl) (fun _ _ _ h => h) (Or.inl ⟨by rfl, ?_⟩) ?_ ?_
                            rotate_left
                            · intro w'
                              go_simp
                              with_reducible rfl
                            rotate_left
                            · simp only [Act.put, List.setIfInBounds_toArray, List.set_cons_zero, List.set_cons_succ, i64_w, i32_w]
                              rfl
                            refine pure_ (i := 10) (N := some 128) (v := ?_) (a' := ?_) #[true, true, true, true, true, true, true, true, true, true, true, true, false, false] rfl rfl (by kernel_rfl) (fun _ _ _ h => h) (Or.inl ⟨by rfl, ?_⟩) ?_ ?_
                            rotate_left
                            · intro w'
                              go_simp
                              with_reducible rfl
                            rotate_left
                            · simp only [Act.put, List.setIfInBounds_toArray, List.set_cons_zero, List.set_cons_succ, i64_w, i32_w]
                              rfl
                            obtain ⟨X1, X2, X4, X5, y1, y2, y4, y5, X3, y3, hcs, hl1, hl2, hsep⟩ := sep_old HP3.out HBS2.out
                            subst hcs
                            have HSEP := Aside0.mk hsep
                            have HL1 := Aside0.mk hl1
                            have HL2 := Aside0.mk hl2
                            clear hsep hl1 hl2
                            refine one_ (i := 12) (N := none) #[true, true, true, true, true, true, true, true, true, true, true, true, true, false] rfl rfl (by kernel_rfl) (by decide) (fun K hK => ?_)
                            obtain ⟨z0, z1, z2, z3, z4, z5⟩ := p_cells (show wx3.heap[gb1]? = some (.cells zeroP 35 (0, 0)) from HG3.out)
                            have f0 := blk_frozen HG3.out 0
                            have f1 := blk_frozen HG3.out 1
                            have f2 := blk_frozen HG3.out 2
                            have f3 := blk_frozen HG3.out 3
                            have f4 := blk_frozen HG3.out 4
                            have f5 := blk_frozen HG3.out 5
                            refine skip_ (w1 := ?_) (by rfl) rfl ?_ ?_
                            rotate_left
                            · go_simp
                              rfl
                            obtain ⟨hbox, hbel, hfar⟩ := put_prod (nm := nmP) (v1 := .slice X1 0 y1) (v2 := .slice X2 IP.length y2) (v3 := .slice X3 DP.length y3) (v4 := .slice X4 0 y4) (v5 := .slice X5 0 y5) hH3 HGL1.out (show wx3.heap[gb1]? = some (.cells zeroP 35 (0, 0)) from HG3.out)
                            have hat : PAt ((((((wx3.setCell ⟨gb1, 0, none⟩ (.string nmP)).setCell ⟨gb1, 1, none⟩ (.slice X1 0 y1)).setCell ⟨gb1, 2, none⟩ (.slice X2 IP.length y2)).setCell ⟨gb1, 3, none⟩ (.slice X3 DP.length y3)).setCell ⟨gb1, 4, none⟩ (.slice X4 0 y4)).setCell ⟨gb1, 5, none⟩ (.slice X5 0 y5)) #[.string nmP, .slice X1 0 y1, .slice X2 IP.length y2, .slice X3 DP.length y3, .slice X4 0 y4, .slice X5 0 y5] nmP IP DP := ⟨X1, X2, X4, X5, y1, y2, y4, y5, X3, y3, rfl, (HSEP.out _ hfar).1, HL1.out, (HSEP.out _ hfar).2, HL2.out⟩
                            refine hK.out _ _ hbel (fun hHs => ?_)
                            clear hK K hbel hfar z0 z1 z2 z3 z4 z5 f0 f1 f2 f3 f4 f5
                            have HBOX := Aside0.mk hbox
                            have HAT := Aside0.mk hat
                            clear hbox hat
                            generalize ((((((wx3.setCell ⟨gb1, 0, none⟩ (.string nmP)).setCell ⟨gb1, 1, none⟩ (.slice X1 0 y1)).setCell ⟨gb1, 2, none⟩ (.slice X2 IP.length y2)).setCell ⟨gb1, 3, none⟩ (.slice X3 DP.length y3)).setCell ⟨gb1, 4, none⟩ (.slice X4 0 y4)).setCell ⟨gb1, 5, none⟩ (.slice X5 0 y5)) = wz at HBOX HAT hHs ⊢
                            refine pure_ (i := 13) (N := some 16) (v := ?_) (a' := ?_) #[true, true, true, true, true, true, true, true, true, true, true, true, true, true] rfl rfl (by kernel_rfl) (fun _ _ _ h => h) (Or.inl ⟨by rfl, ?_⟩) ?_ ?_
                            rotate_left
                            · intro w'
                              go_simp
                              with_reducible rfl
                            rotate_left
                            · simp only [Act.put, List.setIfInBounds_toArray, List.set_cons_zero, List.set_cons_succ, i64_w, i32_w]
                              rfl
                            refine done_ (by kernel_rfl) ?_
                            go_wp2_with fail
                            go_meet
                            case rel => exact ⟨_, _, rfl, rfl, ⟨hHs⟩, HBOX, HAT⟩
                        case rest =>
                          obtain ⟨we, hwe⟩ : ∃ W, W = wc := ⟨_, rfl⟩
                          rw [← hwe] at hcut ⊢
                          clear hwe
                          obtain ⟨g3, cs3, rfl, rfl, HBe, HBOX3, HAT3⟩ := hcut
                          have hat := HAT3.out
                          obtain ⟨Y1, Y2, Y4, Y5, e1, e2, e4, e5, Y3, e3, hcs, hr2, hl2, hr3, hl3⟩ := hat
                          unfold pcs at hcs
                          subst hcs
                          clear hr2 hl2 hr3 hl3
                          have HWE := Aside0.mk (below_step HBd.out HBe.out)
                          have hpc := blk_below HBOX.out (HZQ.out _ (below_step HBj.out HWE.out))
                          have c0_ := (blk_cell hpc 0).trans rfl
                          have c1_ := (blk_cell hpc 1).trans rfl
                          have c2_ := (blk_cell hpc 2).trans rfl
                          have c3_ := (blk_cell hpc 3).trans rfl
                          have c4_ := (blk_cell hpc 4).trans rfl
                          have c5_ := (blk_cell hpc 5).trans rfl
                          have hqc := HBOX3.out
                          have d0_ := (blk_cell hqc 0).trans rfl
                          have d1_ := (blk_cell hqc 1).trans rfl
                          have d2_ := (blk_cell hqc 2).trans rfl
                          have d3_ := (blk_cell hqc 3).trans rfl
                          have d4_ := (blk_cell hqc 4).trans rfl
                          have d5_ := (blk_cell hqc 5).trans rfl
                          clear hpc hqc
                          go_wp2_with fail
                          clear c0_ c1_ c2_ c3_ c4_ c5_ d0_ d1_ d2_ d3_ d4_ d5_
                          refine (HSM.out _ _ (HZQ.out _ (below_step HBj.out HWE.out)) HAT3.out).mono ?_
                          rintro e w8 ⟨rfl, hb⟩
                          have HB8 := Aside0.mk (below_step (below_step HBj.out HWE.out) hb)
                          clear hb
                          go_wp2_with fail
                          go_roundg (SQ.length - (j + 1))
                          case measure => have := HGJ.out; omega
                          case rel => exact ⟨j + 1, by go_num, ⟨hj⟩, ⟨Nat.le_refl _⟩, HB8⟩
                    · have hbn : (Go.bits .and .i64 sq (U : Int) != Go.bits .and .i64 sv (U : Int)) = true := by rw [hb1, hb2]; simp; omega
                      clear hb1 hb2 he
                      go_upto_region 27 with (fail)
                      go_cut [117] (fun v117 wd => v117 = .bool true ∧ Aside0 (Below wr.heap.size wr wd))
                      case first =>
                        go_quiet (fail)
                        go_wp2_with fail
                        go_meet
                        case rel => exact ⟨rfl, ⟨pw_below_drewN (Below.refl _ _) _⟩⟩
                      case rest =>
                        obtain ⟨rfl, HBd⟩ := hcut
                        clear hbn hsi hxq
                        go_wp2_with fail
                        go_roundg (SQ.length - (j + 1))
                        case measure => have := HGJ.out; omega
                        case rel => exact ⟨j + 1, by go_num, ⟨hj⟩, ⟨Nat.le_refl _⟩, ⟨below_step HBj.out HBd.out⟩⟩
                  · have q2 : decide ((j : Int) < (SQ.length : Int)) = false := by simpa using hj
                    have q3 : decide (j < SQ.length) = false := by simpa using hj
                    have HWJ := Aside0.mk (HBQ2.out _ (HZQ.out _ HBj.out))
                    have hsi := cell_keep HWJ.out HCI.out
                    have hrow := Aside0.mk (Kd.R_below HRS.out HWJ.out)
                    have hwi := Aside0.mk (below_step HBi.out HWJ.out)
                    have hsl64 : SQ.length ≤ 64 := by have := HSL2.out; omega
                    go_wp2_with ((with_reducible refine gate_builtin (b := .append) (xs := #[.tmp 137, .tmp 142]) rfl ?_); at_builtin; refine Kd.R_append (Kd.int .i64) (w0 := w6) w6.heap.size rfl (.tmp 137) (.tmp 142) 50 3 (.int .i64 0) 8 rfl Try.underlying50 info3 rfl (by decide) (by decide) (.slice A10 SQ.length c10) SQ sv [.int .i64 sv] (fun _ => True) (fun _ => False) rfl rfl ?aP (fun _ hk => hk.elim) ?aF ?aO ?aB ?aS ?aL ?_; (case aP => exact rfl); (case aB => exact hwi.out); (case aF => exact (fun _ _ => trivial)); (case aO => exact hrow.out); (case aS => exact hwi.out.size); (case aL => omega); intro v1 w7 ho hb hg hat)
                    go_roundg (SL.length - (i + 1))
                    case measure => have := HGI.out; omega
                    case rel => exact ⟨i + 1, SQ ++ [sv], by go_num, ⟨hi⟩, ⟨Nat.le_refl _⟩, ⟨by have := HSL2.out; rw [List.length_append]; show SQ.length + 1 ≤ i + 1; omega⟩, ⟨seen_snoc HSQ.out HKK.out HPA.out HRD.out⟩, ⟨hb⟩, ⟨ho⟩⟩
              · have d0 : decide (V2 ≥ 0) = true := by simp; omega
                have d1 : decide (0 ≤ V2) = true := by simp; omega
                have hpa : prA D (cfg D.opts.length k) = false := by unfold prA; rw [← HVV.out, decide_eq_false hbr]
                obtain rfl : ep = 17 := by rw [HEP.out]; unfold prE; rw [hpa, if_neg (by decide)]
                have HZP : Aside0 (∀ W, PAt W zeroP nmP IP DP) := ⟨fun W => by rw [HNM.out, HIP.out, HDP.out]; unfold prN prI prD; rw [hpa, if_neg (by decide), if_neg (by decide), if_neg (by decide)]; exact (zero_ft W 0).at_⟩
                clear hpa hbr
                refine start_ (n := 9) (S := fun w' => Below wq.heap.size wq w') (ds := []) #[false, false, false, false, false, false, false, false, false] (by kernel_rfl) rfl rfl (below_drew (Below.refl _ _)) (fun hHeld => ?_)
                generalize wq.drew = w19 at hHeld ⊢
                refine take_ (i := 0) (N := some 69) (v := ?_) (a' := ?_) #[true, false, false, false, false, false, false, false, false] rfl rfl (by kernel_rfl) (fun _ _ _ h => h) (Or.inl ⟨by rfl, ?_⟩) hHeld ?_ ?_
                rotate_left
                · intro w' hS
                  obtain ⟨k0, k1, k2, k3, k4, k5, k6, k7, k8, k9⟩ := box_cells (blk_below HK5.out (HUP.out _ (HBQ2.out _ hS)))
                  go_simp
                  with_reducible rfl
                rotate_left
                · simp only [Act.put, List.setIfInBounds_toArray, List.set_cons_zero, List.set_cons_succ, i64_w, i32_w]
                  rfl
                refine take_ (i := 1) (N := some 70) (v := ?_) (a' := ?_) #[true, true, false, false, false, false, false, false, false] rfl rfl (by kernel_rfl) (fun _ _ _ h => h) (Or.inl ⟨by rfl, ?_⟩) hHeld ?_ ?_
                rotate_left
                · intro w' hS
                  obtain ⟨k0, k1, k2, k3, k4, k5, k6, k7, k8, k9⟩ := box_cells (blk_below HK5.out (HUP.out _ (HBQ2.out _ hS)))
                  go_simp
                  with_reducible rfl
                rotate_left
                · simp only [Act.put, List.setIfInBounds_toArray, List.set_cons_zero, List.set_cons_succ, i64_w, i32_w]
                  rfl
                refine pure_ (i := 3) (N := some 72) (v := ?_) (a' := ?_) #[true, true, false, true, false, false, false, false, false] rfl rfl (by kernel_rfl) (fun _ _ _ h => h) (Or.inl ⟨by rfl, ?_⟩) ?_ ?_
                rotate_left
                · intro w'
                  go_simp
                  with_reducible rfl
                rotate_left
                · simp only [Act.put, List.setIfInBounds_toArray, List.set_cons_zero, List.set_cons_succ, i64_w, i32_w]
                  rfl
                refine pure_ (i := 4) (N := some 73) (v := ?_) (a' := ?_) #[true, true, false, true, true, false, false, false, false] rfl rfl (by kernel_rfl) (fun _ _ _ h => h) (Or.inl ⟨by rfl, ?_⟩) ?_ ?_
                rotate_left
                · intro w'
                  go_simp
                  with_reducible rfl
                rotate_left
                · simp only [Act.put, List.setIfInBounds_toArray, List.set_cons_zero, List.set_cons_succ, i64_w, i32_w]
                  rfl
                refine pure_ (i := 5) (N := some 74) (v := ?_) (a' := ?_) #[true, true, false, true, true, true, false, false, false] rfl rfl (by kernel_rfl) (fun _ _ _ h => h) (Or.inl ⟨by rfl, ?_⟩) ?_ ?_
                rotate_left
                · intro w'
                  go_simp
                  with_reducible rfl
                rotate_left
                · simp only [Act.put, List.setIfInBounds_toArray, List.set_cons_zero, List.set_cons_succ, i64_w, i32_w]
                  rfl
                refine take_ (i := 6) (N := some 75) (v := ?_) (a' := ?_) #[true, true, false, true, true, true, true, false, false] rfl rfl (by kernel_rfl) (fun _ _ _ h => h) (Or.inl ⟨by rfl, ?_⟩) hHeld ?_ ?_
                rotate_left
                · intro w' hS
                  have hx := cell_keep (HBQ2.out _ hS) HCI.out
                  go_simp
                  with_reducible rfl
                rotate_left
                · simp only [Act.put, List.setIfInBounds_toArray, List.set_cons_zero, List.set_cons_succ, i64_w, i32_w]
                  rfl
                refine one_ (i := 2) (N := some 71) #[true, true, true, true, true, true, true, false, false] rfl rfl (by kernel_rfl) (by decide) (fun K hK => ?_)
                refine goes_ Try.func18 (by kernel_rfl) rfl #[.agg #[.string D.nm, .slice H.A1 D.parts.length H.c1, .slice H.A2 D.insts.length H.c2, .slice H.A3 D.dims.length H.c3, .slice H.A4 D.cons.length H.c4, .slice H.A5 D.reqs.length H.c5, .slice H.A6 D.opts.length H.c6, .slice H.A7 D.rules.length H.c7, .slice H.A8 D.guards.length H.c8, .slice H.A9 D.overs.length H.c9]] (by rfl) rfl rfl (by (try simp only [List.map_toArray, List.map_cons, List.map_nil]); first | done | rfl) ?_
                refine (HNONE.out w19 (HBQ2.out _ hHeld)).mono ?_
                rintro e wx1 ⟨A1, c1, rfl, hc1, hC1, hb1⟩
                refine ⟨_, rfl, ?_⟩
                have HX1 := Aside0.mk hC1
                have HY1 := Aside0.mk hc1
                clear hC1 hc1
                have hS1 := below_step hHeld hb1
                refine hK.out _ _ hS1 (fun hH1 => ?_)
                clear hK K hb1
                refine norm_ (a' := ?_) ?_ ?_
                rotate_left
                · show Act.put _ (some 71) _ = _
                  simp only [Act.put, List.setIfInBounds_toArray, List.set_cons_zero, List.set_cons_succ, i64_w, i32_w]
                  rfl
                refine one_ (i := 7) (N := some 76) #[true, true, true, true, true, true, true, true, false] rfl rfl (by kernel_rfl) (by decide) (fun K hK => ?_)
                refine goes_ Try.func32 (by kernel_rfl) rfl #[.agg #[.string D.nm, .slice H.A1 D.parts.length H.c1, .slice H.A2 D.insts.length H.c2, .slice H.A3 D.dims.length H.c3, .slice H.A4 D.cons.length H.c4, .slice H.A5 D.reqs.length H.c5, .slice H.A6 D.opts.length H.c6, .slice H.A7 D.rules.length H.c7, .slice H.A8 D.guards.length H.c8, .slice H.A9 D.overs.length H.c9], .slice A1 D.rules.length c1, .int .i64 sv] (by rfl) rfl rfl (by (try simp only [List.map_toArray, List.map_cons, List.map_nil]); first | done | rfl) ?_
                refine (HBRK.out wx1 A1 c1 (HBQ2.out _ hH1) HX1.out HY1.out).mono ?_
                rintro e wx2 ⟨rfl, hb2⟩
                refine ⟨_, rfl, ?_⟩
                have hS2 := below_step hH1 hb2
                refine hK.out _ _ hS2 (fun hH2 => ?_)
                clear hK K hb2
                refine norm_ (a' := ?_) ?_ ?_
                rotate_left
                · show Act.put _ (some 76) _ = _
                  simp only [Act.put, List.setIfInBounds_toArray, List.set_cons_zero, List.set_cons_succ, i64_w, i32_w]
                  rfl
                refine pure_ (i := 8) (N := some 77) (v := ?_) (a' := ?_) #[true, true, true, true, true, true, true, true, true] rfl rfl (by kernel_rfl) (fun _ _ _ h => h) (Or.inl ⟨by rfl, ?_⟩) ?_ ?_
                rotate_left
                · intro w'
                  go_simp
                  with_reducible rfl
                rotate_left
                · simp only [Act.put, List.setIfInBounds_toArray, List.set_cons_zero, List.set_cons_succ, i64_w, i32_w]
                  rfl
                refine done_ (by kernel_rfl) ?_
                have HBx := Aside0.mk hH2
                have hpc := blk_below HBOX.out HBx.out
                have c0_ := (blk_cell hpc 0).trans rfl
                have c1_ := (blk_cell hpc 1).trans rfl
                have c2_ := (blk_cell hpc 2).trans rfl
                have c3_ := (blk_cell hpc 3).trans rfl
                have c4_ := (blk_cell hpc 4).trans rfl
                have c5_ := (blk_cell hpc 5).trans rfl
                clear hpc
                go_wp2_with fail
                clear c0_ c1_ c2_ c3_ c4_ c5_
                refine (HSM.out _ zeroP HBx.out (HZP.out _)).mono ?_
                rintro e w8 ⟨rfl, hb⟩
                have hb8 := Aside0.mk hb
                have HB8 := Aside0.mk (below_step HBi.out (HBQ2.out _ (below_step HBx.out hb)))
                clear hb
                go_wp2_with fail
                go_roundg (SL.length - (i + 1))
                case measure => have := HGI.out; omega
                case rel => exact ⟨i + 1, SQ, by go_num, ⟨hi⟩, ⟨Nat.le_refl _⟩, ⟨by have := HSL2.out; omega⟩, HSQ, HB8, ⟨Kd.R_below HRS.out (HBQ2.out _ (below_step HBx.out hb8.out))⟩⟩
          · have q0 : decide ((i : Int) < (SL.length : Int)) = false := by simpa using hi
            have q1 : decide (i < SL.length) = false := by simpa using hi
            go_wp2_with fail
            go_ret
            exact ⟨rfl, below_step (below_step HB5.out HB6.out) HBi.out⟩
end Go.Proofs.Ytbnmdlnpfikkcaa.PX
/- The row of the law VariantProducts: for every input it returns true, and its arguments read behind the call as they read before. -/
namespace Go.Proofs.Ytbnmdlnpfikkcaa.variantProducts
open Go.ChangeShapes Go.WideShapes Go.ChangeAt Go.RowKit
set_option linter.unusedVariables false
theorem own : ownKnob Try.prog.godebug = none := by kernel_rfl
theorem laidOut : laidOutB Try.prog = true := by kernel_rfl
set_option maxRecDepth 100000 in
theorem lifted (os : Os) (started : os.Started) (H : Type) (enc : TypeId × Value → H) :
    ReturnsInHanded {} Try.checked os 10 .any (Rows.variantProductsSpec.pre6 enc Try.prog Try.f10 Rows.variantProductsRow.domain false) (Rows.variantProductsSpec.post enc Try.prog Try.f10 false true false false) := by
  refine returnsInHanded_of_change_sized (C := Try.checked) own started (by kernel_rfl) Try.func10
    (ChangeSpec.witness6 (enc := enc) (C := Try.checked) false ⟨#[], #[.agg #[.int .u8 0, .slice none 0 0, .slice none 0 0, .slice none 0 0]], []⟩ 8 (by kernel_rfl) (by kernel_rfl) (by kernel_rfl) (by kernel_rfl)) ?_
  intro W base args ds gs before hval0 hW hcnd hsz0 _
  have hval : ∀ (j : Nat) t v, Try.f10.params[j]? = some t → args[j]? = some v → Value.okWide Try.prog W .any base t v := hval0
  have hW' := hW
  obtain ⟨p, q, hA0, hV, rfl, hfz, hnd⟩ := hW
  have hA : DataW.TrodAll enc Try.prog W 0 (fun _ => true) true Try.f10.params.toList args.toList ds p := hA0
  rw [Try.params10] at hA hval
  obtain ⟨v0, vs0, d0, ds0, p0, q0, hargs, rfl, rfl, h0, r0⟩ := trodAll_cons hA
  obtain ⟨rfl, rfl, rfl⟩ := trodAll_nil r0
  obtain rfl : args = #[v0] := by cases args; simp_all
  obtain ⟨rfl, rfl⟩ := trodVars_none hV
  have k0 := h0
  have lt0 : ∀ x ∈ p0, x.block < W.heap.size := by obtain ⟨m, hm⟩ := k0; exact DataW.trod_lt m _ _ _ hm
  obtain ⟨a, R, G, O, B1, B2, B3, e1, e2, e3, rfl, g0, g1, hk⟩ := PX.kin_open (hval 0 24 v0 rfl rfl) h0
  clear hA0 hval0 hsz0
  refine (PX.law10 a R G O B1 B2 B3 e1 e2 e3 W g0 g1 hk).mono fun e W' ⟨he, bel⟩ => ?_
  subst he
  exact ⟨_, rfl, _, _, _, [], _, [], hW', trodAll_mk1 (shut_bool Try.underlying4 _), (trodAll_cons_mk (Below.trod laidOut (by kernel_rfl) (of_decide_eq_true (by kernel_rfl)) k0 bel lt0) trodAll_mk0), rfl, bel.frame _, fun h => by cases h⟩
theorem over : Rows.variantProductsRow.holds Try.pinned (OpenSpec.ofChange Rows.variantProductsSpec) :=
  OpenClaim.holds_of_wide 10 Try.f10 rfl rfl rfl rfl rfl rfl rfl ⟨rfl, rfl, rfl, rfl, rfl⟩ rfl rfl rfl rfl rfl (by kernel_rfl) Try.func10 (by kernel_rfl)
    (of_decide_eq_true (by kernel_rfl)) (by unfold Func.isWrapper; first | (rw [if_pos (by decide +kernel)]; kernel_rfl) | (rw [if_neg (by decide +kernel)]; exact ⟨rfl, rfl⟩))
    (fun os started H enc _ => lifted os started H enc)
theorem proved : Rows.VariantProductsSaid := over
#print axioms proved
end Go.Proofs.Ytbnmdlnpfikkcaa.variantProducts
namespace Go.Proofs.Ytbnmdlnpfikkcaa
theorem variantProducts_holds : Rows.VariantProductsSaid := variantProducts.proved
end Go.Proofs.Ytbnmdlnpfikkcaa
