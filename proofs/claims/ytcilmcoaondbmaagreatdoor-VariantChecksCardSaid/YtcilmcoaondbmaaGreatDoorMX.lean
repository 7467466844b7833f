/- The reference's check: what it returns. -/
import Derived.Test.YtcilmcoaondbmaaGreatDoorM9
import Derived.Test.YtcilmcoaondbmaaGreatDoorM4
/- The reference's name and literals, in general. -/
namespace Go.Proofs.YtcilmcoaondbmaaGreatDoor.PX
open Go.RowKit Go.Lib Go.Proofs.YtcilmcoaondbmaaGreatDoorW.PrintWords Go.Proofs.YtcilmcoaondbmaaGreatDoorW.PrintLast Go.Proofs.YtcilmcoaondbmaaGreatDoorW.PrintMore
set_option linter.unusedVariables false
set_option linter.unusedSimpArgs false
theorem goodB_no {s : ByteArray} {k : Nat} (hk : k < s.size) (h : ¬ (33 ≤ (s[k]'hk).toNat ∧ (s[k]'hk).toNat ≤ 126)) : nameB s = false := by
  have : goodB s = false := by
    cases e : goodB s with
    | false => rfl
    | true => exact absurd ((goodB_iff s).1 e k hk) h
  simp [nameB, this]
theorem nameB_of {s : ByteArray} (h : goodB s = true) : nameB s = (decide (0 < s.size) && decide (s.size ≤ 40)) := by simp [nameB, h]
set_option maxHeartbeats 4000000 in
set_option maxRecDepth 100000 in
theorem name_calls (s : ByteArray) (w : World) (hs : s.size ≤ 80) : Calls Tryz.prog 22 #[.string s] w fun e w' => e = .returned (.bool (nameB s)) ∧ w' = w := by
  have hu := Tryz.underlying9
  have HS := Aside0.mk hs
  go_enter Tryz.func22, Tryz.ntmps22
  go_wp2_with fail
  go_loopg [3] s.size (fun gk v3 w' => ∃ k : Nat, v3 = .int .i64 k ∧ Aside0 (k ≤ s.size) ∧ Aside0 (s.size - k ≤ gk) ∧ Aside0 (∀ j, (h : j < s.size) → j < k → 33 ≤ (s[j]'h).toNat ∧ (s[j]'h).toNat ≤ 126) ∧ w' = w)
  case atStart => exact ⟨0, rfl, ⟨Nat.zero_le _⟩, ⟨Nat.sub_le _ _⟩, ⟨fun j _ hj => absurd hj (Nat.not_lt_zero _)⟩, rfl⟩
  case round =>
    obtain ⟨k, rfl, HL, HG, HE, rfl⟩ := hrel
    by_cases hlt : k < s.size
    · have q0 : decide ((k : Int) < (s.size : Int)) = true := by simpa using hlt
      have q1 : decide (k < s.size) = true := by simpa using hlt
      have HLT := Aside0.mk hlt
      obtain ⟨c, hc⟩ : ∃ c : Nat, (s[k]'hlt).toNat = c := ⟨_, rfl⟩
      have hidx : ∀ W : World, (Instr.index 9 (.string s) (.int .i64 (k : Int))).run Tryz.prog W = .ok (.int .u8 (c : Int)) W := fun W => by
        rw [run_index_string W 9 s .i64 _ hu, dif_pos ⟨by omega, by omega⟩]
        simp only [Int.toNat_natCast, hc]
      have HC : Aside0 (∀ h : k < s.size, (s[k]'h).toNat = c) := ⟨fun _ => hc⟩
      clear hlt hc
      by_cases h1 : c < 33
      · have z1 : decide ((c : Int) < 33) = true := by simp; omega
        have z1' : decide (c < 33) = true := by simpa using h1
        have H1 := Aside0.mk h1
        clear h1
        go_wp2_with fail
        go_ret
        refine ⟨?_, rfl⟩
        rw [goodB_no HLT.out (by rw [HC.out HLT.out]; have := H1.out; omega)]
        rfl
      · have z1 : decide ((c : Int) < 33) = false := by simp; omega
        have z1' : decide (c < 33) = false := by simpa using h1
        have H1 := Aside0.mk h1
        clear h1
        by_cases h2 : 126 < c
        · have z2 : decide (126 < (c : Int)) = true := by simp; omega
          have z2' : decide (126 < c) = true := by simpa using h2
          have H2 := Aside0.mk h2
          clear h2
          go_wp2_with fail
          go_ret
          refine ⟨?_, rfl⟩
          rw [goodB_no HLT.out (by rw [HC.out HLT.out]; have := H2.out; omega)]
          rfl
        · have z2 : decide (126 < (c : Int)) = false := by simp; omega
          have z2' : decide (126 < c) = false := by simpa using h2
          have H2 := Aside0.mk h2
          clear h2
          go_wp2_with fail
          go_roundg (s.size - (k + 1))
          case measure => have := HLT.out; have := HG.out; omega
          case rel =>
            refine ⟨k + 1, by first | (have := HLT.out; rw [wrap_succ k (by omega)]) | (have := HLT.out; simp [wrap_succ k (by omega)]), ⟨HLT.out⟩, ⟨Nat.le_refl _⟩, ⟨fun j hj hjk => ?_⟩, rfl⟩
            by_cases e : j = k
            · subst e
              rw [HC.out]
              have := H1.out
              have := H2.out
              omega
            · exact HE.out j hj (by omega)
    · have q0 : decide ((k : Int) < (s.size : Int)) = false := by simpa using hlt
      have q1 : decide (k < s.size) = false := by simpa using hlt
      have hg : goodB s = true := (goodB_iff s).2 fun i hi => HE.out i hi (by omega)
      have HGD := Aside0.mk hg
      clear hlt hg
      by_cases g1 : 0 < s.size
      · have z1 : decide (0 < (s.size : Int)) = true := by simpa using g1
        have z1' : decide (0 < s.size) = true := by simpa using g1
        clear g1
        by_cases g2 : s.size ≤ 40
        · have z2 : decide ((s.size : Int) ≤ 40) = true := by simp; omega
          have z2' : decide (s.size ≤ 40) = true := by simpa using g2
          clear g2
          go_wp2_with fail
          go_ret
          exact ⟨by rw [nameB_of HGD.out]; simp [z1', z2'], rfl⟩
        · have z2 : decide ((s.size : Int) ≤ 40) = false := by simp; omega
          have z2' : decide (s.size ≤ 40) = false := by simpa using g2
          clear g2
          go_wp2_with fail
          go_ret
          exact ⟨by rw [nameB_of HGD.out]; simp [z1', z2'], rfl⟩
      · have z1 : decide (0 < (s.size : Int)) = false := by simpa using g1
        have z1' : decide (0 < s.size) = false := by simpa using g1
        clear g1
        go_wp2_with fail
        go_ret
        exact ⟨by rw [nameB_of HGD.out]; simp [z1'], rfl⟩
theorem literalsG_from (n : Int) (l : List S62) (hl : l.length ≤ 9223372036854775807) (d : Nat) : ∀ (K i : Nat), i + d = l.length → 2 * d < K → (∀ j, j < i → litE n l j = 0) → dowellaw48_literals.l0 K n l i = some (litsE n l) := by
  induction d with
  | zero =>
    intro K i hi hK h
    obtain ⟨K, rfl⟩ : ∃ m, K = m + 1 := ⟨K - 1, by omega⟩
    simp only [dowellaw48_literals.l0]
    rw [if_neg (by omega)]
    unfold litsE
    rw [fE_none _ _ fun j hj => h j (by omega)]
  | succ d ih =>
    intro K i hi hK h
    obtain ⟨K, rfl⟩ : ∃ m, K = m + 2 := ⟨K - 2, by omega⟩
    have hlt : i < l.length := by omega
    have hw : wrap64 ((i : Int) + 1) = ((i + 1 : Nat) : Int) := by unfold wrap64; omega
    have hnext : litE n l i = 0 → dowellaw48_literals.l0 K n l ((i + 1 : Nat) : Int) = some (litsE n l) := fun h0 =>
      ih K (i + 1) (by omega) (by omega) fun j hj => by
        by_cases e : j = i
        · rw [e]; exact h0
        · exact h j (by omega)
    have hhit : litE n l i ≠ 0 → litsE n l = litE n l i := fun h0 => fE_hit _ _ i hlt h h0
    simp only [dowellaw48_literals.l0]
    rw [if_pos (by omega), if_pos (by omega)]
    by_cases h1 : (rd_T62 l (i : Int)).f0 < 0
    · rw [if_pos h1]
      simp only [dowellaw48_literals.j1]
      have e : litE n l i = 10 := by unfold litE; rw [if_pos (.inl h1)]
      rw [if_pos trivial, hhit (by rw [e]; decide), e]
    · rw [if_neg h1]
      simp only [dowellaw48_literals.j1]
      by_cases h2 : (rd_T62 l (i : Int)).f0 ≥ n
      · have e : litE n l i = 10 := by unfold litE; rw [if_pos (.inr h2)]
        rw [if_pos (by simpa using h2), hhit (by rw [e]; decide), e]
      · rw [if_neg (by simpa using h2)]
        have ho : ¬ ((rd_T62 l (i : Int)).f0 < 0 ∨ n ≤ (rd_T62 l (i : Int)).f0) := by omega
        by_cases h3 : (i : Int) > 0
        · have hw1 : wrap64 ((i : Int) - 1) = (i : Int) - 1 := by unfold wrap64; omega
          rw [if_pos h3, hw1, if_pos (by omega), if_pos (by omega), if_pos (by omega), if_pos (by omega)]
          by_cases h4 : (rd_T62 l (i : Int)).f0 ≤ (rd_T62 l ((i : Int) - 1)).f0
          · have e : litE n l i = 8 := by unfold litE; rw [if_neg ho, if_pos ⟨by omega, h4⟩]
            rw [if_pos h4, hhit (by rw [e]; decide), e]
          · have e : litE n l i = 0 := by unfold litE; rw [if_neg ho, if_neg (fun hh => h4 hh.2)]
            rw [if_neg h4, hw]
            exact hnext e
        · have e : litE n l i = 0 := by unfold litE; rw [if_neg ho, if_neg (fun hh => h3 (by omega))]
          rw [if_neg h3, hw]
          exact hnext e
theorem literals_calls (A : Option Addr) (c : Nat) (l : List S62) (n : Int) (w : World) (hr : Kd.C k62 w A l.length l) (hc : l.length ≤ c) :
    Calls Tryz.prog 23 #[.int .i64 n, .slice A l.length c] w fun e w' => e = .returned (.int .i64 (litsE n l)) ∧ Drawn0 w w' :=
  dowellaw48_literals.calls (2 * l.length + 1) n A c l (litsE n l) w hr hc (literalsG_from n l (Kd.C_max hr) l.length _ 0 (by omega) (by omega) fun j hj => absurd hj (Nat.not_lt_zero _))
end Go.Proofs.YtcilmcoaondbmaaGreatDoor.PX
/- The reference's overrides. -/
namespace Go.Proofs.YtcilmcoaondbmaaGreatDoor.PX
open Go.RowKit Go.Proofs.YtcilmcoaondbmaaGreatDoorW.PrintWords Go.Proofs.YtcilmcoaondbmaaGreatDoorW.PrintLast Go.Proofs.YtcilmcoaondbmaaGreatDoorW.PrintMore
attribute [local go_sem] max2_int min2_int max_two min_two max_three min_three max_four min_four
set_option linter.unusedVariables false
set_option linter.unusedSimpArgs false
theorem lits_calls (A : Option Addr) (c : Nat) (l : List S62) (n : Int) (w : World) (hr : Kd.C k62 w A l.length l) (hc : l.length ≤ c) :
    Calls Tryz.prog 23 #[.int .i64 n, .slice A l.length c] w fun e w' => e = .returned (.int .i64 (litsE n l)) ∧ Below w.heap.size w w' :=
  (literals_calls A c l n w hr hc).mono fun _ _ ⟨he, hd⟩ => ⟨he, by obtain ⟨m, rfl⟩ := hd.out; exact pw_below_drewN (Below.refl _ _) _⟩
set_option maxHeartbeats 8000000 in
set_option maxRecDepth 100000 in
theorem overs_calls (D : Fam) (H : Hd) (w : World) (HF : Hid (FamAt w D H)) (h : D.overs.length ≤ 48) :
    Calls Tryz.prog 24 #[fv D H] w fun e w' => e = .returned (.int .i64 (fE (overE D.opts.length D.dims D.overs) D.overs.length)) ∧ Below w.heap.size w w' := by
  have hu41 := Tryz.underlying36
  obtain ⟨A1, A2, A3, A4, A5, A6, A7, A8, A9, c1, c2, c3, c4, c5, c6, c7, c8, c9⟩ := H
  show Calls Tryz.prog 24 #[.agg #[.string D.nm, .slice A1 D.parts.length c1, .slice A2 D.insts.length c2, .slice A3 D.dims.length c3, .slice A4 D.cons.length c4, .slice A5 D.reqs.length c5, .slice A6 D.opts.length c6, .slice A7 D.rules.length c7, .slice A8 D.guards.length c8, .slice A9 D.overs.length c9]] w _
  have b4 : (D.overs.length : Int) ≤ 48 := by omega
  clear h
  have HB := Aside0.mk ((Below.refl _ w).alloc (Nat.le_refl _) (.cells (fcells D ⟨A1, A2, A3, A4, A5, A6, A7, A8, A9, c1, c2, c3, c4, c5, c6, c7, c8, c9⟩) 36))
  have HK := Aside0.mk (heap_alloc_new w (.cells (fcells D ⟨A1, A2, A3, A4, A5, A6, A7, A8, A9, c1, c2, c3, c4, c5, c6, c7, c8, c9⟩) 36))
  go_enter Tryz.func24, Tryz.ntmps24
  go_wp2_with fail
  go_loopg [3] D.overs.length (fun gk v122 w' => ∃ k : Nat, v122 = .int .i64 k ∧ Aside0 (k ≤ D.overs.length) ∧ Aside0 (D.overs.length - k ≤ gk) ∧ Aside0 (∀ j, j < k → overE D.opts.length D.dims D.overs j = 0) ∧ Aside0 (Below w.heap.size w w') ∧ Aside0 (Box w' w.heap.size D ⟨A1, A2, A3, A4, A5, A6, A7, A8, A9, c1, c2, c3, c4, c5, c6, c7, c8, c9⟩))
  case atStart => exact ⟨0, rfl, ⟨Nat.zero_le _⟩, ⟨Nat.sub_le _ _⟩, ⟨fun j hj => absurd hj (Nat.not_lt_zero _)⟩, HB, HK⟩
  case round =>
    clear HB HK
    obtain ⟨k, rfl, HL, HG, HE, HB, HK⟩ := hrel
    have hc9 : wr.cell? ⟨w.heap.size, 9, none⟩ = some (.slice A9 D.overs.length c9) := (blk_cell HK.out 9).trans rfl
    by_cases hlt : k < D.overs.length
    · have q0 : decide ((k : Int) < (D.overs.length : Int)) = true := by simpa using hlt
      have q1 : decide (k < D.overs.length) = true := by simpa using hlt
      have p0 : 0 ≤ (k : Int) := by omega
      have p1 : (k : Int) < (D.overs.length : Int) := by omega
      obtain ⟨ad, B1, d1, e0, hx0, hx1, hx2, hx3, hx4, hx5, hl1, hC1⟩ := at_T83 HF.out.r9 k p0 p1
      replace e0 : A9 = some ad := e0
      cases e0
      replace hx0 := (HB.out.cell (World.block_lt_of_cell? w _ hx0)).trans hx0
      replace hx1 := (HB.out.cell (World.block_lt_of_cell? w _ hx1)).trans hx1
      replace hx2 := (HB.out.cell (World.block_lt_of_cell? w _ hx2)).trans hx2
      replace hx3 := (HB.out.cell (World.block_lt_of_cell? w _ hx3)).trans hx3
      replace hx4 := (HB.out.cell (World.block_lt_of_cell? w _ hx4)).trans hx4
      replace hx5 := (HB.out.cell (World.block_lt_of_cell? w _ hx5)).trans hx5
      simp only [Int.toNat_natCast] at hx0 hx1 hx2 hx3 hx4 hx5
      have hwlt : w.heap.size < wr.heap.size := blk_lt HK.out
      have HB2 := Aside0.mk (below_alloc HB.out (.cells #[.slice B1 (rd_T83 D.overs k).f0.length d1, .int .i64 (rd_T83 D.overs k).f1, .string (rd_T83 D.overs k).f2.f0, .int .i64 (rd_T83 D.overs k).f2.f1, .int .i64 (rd_T83 D.overs k).f2.f2, .int .i64 (rd_T83 D.overs k).f2.f3] 86))
      have HK2 := Aside0.mk (blk_alloc HK.out (.cells #[.slice B1 (rd_T83 D.overs k).f0.length d1, .int .i64 (rd_T83 D.overs k).f1, .string (rd_T83 D.overs k).f2.f0, .int .i64 (rd_T83 D.overs k).f2.f1, .int .i64 (rd_T83 D.overs k).f2.f2, .int .i64 (rd_T83 D.overs k).f2.f3] 86))
      have HR2 := Aside0.mk (heap_alloc_new wr (.cells #[.slice B1 (rd_T83 D.overs k).f0.length d1, .int .i64 (rd_T83 D.overs k).f1, .string (rd_T83 D.overs k).f2.f0, .int .i64 (rd_T83 D.overs k).f2.f1, .int .i64 (rd_T83 D.overs k).f2.f2, .int .i64 (rd_T83 D.overs k).f2.f3] 86))
      have CC := Lib.hid (lits_calls B1 d1 (rd_T83 D.overs k).f0 D.opts.length _ (Kd.C_below hC1 HB2.out) hl1)
      have HLT := Aside0.mk hlt
      clear hlt hl1 hC1
      have hc6 : wr.cell? ⟨w.heap.size, 6, none⟩ = some (.slice A6 D.opts.length c6) := (blk_cell HK.out 6).trans rfl
      have HIT : Hid (∀ e, overE D.opts.length D.dims D.overs k = e → e ≠ 0 → fE (overE D.opts.length D.dims D.overs) D.overs.length = e) := Lib.hid fun e h1 h2 => by
        rw [fE_hit _ _ k HLT.out HE.out (by rw [h1]; exact h2), h1]
      go_wp2_with fail
      refine CC.out.mono ?_
      rintro e w4 ⟨rfl, hb4⟩
      have HB4 := Aside0.mk (below_step HB2.out hb4)
      have HK4 := Aside0.mk (blk_below HK2.out hb4)
      have HR4 := Aside0.mk (blk_below HR2.out hb4)
      clear hb4 hc6 hc9 hx0 hx1 hx2 hx3 hx4 hx5 hwlt
      have hle : ∃ le, litsE (D.opts.length : Int) (rd_T83 D.overs k).f0 = le := ⟨_, rfl⟩
      obtain ⟨le, hle⟩ := hle
      rw [hle]
      have HLE := Aside0.mk hle
      clear hle
      by_cases hz : le = 0
      · subst hz
        have hr1 : w4.cell? ⟨wr.heap.size, 1, none⟩ = some (.int .i64 (rd_T83 D.overs k).f1) := (blk_cell HR4.out 1).trans rfl
        have hr2 : w4.cell? ⟨wr.heap.size, 2, none⟩ = some (.string (rd_T83 D.overs k).f2.f0) := (blk_cell HR4.out 2).trans rfl
        have hc3 : w4.cell? ⟨w.heap.size, 3, none⟩ = some (.slice A3 D.dims.length c3) := (blk_cell HK4.out 3).trans rfl
        by_cases g1 : (rd_T83 D.overs k).f1 < 0
        · have z1 : decide ((rd_T83 D.overs k).f1 < 0) = true := by simpa using g1
          have HG1 := Aside0.mk g1
          clear g1
          go_wp2_with fail
          go_ret
          refine ⟨?_, HB4.out⟩
          rw [HIT.out 10 (overE_no HLE.out (.inl HG1.out)) (by decide)]
          rfl
        · have z1 : decide ((rd_T83 D.overs k).f1 < 0) = false := by simpa using g1
          by_cases g2 : (D.dims.length : Int) ≤ (rd_T83 D.overs k).f1
          · have z2 : decide ((D.dims.length : Int) ≤ (rd_T83 D.overs k).f1) = true := by simpa using g2
            have HG2 := Aside0.mk g2
            clear g1 g2
            go_wp2_with fail
            go_ret
            refine ⟨?_, HB4.out⟩
            rw [HIT.out 10 (overE_no HLE.out (.inr HG2.out)) (by decide)]
            rfl
          · have z2 : decide ((D.dims.length : Int) ≤ (rd_T83 D.overs k).f1) = false := by simpa using g2
            have g1' : 0 ≤ (rd_T83 D.overs k).f1 := by omega
            have g2' : (rd_T83 D.overs k).f1 < (D.dims.length : Int) := by omega
            obtain ⟨ad2, e2, hy0, _, _, _⟩ := at_T81 HF.out.r3 (rd_T83 D.overs k).f1 g1' g2'
            replace e2 : A3 = some ad2 := e2
            cases e2
            replace hy0 := (HB4.out.cell (World.block_lt_of_cell? w _ hy0)).trans hy0
            have HNO := Aside0.mk (not_or.2 ⟨g1, g2⟩)
            clear g1 g2
            cases hnm : ((rd_T83 D.overs k).f2.f0.toList == (rd_T81 D.dims (rd_T83 D.overs k).f1).f0.toList) with
            | true =>
              have hnm2 : ((rd_T83 D.overs k).f2.f0.toList != (rd_T81 D.dims (rd_T83 D.overs k).f1).f0.toList) = false := by simpa using hnm
              have HNM := Aside0.mk hnm
              go_wp2_with fail
              go_quiet (fail)
              go_wp2_with fail
              go_roundg (D.overs.length - (k + 1))
              case measure => have := HLT.out; have := HG.out; omega
              case rel =>
                refine ⟨k + 1, by go_num, ⟨HLT.out⟩, ⟨Nat.le_refl _⟩, ⟨fun j hj => ?_⟩, ⟨pw_below_drewN HB4.out _⟩, ⟨HK4.out⟩⟩
                by_cases e : j = k
                · rw [e]; exact overE_ok HLE.out HNO.out (beq_iff_eq.1 HNM.out)
                · exact HE.out j (by omega)
            | false =>
              have hnm2 : ((rd_T83 D.overs k).f2.f0.toList != (rd_T81 D.dims (rd_T83 D.overs k).f1).f0.toList) = true := by rw [bne, hnm]; rfl
              have HNM := Aside0.mk hnm
              go_wp2_with fail
              go_quiet (fail)
              go_wp2_with fail
              go_ret
              refine ⟨?_, pw_below_drewN HB4.out _⟩
              rw [HIT.out 17 (overE_name HLE.out HNO.out (beq_eq_false_iff_ne.1 HNM.out)) (by decide)]
              rfl
      · have z1 : (le == 0) = false := by simpa using hz
        have z2 : (le != 0) = true := by simpa using hz
        have HZ := Aside0.mk hz
        clear hz
        go_wp2_with fail
        go_ret
        refine ⟨?_, HB4.out⟩
        rw [HIT.out le (overE_lits HLE.out HZ.out) HZ.out]
        rfl
    · have q0 : decide ((k : Int) < (D.overs.length : Int)) = false := by simpa using hlt
      have q1 : decide (k < D.overs.length) = false := by simpa using hlt
      have HNN := Lib.hid (fE_none (overE D.opts.length D.dims D.overs) D.overs.length fun j hj => HE.out j (by omega))
      clear hlt
      go_wp2_with fail
      go_ret
      refine ⟨?_, HB.out⟩
      rw [HNN.out]
      rfl
end Go.Proofs.YtcilmcoaondbmaaGreatDoor.PX
/- The reference's check. -/
namespace Go.Proofs.YtcilmcoaondbmaaGreatDoor.PX
open Go.RowKit Go.Proofs.YtcilmcoaondbmaaGreatDoorW.PrintWords Go.Proofs.YtcilmcoaondbmaaGreatDoorW.PrintLast Go.Proofs.YtcilmcoaondbmaaGreatDoorW.PrintMore
attribute [local go_sem] max2_int min2_int max_two min_two max_three min_three max_four min_four
set_option linter.unusedVariables false
set_option linter.unusedSimpArgs false
theorem memB_step {l : List S70} {j : Nat} {s : ByteArray} (hj : j < l.length) (h : memB ((l.take j).map (·.f0)) s = false) (he : ((rd_T70 l (j : Int)).f0.toList == s.toList) = false) : memB ((l.take (j + 1)).map (·.f0)) s = false := by
  rw [take_names hj]
  unfold memB at *
  rw [List.any_append, h]
  simp only [ByteArray.toList_eq] at he
  simp only [List.any_cons, List.any_nil, Bool.or_false, Bool.false_or]
  exact he
theorem memB_here {l : List S70} {j k : Nat} {s : ByteArray} (hj : j < k) (hk : k < l.length) (he : ((rd_T70 l (j : Int)).f0.toList == s.toList) = true) : memB ((l.take k).map (·.f0)) s = true := by
  unfold memB
  rw [List.any_eq_true]
  refine ⟨(rd_T70 l (j : Int)).f0, ?_, by simpa only [ByteArray.toList_eq] using he⟩
  rw [List.mem_map]
  refine ⟨rd_T70 l (j : Int), ?_, rfl⟩
  rw [List.mem_take_iff_getElem]
  refine ⟨j, by omega, ?_⟩
  have : j < l.length := by omega
  simp [rd_T70, List.getD_eq_getElem?_getD, this]
set_option maxHeartbeats 8000000 in
set_option maxRecDepth 100000 in
theorem refcheck_small (D : Fam) (H : Hd) (w : World) (HF : Hid (FamAt w D H)) (h : ¬ (12 < D.opts.length ∨ 48 < D.rules.length ∨ 48 < D.guards.length ∨ 48 < D.overs.length))
    (ho : ∀ i : Int, 0 ≤ i → i < D.opts.length → (rdS D.opts i).size ≤ 80) (hr : ∀ i : Int, 0 ≤ i → i < D.rules.length → (rd_T70 D.rules i).f0.size ≤ 80) :
    Calls Tryz.prog 5 #[fv D H] w fun e w' => e = .returned (.int .i64 (chk D)) ∧ Below w.heap.size w w' := by
  have hu41 := Tryz.underlying36
  have HOS := Lib.hid ho
  have HRS := Lib.hid hr
  clear ho hr
  obtain ⟨A1, A2, A3, A4, A5, A6, A7, A8, A9, c1, c2, c3, c4, c5, c6, c7, c8, c9⟩ := H
  show Calls Tryz.prog 5 #[.agg #[.string D.nm, .slice A1 D.parts.length c1, .slice A2 D.insts.length c2, .slice A3 D.dims.length c3, .slice A4 D.cons.length c4, .slice A5 D.reqs.length c5, .slice A6 D.opts.length c6, .slice A7 D.rules.length c7, .slice A8 D.guards.length c8, .slice A9 D.overs.length c9]] w _
  have h1 : D.opts.length ≤ 12 := by omega
  have h2 : D.rules.length ≤ 48 := by omega
  have h3 : D.guards.length ≤ 48 := by omega
  have h4 : D.overs.length ≤ 48 := by omega
  clear h
  have q1 : decide (12 < (D.opts.length : Int)) = false := by simp; omega
  have HS := Aside0.mk (And.intro h1 (And.intro h2 (And.intro h3 h4)))
  go_enter Tryz.func5, Tryz.ntmps5
  go_upto_region 2 with (fail)
  go_cut [33] (fun v31 wc => v31 = .bool false ∧ Aside0 (Below w.heap.size w wc) ∧ Aside0 (wc.heap[w.heap.size]? = some (.cells (fcells D ⟨A1, A2, A3, A4, A5, A6, A7, A8, A9, c1, c2, c3, c4, c5, c6, c7, c8, c9⟩) 36 (0, 0))))
  case first =>
    go_wp2_with fail
    all_goals
      go_meet
      case rel => exact ⟨by simp; omega, ⟨(Below.refl _ _).alloc (Nat.le_refl _) _⟩, ⟨heap_alloc_new _ _⟩⟩
  case rest =>
    obtain ⟨rfl, HB, HK⟩ := hcut
    have b1 : (D.opts.length : Int) ≤ 12 := by omega
    have b2 : (D.rules.length : Int) ≤ 48 := by omega
    have b3 : (D.guards.length : Int) ≤ 48 := by omega
    have b4 : (D.overs.length : Int) ≤ 48 := by omega
    clear q1 h1 h2 h3 h4
    go_wp2_with fail
    go_loopg [4] D.opts.length (fun gk v35 w' => ∃ k : Nat, v35 = .int .i64 k ∧ Aside0 (k ≤ D.opts.length) ∧ Aside0 (D.opts.length - k ≤ gk) ∧ Aside0 (∀ j, j < k → optE D.opts j = 0) ∧ Aside0 (Below w.heap.size w w') ∧ Aside0 (Box w' w.heap.size D ⟨A1, A2, A3, A4, A5, A6, A7, A8, A9, c1, c2, c3, c4, c5, c6, c7, c8, c9⟩))
    case atStart => exact ⟨0, rfl, ⟨Nat.zero_le _⟩, ⟨Nat.sub_le _ _⟩, ⟨fun j hj => absurd hj (Nat.not_lt_zero _)⟩, HB, HK⟩
    case round =>
      clear HB HK
      obtain ⟨k, rfl, HL, HG, HE, HB, HK⟩ := hrel
      by_cases hlt : k < D.opts.length
      · have q0 : decide ((k : Int) < (D.opts.length : Int)) = true := by simpa using hlt
        have q1 : decide (k < D.opts.length) = true := by simpa using hlt
        have p0 : 0 ≤ (k : Int) := by omega
        have p1 : (k : Int) < (D.opts.length : Int) := by omega
        obtain ⟨ad, e0, hx0⟩ := Kd.at_string HF.out.r6 k p0 p1
        replace e0 : A6 = some ad := e0
        cases e0
        replace hx0 := (HB.out.cell (World.block_lt_of_cell? w _ hx0)).trans hx0
        simp only [Int.toNat_natCast] at hx0
        have hc6 : wr.cell? ⟨w.heap.size, 6, none⟩ = some (.slice (some ad) D.opts.length c6) := (blk_cell HK.out 6).trans rfl
        have HX := Aside0.mk hx0
        have HLT := Aside0.mk hlt
        have CN := Lib.hid fun W => name_calls (rdS D.opts k) W (HOS.out k p0 p1)
        clear hlt
        cases hn : nameB (rdS D.opts k) with
        | false =>
          go_wp2_with fail
          refine (CN.out _).mono ?_
          rintro e w2 ⟨rfl, rfl⟩
          rw [hn]
          go_wp2_with fail
          go_ret
          refine ⟨?_, HB.out⟩
          have e1 := optE_bad hn
          rw [chk_opts HS.out HLT.out HE.out (by rw [e1]; decide), e1]
          rfl
        | true =>
          go_wp2_with fail
          refine (CN.out _).mono ?_
          rintro e w2 ⟨rfl, rfl⟩
          rw [hn]
          have HN := Aside0.mk hn
          clear hn
          by_cases hk : 0 < k
          · have q2 : decide (0 < (k : Int)) = true := by simpa using hk
            have q3 : decide (0 < k) = true := by simpa using hk
            obtain ⟨q, hq⟩ : ∃ q : Int, IntKind.i64.wrap ((k : Int) - 1) = q := ⟨_, rfl⟩
            have hqe : q = (k : Int) - 1 := by rw [← hq]; exact IntWalk.i64_in _ (by omega)
            have r0 : 0 ≤ q := by omega
            have r1 : q < (D.opts.length : Int) := by omega
            obtain ⟨ad2, e2, hx2⟩ := Kd.at_string HF.out.r6 q r0 r1
            have e2' : (some ad : Option Addr) = some ad2 := e2
            cases e2'
            replace hx2 := (HB.out.cell (World.block_lt_of_cell? w _ hx2)).trans hx2
            have HQE := Aside0.mk hqe
            have HKP := Aside0.mk hk
            clear hqe hk
            have hbad : leB (rdS D.opts k) (rdS D.opts q) = true → chk D = 8 := fun hle => by
              have e1 := optE_order HN.out HKP.out (by rw [← HQE.out]; exact hle)
              rw [chk_opts HS.out HLT.out HE.out (by rw [e1]; decide), e1]
            have hgood : leB (rdS D.opts k) (rdS D.opts q) = false → optE D.opts k = 0 := fun hle =>
              optE_ok HN.out (by rw [← HQE.out, hle]; simp)
            have HBAD := Lib.hid hbad
            have HGOOD := Lib.hid hgood
            clear hbad hgood
            cases h1 : Op.bytesLess (rdS D.opts k).toList (rdS D.opts q).toList with
            | true =>
              go_wp2_with fail
              go_quiet (fail)
              go_wp2_with fail
              go_ret
              refine ⟨?_, pw_below_drewN HB.out _⟩
              rw [HBAD.out (by simp [leB, h1])]
              rfl
            | false =>
              cases h2 : ((rdS D.opts k).toList == (rdS D.opts q).toList) with
              | true =>
                go_wp2_with fail
                go_quiet (fail)
                go_wp2_with fail
                go_ret
                refine ⟨?_, pw_below_drewN HB.out _⟩
                rw [HBAD.out (by simp [leB, h1, h2])]
                rfl
              | false =>
                go_wp2_with fail
                go_quiet (fail)
                go_wp2_with fail
                go_roundg (D.opts.length - (k + 1))
                case measure => have := HLT.out; have := HG.out; omega
                case rel =>
                  refine ⟨k + 1, by go_num, ⟨HLT.out⟩, ⟨Nat.le_refl _⟩, ⟨fun j hj => ?_⟩, ⟨pw_below_drewN HB.out _⟩, ⟨HK.out⟩⟩
                  by_cases e : j = k
                  · rw [e]; exact HGOOD.out (by simp [leB, h1, h2])
                  · exact HE.out j (by omega)
          · have q2 : decide (0 < (k : Int)) = false := by simpa using hk
            have q3 : decide (0 < k) = false := by simpa using hk
            have HKP := Aside0.mk hk
            clear hk
            go_wp2_with fail
            go_quiet (fail)
            go_wp2_with fail
            go_roundg (D.opts.length - (k + 1))
            case measure => have := HLT.out; have := HG.out; omega
            case rel =>
              refine ⟨k + 1, by go_num, ⟨HLT.out⟩, ⟨Nat.le_refl _⟩, ⟨fun j hj => ?_⟩, ⟨pw_below_drewN HB.out _⟩, ⟨HK.out⟩⟩
              by_cases e : j = k
              · rw [e]; exact optE_ok HN.out (fun h => HKP.out h.1)
              · exact HE.out j (by omega)
      · have q0 : decide ((k : Int) < (D.opts.length : Int)) = false := by simpa using hlt
        have q1 : decide (k < D.opts.length) = false := by simpa using hlt
        have HO : Hid (fE (optE D.opts) D.opts.length = 0) := Lib.hid (fE_none _ _ fun j hj => HE.out j (by omega))
        clear hlt
        go_wp2_with fail
        clear q0 q1 HE HL HG
        go_loopg [5] D.rules.length (fun gk v62 w' => ∃ k : Nat, v62 = .int .i64 k ∧ Aside0 (k ≤ D.rules.length) ∧ Aside0 (D.rules.length - k ≤ gk) ∧ Aside0 (∀ j, j < k → ruleE D.opts.length D.rules j = 0) ∧ Aside0 (Below w.heap.size w w') ∧ Aside0 (Box w' w.heap.size D ⟨A1, A2, A3, A4, A5, A6, A7, A8, A9, c1, c2, c3, c4, c5, c6, c7, c8, c9⟩))
        case atStart => exact ⟨0, rfl, ⟨Nat.zero_le _⟩, ⟨Nat.sub_le _ _⟩, ⟨fun j hj => absurd hj (Nat.not_lt_zero _)⟩, HB, HK⟩
        case round =>
          clear HB HK
          obtain ⟨k, rfl, HL, HG, HE, HB, HK⟩ := hrel
          have hc7 : wr.cell? ⟨w.heap.size, 7, none⟩ = some (.slice A7 D.rules.length c7) := (blk_cell HK.out 7).trans rfl
          by_cases hlt : k < D.rules.length
          · have q0 : decide ((k : Int) < (D.rules.length : Int)) = true := by simpa using hlt
            have q1 : decide (k < D.rules.length) = true := by simpa using hlt
            have p0 : 0 ≤ (k : Int) := by omega
            have p1 : (k : Int) < (D.rules.length : Int) := by omega
            obtain ⟨ad, B1, d1, e0, hx0, hx1, hl1, hC1⟩ := at_T70 HF.out.r7 k p0 p1
            replace e0 : A7 = some ad := e0
            cases e0
            have HX0 := Aside0.mk hx0
            have HX1 := Aside0.mk hx1
            replace hx0 := (HB.out.cell (World.block_lt_of_cell? w _ hx0)).trans hx0
            clear hx1
            simp only [Int.toNat_natCast] at hx0
            have HL1 := Aside0.mk hl1
            have HC1 := Aside0.mk hC1
            have HLT := Aside0.mk hlt
            have CN := Lib.hid fun W => name_calls (rd_T70 D.rules k).f0 W (HRS.out k p0 p1)
            clear hlt hl1 hC1
            cases hn : nameB (rd_T70 D.rules k).f0 with
            | false =>
              go_wp2_with fail
              refine (CN.out _).mono ?_
              rintro e w2 ⟨rfl, rfl⟩
              rw [hn]
              go_wp2_with fail
              go_ret
              refine ⟨?_, HB.out⟩
              have e1 := ruleE_bad (n := D.opts.length) hn
              rw [chk_rules HS.out HO.out HLT.out HE.out (by rw [e1]; decide), e1]
              rfl
            | true =>
              have HN1 := Aside0.mk hn
              go_wp2_with fail
              refine (CN.out _).mono ?_
              rintro e w2 ⟨rfl, rfl⟩
              rw [hn]
              clear hn
              have HMX : Hid (∀ b, memB ((D.rules.take k).map (·.f0)) (rd_T70 D.rules k).f0 = b → b = true → chk D = 9) := Lib.hid fun b h1 h2 => by
                have e1 := ruleE_twice (n := D.opts.length) HN1.out (h1.trans h2)
                rw [chk_rules HS.out HO.out HLT.out HE.out (by rw [e1]; decide), e1]
              go_wp2_with fail
              have HG0 := HG
              have HL0 := HL
              clear q0 q1 HG HL hx0 hc7
              go_loopg [6] k (fun gk v77 w' => ∃ j : Nat, v77 = .int .i64 j ∧ Aside0 (j ≤ k) ∧ Aside0 (k - j ≤ gk) ∧ Aside0 (memB ((D.rules.take j).map (·.f0)) (rd_T70 D.rules k).f0 = false) ∧ Aside0 (Below w.heap.size w w') ∧ Aside0 (Box w' w.heap.size D ⟨A1, A2, A3, A4, A5, A6, some ad, A8, A9, c1, c2, c3, c4, c5, c6, c7, c8, c9⟩))
              case atStart => exact ⟨0, rfl, ⟨Nat.zero_le _⟩, ⟨Nat.sub_le _ _⟩, ⟨rfl⟩, HB, HK⟩
              case round =>
                clear HB HK
                obtain ⟨j, rfl, HJL, HJG, HJE, HB, HK⟩ := hrel
                have hc7 : wr.cell? ⟨w.heap.size, 7, none⟩ = some (.slice (some ad) D.rules.length c7) := (blk_cell HK.out 7).trans rfl
                have hx0 := (HB.out.cell (World.block_lt_of_cell? w _ HX0.out)).trans HX0.out
                simp only [Int.toNat_natCast] at hx0
                by_cases hjk : j < k
                · have q0 : decide ((j : Int) < (k : Int)) = true := by simpa using hjk
                  have q1 : decide (j < k) = true := by simpa using hjk
                  have r0 : 0 ≤ (j : Int) := by omega
                  have r1 : (j : Int) < (D.rules.length : Int) := by omega
                  obtain ⟨ad2, B2, d2, e2, hy0, _, _, _⟩ := at_T70 HF.out.r7 j r0 r1
                  have e2' : (some ad : Option Addr) = some ad2 := e2
                  cases e2'
                  replace hy0 := (HB.out.cell (World.block_lt_of_cell? w _ hy0)).trans hy0
                  simp only [Int.toNat_natCast] at hy0
                  have HJK := Aside0.mk hjk
                  clear hjk
                  cases h2 : ((rd_T70 D.rules j).f0.toList == (rd_T70 D.rules k).f0.toList) with
                  | true =>
                    have HH2 := Aside0.mk h2
                    go_wp2_with fail
                    go_quiet (fail)
                    go_wp2_with fail
                    go_ret
                    refine ⟨?_, pw_below_drewN HB.out _⟩
                    rw [HMX.out true (memB_here HJK.out HLT.out HH2.out) rfl]
                    rfl
                  | false =>
                    have HH2 := Aside0.mk h2
                    go_wp2_with fail
                    go_quiet (fail)
                    go_wp2_with fail
                    go_roundg (k - (j + 1))
                    case measure => have := HJK.out; have := HJG.out; omega
                    case rel =>
                      exact ⟨j + 1, by go_num, ⟨HJK.out⟩, ⟨Nat.le_refl _⟩, ⟨memB_step (Nat.lt_trans HJK.out HLT.out) HJE.out HH2.out⟩, ⟨pw_below_drewN HB.out _⟩, ⟨HK.out⟩⟩
                · have q0 : decide ((j : Int) < (k : Int)) = false := by simpa using hjk
                  have q1 : decide (j < k) = false := by simpa using hjk
                  have hjk' : j = k := by have := HJL.out; omega
                  have HMB : Aside0 (memB ((D.rules.take k).map (·.f0)) (rd_T70 D.rules k).f0 = false) := ⟨by have := HJE.out; rwa [hjk'] at this⟩
                  have hx1 := (HB.out.cell (World.block_lt_of_cell? w _ HX1.out)).trans HX1.out
                  simp only [Int.toNat_natCast] at hx1
                  clear hjk hjk' hx0
                  have CC := Lib.hid (lits_calls B1 d1 (rd_T70 D.rules k).f1 D.opts.length _ (Kd.C_below HC1.out HB.out) HL1.out)
                  have HEQ := Aside0.mk (ruleE_lits (n := D.opts.length) HN1.out HMB.out)
                  go_wp2_with fail
                  refine CC.out.mono ?_
                  rintro e w4 ⟨rfl, hb4⟩
                  have HB4 := Aside0.mk (below_step HB.out hb4)
                  have HK4 := Aside0.mk (blk_below HK.out hb4)
                  clear hb4 hc7 hx1 q0 q1
                  generalize litsE (D.opts.length : Int) (rd_T70 D.rules k).f1 = le at HEQ
                  by_cases hz : le = 0
                  · subst hz
                    go_wp2_with fail
                    go_roundg (D.rules.length - (k + 1))
                    case measure => have := HLT.out; have := HG0.out; omega
                    case rel =>
                      refine ⟨k + 1, by go_num, ⟨HLT.out⟩, ⟨Nat.le_refl _⟩, ⟨fun j hj => ?_⟩, HB4, HK4⟩
                      by_cases e : j = k
                      · rw [e]; exact HEQ.out
                      · exact HE.out j (by omega)
                  · have z1 : (le == 0) = false := by simpa using hz
                    have z2 : (le != 0) = true := by simpa using hz
                    have HZ := Aside0.mk hz
                    clear hz
                    go_wp2_with fail
                    go_ret
                    refine ⟨?_, HB4.out⟩
                    rw [chk_rules HS.out HO.out HLT.out HE.out (by rw [HEQ.out]; exact HZ.out), HEQ.out]
                    rfl
          · have q0 : decide ((k : Int) < (D.rules.length : Int)) = false := by simpa using hlt
            have q1 : decide (k < D.rules.length) = false := by simpa using hlt
            have HRZ : Hid (fE (ruleE D.opts.length D.rules) D.rules.length = 0) := Lib.hid (fE_none _ _ fun j hj => HE.out j (by omega))
            clear hlt
            go_wp2_with fail
            clear q0 q1 hc7 HE HL HG
            go_loopg [8] D.guards.length (fun gk v92 w' => ∃ k : Nat, v92 = .int .i64 k ∧ Aside0 (k ≤ D.guards.length) ∧ Aside0 (D.guards.length - k ≤ gk) ∧ Aside0 (∀ j, j < k → guardE D.opts.length D.insts.length D.guards j = 0) ∧ Aside0 (Below w.heap.size w w') ∧ Aside0 (Box w' w.heap.size D ⟨A1, A2, A3, A4, A5, A6, A7, A8, A9, c1, c2, c3, c4, c5, c6, c7, c8, c9⟩))
            case atStart => exact ⟨0, rfl, ⟨Nat.zero_le _⟩, ⟨Nat.sub_le _ _⟩, ⟨fun j hj => absurd hj (Nat.not_lt_zero _)⟩, HB, HK⟩
            case round =>
              clear HB HK
              obtain ⟨k, rfl, HL, HG, HE, HB, HK⟩ := hrel
              have hc8 : wr.cell? ⟨w.heap.size, 8, none⟩ = some (.slice A8 D.guards.length c8) := (blk_cell HK.out 8).trans rfl
              by_cases hlt : k < D.guards.length
              · have q0 : decide ((k : Int) < (D.guards.length : Int)) = true := by simpa using hlt
                have q1 : decide (k < D.guards.length) = true := by simpa using hlt
                have p0 : 0 ≤ (k : Int) := by omega
                have p1 : (k : Int) < (D.guards.length : Int) := by omega
                obtain ⟨ad, B1, d1, e0, hx0, hx1, hl1, hC1⟩ := at_T79 HF.out.r8 k p0 p1
                replace e0 : A8 = some ad := e0
                cases e0
                replace hx0 := (HB.out.cell (World.block_lt_of_cell? w _ hx0)).trans hx0
                replace hx1 := (HB.out.cell (World.block_lt_of_cell? w _ hx1)).trans hx1
                simp only [Int.toNat_natCast] at hx0 hx1
                have CC := Lib.hid (lits_calls B1 d1 (rd_T79 D.guards k).f1 D.opts.length _ (Kd.C_below hC1 HB.out) hl1)
                have HLT := Aside0.mk hlt
                clear hlt hl1 hC1
                have hc2 : wr.cell? ⟨w.heap.size, 2, none⟩ = some (.slice A2 D.insts.length c2) := (blk_cell HK.out 2).trans rfl
                have HNO : Hid (((rd_T79 D.guards k).f0 < 0 ∨ (D.insts.length : Int) ≤ (rd_T79 D.guards k).f0) → chk D = 10) := Lib.hid fun h => by
                  have e1 := guardE_no (n := D.opts.length) h
                  rw [chk_guards HS.out HO.out HRZ.out HLT.out HE.out (by rw [e1]; decide), e1]
                by_cases g1 : (rd_T79 D.guards k).f0 < 0
                · have z1 : decide ((rd_T79 D.guards k).f0 < 0) = true := by simpa using g1
                  have HG1 := Aside0.mk g1
                  clear g1
                  go_wp2_with fail
                  go_ret
                  refine ⟨?_, HB.out⟩
                  rw [HNO.out (.inl HG1.out)]
                  rfl
                · have z1 : decide ((rd_T79 D.guards k).f0 < 0) = false := by simpa using g1
                  by_cases g2 : (D.insts.length : Int) ≤ (rd_T79 D.guards k).f0
                  · have z2 : decide ((D.insts.length : Int) ≤ (rd_T79 D.guards k).f0) = true := by simpa using g2
                    have HG2 := Aside0.mk g2
                    clear g1 g2
                    go_wp2_with fail
                    go_ret
                    refine ⟨?_, HB.out⟩
                    rw [HNO.out (.inr HG2.out)]
                    rfl
                  · have z2 : decide ((D.insts.length : Int) ≤ (rd_T79 D.guards k).f0) = false := by simpa using g2
                    have he := guardE_lits (n := D.opts.length) (fun h => h.elim g1 g2)
                    clear g1 g2
                    have HEQ := Aside0.mk he
                    clear he
                    go_wp2_with fail
                    refine CC.out.mono ?_
                    rintro e w4 ⟨rfl, hb4⟩
                    have HB4 := Aside0.mk (below_step HB.out hb4)
                    have HK4 := Aside0.mk (blk_below HK.out hb4)
                    clear hb4 hc2 hc8 z1 z2 hx0 hx1
                    generalize litsE (D.opts.length : Int) (rd_T79 D.guards k).f1 = le at HEQ
                    by_cases hz : le = 0
                    · subst hz
                      go_wp2_with fail
                      go_roundg (D.guards.length - (k + 1))
                      case measure => have := HLT.out; have := HG.out; omega
                      case rel =>
                        refine ⟨k + 1, by go_num, ⟨HLT.out⟩, ⟨Nat.le_refl _⟩, ⟨fun j hj => ?_⟩, HB4, HK4⟩
                        by_cases e : j = k
                        · rw [e]; exact HEQ.out
                        · exact HE.out j (by omega)
                    · have z1 : (le == 0) = false := by simpa using hz
                      have z2 : (le != 0) = true := by simpa using hz
                      have HZ := Aside0.mk hz
                      clear hz
                      go_wp2_with fail
                      go_ret
                      refine ⟨?_, HB4.out⟩
                      rw [chk_guards HS.out HO.out HRZ.out HLT.out HE.out (by rw [HEQ.out]; exact HZ.out), HEQ.out]
                      rfl
              · have q0 : decide ((k : Int) < (D.guards.length : Int)) = false := by simpa using hlt
                have q1 : decide (k < D.guards.length) = false := by simpa using hlt
                have HCK := Lib.hid (chk_overs HS.out HO.out HRZ.out (fE_none _ _ fun j hj => HE.out j (by omega)))
                clear hlt
                have CO := Lib.hid (overs_calls D ⟨A1, A2, A3, A4, A5, A6, A7, A8, A9, c1, c2, c3, c4, c5, c6, c7, c8, c9⟩ wr (Lib.hid (HF.out.below HB.out)) (by omega))
                have hc0 : wr.cell? ⟨w.heap.size, 0, none⟩ = some (.string D.nm) := (blk_cell HK.out 0).trans rfl
                have hc1 : wr.cell? ⟨w.heap.size, 1, none⟩ = some (.slice A1 D.parts.length c1) := (blk_cell HK.out 1).trans rfl
                have hc2 : wr.cell? ⟨w.heap.size, 2, none⟩ = some (.slice A2 D.insts.length c2) := (blk_cell HK.out 2).trans rfl
                have hc3 : wr.cell? ⟨w.heap.size, 3, none⟩ = some (.slice A3 D.dims.length c3) := (blk_cell HK.out 3).trans rfl
                have hc4 : wr.cell? ⟨w.heap.size, 4, none⟩ = some (.slice A4 D.cons.length c4) := (blk_cell HK.out 4).trans rfl
                have hc5 : wr.cell? ⟨w.heap.size, 5, none⟩ = some (.slice A5 D.reqs.length c5) := (blk_cell HK.out 5).trans rfl
                have hc6 : wr.cell? ⟨w.heap.size, 6, none⟩ = some (.slice A6 D.opts.length c6) := (blk_cell HK.out 6).trans rfl
                have hc7 : wr.cell? ⟨w.heap.size, 7, none⟩ = some (.slice A7 D.rules.length c7) := (blk_cell HK.out 7).trans rfl
                have hc9 : wr.cell? ⟨w.heap.size, 9, none⟩ = some (.slice A9 D.overs.length c9) := (blk_cell HK.out 9).trans rfl
                go_wp2_with fail
                refine CO.out.mono ?_
                rintro e w4 ⟨rfl, hb4⟩
                have HB4 := Aside0.mk (below_step HB.out hb4)
                rw [← HCK.out]
                clear hc0 hc1 hc2 hc3 hc4 hc5 hc6 hc7 hc8 hc9
                go_wp2_with fail
                go_ret
                exact ⟨rfl, HB4.out⟩
set_option maxHeartbeats 4000000 in
set_option maxRecDepth 100000 in
theorem refcheck_big (D : Fam) (H : Hd) (w : World) (h : 12 < D.opts.length ∨ 48 < D.rules.length ∨ 48 < D.guards.length ∨ 48 < D.overs.length) :
    Calls Tryz.prog 5 #[fv D H] w fun e w' => e = .returned (.int .i64 (chk D)) ∧ Below w.heap.size w w' := by
  have hu41 := Tryz.underlying36
  rw [chk_big h]
  unfold fv
  go_enter Tryz.func5, Tryz.ntmps5
  go_upto_region 2 with (fail)
  go_cut [33] (fun v31 wc => v31 = .bool true ∧ Aside0 (Below w.heap.size w wc))
  case first =>
    by_cases h12 : 12 < D.opts.length
    · have z1 : decide (12 < (D.opts.length : Int)) = true := by simp; omega
      clear h
      go_wp2_with fail
      all_goals
        go_meet
        case rel => exact ⟨by simp, ⟨(Below.refl _ _).alloc (Nat.le_refl _) _⟩⟩
    · have z1 : decide (12 < (D.opts.length : Int)) = false := by simp; omega
      have HH := Aside0.mk h
      have H12 := Aside0.mk h12
      clear h h12
      go_wp2_with fail
      all_goals
        go_meet
        case rel => exact ⟨by have := HH.out; have := H12.out; first | (simp; done) | (simp; omega), ⟨(Below.refl _ _).alloc (Nat.le_refl _) _⟩⟩
  case rest =>
    obtain ⟨rfl, HB⟩ := hcut
    clear h
    go_wp2_with fail
    go_ret
    exact ⟨rfl, HB.out⟩
theorem refcheck_calls (D : Fam) (H : Hd) (w : World) (HF : FamAt w D H) (ho : ∀ i : Int, 0 ≤ i → i < D.opts.length → (rdS D.opts i).size ≤ 80) (hr : ∀ i : Int, 0 ≤ i → i < D.rules.length → (rd_T70 D.rules i).f0.size ≤ 80) :
    Calls Tryz.prog 5 #[fv D H] w fun e w' => e = .returned (.int .i64 (chk D)) ∧ Below w.heap.size w w' := by
  by_cases h : 12 < D.opts.length ∨ 48 < D.rules.length ∨ 48 < D.guards.length ∨ 48 < D.overs.length
  · exact refcheck_big D H w h
  · exact refcheck_small D H w (Lib.hid HF) h ho hr
end Go.Proofs.YtcilmcoaondbmaaGreatDoor.PX
