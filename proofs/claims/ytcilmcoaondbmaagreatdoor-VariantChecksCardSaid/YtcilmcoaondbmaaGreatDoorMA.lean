/- known returns true. -/
import Derived.Test.YtcilmcoaondbmaaGreatDoorM9
import Derived.Test.YtcilmcoaondbmaaGreatDoorM5
/- known: the first two examples of the chapter. -/
namespace Go.Proofs.YtcilmcoaondbmaaGreatDoor.PX
open Go.RowKit Go.Proofs.YtcilmcoaondbmaaGreatDoorW.PrintWords Go.Proofs.YtcilmcoaondbmaaGreatDoorW.PrintLast Go.Proofs.YtcilmcoaondbmaaGreatDoorW.PrintMore
set_option linter.unusedVariables false
set_option linter.unusedSimpArgs false
theorem row_cells {α : Type} (d : Kd α) {w : World} {g : Nat} {cur : Array Value} {t : TypeId} {xs : List α} (hg : w.heap[g]? = some (.cells cur t (0, 0))) (hl : xs.length ≤ 9223372036854775807)
    (h : ∀ j p, xs[j]? = some p → ∃ c, c.length = d.sz ∧ d.K w p c ∧ ∀ i u, c[i]? = some u → cur[j * d.sz + i]? = some u) : d.C w (some ⟨g, 0, none⟩) xs.length xs :=
  ⟨rfl, hl, fun _ => ⟨_, rfl, fun j p hj => by
    obtain ⟨c, h1, h2, h3⟩ := h j p hj
    refine ⟨c, h1, h2, fun i u hu => ?_⟩
    rw [add_at, Nat.zero_add, cell_of_row w g _ cur t (0, 0) hg]
    exact h3 i u hu⟩⟩
theorem ints_row {k : IntKind} {w : World} {g : Nat} {t : TypeId} (xs : List Int) (hg : w.heap[g]? = some (.cells (xs.map (Value.int k)).toArray t (0, 0))) (hl : xs.length ≤ 9223372036854775807) : Kd.C (Kd.int k) w (some ⟨g, 0, none⟩) xs.length xs :=
  row_cells (Kd.int k) hg hl fun j p hj => ⟨[.int k p], rfl, rfl, fun i u hu => by
    rcases i with _ | i
    · have e : (Kd.int k).sz = 1 := rfl
      simp only [List.getElem?_cons_zero, Option.some.injEq] at hu
      rw [e, Nat.mul_one, Nat.add_zero]
      simp [hj, hu]
    · simp at hu⟩
theorem strs_row {w : World} {g : Nat} {t : TypeId} (xs : List ByteArray) (hg : w.heap[g]? = some (.cells (xs.map Value.string).toArray t (0, 0))) (hl : xs.length ≤ 9223372036854775807) : Kd.C Kd.string w (some ⟨g, 0, none⟩) xs.length xs :=
  row_cells Kd.string hg hl fun j p hj => ⟨[.string p], rfl, rfl, fun i u hu => by
    rcases i with _ | i
    · have e : Kd.string.sz = 1 := rfl
      simp only [List.getElem?_cons_zero, Option.some.injEq] at hu
      rw [e, Nat.mul_one, Nat.add_zero]
      simp [hj, hu]
    · simp at hu⟩
def litCells : List S62 → List Value
  | [] => []
  | x :: l => .int .i64 x.f0 :: .bool x.f1 :: litCells l
theorem litCells_at : ∀ (l : List S62) (j i : Nat) (p : S62) (u : Value), l[j]? = some p → [Value.int .i64 p.f0, Value.bool p.f1][i]? = some u → (litCells l)[j * 2 + i]? = some u
  | [], _, _, _, _, h, _ => by simp at h
  | x :: l, 0, i, p, u, h, hu => by
    simp only [List.getElem?_cons_zero, Option.some.injEq] at h
    subst h
    rcases i with _ | _ | i
    · simpa [litCells] using hu
    · simpa [litCells] using hu
    · simp at hu
  | x :: l, j + 1, i, p, u, h, hu => by
    have := litCells_at l j i p u (by simpa using h) hu
    rw [show (j + 1) * 2 + i = (j * 2 + i) + 1 + 1 by omega]
    simpa [litCells] using this
theorem lits_row {w : World} {g : Nat} {t : TypeId} (xs : List S62) (hg : w.heap[g]? = some (.cells (litCells xs).toArray t (0, 0))) (hl : xs.length ≤ 9223372036854775807) : Kd.C k62 w (some ⟨g, 0, none⟩) xs.length xs :=
  row_cells k62 hg hl fun j p hj => ⟨[.int .i64 p.f0, .bool p.f1], rfl, k62_mk w p, fun i u hu => by
    have e : k62.sz = 2 := rfl
    rw [e, List.getElem?_toArray]
    exact litCells_at xs j i p u hj hu⟩
/-- The first description of known. -/
def kR : List (List Int) := [[0, 1], [-6, -1], [-1, 2]]
theorem kR_row {w : World} {b : Nat} (h0 : w.heap[b]? = some (.cells #[.int .i8 0, .int .i8 1] 66 (0, 0))) (h1 : w.heap[b + 1]? = some (.cells #[.int .i8 (-6), .int .i8 (-1)] 66 (0, 0))) (h2 : w.heap[b + 1 + 1]? = some (.cells #[.int .i8 (-1), .int .i8 2] 66 (0, 0)))
    (h3 : w.heap[b + 1 + 1 + 1]? = some (.cells #[.slice (some ⟨b, 0, none⟩) 2 2, .slice (some ⟨b + 1, 0, none⟩) 2 2, .slice (some ⟨b + 1 + 1, 0, none⟩) 2 2] 67 (0, 0))) :
    Kd.C (Kd.slice 66 (Kd.int .i8)) w (some ⟨b + 1 + 1 + 1, 0, none⟩) kR.length kR :=
  row_cells (Kd.slice 66 (Kd.int .i8)) h3 (by decide) fun j p hj => by
    have e : (Kd.slice 66 (Kd.int .i8)).sz = 1 := rfl
    rcases j with _ | _ | _ | j
    · obtain rfl : [0, 1] = p := by simpa [kR] using hj
      exact ⟨[.slice (some ⟨b, 0, none⟩) 2 2], rfl, ⟨_, _, rfl, Nat.le_refl _, ints_row [0, 1] h0 (by decide)⟩, fun i u hu => by
        rcases i with _ | i
        · simpa using hu
        · simp at hu⟩
    · obtain rfl : [-6, -1] = p := by simpa [kR] using hj
      exact ⟨[.slice (some ⟨b + 1, 0, none⟩) 2 2], rfl, ⟨_, _, rfl, Nat.le_refl _, ints_row [-6, -1] h1 (by decide)⟩, fun i u hu => by
        rcases i with _ | i
        · simpa [e] using hu
        · simp at hu⟩
    · obtain rfl : [-1, 2] = p := by simpa [kR] using hj
      exact ⟨[.slice (some ⟨b + 1 + 1, 0, none⟩) 2 2], rfl, ⟨_, _, rfl, Nat.le_refl _, ints_row [-1, 2] h2 (by decide)⟩, fun i u hu => by
        rcases i with _ | i
        · simpa [e] using hu
        · simp at hu⟩
    · simp [kR] at hj
theorem kR_8 : All8 kR := by unfold All8 kR; decide
/-- known's family. -/
def kF0 : Fam := famK 2 kR [] []
def kAny : List S62 := [⟨0, false⟩, ⟨1, false⟩]
def kF : Fam := { kF0 with rules := kF0.rules.set 1 ⟨(rd_T70 kF0.rules 1).f0, kAny⟩ }
/-- The literals of a rule are put in place. -/
theorem N_put {w : World} {base : Nat} {ok okp : Nat → Prop} {g n c : Nat} {l : List S70} (h : Kd.N k70 40 w base ok (.slice (some ⟨g, 0, none⟩) n c) l) (i : Nat) (hi : i < n) (A1 : Option Addr) (c1 : Nat) (xs : List S62) (hl : xs.length ≤ c1) (hx : Kd.F k62 w okp A1 xs.length xs) (hokp : ∀ k, okp k → ok k ∧ k ≠ g) :
    (∃ old, w.cell? ⟨g, i * 2 + 1, none⟩ = some old) ∧ w.frozen? ⟨g, i * 2 + 1, none⟩ = false ∧ Kd.N k70 40 (w.setCell ⟨g, i * 2 + 1, none⟩ (.slice A1 xs.length c1)) base ok (.slice (some ⟨g, 0, none⟩) n c) (l.set i ⟨(rd_T70 l i).f0, xs⟩) := by
  obtain ⟨cs, hcl, hFK, hcc, hfr⟩ := Kd.N_elem h z70 (i : Int) (by omega) (by omega)
  obtain ⟨A0, c0, rfl, h0, h1⟩ := k70_openF hFK
  rw [Int.toNat_natCast] at hcc hfr
  refine ⟨⟨_, hcc 1 _ rfl⟩, hfr 1, ?_⟩
  have := (Kd.N_seg h (i : Int) (by omega) (by omega) (seg := [.slice A1 xs.length c1]) (j := 1) (x' := ⟨(rd_T70 l i).f0, xs⟩) rfl (by rw [Int.toNat_natCast]; exact hcc) (Nat.le_refl 2) (k70_mkF w okp ⟨(rd_T70 l i).f0, xs⟩ hl hx) hokp).1
  rw [Int.toNat_natCast] at this
  exact this
theorem C_zero {α : Type} (d : Kd α) (w : World) (A : Option Addr) : d.C w A ([] : List α).length [] := ⟨rfl, Nat.zero_le _, fun h => absurd h (Nat.lt_irrefl 0)⟩
theorem kF_nil : kF.guards = [] ∧ kF.overs = [] := ⟨rfl, rfl⟩
theorem kW (w : World) : Below w.heap.size w ((((w.alloc (.cells #[.int .i8 0, .int .i8 1] 66)).alloc (.cells #[.int .i8 (-6), .int .i8 (-1)] 66)).alloc (.cells #[.int .i8 (-1), .int .i8 2] 66)).alloc (.cells #[.slice (some ⟨w.heap.size, 0, none⟩) 2 2, .slice (some ⟨w.heap.size + 1, 0, none⟩) 2 2, .slice (some ⟨w.heap.size + 1 + 1, 0, none⟩) 2 2] 67)) ∧
    Kd.C (Kd.slice 66 (Kd.int .i8)) ((((w.alloc (.cells #[.int .i8 0, .int .i8 1] 66)).alloc (.cells #[.int .i8 (-6), .int .i8 (-1)] 66)).alloc (.cells #[.int .i8 (-1), .int .i8 2] 66)).alloc (.cells #[.slice (some ⟨w.heap.size, 0, none⟩) 2 2, .slice (some ⟨w.heap.size + 1, 0, none⟩) 2 2, .slice (some ⟨w.heap.size + 1 + 1, 0, none⟩) 2 2] 67)) (some ⟨w.heap.size + 1 + 1 + 1, 0, none⟩) kR.length kR := by
  have e1 : (w.alloc (.cells #[.int .i8 0, .int .i8 1] 66)).heap.size = w.heap.size + 1 := by simp
  have e2 : ((w.alloc (.cells #[.int .i8 0, .int .i8 1] 66)).alloc (.cells #[.int .i8 (-6), .int .i8 (-1)] 66)).heap.size = w.heap.size + 1 + 1 := by simp
  have e3 : (((w.alloc (.cells #[.int .i8 0, .int .i8 1] 66)).alloc (.cells #[.int .i8 (-6), .int .i8 (-1)] 66)).alloc (.cells #[.int .i8 (-1), .int .i8 2] 66)).heap.size = w.heap.size + 1 + 1 + 1 := by simp
  refine ⟨below_alloc (below_alloc (below_alloc (below_alloc (Below.refl _ w) _) _) _) _, kR_row ?_ ?_ ?_ ?_⟩
  · exact blk_alloc (blk_alloc (blk_alloc (heap_alloc_new w _) _) _) _
  · have := blk_alloc (blk_alloc (heap_alloc_new (w.alloc (.cells #[.int .i8 0, .int .i8 1] 66)) (.cells #[.int .i8 (-6), .int .i8 (-1)] 66)) (.cells #[.int .i8 (-1), .int .i8 2] 66)) (.cells #[.slice (some ⟨w.heap.size, 0, none⟩) 2 2, .slice (some ⟨w.heap.size + 1, 0, none⟩) 2 2, .slice (some ⟨w.heap.size + 1 + 1, 0, none⟩) 2 2] 67)
    rwa [e1] at this
  · have := blk_alloc (heap_alloc_new ((w.alloc (.cells #[.int .i8 0, .int .i8 1] 66)).alloc (.cells #[.int .i8 (-6), .int .i8 (-1)] 66)) (.cells #[.int .i8 (-1), .int .i8 2] 66)) (.cells #[.slice (some ⟨w.heap.size, 0, none⟩) 2 2, .slice (some ⟨w.heap.size + 1, 0, none⟩) 2 2, .slice (some ⟨w.heap.size + 1 + 1, 0, none⟩) 2 2] 67)
    rwa [e2] at this
  · have := heap_alloc_new (((w.alloc (.cells #[.int .i8 0, .int .i8 1] 66)).alloc (.cells #[.int .i8 (-6), .int .i8 (-1)] 66)).alloc (.cells #[.int .i8 (-1), .int .i8 2] 66)) (.cells #[.slice (some ⟨w.heap.size, 0, none⟩) 2 2, .slice (some ⟨w.heap.size + 1, 0, none⟩) 2 2, .slice (some ⟨w.heap.size + 1 + 1, 0, none⟩) 2 2] 67)
    rwa [e3] at this
def kB : S62 := ⟨1, true⟩
theorem k_ask : askE kF [] = 0 ∧ askE kF [kB] = 0 ∧ askE kF [kB, ⟨2, false⟩] = 0 := by decide +kernel
theorem k_count : (confs kF [] kF.rules).length = 3 := by decide +kernel
theorem k_first : firstN kF (confs kF [] kF.rules) = [⟨#[97]⟩, ⟨#[99]⟩] := by kernel_rfl
theorem k_forcedE : forcedE kF [kB] = 0 := by decide +kernel
theorem k_forced : forcedL kF [kB] = [⟨0, false⟩, kB, ⟨2, true⟩] := by kernel_rfl
theorem k_confl : conflF kF [kB, ⟨2, false⟩] = true ∧ conflL kF [kB, ⟨2, false⟩] = [2] := by decide +kernel
theorem k_rules : kF0.rules.length = 3 := by decide +kernel
theorem kc_count (H : Hd) (W : World) (h : FamAt W kF H) : Calls Tryz.prog 8 #[fv kF H, .slice none 0 0] W fun e w' => e = .returned (.tuple #[.int .i64 3, .int .i64 0]) ∧ Below W.heap.size W w' :=
  (count_calls kF H none 0 [] W h (C_zero _ _ _) (Nat.le_refl _)).mono fun e w' ⟨he, hb⟩ => ⟨by
    rw [he, k_ask.1, k_count]; rfl, hb⟩
theorem kc_first (H : Hd) (W : World) (h : FamAt W kF H) : Calls Tryz.prog 9 #[fv kF H, .slice none 0 0] W fun e w' => ∃ A c, e = .returned (.tuple #[.slice A 2 c, .bool true, .int .i64 0]) ∧ 2 ≤ c ∧ Kd.C Kd.string w' A 2 [⟨#[97]⟩, ⟨#[99]⟩] ∧ Below W.heap.size W w' :=
  (first_calls kF H none 0 [] W h (C_zero _ _ _) (Nat.le_refl _)).mono fun e w' ⟨A, c, ns, he, hn, hc, hC, hb⟩ => by
    rw [if_pos k_ask.1, k_first] at hn
    subst hn
    have hE : (confs kF [] kF.rules).isEmpty = false := by
      have := k_count
      cases hh : confs kF [] kF.rules with
      | nil => rw [hh] at this; cases this
      | cons a l => rfl
    exact ⟨A, c, by rw [he, k_ask.1, hE]; rfl, hc, hC, hb⟩
theorem kc_forced (H : Hd) (A : Option Addr) (c : Nat) (W : World) (h : FamAt W kF H) (hr : Kd.C k62 W A 1 [kB]) (hc : 1 ≤ c) : Calls Tryz.prog 10 #[fv kF H, .slice A 1 c] W fun e w' => ∃ A c, e = .returned (.tuple #[.slice A 3 c, .int .i64 0]) ∧ 3 ≤ c ∧ Kd.C k62 w' A 3 [⟨0, false⟩, kB, ⟨2, true⟩] ∧ Below W.heap.size W w' :=
  (forced_calls kF H A c [kB] W h hr hc).mono fun e w' ⟨A, c, fs, he, hn, hc, hC, hb⟩ => by
    rw [if_pos k_forcedE, k_forced] at hn
    subst hn
    exact ⟨A, c, by rw [he, k_forcedE]; rfl, hc, hC, hb⟩
theorem kc_confl (H : Hd) (A : Option Addr) (c : Nat) (W : World) (h : FamAt W kF H) (hr : Kd.C k62 W A 2 [kB, ⟨2, false⟩]) (hc : 2 ≤ c) : Calls Tryz.prog 11 #[fv kF H, .slice A 2 c] W fun e w' => ∃ A c, e = .returned (.tuple #[.slice A 1 c, .bool true, .int .i64 0]) ∧ 1 ≤ c ∧ Kd.C (Kd.int .i64) w' A 1 [2] ∧ Below W.heap.size W w' :=
  (confl_calls kF H A c [kB, ⟨2, false⟩] W h hr hc).mono fun e w' ⟨A, c, he, hc, hC, hb⟩ => by
    rw [k_confl.2] at he hc hC
    exact ⟨A, c, by rw [he, k_confl.1, k_ask.2.2]; rfl, hc, hC, hb⟩
set_option maxRecDepth 100000 in
set_option maxHeartbeats 4000000 in
theorem known_calls (w : World)  :
    Calls Tryz.prog 4 #[] w fun e w' => e = .returned (.bool true) ∧ Below w.heap.size w w' := by
  have hu62 := Tryz.underlying73
  have hu70 := Tryz.underlying40
  have hu41 := Tryz.underlying36
  have hu24 := Tryz.underlying70
  have hkW := Aside0.mk (kW w)
  go_enter Tryz.func4, Tryz.ntmps4
  go_wp2_with fail
  have hW := hkW.out
  generalize ((((w.alloc (.cells #[.int .i8 0, .int .i8 1] 66)).alloc (.cells #[.int .i8 (-6), .int .i8 (-1)] 66)).alloc (.cells #[.int .i8 (-1), .int .i8 2] 66)).alloc (.cells #[.slice (some ⟨w.heap.size, 0, none⟩) 2 2, .slice (some ⟨w.heap.size + 1, 0, none⟩) 2 2, .slice (some ⟨w.heap.size + 1 + 1, 0, none⟩) 2 2] 67)) = W1 at hW ⊢
  obtain ⟨hb1, hC1⟩ := hW
  have HB1 := Aside0.mk hb1
  have HC1 := Aside0.mk hC1
  clear hb1 hC1 hkW
  refine (plain_calls _).mono ?_
  rintro e w2 ⟨A1, A2, A3, A4, A5, c1, c2, c3, c4, c5, rfl, hbase, hb⟩
  have HB2 := Aside0.mk (below_step HB1.out hb)
  have HC2 := Aside0.mk (Kd.C_below HC1.out hb)
  have HBase := Aside0.mk hbase
  clear hbase hb
  go_wp2_with fail
  refine (fam_calls0 2 kR [] [] _ none none 3 0 0 A1 A2 A3 A4 A5 c1 c2 c3 c4 c5 w2 (by decide) (by decide) kR_8 (by intro r hr; cases hr) (by intro r hr; cases hr) HC2.out (by decide) (Kd.C_nil _ _) (by decide) (Kd.C_nil _ _) (by decide) HBase.out).mono ?_
  rintro e w3 ⟨A6, A7, A8, A9, c6, c7, c8, c9, rfl, hF, hO, hN, hb⟩
  obtain ⟨gr, cr, hv, hgb, hgl, hgt⟩ := Kd.N_form hN (by rw [show (famK 2 kR [] []).rules.length = 3 from k_rules]; decide)
  obtain ⟨rfl, rfl⟩ : A7 = some ⟨gr, 0, none⟩ ∧ c7 = cr := by
    injection hv with e1 _ e3
    exact ⟨e1, e3⟩
  obtain ⟨Hh, hHh⟩ : ∃ H : Hd, H = ⟨A1, A2, A3, A4, A5, A6, some ⟨gr, 0, none⟩, A8, A9, c1, c2, c3, c4, c5, c6, c7, c8, c9⟩ := ⟨_, rfl⟩
  have HHh := Aside0.mk hHh
  -- the world in which the rule stands as it was given
  have hst : ∃ Wd, Wd = (((w3.alloc (.cells (fcells kF0 ⟨A1, A2, A3, A4, A5, A6, some ⟨gr, 0, none⟩, A8, A9, c1, c2, c3, c4, c5, c6, c7, c8, c9⟩) 36)).alloc (.cells #[.int .i64 0, .bool false, .int .i64 1, .bool false] 73)).setCell ⟨gr, 3, none⟩ (.slice (some ⟨w3.heap.size + 1, 0, none⟩) 2 2)) := ⟨_, rfl⟩
  obtain ⟨Wd, hWd⟩ := hst
  obtain ⟨Wb, hWb⟩ : ∃ W, W = w3.alloc (.cells (fcells kF0 ⟨A1, A2, A3, A4, A5, A6, some ⟨gr, 0, none⟩, A8, A9, c1, c2, c3, c4, c5, c6, c7, c8, c9⟩) 36) := ⟨_, rfl⟩
  rw [← hWb] at hWd
  have hsz : Wb.heap.size = w3.heap.size + 1 := by rw [hWb]; simp
  have hKb : Wb.heap[w3.heap.size]? = some (.cells (fcells kF0 ⟨A1, A2, A3, A4, A5, A6, some ⟨gr, 0, none⟩, A8, A9, c1, c2, c3, c4, c5, c6, c7, c8, c9⟩) 36 (0, 0)) := by rw [hWb]; exact heap_alloc_new w3 _
  have hBb : Below w3.heap.size w3 Wb := by rw [hWb]; exact below_alloc (Below.refl _ _) _
  have hLb := heap_alloc_new Wb (.cells #[.int .i64 0, .bool false, .int .i64 1, .bool false] 73)
  have hbl : Below Wb.heap.size Wb (Wb.alloc (.cells #[.int .i64 0, .bool false, .int .i64 1, .bool false] 73)) := below_alloc (Below.refl _ _) _
  have hF62 : Kd.F k62 (Wb.alloc (.cells #[.int .i64 0, .bool false, .int .i64 1, .bool false] 73)) (fun k => k = Wb.heap.size) (some ⟨Wb.heap.size, 0, none⟩) kAny.length kAny := fun W' hW' => lits_row (t := 73) kAny ((hW' _ rfl (blk_lt hLb)).trans hLb) (by decide)
  obtain ⟨⟨old, hold⟩, hfr, hput⟩ := N_put (Kd.N_below (Kd.N_below hN hBb) hbl) 1 (by rw [show (famK 2 kR [] []).rules.length = 3 from k_rules]; decide) (some ⟨Wb.heap.size, 0, none⟩) 2 kAny (by decide) hF62 (fun k hk => ⟨trivial, by omega⟩)
  rw [hsz] at hput
  have hput' : Kd.N k70 40 Wd w2.heap.size (fun _ => True) (.slice (some ⟨gr, 0, none⟩) kF.rules.length c7) kF.rules := by
    rw [hWd, show kF.rules.length = (famK 2 kR [] []).rules.length by decide +kernel]
    exact hput
  have hgne : w3.heap.size ≠ gr := by omega
  have hB2d : Below w2.heap.size w2 Wd := by
    rw [hWd]
    exact Below.setCell (((hb.trans (hBb.mono hb.size))).trans (hbl.mono (by rw [hsz]; exact Nat.le_trans hb.size (Nat.le_succ _)))) hgb _
  have hOd : Kd.C Kd.string Wd A6 kF.opts.length kF.opts := by
    obtain ⟨cells, hgt⟩ := hgt
    rw [hWd]
    have h1 := Kd.R_below (Kd.R_below hO hBb) hbl
    exact (Kd.R_reads' (Kd.R_set h1 (blk_below (blk_below hgt hBb) hbl) (by intro q hq; have hE : Kd.string.E = [] := rfl; rw [hE] at hq; simp at hq; subst hq; decide) 3 _)).2.2
  have hFd : FamAt Wd kF Hh := by
    have hB := HBase.out.below hB2d
    rw [hHh]
    exact ⟨trivial, Nat.zero_le _, trivial, hB.l2, hB.r3, hB.l3, trivial, Nat.zero_le _, trivial, Nat.zero_le _, hOd, hF.l6, (Kd.N_reads' hput').2.2, (Kd.N_reads' hput').2.1, by rw [kF_nil.1]; exact C_zero _ _ _, hF.l8, by rw [kF_nil.2]; exact C_zero _ _ _, hF.l9⟩
  have hKd : Wd.heap[w3.heap.size]? = some (.cells (fcells kF Hh) 36 (0, 0)) := by
    rw [hWd, hHh]
    exact blk_far (p := ⟨gr, 3, none⟩) (blk_below hKb hbl) hgne _
  have hBd : Below w.heap.size w Wd := below_step HB2.out hB2d
  have HFd := Aside0.mk hFd
  have HKd := Aside0.mk hKd
  have HBd := Aside0.mk hBd
  have HWd := Aside0.mk hWd
  have HWb := Aside0.mk hWb
  obtain ⟨k0, k1, k2, k3, k4, k5, k6, k7, k8, k9⟩ := box_cells (D := kF0) (H := ⟨A1, A2, A3, A4, A5, A6, some ⟨gr, 0, none⟩, A8, A9, c1, c2, c3, c4, c5, c6, c7, c8, c9⟩) hKb
  rw [k_rules] at k7
  have hBe := below_alloc (Below.refl _ Wd) (.cells #[.int .i64 1, .bool true] 73)
  have hEe := heap_alloc_new Wd (.cells #[.int .i64 1, .bool true] 73)
  obtain ⟨We, hWe⟩ : ∃ W, W = Wd.alloc (.cells #[.int .i64 1, .bool true] 73) := ⟨_, rfl⟩
  rw [← hWe] at hBe hEe
  have HWe := Aside0.mk hWe
  have HEe := Aside0.mk hEe
  have HBe := Aside0.mk (below_step hBd hBe)
  have HFe := Aside0.mk (hFd.below hBe)
  have HKe := Aside0.mk (blk_below hKd hBe)
  have HGN := Aside0.mk hgne
  clear hF hO hN hb hv hgb hgl hgt hKb hBb hLb hbl hF62 hput hput' hgne hB2d hOd hFd hKd hBd hBe hEe hWe hHh hWd hWb k0 k1 k2 k3 k4 k5 k6 k8 k9
  go_upto_region 2 with (fail)
  change Code.wp _ _ _ _ (w3.alloc (.cells (fcells kF0 ⟨A1, A2, A3, A4, A5, A6, some ⟨gr, 0, none⟩, A8, A9, c1, c2, c3, c4, c5, c6, c7, c8, c9⟩) 36))
  rw [← HWb.out]
  go_upto_region 3 with (fail)
  rw [← HWd.out]
  clear k7 hold hfr hsz
  go_upto_region 4 with (fail)
  rw [← HWe.out]
  obtain ⟨k0, k1, k2, k3, k4, k5, k6, k7, k8, k9⟩ := box_cells HKe.out
  go_wp2_with fail
  refine (kc_count Hh We HFe.out).mono ?_
  rintro e w5 ⟨rfl, hb⟩
  have HB5 := Aside0.mk (below_step HBe.out hb)
  have HF5 := Aside0.mk (HFe.out.below hb)
  have HK5 := Aside0.mk (blk_below HKe.out hb)
  have HE5 := Aside0.mk (blk_below HEe.out hb)
  clear hb k0 k1 k2 k3 k4 k5 k6 k7 k8 k9
  obtain ⟨k0, k1, k2, k3, k4, k5, k6, k7, k8, k9⟩ := box_cells HK5.out
  go_wp2_with fail
  refine (kc_first Hh w5 HF5.out).mono ?_
  rintro e w6 ⟨Af, cf, rfl, hcf, hCf, hb⟩
  have HB6 := Aside0.mk (below_step HB5.out hb)
  have HF6 := Aside0.mk (HF5.out.below hb)
  have HK6 := Aside0.mk (blk_below HK5.out hb)
  have HE6 := Aside0.mk (blk_below HE5.out hb)
  have HCf := Aside0.mk hCf
  clear hb hCf k0 k1 k2 k3 k4 k5 k6 k7 k8 k9
  obtain ⟨k0, k1, k2, k3, k4, k5, k6, k7, k8, k9⟩ := box_cells HK6.out
  have b0 : w6.cell? ⟨Wd.heap.size, 0, none⟩ = some (.int .i64 1) := (blk_cell HE6.out 0).trans rfl
  have b1 : w6.cell? ⟨Wd.heap.size, 1, none⟩ = some (.bool true) := (blk_cell HE6.out 1).trans rfl
  go_wp2_with fail
  have r7 := lits_row (t := 73) [kB] (heap_alloc_new w6 (.cells #[.int .i64 1, .bool true] 73)) (by decide)
  have hb7 := below_alloc (Below.refl _ w6) (.cells #[.int .i64 1, .bool true] 73)
  generalize w6.alloc (.cells #[.int .i64 1, .bool true] 73) = wa at r7 hb7 ⊢
  refine (kc_forced Hh _ 1 wa (HF6.out.below hb7) r7 (Nat.le_refl _)).mono ?_
  rintro e w7 ⟨Ag, cg, rfl, hcg, hCg, hb⟩
  have hb67 := below_step hb7 hb
  have HB7 := Aside0.mk (below_step HB6.out hb67)
  have HF7 := Aside0.mk (HF6.out.below hb67)
  have HK7 := Aside0.mk (blk_below HK6.out hb67)
  have HE7 := Aside0.mk (blk_below HE6.out hb67)
  have HCf7 := Aside0.mk (Kd.C_below HCf.out hb67)
  have HCg := Aside0.mk hCg
  clear hb hb67 hb7 r7 hCg k0 k1 k2 k3 k4 k5 k6 k7 k8 k9 b0 b1
  obtain ⟨k0, k1, k2, k3, k4, k5, k6, k7, k8, k9⟩ := box_cells HK7.out
  have b0 : w7.cell? ⟨Wd.heap.size, 0, none⟩ = some (.int .i64 1) := (blk_cell HE7.out 0).trans rfl
  have b1 : w7.cell? ⟨Wd.heap.size, 1, none⟩ = some (.bool true) := (blk_cell HE7.out 1).trans rfl
  go_wp2_with fail
  have r7 := lits_row (t := 73) [kB, ⟨2, false⟩] (heap_alloc_new w7 (.cells #[.int .i64 1, .bool true, .int .i64 2, .bool false] 73)) (by decide)
  have hb7 := below_alloc (Below.refl _ w7) (.cells #[.int .i64 1, .bool true, .int .i64 2, .bool false] 73)
  generalize w7.alloc (.cells #[.int .i64 1, .bool true, .int .i64 2, .bool false] 73) = wc at r7 hb7 ⊢
  refine (kc_confl Hh _ 2 wc (HF7.out.below hb7) r7 (Nat.le_refl _)).mono ?_
  rintro e w8 ⟨Ah, ch, rfl, hch, hCh, hb⟩
  have hb78 := below_step hb7 hb
  have HB8 := Aside0.mk (below_step HB7.out hb78)
  have HE8 := Aside0.mk (blk_below HE7.out hb78)
  have HCf8 := Aside0.mk (Kd.C_below HCf7.out hb78)
  have HCg8 := Aside0.mk (Kd.C_below HCg.out hb78)
  have HCh := Aside0.mk hCh
  clear hb hb78 hb7 r7 hCh k0 k1 k2 k3 k4 k5 k6 k7 k8 k9 b0 b1
  have b0 : w8.cell? ⟨Wd.heap.size, 0, none⟩ = some (.int .i64 1) := (blk_cell HE8.out 0).trans rfl
  have b1 : w8.cell? ⟨Wd.heap.size, 1, none⟩ = some (.bool true) := (blk_cell HE8.out 1).trans rfl
  go_wp2_with fail
  have r9 := strs_row (t := 9) [⟨#[97]⟩, ⟨#[99]⟩] (heap_alloc_new w8 (.cells #[.string ⟨#[97]⟩, .string ⟨#[99]⟩] 9)) (by decide)
  have hb9 := below_alloc (Below.refl _ w8) (.cells #[.string ⟨#[97]⟩, .string ⟨#[99]⟩] 9)
  generalize w8.alloc (.cells #[.string ⟨#[97]⟩, .string ⟨#[99]⟩] 9) = wd at r9 hb9 ⊢
  refine (dowellaw48_sameNames.calls 4000 Af cf [⟨#[97]⟩, ⟨#[99]⟩] _ 2 [⟨#[97]⟩, ⟨#[99]⟩] true wd (Kd.C_below HCf8.out hb9) hcf r9 (Nat.le_refl _) (sameNames_f (by decide))).mono ?_
  rintro e w9 ⟨rfl, ⟨nd, rfl⟩⟩
  have hb89 : Below w8.heap.size w8 (wd.drewN nd) := pw_below_drewN hb9 nd
  generalize wd.drewN nd = w9 at hb89 ⊢
  have HB9 := Aside0.mk (below_step HB8.out hb89)
  have HE9 := Aside0.mk (blk_below HE8.out hb89)
  have HCg9 := Aside0.mk (Kd.C_below HCg8.out hb89)
  have HCh9 := Aside0.mk (Kd.C_below HCh.out hb89)
  clear hb9 hb89 r9 b0 b1
  have b0 : w9.cell? ⟨Wd.heap.size, 0, none⟩ = some (.int .i64 1) := (blk_cell HE9.out 0).trans rfl
  have b1 : w9.cell? ⟨Wd.heap.size, 1, none⟩ = some (.bool true) := (blk_cell HE9.out 1).trans rfl
  go_wp2_with fail
  have r9 := lits_row (t := 73) [⟨0, false⟩, kB, ⟨2, true⟩] (heap_alloc_new w9 (.cells #[.int .i64 0, .bool false, .int .i64 1, .bool true, .int .i64 2, .bool true] 73)) (by decide)
  have hb9 := below_alloc (Below.refl _ w9) (.cells #[.int .i64 0, .bool false, .int .i64 1, .bool true, .int .i64 2, .bool true] 73)
  generalize w9.alloc (.cells #[.int .i64 0, .bool false, .int .i64 1, .bool true, .int .i64 2, .bool true] 73) = we at r9 hb9 ⊢
  refine (dowellaw48_sameLiterals.calls 4000 Ag cg [⟨0, false⟩, kB, ⟨2, true⟩] _ 3 [⟨0, false⟩, kB, ⟨2, true⟩] true we (Kd.C_below HCg9.out hb9) hcg r9 (Nat.le_refl _) (sameLits_f (by decide))).mono ?_
  rintro e w10 ⟨rfl, ⟨nd2, rfl⟩⟩
  have hb89 : Below w9.heap.size w9 (we.drewN nd2) := pw_below_drewN hb9 nd2
  generalize we.drewN nd2 = w10 at hb89 ⊢
  have HB10 := Aside0.mk (below_step HB9.out hb89)
  have HCh10 := Aside0.mk (Kd.C_below HCh9.out hb89)
  clear hb9 hb89 r9 b0 b1
  go_wp2_with fail
  have r9 := ints_row (k := .i64) (t := 3) [2] (heap_alloc_new w10 (.cells #[.int .i64 2] 3)) (by decide)
  have hb9 := below_alloc (Below.refl _ w10) (.cells #[.int .i64 2] 3)
  generalize w10.alloc (.cells #[.int .i64 2] 3) = wf at r9 hb9 ⊢
  refine (dowellaw48_sameInts.calls 4000 Ah ch [2] _ 1 [2] true wf (Kd.C_below HCh10.out hb9) hch r9 (Nat.le_refl _) (sameInts_f (by decide))).mono ?_
  rintro e w11 ⟨rfl, ⟨nd3, rfl⟩⟩
  have hb89 : Below w10.heap.size w10 (wf.drewN nd3) := pw_below_drewN hb9 nd3
  generalize wf.drewN nd3 = w11 at hb89 ⊢
  have HB11 := Aside0.mk (below_step HB10.out hb89)
  clear hb9 hb89 r9
  go_wp2_with fail
  go_ret
  exact ⟨rfl, HB11.out⟩
end Go.Proofs.YtcilmcoaondbmaaGreatDoor.PX
