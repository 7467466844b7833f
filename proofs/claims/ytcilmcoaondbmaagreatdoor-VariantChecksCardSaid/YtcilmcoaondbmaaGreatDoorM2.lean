/- decode returns the literals that a description stands for. -/
import Derived.Test.YtcilmcoaondbmaaGreatDoorK0
namespace Go.Proofs.YtcilmcoaondbmaaGreatDoor.PX
open Go.RowKit Go.Proofs.YtcilmcoaondbmaaGreatDoorW.PrintWords Go.Proofs.YtcilmcoaondbmaaGreatDoorW.PrintLast Go.Proofs.YtcilmcoaondbmaaGreatDoorW.PrintMore
set_option linter.unusedVariables false
set_option linter.unusedSimpArgs false
/-- A mark for one option. -/
def upd (f : Nat → Int) (i : Nat) (v : Int) : Nat → Int := fun j => if j = i then v else f j
def atF (n : Nat) (l : List Int) : Nat → (Nat → Int)
  | 0 => fun _ => 0
  | k + 1 => upd (atF n l k) ((l.getD k 0).natAbs % n) (if l.getD k 0 < 0 then -1 else 1)
def dl (f : Nat → Int) : Nat → List S62
  | 0 => []
  | k + 1 => if f k ≠ 0 then dl f k ++ [⟨k, decide (f k > 0)⟩] else dl f k
def decL (n : Nat) (l : List Int) : List S62 := dl (atF n l (min l.length 12)) n
def i8s (l : List Int) : Bool := l.all fun x => decide (-128 ≤ x ∧ x ≤ 127)
def arrV (f : Nat → Int) : Array Value := ((List.range 12).map fun i => Value.int .i64 (f i)).toArray
theorem arrV_zero : arrV (fun _ => 0) = #[.int .i64 0, .int .i64 0, .int .i64 0, .int .i64 0, .int .i64 0, .int .i64 0, .int .i64 0, .int .i64 0, .int .i64 0, .int .i64 0, .int .i64 0, .int .i64 0] := rfl
theorem arrV_get (f : Nat → Int) (i : Nat) (h : i < 12) : (arrV f)[i]? = some (.int .i64 (f i)) := by
  simp [arrV, h]
theorem arrV_set (f : Nat → Int) (i : Nat) (v : Int) (h : i < 12) : (arrV f).setIfInBounds i (.int .i64 v) = arrV (upd f i v) := by
  apply Array.ext_getElem?
  intro j
  rw [Array.getElem?_setIfInBounds]
  by_cases hj : j < 12
  · rw [arrV_get _ j hj]
    by_cases e : i = j
    · subst e
      simp [arrV, upd, hj]
    · rw [if_neg e, arrV_get _ j hj]
      simp [upd, fun h => e (Eq.symm h)]
      intro h; exact absurd h.symm e
  · have e : i ≠ j := by omega
    rw [if_neg e]
    simp [arrV, hj]
theorem dl_length (f : Nat → Int) : ∀ k, (dl f k).length ≤ k
  | 0 => Nat.le_refl _
  | k + 1 => by
    have := dl_length f k
    unfold dl
    split
    · simp; omega
    · omega
theorem tmod_neg {x : Int} (h : x < 0) (n : Nat) : -x.tmod (n : Int) = ((x.natAbs % n : Nat) : Int) := by
  obtain ⟨m, rfl⟩ : ∃ m : Nat, x = -(m : Int) := ⟨x.natAbs, by omega⟩
  rw [Int.neg_tmod, Int.neg_neg, Int.natAbs_neg, Int.natAbs_natCast]
  rfl
theorem tmod_pos {x : Int} (h : ¬ x < 0) (n : Nat) : x.tmod (n : Int) = ((x.natAbs % n : Nat) : Int) := by
  obtain ⟨m, rfl⟩ : ∃ m : Nat, x = (m : Int) := ⟨x.natAbs, by omega⟩
  rfl
theorem atF_next {n : Nat} {l : List Int} {k i : Nat} {x : Int} (hx : x = rd l (k : Int)) (hi : i = x.natAbs % n) : atF n l (k + 1) = upd (atF n l k) i (if x < 0 then -1 else 1) := by
  have e : l.getD k 0 = x := by rw [hx]; simp [rd]
  simp only [atF]
  rw [e, ← hi]
theorem i8s_at {l : List Int} {k : Nat} {x : Int} (h : i8s l = true) (hk : k < l.length) (hx : x = rd l (k : Int)) : -128 ≤ x ∧ x ≤ 127 := by
  unfold i8s at h
  rw [List.all_eq_true] at h
  have h2 := h l[k] (List.getElem_mem hk)
  have e : x = l[k] := by rw [hx]; simp [rd, List.getD_eq_getElem?_getD, hk]
  rw [e]
  simpa using h2
set_option maxHeartbeats 2000000 in
set_option maxRecDepth 100000 in
theorem decode_calls (n : Nat) (A1 : Option Addr) (c1 : Nat) (l1 : List Int) (w : World) (hr1 : Kd.C (Kd.int .i8) w A1 l1.length l1) (hc1 : l1.length ≤ c1) (h1 : 1 ≤ n) (h6 : n ≤ 6) (h : i8s l1 = true) :
    Calls Tryz.prog 50 #[.int .i64 n, .slice A1 l1.length c1] w fun e w' => ∃ v0_ : Value, e = .returned (v0_) ∧ Kd.R k62 73 w' w.heap.size (fun _ => True) v0_ (decL n l1) ∧ Below w.heap.size w w'  := by
  have HR := Aside0.mk hr1
  have H := Aside0.mk h
  clear hr1 h
  obtain ⟨F, hF0⟩ : ∃ F, F = atF n l1 (min l1.length 12) := ⟨_, rfl⟩
  have HFF : Aside0 (dl F n = decL n l1) := ⟨by rw [hF0]; rfl⟩
  have HF0 := Aside0.mk hF0
  clear hF0
  go_enter Tryz.func50, Tryz.ntmps50
  have HB0 := Aside0.mk ((Below.refl _ w).alloc (Nat.le_refl _) (.cells (arrV (fun _ => 0)) 137))
  have HK0 := Aside0.mk (heap_alloc_new w (.cells (arrV (fun _ => 0)) 137))
  rw [arrV_zero] at HB0 HK0
  have HK0' : Aside0 ((w.alloc (.cells #[.int .i64 0, .int .i64 0, .int .i64 0, .int .i64 0, .int .i64 0, .int .i64 0, .int .i64 0, .int .i64 0, .int .i64 0, .int .i64 0, .int .i64 0, .int .i64 0] 137)).heap[w.heap.size]? = some (.cells (arrV (atF n l1 0)) 137 (0, 0))) := HK0
  clear HK0
  go_wp2_with fail
  go_loopg [6] 12 (fun gk v6 w' => ∃ k : Nat, v6 = .int .i64 k ∧ Aside0 (k ≤ l1.length) ∧ Aside0 (k ≤ 12) ∧ Aside0 (12 - k ≤ gk) ∧ Aside0 (Below w.heap.size w w') ∧ Aside0 (w'.heap[w.heap.size]? = some (.cells (arrV (atF n l1 k)) 137 (0, 0))))
  case atStart => exact ⟨0, rfl, ⟨Nat.zero_le _⟩, ⟨Nat.zero_le _⟩, ⟨Nat.le_refl _⟩, HB0, HK0'⟩
  case round =>
    obtain ⟨k, rfl, HL, HT, HG, HB, HK⟩ := hrel
    by_cases hlt : k < l1.length
    · have q0 : decide ((k : Int) < (l1.length : Int)) = true := by simpa using hlt
      have q1 : decide (k < l1.length) = true := by simpa using hlt
      by_cases ht : k < 12
      · have q2 : decide ((k : Int) < 12) = true := by simp; omega
        have q3 : decide (k < 12) = true := by simpa using ht
        have p0 : 0 ≤ (k : Int) := by omega
        have p1 : (k : Int) < (l1.length : Int) := by omega
        obtain ⟨ad, hA, hx⟩ := Kd.at_int (Kd.C_below HR.out HB.out) (k : Int) p0 p1
        subst hA
        simp only [Int.toNat_natCast] at hx
        obtain ⟨x, hxx⟩ : ∃ x, x = rd l1 (k : Int) := ⟨_, rfl⟩
        rw [← hxx] at hx
        have hxr : -128 ≤ x ∧ x ≤ 127 := i8s_at H.out hlt hxx
        obtain ⟨g1, g2⟩ := hxr
        have HX := Aside0.mk hxx
        clear hxx
        by_cases hneg : x < 0
        · have q4 : decide (x < 0) = true := by simpa using hneg
          have hwr : IntKind.i64.wrap x = x := by rw [IntKind.wrap_i64]; omega
          obtain ⟨i, hi⟩ : ∃ i, i = x.natAbs % n := ⟨_, rfl⟩
          have hq : -x.tmod (n : Int) = (i : Int) := by rw [hi]; exact tmod_neg hneg n
          have hi6 : i < n := by rw [hi]; exact Nat.mod_lt _ (by omega)
          have hi12 : i < 12 := by omega
          have hif : (i : Int) < 12 := by omega
          have hi0 : 0 ≤ (i : Int) := by omega
          have hc : wr.cell? ⟨w.heap.size, i, none⟩ = some (.int .i64 (atF n l1 k i)) := (blk_cell HK.out i).trans (arrV_get _ _ hi12)
          have hf := blk_frozen HK.out i
          have HI := Aside0.mk hi
          clear hi
          go_wp2_with fail
          go_roundg (12 - (k + 1))
          case measure => have := HG.out; omega
          case rel => exact ⟨k + 1, by go_num, ⟨hlt⟩, ⟨ht⟩, ⟨Nat.le_refl _⟩, ⟨HB.out.setCell (Nat.le_refl _) _⟩, ⟨by rw [atF_next HX.out HI.out]; rw [if_pos hneg]; rw [← arrV_set _ _ _ hi12]; exact blk_set HK.out i _⟩⟩
        · have q4 : decide (x < 0) = false := by simpa using hneg
          have hwr : IntKind.i64.wrap x = x := by rw [IntKind.wrap_i64]; omega
          obtain ⟨i, hi⟩ : ∃ i, i = x.natAbs % n := ⟨_, rfl⟩
          have hq : x.tmod (n : Int) = (i : Int) := by rw [hi]; exact tmod_pos hneg n
          have hi6 : i < n := by rw [hi]; exact Nat.mod_lt _ (by omega)
          have hi12 : i < 12 := by omega
          have hif : (i : Int) < 12 := by omega
          have hi0 : 0 ≤ (i : Int) := by omega
          have hc : wr.cell? ⟨w.heap.size, i, none⟩ = some (.int .i64 (atF n l1 k i)) := (blk_cell HK.out i).trans (arrV_get _ _ hi12)
          have hf := blk_frozen HK.out i
          have HI := Aside0.mk hi
          clear hi
          go_wp2_with fail
          go_roundg (12 - (k + 1))
          case measure => have := HG.out; omega
          case rel => exact ⟨k + 1, by go_num, ⟨hlt⟩, ⟨ht⟩, ⟨Nat.le_refl _⟩, ⟨HB.out.setCell (Nat.le_refl _) _⟩, ⟨by rw [atF_next HX.out HI.out]; rw [if_neg (by omega)]; rw [← arrV_set _ _ _ hi12]; exact blk_set HK.out i _⟩⟩
      · have q2 : decide ((k : Int) < 12) = false := by simp; omega
        have q3 : decide (k < 12) = false := by simpa using ht
        have hk : min l1.length 12 = k := by have := HT.out; omega
        have HK' : Aside0 (wr.heap[w.heap.size]? = some (.cells (arrV F) 137 (0, 0))) := ⟨by rw [HF0.out, hk]; exact HK.out⟩
        clear hk
        go_wp2_with fail
        go_loopg [9, 8] n (fun gk v9 v8 w' => ∃ m : Nat, v9 = .int .i64 m ∧ Aside0 (m ≤ n) ∧ Aside0 (n - m ≤ gk) ∧ Aside0 (Below w.heap.size w w') ∧ Aside0 (w'.heap[w.heap.size]? = some (.cells (arrV F) 137 (0, 0))) ∧ Aside0 (Kd.R k62 73 w' w.heap.size (fun _ => True) v8 (dl F m)))
        case atStart => exact ⟨0, rfl, ⟨Nat.zero_le _⟩, ⟨Nat.sub_le _ _⟩, HB, HK', ⟨Kd.R_nil _ _ _ _ _⟩⟩
        case round =>
          clear HK' HK HB HL HT HG q0 q1 hlt
          obtain ⟨m, rfl, HL, HG, HB, HK, HR2⟩ := hrel
          by_cases hm : m < n
          · have q0 : decide ((m : Int) < (n : Int)) = true := by simpa using hm
            have q1 : decide (m < n) = true := by simpa using hm
            have hi12 : m < 12 := by omega
            have hif : (m : Int) < 12 := by omega
            have hi0 : 0 ≤ (m : Int) := by omega
            have hc : wr.cell? ⟨w.heap.size, m, none⟩ = some (.int .i64 (F m)) := (blk_cell HK.out m).trans (arrV_get _ _ hi12)
            by_cases hF : F m = 0
            · have e1 : dl F (m + 1) = dl F m := by simp only [dl]; rw [if_neg (by simp [hF])]
              have E1 := Aside0.mk e1
              rw [hF] at hc
              clear e1
              go_wp2_with fail
              go_roundg (n - (m + 1))
              case measure => have := HG.out; omega
              case rel => exact ⟨m + 1, by go_num, ⟨hm⟩, ⟨Nat.le_refl _⟩, HB, HK, ⟨by rw [E1.out]; exact HR2.out⟩⟩
            · have e1 : dl F (m + 1) = dl F m ++ [⟨m, decide (F m > 0)⟩] := by simp only [dl]; rw [if_pos hF]
              have E1 := Aside0.mk e1
              clear e1
              have z1 : (F m == 0) = false := by simpa using hF
              have z2 : (F m != 0) = true := by simpa using hF
              go_wp2_with ((with_reducible refine gate_builtin (b := .append) (xs := #[.tmp 45, .tmp 52]) rfl ?_); at_builtin; refine Kd.R_append k62 (w0 := w) w.heap.size rfl (.tmp 45) (.tmp 52) 38 73 (.agg #[.int .i64 0, .bool false]) 16 rfl Tryz.underlying38 info62 rfl (by decide) (by decide) u8 (dl F m) ⟨m, decide (0 < F m)⟩ [.int .i64 m, .bool (decide (0 < F m))] (fun _ => True) (fun _ => False) rfl rfl ?aP (fun _ hk => hk.elim) ?aF ?aO ?aB ?aS ?aL ?_; (case aP => exact ⟨_, _, rfl, rfl, rfl⟩); (case aB => exact HB.out); (case aF => exact (fun _ _ => trivial)); (case aO => exact HR2.out); (case aS => exact HB.out.size); (case aL => have := dl_length F m; omega); intro v1 w5 ho hb hg hat)
              go_roundg (n - (m + 1))
              case measure => have := HG.out; omega
              case rel => exact ⟨m + 1, by go_num, ⟨hm⟩, ⟨Nat.le_refl _⟩, ⟨hb⟩, ⟨blk_grown HK.out hg (Kd.R_ne HR2.out HK.out (by decide))⟩, ⟨by rw [E1.out]; exact ho⟩⟩
          · have q0 : decide ((m : Int) < (n : Int)) = false := by simpa using hm
            have q1 : decide (m < n) = false := by simpa using hm
            go_wp2_with fail
            have hmn : m = n := by have := HL.out; omega
            go_ret
            exact ⟨_, rfl, by rw [← HFF.out, ← hmn]; exact HR2.out, HB.out⟩
    · have q0 : decide ((k : Int) < (l1.length : Int)) = false := by simpa using hlt
      have q1 : decide (k < l1.length) = false := by simpa using hlt
      have hk : min l1.length 12 = k := by have := HT.out; have := HL.out; omega
      have HK' : Aside0 (wr.heap[w.heap.size]? = some (.cells (arrV F) 137 (0, 0))) := ⟨by rw [HF0.out, hk]; exact HK.out⟩
      clear hk
      go_wp2_with fail
      go_loopg [9, 8] n (fun gk v9 v8 w' => ∃ m : Nat, v9 = .int .i64 m ∧ Aside0 (m ≤ n) ∧ Aside0 (n - m ≤ gk) ∧ Aside0 (Below w.heap.size w w') ∧ Aside0 (w'.heap[w.heap.size]? = some (.cells (arrV F) 137 (0, 0))) ∧ Aside0 (Kd.R k62 73 w' w.heap.size (fun _ => True) v8 (dl F m)))
      case atStart => exact ⟨0, rfl, ⟨Nat.zero_le _⟩, ⟨Nat.sub_le _ _⟩, HB, HK', ⟨Kd.R_nil _ _ _ _ _⟩⟩
      case round =>
        clear HK' HK HB HL HT HG q0 q1
        obtain ⟨m, rfl, HL, HG, HB, HK, HR2⟩ := hrel
        by_cases hm : m < n
        · have q0 : decide ((m : Int) < (n : Int)) = true := by simpa using hm
          have q1 : decide (m < n) = true := by simpa using hm
          have hi12 : m < 12 := by omega
          have hif : (m : Int) < 12 := by omega
          have hi0 : 0 ≤ (m : Int) := by omega
          have hc : wr.cell? ⟨w.heap.size, m, none⟩ = some (.int .i64 (F m)) := (blk_cell HK.out m).trans (arrV_get _ _ hi12)
          by_cases hF : F m = 0
          · have e1 : dl F (m + 1) = dl F m := by simp only [dl]; rw [if_neg (by simp [hF])]
            have E1 := Aside0.mk e1
            rw [hF] at hc
            clear e1
            go_wp2_with fail
            go_roundg (n - (m + 1))
            case measure => have := HG.out; omega
            case rel => exact ⟨m + 1, by go_num, ⟨hm⟩, ⟨Nat.le_refl _⟩, HB, HK, ⟨by rw [E1.out]; exact HR2.out⟩⟩
          · have e1 : dl F (m + 1) = dl F m ++ [⟨m, decide (F m > 0)⟩] := by simp only [dl]; rw [if_pos hF]
            have E1 := Aside0.mk e1
            clear e1
            have z1 : (F m == 0) = false := by simpa using hF
            have z2 : (F m != 0) = true := by simpa using hF
            go_wp2_with ((with_reducible refine gate_builtin (b := .append) (xs := #[.tmp 45, .tmp 52]) rfl ?_); at_builtin; refine Kd.R_append k62 (w0 := w) w.heap.size rfl (.tmp 45) (.tmp 52) 38 73 (.agg #[.int .i64 0, .bool false]) 16 rfl Tryz.underlying38 info62 rfl (by decide) (by decide) u8 (dl F m) ⟨m, decide (0 < F m)⟩ [.int .i64 m, .bool (decide (0 < F m))] (fun _ => True) (fun _ => False) rfl rfl ?aP (fun _ hk => hk.elim) ?aF ?aO ?aB ?aS ?aL ?_; (case aP => exact ⟨_, _, rfl, rfl, rfl⟩); (case aB => exact HB.out); (case aF => exact (fun _ _ => trivial)); (case aO => exact HR2.out); (case aS => exact HB.out.size); (case aL => have := dl_length F m; omega); intro v1 w5 ho hb hg hat)
            go_roundg (n - (m + 1))
            case measure => have := HG.out; omega
            case rel => exact ⟨m + 1, by go_num, ⟨hm⟩, ⟨Nat.le_refl _⟩, ⟨hb⟩, ⟨blk_grown HK.out hg (Kd.R_ne HR2.out HK.out (by decide))⟩, ⟨by rw [E1.out]; exact ho⟩⟩
        · have q0 : decide ((m : Int) < (n : Int)) = false := by simpa using hm
          have q1 : decide (m < n) = false := by simpa using hm
          go_wp2_with fail
          have hmn : m = n := by have := HL.out; omega
          go_ret
          exact ⟨_, rfl, by rw [← HFF.out, ← hmn]; exact HR2.out, HB.out⟩
theorem wrap_sum49 (x : Int) : IntKind.u8.wrap (49 + IntKind.u8.wrap x) = (49 + x) % 256 := by simp only [IntKind.wrap_u8]; omega
/-- decode: what it hands back, where its numbers are what the caller has. -/
def dowellaw48_decode.f (a0 : Int) (l1 : List Int) : Option ((List (S62))) := if 1 ≤ a0 ∧ a0 ≤ 6 ∧ i8s l1 = true then some (decL a0.toNat l1) else none
theorem dowellaw48_decode.calls (a0 : Int) (A1 : Option Addr) (c1 : Nat) (l1 : List Int) (r : List S62) (w : World) (hr1 : Kd.C (Kd.int .i8) w A1 l1.length l1) (hc1 : l1.length ≤ c1) (h : dowellaw48_decode.f a0 l1 = some r) :
    Calls Tryz.prog 50 #[.int .i64 a0, .slice A1 l1.length c1] w fun e w' => ∃ v0_ : Value, e = .returned (v0_) ∧ Kd.R k62 73 w' w.heap.size (fun _ => True) v0_ r ∧ Below w.heap.size w w' := by
  unfold dowellaw48_decode.f at h
  split at h
  · rename_i h0
    obtain ⟨g1, g2, g3⟩ := h0
    injection h with h
    subst h
    obtain ⟨n, rfl⟩ : ∃ n : Nat, a0 = n := ⟨a0.toNat, by omega⟩
    rw [Int.toNat_natCast]
    exact decode_calls n A1 c1 l1 w hr1 hc1 (by omega) (by omega) g3
  · cases h
end Go.Proofs.YtcilmcoaondbmaaGreatDoor.PX
