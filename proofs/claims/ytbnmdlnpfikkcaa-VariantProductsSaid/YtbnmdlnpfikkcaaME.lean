/- clone, product, Product, the reference's product and sameProduct: what they return. -/
import Derived.Test.YtbnmdlnpfikkcaaMB
import Derived.Test.YtbnmdlnpfikkcaaM5
/- Product: is an instance there. -/
namespace Go.Proofs.Ytbnmdlnpfikkcaa.PX
open Go.RowKit Go.Proofs.YtbnmdlnpfikkcaaW.PrintWords Go.Proofs.YtbnmdlnpfikkcaaW.PrintLast Go.Proofs.YtbnmdlnpfikkcaaW.PrintMore
set_option linter.unusedVariables false
set_option linter.unusedSimpArgs false
theorem enters72 : Enters Try.prog 72 := enters_of Try.func72 (by kernel_rfl) rfl
set_option maxHeartbeats 2000000 in
/-- product's closure: the guard bars the instance. -/
theorem guard1 (Bi Bc : Nat) (i : Int) (c : Nat) (x : S79) (A1 : Option Addr) (c1 : Nat) (w : World) (hc : c < 18446744073709551616) (hi : w.cell? ⟨Bi, 0, none⟩ = some (.int .i64 i)) (hcc : w.cell? ⟨Bc, 0, none⟩ = some (.int .u64 (c : Int)))
    (hr : Kd.C k62 w A1 x.f1.length x.f1) (hl : x.f1.length ≤ c1) (hok : LitsOk x.f1) :
    Calls Try.prog 72 #[.agg #[.int .i64 x.f0, .slice A1 x.f1.length c1], .pointer (some ⟨Bi, 0, none⟩), .pointer (some ⟨Bc, 0, none⟩)] w fun e w' => e = .returned (.bool (x.f0 == i && x.f1.any (nlit c))) ∧ Below w.heap.size w w' := by
  have hu79 := Try.underlying79
  have hBi : Bi < w.heap.size := World.block_lt_of_cell? w _ hi
  have hBc : Bc < w.heap.size := World.block_lt_of_cell? w _ hcc
  have HC := Lib.hid (fun W (hW : Below w.heap.size w W) => holds_calls c A1 c1 x.f1 W hc (Kd.C_below hr hW) hl hok)
  clear hr hl hok
  go_enter Try.func72, Try.ntmps72
  cases h : (x.f0 == i) with
  | true =>
    go_wp2_with fail
    refine (HC.out _ (below_alloc (Below.refl _ _) _)).mono ?_
    rintro e w2 ⟨rfl, hb⟩
    have HB := Aside0.mk (below_step (below_alloc (Below.refl _ w) (.cells #[.int .i64 x.f0, .slice A1 x.f1.length c1] 79)) hb)
    clear hb
    cases ha : x.f1.any (nlit c)
    all_goals
      go_wp2_with fail
      go_ret
      exact ⟨by rw [ha]; rfl, HB.out⟩
  | false =>
    go_wp2_with fail
    go_ret
    exact ⟨rfl, below_alloc (Below.refl _ _) _⟩
/-- The guards that bar an instance, searched. -/
theorem barred_calls (Bi Bc : Nat) (i : Int) (c : Nat) (A : Option Addr) (cp : Nat) (l : List S79) (w : World) (hc : c < 18446744073709551616) (hi : w.cell? ⟨Bi, 0, none⟩ = some (.int .i64 i)) (hcc : w.cell? ⟨Bc, 0, none⟩ = some (.int .u64 (c : Int)))
    (hr : Kd.C k79 w A l.length l) (hl : l.length ≤ cp) (hok : ∀ g ∈ l, LitsOk g.f1) :
    Calls Try.prog 71 #[.slice A l.length cp, .func (.func 72) #[] #[.pointer (some ⟨Bi, 0, none⟩), .pointer (some ⟨Bc, 0, none⟩)]] w fun e w' => e = .returned (.bool (l.any fun g => g.f0 == i && g.f1.any (nlit c))) ∧ Below w.heap.size w w' :=
  has71 72 #[.pointer (some ⟨Bi, 0, none⟩), .pointer (some ⟨Bc, 0, none⟩)] (fun g => g.f0 == i && g.f1.any (nlit c)) A cp l w enters72 hr hl
    (fun W x A1 c1 hb hx hl1 hr1 => guard1 Bi Bc i c x A1 c1 W hc (pw_cell_below hb hi) (pw_cell_below hb hcc) hr1 hl1 (hok x hx))
end Go.Proofs.Ytbnmdlnpfikkcaa.PX
/- slices.Clone of dimensions and of instances. -/
namespace Go.Proofs.Ytbnmdlnpfikkcaa.PX
open Go.RowKit Go.Proofs.YtbnmdlnpfikkcaaW.PrintWords Go.Proofs.YtbnmdlnpfikkcaaW.PrintLast Go.Proofs.YtbnmdlnpfikkcaaW.PrintMore
set_option linter.unusedVariables false
set_option linter.unusedSimpArgs false
theorem N_fresh81 (w : World) (ok : Nat → Prop) (h : ∀ k, w.heap.size ≤ k → ok k) : Kd.N k81 81 (w.alloc (.cells #[] 81)) w.heap.size ok (.slice (some ⟨w.heap.size, 0, none⟩) 0 0) [] :=
  Kd.R_N ⟨fun k hk => h k (by simp [Value.ownBlock] at hk; omega), [], World.ownsRow_made w #[] 0 (Nat.le_refl _) (Nat.zero_le _) (by simp), Reps.none _ _⟩
theorem foot81 {w : World} {A : Option Addr} {n : Nat} {xs : List S81} (h : Kd.C k81 w A n xs) : Kd.F k81 w (fun k => k < w.heap.size) A n xs :=
  C_foot (fun W' x c _ h => h) h
set_option maxHeartbeats 2000000 in
set_option maxRecDepth 100000 in
/-- slices.Clone. -/
theorem clone81 (A : Option Addr) (c : Nat) (l : List S81) (w : World) (hr : Kd.C k81 w A l.length l) (hc : l.length ≤ c) (hl : l.length ≤ 100) :
    Calls Try.prog 80 #[.slice A l.length c] w fun e w' => ∃ v, e = .returned v ∧ Kd.N k81 81 w' w.heap.size (fun k => True) v l ∧ Below w.heap.size w w' := by
  have hu := Try.underlying81
  have HR := Aside0.mk (Kd.F_bound (foot81 hr))
  have q37 : ∀ (w : World) (a : Option Addr) (n c n' c' : Nat), (binOp .eql 31 (.slice a n c) (.slice none n' c')).run Try.prog w = .ok (.bool a.isNone) w := fun w a n c n' c' => Lib.run_eql_slice_nil w 31 81 a n c n' c' Try.underlying31
  cases A with
  | none =>
    have h0 : l = [] := by
      cases l with
      | nil => rfl
      | cons x l =>
        obtain ⟨ad, h, _⟩ := hr.2.2 (by simp)
        cases h
    subst h0
    clear hr
    go_enter Try.func80, Try.ntmps80
    go_wp2_with fail
    go_ret
    exact ⟨_, rfl, Kd.N_nil _ _ _ _ _, Below.refl _ _⟩
  | some ad =>
    clear hr
    go_enter Try.func80, Try.ntmps80
    go_wp2_with ((with_reducible refine gate_builtin (b := .append) rfl ?_); at_builtin; refine Kd.N_append_rows k81 (w0 := w) w.heap.size rfl (.tmp 5) (.tmp 6) 31 81 (.agg #[(.string ⟨#[]⟩), (.int .i64 0), (.int .i64 0), (.int .i64 0)]) 40 rfl Try.underlying31 info81 rfl (by decide) (by decide) (.slice (some ⟨w.heap.size, 0, none⟩) 0 0) [] l (some ad) l.length c (fun k => True) (fun k => (k < w.heap.size) ∧ k < w.heap.size) rfl rfl (N_fresh81 w _ (fun k hk => trivial)) (Kd.F_alloc HR.out _) (fun k hk => ⟨trivial, by simp [Value.ownBlock]; omega⟩) (fun k hk => trivial) (below_alloc (Below.refl _ _) _) (by simp) (by simp; omega) ?_; intro v1 w5 ho hb hg hat)
    go_ret
    exact ⟨v1, rfl, ho, hb⟩
theorem N_fresh105 (w : World) (ok : Nat → Prop) (h : ∀ k, w.heap.size ≤ k → ok k) : Kd.N k105 105 (w.alloc (.cells #[] 105)) w.heap.size ok (.slice (some ⟨w.heap.size, 0, none⟩) 0 0) [] :=
  Kd.R_N ⟨fun k hk => h k (by simp [Value.ownBlock] at hk; omega), [], World.ownsRow_made w #[] 0 (Nat.le_refl _) (Nat.zero_le _) (by simp), Reps.none _ _⟩
theorem foot105 {w : World} {A : Option Addr} {n : Nat} {xs : List S105} (h : Kd.C k105 w A n xs) : Kd.F k105 w (fun k => k < w.heap.size) A n xs :=
  C_foot (fun W' x c _ h => h) h
set_option maxHeartbeats 2000000 in
set_option maxRecDepth 100000 in
/-- slices.Clone. -/
theorem clone105 (A : Option Addr) (c : Nat) (l : List S105) (w : World) (hr : Kd.C k105 w A l.length l) (hc : l.length ≤ c) (hl : l.length ≤ 100) :
    Calls Try.prog 79 #[.slice A l.length c] w fun e w' => ∃ v, e = .returned v ∧ Kd.N k105 105 w' w.heap.size (fun k => True) v l ∧ Below w.heap.size w w' := by
  have hu := Try.underlying105
  have HR := Aside0.mk (Kd.F_bound (foot105 hr))
  have q37 : ∀ (w : World) (a : Option Addr) (n c n' c' : Nat), (binOp .eql 28 (.slice a n c) (.slice none n' c')).run Try.prog w = .ok (.bool a.isNone) w := fun w a n c n' c' => Lib.run_eql_slice_nil w 28 105 a n c n' c' Try.underlying28
  cases A with
  | none =>
    have h0 : l = [] := by
      cases l with
      | nil => rfl
      | cons x l =>
        obtain ⟨ad, h, _⟩ := hr.2.2 (by simp)
        cases h
    subst h0
    clear hr
    go_enter Try.func79, Try.ntmps79
    go_wp2_with fail
    go_ret
    exact ⟨_, rfl, Kd.N_nil _ _ _ _ _, Below.refl _ _⟩
  | some ad =>
    clear hr
    go_enter Try.func79, Try.ntmps79
    go_wp2_with ((with_reducible refine gate_builtin (b := .append) rfl ?_); at_builtin; refine Kd.N_append_rows k105 (w0 := w) w.heap.size rfl (.tmp 5) (.tmp 6) 28 105 (.agg #[(.string ⟨#[]⟩), (.string ⟨#[]⟩), (.int .i64 0), (.int .i64 0), (.int .i64 0), (.int .i64 0), (.string ⟨#[]⟩), (.string ⟨#[]⟩), (.string ⟨#[]⟩)]) 112 rfl Try.underlying28 info105 rfl (by decide) (by decide) (.slice (some ⟨w.heap.size, 0, none⟩) 0 0) [] l (some ad) l.length c (fun k => True) (fun k => (k < w.heap.size) ∧ k < w.heap.size) rfl rfl (N_fresh105 w _ (fun k hk => trivial)) (Kd.F_alloc HR.out _) (fun k hk => ⟨trivial, by simp [Value.ownBlock]; omega⟩) (fun k hk => trivial) (below_alloc (Below.refl _ _) _) (by simp) (by simp; omega) ?_; intro v1 w5 ho hb hg hat)
    go_ret
    exact ⟨v1, rfl, ho, hb⟩
end Go.Proofs.Ytbnmdlnpfikkcaa.PX
/- slices.Clone of parts, constraints and requirements, of which there are none. -/
namespace Go.Proofs.Ytbnmdlnpfikkcaa.PX
open Go.RowKit Go.Proofs.YtbnmdlnpfikkcaaW.PrintWords Go.Proofs.YtbnmdlnpfikkcaaW.PrintLast Go.Proofs.YtbnmdlnpfikkcaaW.PrintMore
set_option linter.unusedVariables false
set_option linter.unusedSimpArgs false
theorem info129 : (Try.prog.info? 129).map (fun i => (i.zero, i.size, i.bytes)) = some (some (.agg #[(.string ⟨#[]⟩), (.int .i64 0), (.slice none 0 0)]), 3, 48) := by kernel_rfl
theorem N_fresh129 (w : World) (ok : Nat → Prop) (h : ∀ k, w.heap.size ≤ k → ok k) : Kd.N k129 129 (w.alloc (.cells #[] 129)) w.heap.size ok (.slice (some ⟨w.heap.size, 0, none⟩) 0 0) [] :=
  Kd.R_N ⟨fun k hk => h k (by simp [Value.ownBlock] at hk; omega), [], World.ownsRow_made w #[] 0 (Nat.le_refl _) (Nat.zero_le _) (by simp), Reps.none _ _⟩
set_option maxHeartbeats 2000000 in
set_option maxRecDepth 100000 in
/-- slices.Clone of nothing. -/
theorem clone129 (A : Option Addr) (c : Nat) (w : World) :
    Calls Try.prog 76 #[.slice A 0 c] w fun e w' => ∃ A' c', e = .returned (.slice A' 0 c') ∧ Below w.heap.size w w' := by
  have hu := Try.underlying129
  have q37 : ∀ (w : World) (a : Option Addr) (n c n' c' : Nat), (binOp .eql 27 (.slice a n c) (.slice none n' c')).run Try.prog w = .ok (.bool a.isNone) w := fun w a n c n' c' => Lib.run_eql_slice_nil w 27 129 a n c n' c' Try.underlying27
  cases A with
  | none =>
    go_enter Try.func76, Try.ntmps76
    go_wp2_with fail
    go_ret
    exact ⟨_, _, rfl, Below.refl _ _⟩
  | some ad =>
    have HF : ∀ W : World, Kd.F k129 W (fun _ => False) (some ad) 0 ([] : List S129) := fun W W' _ => ⟨rfl, Nat.zero_le _, fun h => absurd h (Nat.lt_irrefl 0)⟩
    go_enter Try.func76, Try.ntmps76
    go_wp2_with ((with_reducible refine gate_builtin (b := .append) rfl ?_); at_builtin; refine Kd.N_append_rows k129 (w0 := w) w.heap.size rfl (.tmp 5) (.tmp 6) 27 129 (.agg #[(.string ⟨#[]⟩), (.int .i64 0), (.slice none 0 0)]) 48 rfl Try.underlying27 info129 rfl (by decide) (by decide) (.slice (some ⟨w.heap.size, 0, none⟩) 0 0) [] [] (some ad) 0 c (fun k => True) (fun k => False) rfl rfl (N_fresh129 w _ (fun k hk => trivial)) (HF _) (fun k hk => hk.elim) (fun k hk => trivial) (below_alloc (Below.refl _ _) _) (by simp) (by simp) ?_; intro v1 w5 ho hb hg hat)
    obtain ⟨A', c', hv⟩ := Kd.N_slice ho
    go_ret
    exact ⟨A', c', by rw [hv]; rfl, hb⟩
theorem info158 : (Try.prog.info? 158).map (fun i => (i.zero, i.size, i.bytes)) = some (some (.agg #[(.string ⟨#[]⟩), (.string ⟨#[]⟩), (.slice none 0 0)]), 3, 56) := by kernel_rfl
theorem N_fresh158 (w : World) (ok : Nat → Prop) (h : ∀ k, w.heap.size ≤ k → ok k) : Kd.N k158 158 (w.alloc (.cells #[] 158)) w.heap.size ok (.slice (some ⟨w.heap.size, 0, none⟩) 0 0) [] :=
  Kd.R_N ⟨fun k hk => h k (by simp [Value.ownBlock] at hk; omega), [], World.ownsRow_made w #[] 0 (Nat.le_refl _) (Nat.zero_le _) (by simp), Reps.none _ _⟩
set_option maxHeartbeats 2000000 in
set_option maxRecDepth 100000 in
/-- slices.Clone of nothing. -/
theorem clone158 (A : Option Addr) (c : Nat) (w : World) :
    Calls Try.prog 81 #[.slice A 0 c] w fun e w' => ∃ A' c', e = .returned (.slice A' 0 c') ∧ Below w.heap.size w w' := by
  have hu := Try.underlying158
  have q37 : ∀ (w : World) (a : Option Addr) (n c n' c' : Nat), (binOp .eql 32 (.slice a n c) (.slice none n' c')).run Try.prog w = .ok (.bool a.isNone) w := fun w a n c n' c' => Lib.run_eql_slice_nil w 32 158 a n c n' c' Try.underlying32
  cases A with
  | none =>
    go_enter Try.func81, Try.ntmps81
    go_wp2_with fail
    go_ret
    exact ⟨_, _, rfl, Below.refl _ _⟩
  | some ad =>
    have HF : ∀ W : World, Kd.F k158 W (fun _ => False) (some ad) 0 ([] : List S158) := fun W W' _ => ⟨rfl, Nat.zero_le _, fun h => absurd h (Nat.lt_irrefl 0)⟩
    go_enter Try.func81, Try.ntmps81
    go_wp2_with ((with_reducible refine gate_builtin (b := .append) rfl ?_); at_builtin; refine Kd.N_append_rows k158 (w0 := w) w.heap.size rfl (.tmp 5) (.tmp 6) 32 158 (.agg #[(.string ⟨#[]⟩), (.string ⟨#[]⟩), (.slice none 0 0)]) 56 rfl Try.underlying32 info158 rfl (by decide) (by decide) (.slice (some ⟨w.heap.size, 0, none⟩) 0 0) [] [] (some ad) 0 c (fun k => True) (fun k => False) rfl rfl (N_fresh158 w _ (fun k hk => trivial)) (HF _) (fun k hk => hk.elim) (fun k hk => trivial) (below_alloc (Below.refl _ _) _) (by simp) (by simp) ?_; intro v1 w5 ho hb hg hat)
    obtain ⟨A', c', hv⟩ := Kd.N_slice ho
    go_ret
    exact ⟨A', c', by rw [hv]; rfl, hb⟩
theorem info165 : (Try.prog.info? 165).map (fun i => (i.zero, i.size, i.bytes)) = some (some (.agg #[(.string ⟨#[]⟩), (.int .i64 0), (.string ⟨#[]⟩), (.slice none 0 0), (.string ⟨#[]⟩), (.slice none 0 0), (.string ⟨#[]⟩), (.string ⟨#[]⟩)]), 8, 136) := by kernel_rfl
theorem N_fresh165 (w : World) (ok : Nat → Prop) (h : ∀ k, w.heap.size ≤ k → ok k) : Kd.N k165 165 (w.alloc (.cells #[] 165)) w.heap.size ok (.slice (some ⟨w.heap.size, 0, none⟩) 0 0) [] :=
  Kd.R_N ⟨fun k hk => h k (by simp [Value.ownBlock] at hk; omega), [], World.ownsRow_made w #[] 0 (Nat.le_refl _) (Nat.zero_le _) (by simp), Reps.none _ _⟩
set_option maxHeartbeats 2000000 in
set_option maxRecDepth 100000 in
/-- slices.Clone of nothing. -/
theorem clone165 (A : Option Addr) (c : Nat) (w : World) :
    Calls Try.prog 83 #[.slice A 0 c] w fun e w' => ∃ A' c', e = .returned (.slice A' 0 c') ∧ Below w.heap.size w w' := by
  have hu := Try.underlying165
  have q37 : ∀ (w : World) (a : Option Addr) (n c n' c' : Nat), (binOp .eql 33 (.slice a n c) (.slice none n' c')).run Try.prog w = .ok (.bool a.isNone) w := fun w a n c n' c' => Lib.run_eql_slice_nil w 33 165 a n c n' c' Try.underlying33
  cases A with
  | none =>
    go_enter Try.func83, Try.ntmps83
    go_wp2_with fail
    go_ret
    exact ⟨_, _, rfl, Below.refl _ _⟩
  | some ad =>
    have HF : ∀ W : World, Kd.F k165 W (fun _ => False) (some ad) 0 ([] : List S165) := fun W W' _ => ⟨rfl, Nat.zero_le _, fun h => absurd h (Nat.lt_irrefl 0)⟩
    go_enter Try.func83, Try.ntmps83
    go_wp2_with ((with_reducible refine gate_builtin (b := .append) rfl ?_); at_builtin; refine Kd.N_append_rows k165 (w0 := w) w.heap.size rfl (.tmp 5) (.tmp 6) 33 165 (.agg #[(.string ⟨#[]⟩), (.int .i64 0), (.string ⟨#[]⟩), (.slice none 0 0), (.string ⟨#[]⟩), (.slice none 0 0), (.string ⟨#[]⟩), (.string ⟨#[]⟩)]) 136 rfl Try.underlying33 info165 rfl (by decide) (by decide) (.slice (some ⟨w.heap.size, 0, none⟩) 0 0) [] [] (some ad) 0 c (fun k => True) (fun k => False) rfl rfl (N_fresh165 w _ (fun k hk => trivial)) (HF _) (fun k hk => hk.elim) (fun k hk => trivial) (below_alloc (Below.refl _ _) _) (by simp) (by simp) ?_; intro v1 w5 ho hb hg hat)
    obtain ⟨A', c', hv⟩ := Kd.N_slice ho
    go_ret
    exact ⟨A', c', by rw [hv]; rfl, hb⟩
end Go.Proofs.Ytbnmdlnpfikkcaa.PX
/- clone of a product without parts, constraints and requirements. -/
namespace Go.Proofs.Ytbnmdlnpfikkcaa.PX
open Go.RowKit Go.Proofs.YtbnmdlnpfikkcaaW.PrintWords Go.Proofs.YtbnmdlnpfikkcaaW.PrintLast Go.Proofs.YtbnmdlnpfikkcaaW.PrintMore
set_option linter.unusedVariables false
set_option linter.unusedSimpArgs false
/-- A product's cells. -/
def pcs (nm : ByteArray) (v1 v2 v3 v4 v5 : Value) : Array Value := #[.string nm, v1, v2, v3, v4, v5]
theorem p_cells {w : World} {g : Nat} {nm : ByteArray} {v1 v2 v3 v4 v5 : Value} (h : w.heap[g]? = some (.cells (pcs nm v1 v2 v3 v4 v5) 35 (0, 0))) :
    w.cell? ⟨g, 0, none⟩ = some (.string nm) ∧ w.cell? ⟨g, 1, none⟩ = some v1 ∧ w.cell? ⟨g, 2, none⟩ = some v2 ∧ w.cell? ⟨g, 3, none⟩ = some v3 ∧ w.cell? ⟨g, 4, none⟩ = some v4 ∧ w.cell? ⟨g, 5, none⟩ = some v5 :=
  ⟨(blk_cell h 0).trans rfl, (blk_cell h 1).trans rfl, (blk_cell h 2).trans rfl, (blk_cell h 3).trans rfl, (blk_cell h 4).trans rfl, (blk_cell h 5).trans rfl⟩
/-- A new row of elements that lead nowhere else: its footprint is itself. -/
theorem N_fix {α : Type} {d : Kd α} {e : Nat} {w w1 : World} {v : Value} {xs : List α} {g : Nat} (hK : ∀ (W W' : World) (x : α) (c : List Value), d.K W x c → d.K W' x c) (h : Kd.N d e w1 w.heap.size (fun _ => True) v xs) (hg : g < w.heap.size) : Kd.N d e w1 w.heap.size (fun k => g < k) v xs := by
  have hb := Kd.N_base h
  obtain ⟨h0, rows, hl, hR, hf⟩ := h
  exact ⟨fun k hk => by have := hb k hk; omega, rows, hl, hR, fun j x c hx hc W' _ => hK _ _ _ _ (Kd.FK_now (hf j x c hx hc))⟩
set_option maxHeartbeats 2000000 in
set_option maxRecDepth 100000 in
theorem cloneP_calls (nm : ByteArray) (A1 A2 A3 A4 A5 : Option Addr) (c1 c2 c3 c4 c5 : Nat) (I : List S105) (Dm : List S81) (w : World) (hI : Kd.C k105 w A2 I.length I) (hI2 : I.length ≤ c2) (hI3 : I.length ≤ 100) (hD : Kd.C k81 w A3 Dm.length Dm) (hD2 : Dm.length ≤ c3) (hD3 : Dm.length ≤ 100) :
    Calls Try.prog 70 #[.agg #[.string nm, .slice A1 0 c1, .slice A2 I.length c2, .slice A3 Dm.length c3, .slice A4 0 c4, .slice A5 0 c5]] w fun e w' => ∃ B1 B2 B4 B5 d1 d2 d4 d5 v3, e = .returned (.agg #[.string nm, .slice B1 0 d1, .slice B2 I.length d2, v3, .slice B4 0 d4, .slice B5 0 d5]) ∧ Kd.C k105 w' B2 I.length I ∧ Kd.N k81 81 w' w.heap.size (fun _ => True) v3 Dm ∧ Below w.heap.size w w' := by
  have hu35 := Try.underlying35
  have HI := Aside0.mk hI
  have HD := Aside0.mk hD
  clear hI hD
  obtain ⟨w1, hw1⟩ : ∃ w1, w1 = (w.alloc (.cells (pcs nm (.slice A1 0 c1) (.slice A2 I.length c2) (.slice A3 Dm.length c3) (.slice A4 0 c4) (.slice A5 0 c5)) 35)).alloc (.cells (pcs ⟨#[]⟩ (.slice none 0 0) (.slice none 0 0) (.slice none 0 0) (.slice none 0 0) (.slice none 0 0)) 35) := ⟨_, rfl⟩
  have HB1 : Aside0 (Below w.heap.size w w1) := ⟨by rw [hw1]; exact below_alloc (below_alloc (Below.refl _ _) _) _⟩
  have HP1 : Aside0 (w1.heap[w.heap.size]? = some (.cells (pcs nm (.slice A1 0 c1) (.slice A2 I.length c2) (.slice A3 Dm.length c3) (.slice A4 0 c4) (.slice A5 0 c5)) 35 (0, 0))) := ⟨by rw [hw1]; exact blk_alloc (heap_alloc_new w _) _⟩
  have HR1 : Aside0 (w1.heap[w.heap.size + 1]? = some (.cells (pcs ⟨#[]⟩ (.slice none 0 0) (.slice none 0 0) (.slice none 0 0) (.slice none 0 0) (.slice none 0 0)) 35 (0, 0))) := ⟨by
    have h := heap_alloc_new (w.alloc (.cells (pcs nm (.slice A1 0 c1) (.slice A2 I.length c2) (.slice A3 Dm.length c3) (.slice A4 0 c4) (.slice A5 0 c5)) 35)) (.cells (pcs ⟨#[]⟩ (.slice none 0 0) (.slice none 0 0) (.slice none 0 0) (.slice none 0 0) (.slice none 0 0)) 35)
    rw [show (w.alloc (.cells (pcs nm (.slice A1 0 c1) (.slice A2 I.length c2) (.slice A3 Dm.length c3) (.slice A4 0 c4) (.slice A5 0 c5)) 35)).heap.size = w.heap.size + 1 by simp] at h
    rw [hw1]; exact h⟩
  unfold pcs at hw1
  go_enter Try.func70, Try.ntmps70
  go_wp2_with fail
  rw [← hw1]
  clear hw1
  refine (clone129 A1 c1 w1).mono ?_
  rintro e w2 ⟨B1, d1, rfl, hb⟩
  have HB2 := Aside0.mk (below_step HB1.out hb)
  have HP2 := Aside0.mk (blk_below HP1.out hb)
  have HR2 := Aside0.mk (blk_below HR1.out hb)
  clear hb HB1 HP1 HR1
  obtain ⟨p0, p1, p2, p3, p4, p5⟩ := p_cells HP2.out
  have f1 := blk_frozen HP2.out 1
  obtain ⟨w3, hw3⟩ : ∃ w3, w3 = w2.setCell ⟨w.heap.size, 1, none⟩ (.slice B1 0 d1) := ⟨_, rfl⟩
  have HB3 : Aside0 (Below w.heap.size w w3) := ⟨by rw [hw3]; exact below_set HB2.out (Nat.le_refl _)⟩
  have HP3 : Aside0 (w3.heap[w.heap.size]? = some (.cells (pcs nm (.slice B1 0 d1) (.slice A2 I.length c2) (.slice A3 Dm.length c3) (.slice A4 0 c4) (.slice A5 0 c5)) 35 (0, 0))) := ⟨by rw [hw3]; exact blk_put HP2.out 1 _ rfl⟩
  have HR3 : Aside0 (w3.heap[w.heap.size + 1]? = some (.cells (pcs ⟨#[]⟩ (.slice none 0 0) (.slice none 0 0) (.slice none 0 0) (.slice none 0 0) (.slice none 0 0)) 35 (0, 0))) := ⟨by rw [hw3]; exact blk_far (p := ⟨w.heap.size, 1, none⟩) HR2.out (by simp) _⟩
  have r1 : (w2.setCell ⟨w.heap.size, 1, none⟩ (.slice B1 0 d1)).cell? ⟨w.heap.size, 1, none⟩ = some (.slice B1 0 d1) := by rw [← hw3]; exact (p_cells HP3.out).2.1
  go_wp2_with fail
  rw [← hw3]
  clear hw3 p0 p1 p2 p3 p4 p5 f1 r1
  go_loopg [21] 0 (fun gk v21 w' => v21 = .int .i64 0 ∧ w' = w3)
  case atStart => exact ⟨rfl, rfl⟩
  case round =>
    obtain ⟨rfl, hwk⟩ := hrel
    subst hwk
    obtain ⟨w4, hw4⟩ : ∃ W, W = wr := ⟨_, rfl⟩
    have HB4 : Aside0 (Below w.heap.size w w4) := ⟨by rw [hw4]; exact HB3.out⟩
    have HP4 : Aside0 (w4.heap[w.heap.size]? = some (.cells (pcs nm (.slice B1 0 d1) (.slice A2 I.length c2) (.slice A3 Dm.length c3) (.slice A4 0 c4) (.slice A5 0 c5)) 35 (0, 0))) := ⟨by rw [hw4]; exact HP3.out⟩
    have HR4 : Aside0 (w4.heap[w.heap.size + 1]? = some (.cells (pcs ⟨#[]⟩ (.slice none 0 0) (.slice none 0 0) (.slice none 0 0) (.slice none 0 0) (.slice none 0 0)) 35 (0, 0))) := ⟨by rw [hw4]; exact HR3.out⟩
    rw [← hw4]
    clear hw4 HB3 HP3 HR3
    obtain ⟨p0, p1, p2, p3, p4, p5⟩ := p_cells HP4.out
    go_wp2_with fail
    clear p0 p1 p2 p3 p4 p5
    refine (clone105 A2 c2 I w4 (Kd.C_below HI.out HB4.out) hI2 hI3).mono ?_
    rintro e w5 ⟨v2, rfl, hn2, hb⟩
    have hlt := blk_lt HR4.out
    obtain ⟨B2, d2, hv2⟩ := Kd.N_slice hn2
    subst hv2
    have HB5 := Aside0.mk (below_step HB4.out hb)
    have HP5 := Aside0.mk (blk_below HP4.out hb)
    have HR5 := Aside0.mk (blk_below HR4.out hb)
    have HNI := Aside0.mk (show Kd.N k105 105 w5 w.heap.size (fun k => w.heap.size + 1 < k) (.slice B2 I.length d2) I from Kd.N_lower (N_fix (fun _ _ _ _ h => h) hn2 hlt) (by omega))
    clear hb HB4 HP4 HR4
    obtain ⟨p0, p1, p2, p3, p4, p5⟩ := p_cells HP5.out
    have f1 := blk_frozen HP5.out 2
    obtain ⟨w6, hw6⟩ : ∃ W, W = w5.setCell ⟨w.heap.size, 2, none⟩ (.slice B2 I.length d2) := ⟨_, rfl⟩
    have HB6 : Aside0 (Below w.heap.size w w6) := ⟨by rw [hw6]; exact below_set HB5.out (Nat.le_refl _)⟩
    have HP6 : Aside0 (w6.heap[w.heap.size]? = some (.cells (pcs nm (.slice B1 0 d1) (.slice B2 I.length d2) (.slice A3 Dm.length c3) (.slice A4 0 c4) (.slice A5 0 c5)) 35 (0, 0))) := ⟨by rw [hw6]; exact blk_put HP5.out 2 _ rfl⟩
    have HR6 : Aside0 (w6.heap[w.heap.size + 1]? = some (.cells (pcs ⟨#[]⟩ (.slice none 0 0) (.slice none 0 0) (.slice none 0 0) (.slice none 0 0) (.slice none 0 0)) 35 (0, 0))) := ⟨by rw [hw6]; exact blk_far (p := ⟨w.heap.size, 2, none⟩) HR5.out (by simp) _⟩
    have HNIc := Aside0.mk (show Kd.N k105 105 w6 w.heap.size (fun k => w.heap.size + 1 < k) (.slice B2 I.length d2) I from by rw [hw6]; exact Kd.N_far (p := ⟨w.heap.size, 2, none⟩) HNI.out (fun k hk => by have h : w.heap.size + 1 < k := hk; show k ≠ w.heap.size; omega) _)
    have r1 : (w5.setCell ⟨w.heap.size, 2, none⟩ (.slice B2 I.length d2)).cell? ⟨w.heap.size, 2, none⟩ = some (.slice B2 I.length d2) := by rw [← hw6]; exact (p_cells HP6.out).2.2.1
    go_wp2_with fail
    rw [← hw6]
    clear hw6 p0 p1 p2 p3 p4 p5 f1 r1 HB5 HP5 HR5
    refine (clone81 A3 c3 Dm w6 (Kd.C_below HD.out HB6.out) hD2 hD3).mono ?_
    rintro e w7 ⟨v2, rfl, hn2, hb⟩
    have hlt := blk_lt HR6.out
    obtain ⟨B3, d3, hv2⟩ := Kd.N_slice hn2
    subst hv2
    have HB7 := Aside0.mk (below_step HB6.out hb)
    have HP7 := Aside0.mk (blk_below HP6.out hb)
    have HR7 := Aside0.mk (blk_below HR6.out hb)
    have HNIcb := Aside0.mk (Kd.N_below HNIc.out hb)
    have HND := Aside0.mk (show Kd.N k81 81 w7 w.heap.size (fun k => w.heap.size + 1 < k) (.slice B3 Dm.length d3) Dm from Kd.N_lower (N_fix (fun _ _ _ _ h => h) hn2 hlt) (by omega))
    clear hb HB6 HP6 HR6
    obtain ⟨p0, p1, p2, p3, p4, p5⟩ := p_cells HP7.out
    have f1 := blk_frozen HP7.out 3
    obtain ⟨w8, hw8⟩ : ∃ W, W = w7.setCell ⟨w.heap.size, 3, none⟩ (.slice B3 Dm.length d3) := ⟨_, rfl⟩
    have HB8 : Aside0 (Below w.heap.size w w8) := ⟨by rw [hw8]; exact below_set HB7.out (Nat.le_refl _)⟩
    have HP8 : Aside0 (w8.heap[w.heap.size]? = some (.cells (pcs nm (.slice B1 0 d1) (.slice B2 I.length d2) (.slice B3 Dm.length d3) (.slice A4 0 c4) (.slice A5 0 c5)) 35 (0, 0))) := ⟨by rw [hw8]; exact blk_put HP7.out 3 _ rfl⟩
    have HR8 : Aside0 (w8.heap[w.heap.size + 1]? = some (.cells (pcs ⟨#[]⟩ (.slice none 0 0) (.slice none 0 0) (.slice none 0 0) (.slice none 0 0) (.slice none 0 0)) 35 (0, 0))) := ⟨by rw [hw8]; exact blk_far (p := ⟨w.heap.size, 3, none⟩) HR7.out (by simp) _⟩
    have HNIcbc := Aside0.mk (show Kd.N k105 105 w8 w.heap.size (fun k => w.heap.size + 1 < k) (.slice B2 I.length d2) I from by rw [hw8]; exact Kd.N_far (p := ⟨w.heap.size, 3, none⟩) HNIcb.out (fun k hk => by have h : w.heap.size + 1 < k := hk; show k ≠ w.heap.size; omega) _)
    have HNDc := Aside0.mk (show Kd.N k81 81 w8 w.heap.size (fun k => w.heap.size + 1 < k) (.slice B3 Dm.length d3) Dm from by rw [hw8]; exact Kd.N_far (p := ⟨w.heap.size, 3, none⟩) HND.out (fun k hk => by have h : w.heap.size + 1 < k := hk; show k ≠ w.heap.size; omega) _)
    have r1 : (w7.setCell ⟨w.heap.size, 3, none⟩ (.slice B3 Dm.length d3)).cell? ⟨w.heap.size, 3, none⟩ = some (.slice B3 Dm.length d3) := by rw [← hw8]; exact (p_cells HP8.out).2.2.2.1
    go_wp2_with fail
    rw [← hw8]
    clear hw8 p0 p1 p2 p3 p4 p5 f1 r1 HB7 HP7 HR7
    refine (clone158 A4 c4 w8).mono ?_
    rintro e w9 ⟨B4, d4, rfl, hb⟩
    have HB9 := Aside0.mk (below_step HB8.out hb)
    have HP9 := Aside0.mk (blk_below HP8.out hb)
    have HR9 := Aside0.mk (blk_below HR8.out hb)
    have HNIcbcb := Aside0.mk (Kd.N_below HNIcbc.out hb)
    have HNDcb := Aside0.mk (Kd.N_below HNDc.out hb)
    clear hb HB8 HP8 HR8
    obtain ⟨p0, p1, p2, p3, p4, p5⟩ := p_cells HP9.out
    have f1 := blk_frozen HP9.out 4
    obtain ⟨w10, hw10⟩ : ∃ W, W = w9.setCell ⟨w.heap.size, 4, none⟩ (.slice B4 0 d4) := ⟨_, rfl⟩
    have HB10 : Aside0 (Below w.heap.size w w10) := ⟨by rw [hw10]; exact below_set HB9.out (Nat.le_refl _)⟩
    have HP10 : Aside0 (w10.heap[w.heap.size]? = some (.cells (pcs nm (.slice B1 0 d1) (.slice B2 I.length d2) (.slice B3 Dm.length d3) (.slice B4 0 d4) (.slice A5 0 c5)) 35 (0, 0))) := ⟨by rw [hw10]; exact blk_put HP9.out 4 _ rfl⟩
    have HR10 : Aside0 (w10.heap[w.heap.size + 1]? = some (.cells (pcs ⟨#[]⟩ (.slice none 0 0) (.slice none 0 0) (.slice none 0 0) (.slice none 0 0) (.slice none 0 0)) 35 (0, 0))) := ⟨by rw [hw10]; exact blk_far (p := ⟨w.heap.size, 4, none⟩) HR9.out (by simp) _⟩
    have HNIcbcbc := Aside0.mk (show Kd.N k105 105 w10 w.heap.size (fun k => w.heap.size + 1 < k) (.slice B2 I.length d2) I from by rw [hw10]; exact Kd.N_far (p := ⟨w.heap.size, 4, none⟩) HNIcbcb.out (fun k hk => by have h : w.heap.size + 1 < k := hk; show k ≠ w.heap.size; omega) _)
    have HNDcbc := Aside0.mk (show Kd.N k81 81 w10 w.heap.size (fun k => w.heap.size + 1 < k) (.slice B3 Dm.length d3) Dm from by rw [hw10]; exact Kd.N_far (p := ⟨w.heap.size, 4, none⟩) HNDcb.out (fun k hk => by have h : w.heap.size + 1 < k := hk; show k ≠ w.heap.size; omega) _)
    have r1 : (w9.setCell ⟨w.heap.size, 4, none⟩ (.slice B4 0 d4)).cell? ⟨w.heap.size, 4, none⟩ = some (.slice B4 0 d4) := by rw [← hw10]; exact (p_cells HP10.out).2.2.2.2.1
    go_wp2_with fail
    rw [← hw10]
    clear hw10 p0 p1 p2 p3 p4 p5 f1 r1 HB9 HP9 HR9
    go_loopg [71] 0 (fun gk v71 w' => v71 = .int .i64 0 ∧ w' = w10)
    case atStart => exact ⟨rfl, rfl⟩
    case round =>
      obtain ⟨rfl, hwk⟩ := hrel
      subst hwk
      obtain ⟨w11, hw11⟩ : ∃ W, W = wr := ⟨_, rfl⟩
      have HB11 : Aside0 (Below w.heap.size w w11) := ⟨by rw [hw11]; exact HB10.out⟩
      have HP11 : Aside0 (w11.heap[w.heap.size]? = some (.cells (pcs nm (.slice B1 0 d1) (.slice B2 I.length d2) (.slice B3 Dm.length d3) (.slice B4 0 d4) (.slice A5 0 c5)) 35 (0, 0))) := ⟨by rw [hw11]; exact HP10.out⟩
      have HR11 : Aside0 (w11.heap[w.heap.size + 1]? = some (.cells (pcs ⟨#[]⟩ (.slice none 0 0) (.slice none 0 0) (.slice none 0 0) (.slice none 0 0) (.slice none 0 0)) 35 (0, 0))) := ⟨by rw [hw11]; exact HR10.out⟩
      have HNIcbcbcx := Aside0.mk (show Kd.N k105 105 w11 w.heap.size (fun k => w.heap.size + 1 < k) (.slice B2 I.length d2) I from by rw [hw11]; exact HNIcbcbc.out)
      have HNDcbcx := Aside0.mk (show Kd.N k81 81 w11 w.heap.size (fun k => w.heap.size + 1 < k) (.slice B3 Dm.length d3) Dm from by rw [hw11]; exact HNDcbc.out)
      rw [← hw11]
      clear hw11 HB10 HP10 HR10
      obtain ⟨p0, p1, p2, p3, p4, p5⟩ := p_cells HP11.out
      go_wp2_with fail
      clear p0 p1 p2 p3 p4 p5
      refine (clone165 A5 c5 w11).mono ?_
      rintro e w12 ⟨B5, d5, rfl, hb⟩
      have HB12 := Aside0.mk (below_step HB11.out hb)
      have HP12 := Aside0.mk (blk_below HP11.out hb)
      have HR12 := Aside0.mk (blk_below HR11.out hb)
      have HNIcbcbcxb := Aside0.mk (Kd.N_below HNIcbcbcx.out hb)
      have HNDcbcxb := Aside0.mk (Kd.N_below HNDcbcx.out hb)
      clear hb HB11 HP11 HR11
      obtain ⟨p0, p1, p2, p3, p4, p5⟩ := p_cells HP12.out
      have f1 := blk_frozen HP12.out 5
      obtain ⟨w13, hw13⟩ : ∃ W, W = w12.setCell ⟨w.heap.size, 5, none⟩ (.slice B5 0 d5) := ⟨_, rfl⟩
      have HB13 : Aside0 (Below w.heap.size w w13) := ⟨by rw [hw13]; exact below_set HB12.out (Nat.le_refl _)⟩
      have HP13 : Aside0 (w13.heap[w.heap.size]? = some (.cells (pcs nm (.slice B1 0 d1) (.slice B2 I.length d2) (.slice B3 Dm.length d3) (.slice B4 0 d4) (.slice B5 0 d5)) 35 (0, 0))) := ⟨by rw [hw13]; exact blk_put HP12.out 5 _ rfl⟩
      have HR13 : Aside0 (w13.heap[w.heap.size + 1]? = some (.cells (pcs ⟨#[]⟩ (.slice none 0 0) (.slice none 0 0) (.slice none 0 0) (.slice none 0 0) (.slice none 0 0)) 35 (0, 0))) := ⟨by rw [hw13]; exact blk_far (p := ⟨w.heap.size, 5, none⟩) HR12.out (by simp) _⟩
      have HNIcbcbcxbc := Aside0.mk (show Kd.N k105 105 w13 w.heap.size (fun k => w.heap.size + 1 < k) (.slice B2 I.length d2) I from by rw [hw13]; exact Kd.N_far (p := ⟨w.heap.size, 5, none⟩) HNIcbcbcxb.out (fun k hk => by have h : w.heap.size + 1 < k := hk; show k ≠ w.heap.size; omega) _)
      have HNDcbcxbc := Aside0.mk (show Kd.N k81 81 w13 w.heap.size (fun k => w.heap.size + 1 < k) (.slice B3 Dm.length d3) Dm from by rw [hw13]; exact Kd.N_far (p := ⟨w.heap.size, 5, none⟩) HNDcbcxb.out (fun k hk => by have h : w.heap.size + 1 < k := hk; show k ≠ w.heap.size; omega) _)
      have r1 : (w12.setCell ⟨w.heap.size, 5, none⟩ (.slice B5 0 d5)).cell? ⟨w.heap.size, 5, none⟩ = some (.slice B5 0 d5) := by rw [← hw13]; exact (p_cells HP13.out).2.2.2.2.2
      go_wp2_with fail
      rw [← hw13]
      clear hw13 p0 p1 p2 p3 p4 p5 f1 r1 HB12 HP12 HR12
      go_loopg [92] 0 (fun gk v92 w' => v92 = .int .i64 0 ∧ w' = w13)
      case atStart => exact ⟨rfl, rfl⟩
      case round =>
        obtain ⟨rfl, hwk⟩ := hrel
        subst hwk
        obtain ⟨w14, hw14⟩ : ∃ W, W = wr := ⟨_, rfl⟩
        have HB14 : Aside0 (Below w.heap.size w w14) := ⟨by rw [hw14]; exact HB13.out⟩
        have HP14 : Aside0 (w14.heap[w.heap.size]? = some (.cells (pcs nm (.slice B1 0 d1) (.slice B2 I.length d2) (.slice B3 Dm.length d3) (.slice B4 0 d4) (.slice B5 0 d5)) 35 (0, 0))) := ⟨by rw [hw14]; exact HP13.out⟩
        have HR14 : Aside0 (w14.heap[w.heap.size + 1]? = some (.cells (pcs ⟨#[]⟩ (.slice none 0 0) (.slice none 0 0) (.slice none 0 0) (.slice none 0 0) (.slice none 0 0)) 35 (0, 0))) := ⟨by rw [hw14]; exact HR13.out⟩
        have HNIcbcbcxbcx := Aside0.mk (show Kd.N k105 105 w14 w.heap.size (fun k => w.heap.size + 1 < k) (.slice B2 I.length d2) I from by rw [hw14]; exact HNIcbcbcxbc.out)
        have HNDcbcxbcx := Aside0.mk (show Kd.N k81 81 w14 w.heap.size (fun k => w.heap.size + 1 < k) (.slice B3 Dm.length d3) Dm from by rw [hw14]; exact HNDcbcxbc.out)
        rw [← hw14]
        clear hw14 HB13 HP13 HR13
        obtain ⟨p0, p1, p2, p3, p4, p5⟩ := p_cells HP14.out
        obtain ⟨z0, z1, z2, z3, z4, z5⟩ := p_cells HR14.out
        have g0 := blk_frozen HR14.out 0
        have g1 := blk_frozen HR14.out 1
        have g2 := blk_frozen HR14.out 2
        have g3 := blk_frozen HR14.out 3
        have g4 := blk_frozen HR14.out 4
        have g5 := blk_frozen HR14.out 5
        go_wp2_with fail
        clear p0 p1 p2 p3 p4 p5
        have h0 := blk_put HR14.out 0 (.string nm) rfl
        have h1 := blk_put h0 1 (.slice B1 0 d1) rfl
        have h2 := blk_put h1 2 (.slice B2 I.length d2) rfl
        have h3 := blk_put h2 3 (.slice B3 Dm.length d3) rfl
        have h4 := blk_put h3 4 (.slice B4 0 d4) rfl
        have h5 := blk_put h4 5 (.slice B5 0 d5) rfl
        have hbl : Below w.heap.size w _ := below_set (below_set (below_set (below_set (below_set (below_set HB14.out (j := 0) (v := (.string nm)) (Nat.le_succ _)) (j := 1) (v := (.slice B1 0 d1)) (Nat.le_succ _)) (j := 2) (v := (.slice B2 I.length d2)) (Nat.le_succ _)) (j := 3) (v := (.slice B3 Dm.length d3)) (Nat.le_succ _)) (j := 4) (v := (.slice B4 0 d4)) (Nat.le_succ _)) (j := 5) (v := (.slice B5 0 d5)) (Nat.le_succ _)
        have hfar : ∀ k, (w.heap.size + 1 < k) → k ≠ w.heap.size + 1 := fun k hk => by omega
        have HI9 := (Kd.N_far (p := ⟨w.heap.size + 1, 5, none⟩) (Kd.N_far (p := ⟨w.heap.size + 1, 4, none⟩) (Kd.N_far (p := ⟨w.heap.size + 1, 3, none⟩) (Kd.N_far (p := ⟨w.heap.size + 1, 2, none⟩) (Kd.N_far (p := ⟨w.heap.size + 1, 1, none⟩) (Kd.N_far (p := ⟨w.heap.size + 1, 0, none⟩) HNIcbcbcxbcx.out hfar (.string nm)) hfar (.slice B1 0 d1)) hfar (.slice B2 I.length d2)) hfar (.slice B3 Dm.length d3)) hfar (.slice B4 0 d4)) hfar (.slice B5 0 d5))
        have HD9 := (Kd.N_far (p := ⟨w.heap.size + 1, 5, none⟩) (Kd.N_far (p := ⟨w.heap.size + 1, 4, none⟩) (Kd.N_far (p := ⟨w.heap.size + 1, 3, none⟩) (Kd.N_far (p := ⟨w.heap.size + 1, 2, none⟩) (Kd.N_far (p := ⟨w.heap.size + 1, 1, none⟩) (Kd.N_far (p := ⟨w.heap.size + 1, 0, none⟩) HNDcbcxbcx.out hfar (.string nm)) hfar (.slice B1 0 d1)) hfar (.slice B2 I.length d2)) hfar (.slice B3 Dm.length d3)) hfar (.slice B4 0 d4)) hfar (.slice B5 0 d5))
        refine bodyPost_ret (results_cell_row rfl _ _ (w.heap.size + 1) 35 _ (0, 0) _ rfl h5 Try.underlying35 rfl (by kernel_rfl)) rfl ?_
        exact ⟨B1, B2, B4, B5, d1, d2, d4, d5, _, rfl, (Kd.N_reads' HI9).2.2, Kd.N_mono HD9 (fun _ _ => trivial), hbl⟩
end Go.Proofs.Ytbnmdlnpfikkcaa.PX
/- product: instances kept, dimensions overridden. -/
namespace Go.Proofs.Ytbnmdlnpfikkcaa.PX
open Go.RowKit Go.Proofs.YtbnmdlnpfikkcaaW.PrintWords Go.Proofs.YtbnmdlnpfikkcaaW.PrintLast Go.Proofs.YtbnmdlnpfikkcaaW.PrintMore
set_option linter.unusedVariables false
set_option linter.unusedSimpArgs false
/-- A guard bars instance i. -/
def barred (D : Fam) (c : Nat) (i : Nat) : Bool := D.guards.any fun g => g.f0 == (i : Int) && g.f1.any (nlit c)
def pinst (D : Fam) (c : Nat) : Nat → List S105
  | 0 => []
  | i + 1 => if barred D c i then pinst D c i else pinst D c i ++ [rd_T105 D.insts (i : Int)]
def pdim (D : Fam) (c : Nat) : Nat → List S81
  | 0 => D.dims
  | k + 1 => if (rd_T83 D.overs (k : Int)).f0.any (nlit c) then pdim D c k else (pdim D c k).set (rd_T83 D.overs (k : Int)).f1.toNat (rd_T83 D.overs (k : Int)).f2
theorem pinst_length (D : Fam) (c : Nat) : ∀ i, (pinst D c i).length ≤ i
  | 0 => Nat.le_refl _
  | i + 1 => by
    have := pinst_length D c i
    unfold pinst
    split
    · omega
    · simp; omega
theorem pdim_length (D : Fam) (c : Nat) : ∀ k, (pdim D c k).length = D.dims.length
  | 0 => rfl
  | k + 1 => by
    have := pdim_length D c k
    unfold pdim
    split
    · exact this
    · rw [List.length_set]; exact this
end Go.Proofs.Ytbnmdlnpfikkcaa.PX
/- product: the walk, begun (one sorry). -/
namespace Go.Proofs.Ytbnmdlnpfikkcaa.PX
open Go.RowKit Go.Proofs.YtbnmdlnpfikkcaaW.PrintWords Go.Proofs.YtbnmdlnpfikkcaaW.PrintLast Go.Proofs.YtbnmdlnpfikkcaaW.PrintMore
set_option linter.unusedVariables false
set_option linter.unusedSimpArgs false
/-- What product leaves. -/
def ProdPost (D : Fam) (c : Nat) (w : World) (e : Ending) (w' : World) : Prop := ∃ B1 B2 B4 B5 d1 d2 d4 d5 B3 d3, e = .returned (.agg #[.string D.nm, .slice B1 0 d1, .slice B2 (pinst D c D.insts.length).length d2, .slice B3 (pdim D c D.overs.length).length d3, .slice B4 0 d4, .slice B5 0 d5]) ∧ Kd.N k105 105 w' w.heap.size (fun _ => True) (.slice B2 (pinst D c D.insts.length).length d2) (pinst D c D.insts.length) ∧ Kd.N k81 81 w' w.heap.size (fun _ => True) (.slice B3 (pdim D c D.overs.length).length d3) (pdim D c D.overs.length) ∧ Below w.heap.size w w'
section
open Go.Proofs.YtbnmdlnpfikkcaaW.PrintWords.Kd
variable {P : Program} {ops : Array Oper} {rest : List Oper} {o : Oper} {a : Act} {Q : Exit → Act → World → Prop} {Kc : Act → World → Prop} {α : Type}
/-- append(v, x), behind 'at_builtin': x's cells are cs. -/
theorem N_append (d : Kd α) {w0 W : World} (base : Nat) (hgd : o.guard = none) (s x : Operand) (t e : TypeId) (z : Value) (bytes : Nat)
    (ho : o.op = .call { callee := .builtin .append, args := #[s, x], argTypes := #[t, t] })
    (ht : P.underlying t = some (.slice e)) (hinfo : (P.info? e).map (fun i => (i.zero, i.size, i.bytes)) = some (some z, d.sz, bytes)) (hz : z.cells.size = d.sz) (hs0 : 0 < d.sz) (hb0 : 0 < bytes)
    (v : Value) (xs : List α) (p : α) (cs : List Value) (ok okp : Nat → Prop) (hs : a.eval s = v) (hx : a.eval x = .slice (some ⟨W.heap.size, 0, none⟩) 1 1) (hp : FK d W okp p cs) (hokp : ∀ k, okp k → ok k ∧ some k ≠ v.ownBlock) (hfresh : ∀ k, W.heap.size ≤ k → ok k)
    (HO : N d e W base ok v xs) (HB : Below base w0 W) (hbase : base ≤ W.heap.size) (hl : (xs.length + 1) * bytes ≤ 140737488355328)
    (h : ∀ v1 w1, N d e w1 base ok v1 (xs ++ [p]) → Below base w0 w1 → W.grownBy w1 v.ownBlock → (v1.ownBlock = v.ownBlock ∨ ∃ b, v1.ownBlock = some b ∧ W.heap.size ≤ b) → wpList P ops Q rest (a.put o.dst v1) w1) :
    wpList P ops Q (o :: rest) a (W.alloc (.cells cs.toArray e)) := by
  obtain ⟨h0, rows, hlr, hR, hf⟩ := HO
  refine R_append (raw d.sz) base hgd s x t e z bytes ho ht hinfo hz hs0 hb0 v rows cs cs (fun _ => True) (fun _ => False) hs hx (FK_raw hp) (fun _ hk => hk.elim) (fun _ _ => trivial) (raw_any hR) HB hbase (by rw [hlr]; exact hl) ?_
  intro v1 w1 hr hb hg hat
  exact h v1 w1 (N_appended h0 hlr hf (ys := [p]) (news := [cs]) rfl (fun j y c hy hc => by
    rcases j with _ | j
    · simp only [List.getElem?_cons_zero, Option.some.injEq] at hy hc
      rw [← hy, ← hc]; exact hp
    · simp at hy) hokp hfresh hr hg hat) hb hg hat
end
theorem x_cells {w : World} {g : Nat} {x : S105} (h : w.heap[g]? = some (.cells #[.string x.f0, .string x.f1, .int .i64 x.f2.f0.f0, .int .i64 x.f2.f0.f1, .int .i64 x.f2.f0.f2, .int .i64 x.f2.f0.f3, .string x.f2.f1.f0, .string x.f2.f1.f1, .string x.f2.f1.f2] 105 (0, 0))) :
    w.cell? ⟨g, 0, none⟩ = some (.string x.f0) ∧ w.cell? ⟨g, 1, none⟩ = some (.string x.f1) ∧ w.cell? ⟨g, 2, none⟩ = some (.int .i64 x.f2.f0.f0) ∧ w.cell? ⟨g, 3, none⟩ = some (.int .i64 x.f2.f0.f1) ∧ w.cell? ⟨g, 4, none⟩ = some (.int .i64 x.f2.f0.f2) ∧ w.cell? ⟨g, 5, none⟩ = some (.int .i64 x.f2.f0.f3) ∧ w.cell? ⟨g, 6, none⟩ = some (.string x.f2.f1.f0) ∧ w.cell? ⟨g, 7, none⟩ = some (.string x.f2.f1.f1) ∧ w.cell? ⟨g, 8, none⟩ = some (.string x.f2.f1.f2) :=
  ⟨(blk_cell h 0).trans rfl, (blk_cell h 1).trans rfl, (blk_cell h 2).trans rfl, (blk_cell h 3).trans rfl, (blk_cell h 4).trans rfl, (blk_cell h 5).trans rfl, (blk_cell h 6).trans rfl, (blk_cell h 7).trans rfl, (blk_cell h 8).trans rfl⟩
theorem k105_K (w : World) (x : S105) : k105.K w x [.string x.f0, .string x.f1, .int .i64 x.f2.f0.f0, .int .i64 x.f2.f0.f1, .int .i64 x.f2.f0.f2, .int .i64 x.f2.f0.f3, .string x.f2.f1.f0, .string x.f2.f1.f1, .string x.f2.f1.f2] := k105.K_of_M (k105_mkM w 0 (fun _ => True) x)
set_option maxHeartbeats 2000000 in
set_option maxRecDepth 100000 in
theorem prod_calls (D : Fam) (H : Hd) (c : Nat) (w : World) (HF : FamAt w D H) (hc : c < 4096) (h1 : D.parts = []) (h4 : D.cons = []) (h5 : D.reqs = []) (hi : D.insts.length ≤ 100) (hd : D.dims.length ≤ 100) (hon : D.overs.length ≤ 100) (hg : ∀ g ∈ D.guards, LitsOk g.f1) (hov : ∀ j : Nat, j < D.overs.length → LitsOk (rd_T83 D.overs (j : Int)).f0 ∧ 0 ≤ (rd_T83 D.overs (j : Int)).f1 ∧ (rd_T83 D.overs (j : Int)).f1 < (D.dims.length : Int)) :
    Calls Try.prog 60 #[fv D H, .int .u64 (c : Int)] w (ProdPost D c w) := by
  have hu41 := Try.underlying41
  have hu35 := Try.underlying35
  have hu83 := Try.underlying83
  have HOV := Aside0.mk hov
  clear hov
  unfold fv
  rw [h1, h4, h5]
  have HFA := Aside0.mk HF
  have HGO := Aside0.mk hg
  obtain ⟨w1, hw1⟩ : ∃ w1, w1 = ((w.alloc (.cells (fcells D H) 41)).alloc (.cells #[.int .u64 (c : Int)] 109)).alloc (.cells (pcs ⟨#[]⟩ (.slice none 0 0) (.slice none 0 0) (.slice none 0 0) (.slice none 0 0) (.slice none 0 0)) 35) := ⟨_, rfl⟩
  have e1 : (w.alloc (.cells (fcells D H) 41)).heap.size = w.heap.size + 1 := by simp
  have e2 : ((w.alloc (.cells (fcells D H) 41)).alloc (.cells #[.int .u64 (c : Int)] 109)).heap.size = w.heap.size + 2 := by simp
  have HB1 : Aside0 (Below w.heap.size w w1) := ⟨by rw [hw1]; exact below_alloc (below_alloc (below_alloc (Below.refl _ _) _) _) _⟩
  have HF1 : Aside0 (w1.heap[w.heap.size]? = some (.cells (fcells D H) 41 (0, 0))) := ⟨by rw [hw1]; exact blk_alloc (blk_alloc (heap_alloc_new w _) _) _⟩
  have HC1 : Aside0 (w1.heap[w.heap.size + 1]? = some (.cells #[.int .u64 (c : Int)] 109 (0, 0))) := ⟨by
    have h := heap_alloc_new (w.alloc (.cells (fcells D H) 41)) (.cells #[.int .u64 (c : Int)] 109)
    rw [e1] at h
    rw [hw1]; exact blk_alloc h _⟩
  have HR1 : Aside0 (w1.heap[w.heap.size + 2]? = some (.cells (pcs ⟨#[]⟩ (.slice none 0 0) (.slice none 0 0) (.slice none 0 0) (.slice none 0 0) (.slice none 0 0)) 35 (0, 0))) := ⟨by
    have h := heap_alloc_new ((w.alloc (.cells (fcells D H) 41)).alloc (.cells #[.int .u64 (c : Int)] 109)) (.cells (pcs ⟨#[]⟩ (.slice none 0 0) (.slice none 0 0) (.slice none 0 0) (.slice none 0 0) (.slice none 0 0)) 35)
    rw [e2] at h
    rw [hw1]; exact h⟩
  clear e1 e2 HF hg
  have HH1 := Aside0.mk h1
  have HH4 := Aside0.mk h4
  have HH5 := Aside0.mk h5
  unfold pcs fcells at hw1
  rw [h1, h4, h5] at hw1
  clear h1 h4 h5
  go_enter Try.func60, Try.ntmps60
  go_wp2_with fail
  rw [show ([] : List S129).length = 0 from rfl, show ([] : List S158).length = 0 from rfl, show ([] : List S165).length = 0 from rfl] at hw1
  rw [← hw1]
  clear hw1
  refine (cloneP_calls D.nm H.A1 H.A2 H.A3 H.A4 H.A5 H.c1 H.c2 H.c3 H.c4 H.c5 D.insts D.dims w1 (Kd.C_below HFA.out.r2 HB1.out) HFA.out.l2 hi (Kd.C_below HFA.out.r3 HB1.out) HFA.out.l3 hd).mono ?_
  rintro e w2 ⟨B1, B2, B4, B5, d1, d2, d4, d5, v3, rfl, hI, hN, hb⟩
  have HB2 := Aside0.mk (below_step HB1.out hb)
  have HF2 := Aside0.mk (blk_below HF1.out hb)
  have HC2 := Aside0.mk (blk_below HC1.out hb)
  have HR2 := Aside0.mk (blk_below HR1.out hb)
  obtain ⟨B3, d3, hv3⟩ := Kd.N_slice hN
  subst hv3
  have hlt := blk_lt HR2.out
  have HN2 := Aside0.mk (Kd.N_lower (N_fix (fun _ _ _ _ h => h) hN (blk_lt HR1.out)) (show w.heap.size ≤ w1.heap.size by have := HB1.out.size; omega))
  clear hb hN HB1 HF1 HC1 HR1 hI
  have HLW := Aside0.mk hlt
  clear hlt
  have CG := Lib.hid (fun (Bi i : Nat) (W : World) (hW : Below w.heap.size w W) (h1 : W.cell? ⟨Bi, 0, none⟩ = some (.int .i64 (i : Int))) (h2 : W.cell? ⟨w.heap.size + 1, 0, none⟩ = some (.int .u64 (c : Int))) => barred_calls Bi (w.heap.size + 1) (i : Int) c H.A8 H.c8 D.guards W (by omega) h1 h2 (Kd.C_below HFA.out.r8 hW) HFA.out.l8 HGO.out)
  go_upto_region 3 with (fail)
  obtain ⟨w3, hw3⟩ : ∃ W, W = w2.alloc (.cells #[.string D.nm, .slice B1 0 d1, .slice none 0 0, .slice B3 D.dims.length d3, .slice B4 0 d4, .slice B5 0 d5] 35) := ⟨_, rfl⟩
  have HB3 : Aside0 (Below w.heap.size w w3) := ⟨by rw [hw3]; exact below_alloc HB2.out _⟩
  have HF3 : Aside0 (w3.heap[w.heap.size]? = some (.cells (fcells D H) 41 (0, 0))) := ⟨by rw [hw3]; exact blk_alloc HF2.out _⟩
  have HC3 : Aside0 (w3.heap[w.heap.size + 1]? = some (.cells #[.int .u64 (c : Int)] 109 (0, 0))) := ⟨by rw [hw3]; exact blk_alloc HC2.out _⟩
  have HR3 : Aside0 (w3.heap[w.heap.size + 2]? = some (.cells (pcs ⟨#[]⟩ (.slice none 0 0) (.slice none 0 0) (.slice none 0 0) (.slice none 0 0) (.slice none 0 0)) 35 (0, 0))) := ⟨by rw [hw3]; exact blk_alloc HR2.out _⟩
  have HP3 : Aside0 (w3.heap[w2.heap.size]? = some (.cells (pcs D.nm (.slice B1 0 d1) (.slice none 0 0) (.slice B3 D.dims.length d3) (.slice B4 0 d4) (.slice B5 0 d5)) 35 (0, 0))) := ⟨by rw [hw3]; exact heap_alloc_new w2 _⟩
  have HN3 : Aside0 (Kd.N k81 81 w3 w.heap.size (fun k => w.heap.size + 2 < k ∧ k < w2.heap.size) (.slice B3 D.dims.length d3) D.dims) := ⟨by rw [hw3]; exact Kd.N_below (Kd.N_bound HN2.out) (below_alloc (Below.refl _ _) _)⟩
  rw [← hw3]
  clear hw3 HB2 HF2 HC2 HR2 HN2
  obtain ⟨k0, k1, k2, k3, k4, k5, k6, k7, k8, k9⟩ := box_cells HF3.out
  go_wp2_with fail
  clear k0 k1 k2 k3 k4 k5 k6 k7 k8 k9
  go_loopg [20] D.insts.length (fun gk v20 w' => ∃ (i : Nat) (u : Value), v20 = .int .i64 (i : Int) ∧ Aside0 (i ≤ D.insts.length) ∧ Aside0 (D.insts.length - i ≤ gk) ∧ Aside0 (Below w.heap.size w w') ∧ Aside0 (w'.heap[w.heap.size]? = some (.cells (fcells D H) 41 (0, 0))) ∧ Aside0 (w'.heap[w.heap.size + 1]? = some (.cells #[.int .u64 (c : Int)] 109 (0, 0))) ∧ Aside0 (w'.heap[w.heap.size + 2]? = some (.cells (pcs ⟨#[]⟩ (.slice none 0 0) (.slice none 0 0) (.slice none 0 0) (.slice none 0 0) (.slice none 0 0)) 35 (0, 0))) ∧ Aside0 (w'.heap[w2.heap.size]? = some (.cells (pcs D.nm (.slice B1 0 d1) u (.slice B3 D.dims.length d3) (.slice B4 0 d4) (.slice B5 0 d5)) 35 (0, 0))) ∧ Aside0 (Kd.N k105 105 w' w.heap.size (fun k => w2.heap.size < k) u (pinst D c i)) ∧ Aside0 (Kd.N k81 81 w' w.heap.size (fun k => w.heap.size + 2 < k ∧ k < w2.heap.size) (.slice B3 D.dims.length d3) (D.dims)))
  case atStart => exact ⟨0, .slice none 0 0, rfl, ⟨Nat.zero_le _⟩, ⟨Nat.sub_le _ _⟩, HB3, HF3, HC3, HR3, HP3, ⟨Kd.N_nil _ _ _ _ _⟩, HN3⟩
  case round =>
    clear HB3 HF3 HC3 HR3 HP3 HN3
    obtain ⟨i, u, rfl, HI, HG, HB, HF, HC, HR, HP, HN, HD⟩ := hrel
    by_cases hi : i < D.insts.length
    · have q0 : decide ((i : Int) < (D.insts.length : Int)) = true := by simpa using hi
      have q1 : decide (i < D.insts.length) = true := by simpa using hi
      have p0 : 0 ≤ (i : Int) := by omega
      have p1 : (i : Int) < (D.insts.length : Int) := by omega
      obtain ⟨ad, hA, hx0, hx1, hx2, hx3, hx4, hx5, hx6, hx7, hx8⟩ := at_T105 (Kd.C_below HFA.out.r2 HB.out) (i : Int) p0 p1
      rw [Int.toNat_natCast] at hx0 hx1 hx2 hx3 hx4 hx5 hx6 hx7 hx8
      obtain ⟨x, hx⟩ : ∃ x, x = rd_T105 D.insts (i : Int) := ⟨_, rfl⟩
      rw [← hx] at hx0 hx1 hx2 hx3 hx4 hx5 hx6 hx7 hx8
      have HX := Aside0.mk hx
      clear hx
      go_upto_region 6 with (fail)
      have HAA := Aside0.mk hA
      clear hA hx0 hx1 hx2 hx3 hx4 hx5 hx6 hx7 hx8
      obtain ⟨w4, hw4⟩ : ∃ W, W = (wr.alloc (.cells #[.int .i64 (i : Int)] 3)).alloc (.cells #[.string x.f0, .string x.f1, .int .i64 x.f2.f0.f0, .int .i64 x.f2.f0.f1, .int .i64 x.f2.f0.f2, .int .i64 x.f2.f0.f3, .string x.f2.f1.f0, .string x.f2.f1.f1, .string x.f2.f1.f2] 105) := ⟨_, rfl⟩
      have e1 : (wr.alloc (.cells #[.int .i64 (i : Int)] 3)).heap.size = wr.heap.size + 1 := by simp
      have hb4 : Below wr.heap.size wr w4 := by rw [hw4]; exact below_alloc (below_alloc (Below.refl _ _) _) _
      have HI4 : Aside0 (w4.heap[wr.heap.size]? = some (.cells #[.int .i64 (i : Int)] 3 (0, 0))) := ⟨by rw [hw4]; exact blk_alloc (heap_alloc_new wr _) _⟩
      have HX4 : Aside0 (w4.heap[wr.heap.size + 1]? = some (.cells #[.string x.f0, .string x.f1, .int .i64 x.f2.f0.f0, .int .i64 x.f2.f0.f1, .int .i64 x.f2.f0.f2, .int .i64 x.f2.f0.f3, .string x.f2.f1.f0, .string x.f2.f1.f1, .string x.f2.f1.f2] 105 (0, 0))) := ⟨by
        have h := heap_alloc_new (wr.alloc (.cells #[.int .i64 (i : Int)] 3)) (.cells #[.string x.f0, .string x.f1, .int .i64 x.f2.f0.f0, .int .i64 x.f2.f0.f1, .int .i64 x.f2.f0.f2, .int .i64 x.f2.f0.f3, .string x.f2.f1.f0, .string x.f2.f1.f1, .string x.f2.f1.f2] 105)
        rw [e1] at h
        rw [hw4]; exact h⟩
      have HLT : Aside0 (w2.heap.size < wr.heap.size) := ⟨blk_lt HP.out⟩
      rw [← hw4]
      have HB4 := Aside0.mk (below_step HB.out hb4)
      have HF4 := Aside0.mk (blk_below HF.out hb4)
      have HC4 := Aside0.mk (blk_below HC.out hb4)
      have HR4 := Aside0.mk (blk_below HR.out hb4)
      have HP4 := Aside0.mk (blk_below HP.out hb4)
      have HN4 := Aside0.mk (Kd.N_below (Kd.N_bound HN.out) hb4)
      have HD4 := Aside0.mk (Kd.N_below HD.out hb4)
      clear HB HF HC HR HP HN HD
      clear hb4 hw4 e1
      have CG4 := Lib.hid (CG.out wr.heap.size i w4 HB4.out ((blk_cell HI4.out 0).trans rfl) ((blk_cell HC4.out 0).trans rfl))
      obtain ⟨k0, k1, k2, k3, k4, k5, k6, k7, k8, k9⟩ := box_cells HF4.out
      go_wp2_with fail
      clear k0 k1 k2 k3 k4 k5 k6 k7 k8 k9
      refine CG4.out.mono ?_
      rintro e w5 ⟨rfl, hb⟩
      rw [show (D.guards.any fun g => g.f0 == (i : Int) && g.f1.any (nlit c)) = barred D c i from rfl]
      have HX5 := Aside0.mk (blk_below HX4.out hb)
      have HB5 := Aside0.mk (below_step HB4.out hb)
      have HF5 := Aside0.mk (blk_below HF4.out hb)
      have HC5 := Aside0.mk (blk_below HC4.out hb)
      have HR5 := Aside0.mk (blk_below HR4.out hb)
      have HP5 := Aside0.mk (blk_below HP4.out hb)
      have HN5 := Aside0.mk (Kd.N_below (Kd.N_bound HN4.out) hb)
      have HD5 := Aside0.mk (Kd.N_below HD4.out hb)
      clear HB4 HF4 HC4 HR4 HP4 HN4 HD4
      clear hb HI4 HX4 CG4
      cases hbd : barred D c i with
      | true =>
        have HY : Aside0 (pinst D c (i + 1) = pinst D c i) := ⟨by simp only [pinst]; rw [if_pos hbd]⟩
        clear hbd
        go_wp2_with fail
        go_roundg (D.insts.length - (i + 1))
        case measure => have := HG.out; omega
        case rel => exact ⟨i + 1, u, by go_num, ⟨hi⟩, ⟨Nat.le_refl _⟩, HB5, HF5, HC5, HR5, HP5, ⟨by rw [HY.out]; exact Kd.N_mono HN5.out (fun _ h => h.1.1)⟩, HD5⟩
      | false =>
        have HY : Aside0 (pinst D c (i + 1) = pinst D c i ++ [x]) := ⟨by simp only [pinst]; rw [if_neg (by rw [hbd]; decide), HX.out]⟩
        have hun := pinst_length D c i
        obtain ⟨L, hL⟩ : ∃ L, L = pinst D c i := ⟨_, rfl⟩
        rw [← hL] at HY HN5 hun
        clear hL
        clear hbd
        obtain ⟨p0, p1, p2, p3, p4, p5⟩ := p_cells HP5.out
        obtain ⟨hx0, hx1, hx2, hx3, hx4, hx5, hx6, hx7, hx8⟩ := x_cells HX5.out
        have HM5 := Aside0.mk (show Kd.N k105 105 w5 w.heap.size (fun k => w2.heap.size < k) u L from Kd.N_mono HN5.out (fun _ h => h.1.1))
        clear HN5
        obtain ⟨M, hM⟩ : ∃ M, M = L ++ [x] := ⟨_, rfl⟩
        rw [← hM] at HY
        have HM := Aside0.mk hM
        clear hM
        have hfr := blk_frozen HP5.out 2
        go_wp2_with ((with_reducible refine gate_builtin (b := .append) rfl ?_); at_builtin; refine N_append k105 (w0 := w) w.heap.size rfl (.tmp 32) (.tmp 34) 28 105 (.agg #[(.string ⟨#[]⟩), (.string ⟨#[]⟩), (.int .i64 0), (.int .i64 0), (.int .i64 0), (.int .i64 0), (.string ⟨#[]⟩), (.string ⟨#[]⟩), (.string ⟨#[]⟩)]) 112 rfl Try.underlying28 info105 rfl (by decide) (by decide) u L x [.string x.f0, .string x.f1, .int .i64 x.f2.f0.f0, .int .i64 x.f2.f0.f1, .int .i64 x.f2.f0.f2, .int .i64 x.f2.f0.f3, .string x.f2.f1.f0, .string x.f2.f1.f1, .string x.f2.f1.f2] (fun k => w2.heap.size < k) (fun _ => False) rfl rfl ?aP (fun _ hk => hk.elim) ?aF HM5.out HB5.out HB5.out.size ?aL ?_; (case aP => exact fun W' _ => k105_K W' x); (case aF => exact fun k hk => Nat.lt_of_lt_of_le (blk_lt HP5.out) hk); (case aL => omega); intro v1 w7 ho hb hg hat; rw [← HM.out] at ho; obtain ⟨A7, c7, hv7⟩ := Kd.N_slice ho; subst hv7; have hP7 := (hg.block _ (blk_lt HP5.out) (fun he => absurd rfl (Nat.ne_of_gt (HM5.out.1 _ he.symm)))).trans HP5.out; have q2 := (p_cells hP7).2.2.1; have f2 := blk_frozen hP7 2; have H7 := Aside0.mk (And.intro ho (And.intro hb (And.intro hg hP7))); clear ho hb hg hat hP7)
        obtain ⟨ho, hb, hg, hP7⟩ := H7.out
        have hne : ∀ k, k ≤ w2.heap.size → some k ≠ u.ownBlock := fun k hk he => by have h : w2.heap.size < k := HM5.out.1 _ he.symm; omega
        have hlw := HLW.out
        have hl5 := blk_lt HP5.out
        go_roundg (D.insts.length - (i + 1))
        case measure => have := HG.out; omega
        case rel => exact ⟨i + 1, .slice A7 M.length c7, by go_num, ⟨hi⟩, ⟨Nat.le_refl _⟩, ⟨below_set hb (by omega)⟩, ⟨blk_far (p := ⟨w2.heap.size, 2, none⟩) ((hg.block _ (by omega) (hne _ (by omega))).trans HF5.out) (by show _ ≠ w2.heap.size; omega) _⟩, ⟨blk_far (p := ⟨w2.heap.size, 2, none⟩) ((hg.block _ (by omega) (hne _ (by omega))).trans HC5.out) (by show _ ≠ w2.heap.size; omega) _⟩, ⟨blk_far (p := ⟨w2.heap.size, 2, none⟩) ((hg.block _ (by omega) (hne _ (by omega))).trans HR5.out) (by show _ ≠ w2.heap.size; omega) _⟩, ⟨blk_put hP7 2 _ rfl⟩, ⟨by rw [HY.out]; exact Kd.N_far (p := ⟨w2.heap.size, 2, none⟩) ho (fun k hk => Nat.ne_of_gt hk) _⟩, ⟨Kd.N_far (p := ⟨w2.heap.size, 2, none⟩) (Kd.N_step HD5.out (fun k hk hlt => hg.block k hlt (hne k (Nat.le_of_lt hk.2)))) (fun k hk => Nat.ne_of_lt hk.2) _⟩⟩
    · have q0 : decide ((i : Int) < (D.insts.length : Int)) = false := by simpa using hi
      have q1 : decide (i < D.insts.length) = false := by simpa using hi
      have hin : i = D.insts.length := by have := HI.out; omega
      rw [hin] at HN
      obtain ⟨k0, k1, k2, k3, k4, k5, k6, k7, k8, k9⟩ := box_cells HF.out
      go_wp2_with fail
      clear k0 k1 k2 k3 k4 k5 k6 k7 k8 k9 hin q0 q1 hi
      clear HI HG
      go_loopg [42] D.overs.length (fun gk v42 w' => ∃ j : Nat, v42 = .int .i64 (j : Int) ∧ Aside0 (j ≤ D.overs.length) ∧ Aside0 (D.overs.length - j ≤ gk) ∧ Aside0 (Below w.heap.size w w') ∧ Aside0 (w'.heap[w.heap.size]? = some (.cells (fcells D H) 41 (0, 0))) ∧ Aside0 (w'.heap[w.heap.size + 1]? = some (.cells #[.int .u64 (c : Int)] 109 (0, 0))) ∧ Aside0 (w'.heap[w.heap.size + 2]? = some (.cells (pcs ⟨#[]⟩ (.slice none 0 0) (.slice none 0 0) (.slice none 0 0) (.slice none 0 0) (.slice none 0 0)) 35 (0, 0))) ∧ Aside0 (w'.heap[w2.heap.size]? = some (.cells (pcs D.nm (.slice B1 0 d1) u (.slice B3 D.dims.length d3) (.slice B4 0 d4) (.slice B5 0 d5)) 35 (0, 0))) ∧ Aside0 (Kd.N k105 105 w' w.heap.size (fun k => w2.heap.size < k) u (pinst D c D.insts.length)) ∧ Aside0 (Kd.N k81 81 w' w.heap.size (fun k => w.heap.size + 2 < k ∧ k < w2.heap.size) (.slice B3 D.dims.length d3) (pdim D c j)))
      case atStart => exact ⟨0, rfl, ⟨Nat.zero_le _⟩, ⟨Nat.sub_le _ _⟩, HB, HF, HC, HR, HP, HN, HD⟩
      case round =>
        clear HB HF HC HR HP HN HD
        obtain ⟨j, rfl, HI, HG, HB, HF, HC, HR, HP, HN, HD⟩ := hrel
        by_cases hj : j < D.overs.length
        · have q0 : decide ((j : Int) < (D.overs.length : Int)) = true := by simpa using hj
          have q1 : decide (j < D.overs.length) = true := by simpa using hj
          have p0 : 0 ≤ (j : Int) := by omega
          have p1 : (j : Int) < (D.overs.length : Int) := by omega
          obtain ⟨ad, A0, c0, hA, hx0, hx1, hx2, hx3, hx4, hx5, hl0, hC0⟩ := at_T83 (Kd.C_below HFA.out.r9 HB.out) (j : Int) p0 p1
          rw [Int.toNat_natCast] at hx0 hx1 hx2 hx3 hx4 hx5
          obtain ⟨hlok, hf0, hf1⟩ := HOV.out j hj
          have hdl := pdim_length D c j
          have HY : Aside0 (pdim D c (j + 1) = if (rd_T83 D.overs (j : Int)).f0.any (nlit c) then pdim D c j else (pdim D c j).set (rd_T83 D.overs (j : Int)).f1.toNat (rd_T83 D.overs (j : Int)).f2) := ⟨rfl⟩
          obtain ⟨o, ho⟩ : ∃ o, o = rd_T83 D.overs (j : Int) := ⟨_, rfl⟩
          rw [← ho] at hx0 hx1 hx2 hx3 hx4 hx5 hl0 hC0 hlok hf0 hf1 HY
          have HOO := Aside0.mk ho
          clear ho
          obtain ⟨L, hL⟩ : ∃ L, L = pdim D c j := ⟨_, rfl⟩
          rw [← hL] at HY HD hdl
          clear hL
          have CH := Lib.hid (fun W (hW : Below wr.heap.size wr W) => holds_calls c A0 c0 o.f0 W (by omega) (Kd.C_below hC0 hW) hl0 hlok)
          clear hC0 hl0 hlok
          go_upto_region 12 with (fail)
          have HAA := Aside0.mk hA
          clear hA hx0 hx1 hx2 hx3 hx4 hx5
          obtain ⟨w4, hw4⟩ : ∃ W, W = wr.alloc (.cells #[.slice A0 o.f0.length c0, .int .i64 o.f1, .string o.f2.f0, .int .i64 o.f2.f1, .int .i64 o.f2.f2, .int .i64 o.f2.f3] 83) := ⟨_, rfl⟩
          have hb4 : Below wr.heap.size wr w4 := by rw [hw4]; exact below_alloc (Below.refl _ _) _
          have HX4 : Aside0 (w4.heap[wr.heap.size]? = some (.cells #[.slice A0 o.f0.length c0, .int .i64 o.f1, .string o.f2.f0, .int .i64 o.f2.f1, .int .i64 o.f2.f2, .int .i64 o.f2.f3] 83 (0, 0))) := ⟨by rw [hw4]; exact heap_alloc_new wr _⟩
          rw [← hw4]
          have CH4 := Lib.hid (CH.out w4 hb4)
          have HB4 := Aside0.mk (below_step HB.out hb4)
          have HF4 := Aside0.mk (blk_below HF.out hb4)
          have HC4 := Aside0.mk (blk_below HC.out hb4)
          have HR4 := Aside0.mk (blk_below HR.out hb4)
          have HP4 := Aside0.mk (blk_below HP.out hb4)
          have HN4 := Aside0.mk (Kd.N_below (Kd.N_bound HN.out) hb4)
          have HD4 := Aside0.mk (Kd.N_below HD.out hb4)
          clear HB HF HC HR HP HN HD
          clear hb4 hw4
          have c0_ := (blk_cell HC4.out 0).trans rfl
          have x0_ := (blk_cell HX4.out 0).trans rfl
          go_wp2_with fail
          clear c0_ x0_
          refine CH4.out.mono ?_
          rintro e w5 ⟨rfl, hb⟩
          have HX5 := Aside0.mk (blk_below HX4.out hb)
          have HB5 := Aside0.mk (below_step HB4.out hb)
          have HF5 := Aside0.mk (blk_below HF4.out hb)
          have HC5 := Aside0.mk (blk_below HC4.out hb)
          have HR5 := Aside0.mk (blk_below HR4.out hb)
          have HP5 := Aside0.mk (blk_below HP4.out hb)
          have HN5 := Aside0.mk (Kd.N_below (Kd.N_bound HN4.out) hb)
          have HD5 := Aside0.mk (Kd.N_below HD4.out hb)
          clear HB4 HF4 HC4 HR4 HP4 HN4 HD4
          clear hb HX4 CH4 CH
          have HM5 := Aside0.mk (show Kd.N k105 105 w5 w.heap.size (fun k => w2.heap.size < k) u (pinst D c D.insts.length) from Kd.N_mono HN5.out (fun _ h => h.1.1))
          clear HN5
          cases hbd : o.f0.any (nlit c) with
          | true =>
            have HZ : Aside0 (pdim D c (j + 1) = L) := ⟨by rw [HY.out, if_pos hbd]⟩
            clear hbd
            go_wp2_with fail
            go_roundg (D.overs.length - (j + 1))
            case measure => have := HG.out; omega
            case rel => exact ⟨j + 1, by go_num, ⟨hj⟩, ⟨Nat.le_refl _⟩, HB5, HF5, HC5, HR5, HP5, HM5, ⟨by rw [HZ.out]; exact HD5.out⟩⟩
          | false =>
            have HZ : Aside0 (pdim D c (j + 1) = L.set o.f1.toNat o.f2) := ⟨by rw [HY.out, if_neg (by rw [hbd]; decide)]⟩
            clear hbd
            obtain ⟨g, hcap, hv, hgb, hgl, hgt⟩ := Kd.N_form HD5.out (by omega)
            obtain ⟨rfl, rfl⟩ : B3 = some ⟨g, 0, none⟩ ∧ d3 = hcap := by
              injection hv with e1 _ e3
              exact ⟨e1, e3⟩
            clear hv
            obtain ⟨cs, hcl, hFK, hcc, hfr⟩ := Kd.N_elem HD5.out z81 o.f1 hf0 (show o.f1 < ((D.dims.length : Nat) : Int) from hf1)
            have HSEG := Lib.hid (Kd.N_seg HD5.out o.f1 hf0 (show o.f1 < ((D.dims.length : Nat) : Int) from hf1) (c := cs) (seg := [.string o.f2.f0, .int .i64 o.f2.f1, .int .i64 o.f2.f2, .int .i64 o.f2.f3]) (j := 0) (x' := o.f2) (okp := fun _ => False) hcl hcc (Nat.le_refl 4) (by
              rw [List.take_zero, List.nil_append, List.drop_of_length_le (by rw [hcl]; exact Nat.le_refl 4), List.append_nil]
              exact fun W' _ => k81.K_of_M (k81_mkM W' 0 (fun _ => True) o.f2)) (fun _ hk => hk.elim))
            obtain rfl := k81_open (Kd.FK_now hFK)
            have y0 : w5.cell? ⟨g, o.f1.toNat * 4, none⟩ = some (.string (L.getD o.f1.toNat z81).f0) := hcc 0 _ rfl
            have z0 : w5.frozen? ⟨g, o.f1.toNat * 4, none⟩ = false := hfr 0
            have y1 : w5.cell? ⟨g, o.f1.toNat * 4 + 1, none⟩ = some (.int .i64 (L.getD o.f1.toNat z81).f1) := hcc 1 _ rfl
            have z1 : w5.frozen? ⟨g, o.f1.toNat * 4 + 1, none⟩ = false := hfr 1
            have y2 : w5.cell? ⟨g, o.f1.toNat * 4 + 2, none⟩ = some (.int .i64 (L.getD o.f1.toNat z81).f2) := hcc 2 _ rfl
            have z2 : w5.frozen? ⟨g, o.f1.toNat * 4 + 2, none⟩ = false := hfr 2
            have y3 : w5.cell? ⟨g, o.f1.toNat * 4 + 3, none⟩ = some (.int .i64 (L.getD o.f1.toNat z81).f3) := hcc 3 _ rfl
            have z3 : w5.frozen? ⟨g, o.f1.toNat * 4 + 3, none⟩ = false := hfr 3
            clear hcc hfr hcl hFK
            obtain ⟨p0_, p1_, p2_, p3_, p4_, p5_⟩ := p_cells HP5.out
            have x0_ := (blk_cell HX5.out 0).trans rfl
            have x1_ := (blk_cell HX5.out 1).trans rfl
            have x2_ := (blk_cell HX5.out 2).trans rfl
            have x3_ := (blk_cell HX5.out 3).trans rfl
            have x4_ := (blk_cell HX5.out 4).trans rfl
            have x5_ := (blk_cell HX5.out 5).trans rfl
            go_wp2_with fail
            clear p0_ p1_ p2_ p3_ p4_ p5_ x0_ x1_ x2_ x3_ x4_ x5_ y0 y1 y2 y3 z0 z1 z2 z3
            obtain ⟨ho, hgr⟩ := HSEG.out
            have hgk : w.heap.size + 2 < g ∧ g < w2.heap.size := HD5.out.1 g rfl
            have hlw := HLW.out
            have hl5 := blk_lt HP5.out
            have hne : ∀ k, k ≠ g → some k ≠ some g := fun k h e => h (Option.some.inj e)
            go_roundg (D.overs.length - (j + 1))
            case measure => have := HG.out; omega
            case rel => exact ⟨j + 1, by go_num, ⟨hj⟩, ⟨Nat.le_refl _⟩, ⟨below_set (below_set (below_set (below_set HB5.out hgb) hgb) hgb) hgb⟩, ⟨(hgr.block _ (by omega) (hne _ (by omega))).trans HF5.out⟩, ⟨(hgr.block _ (by omega) (hne _ (by omega))).trans HC5.out⟩, ⟨(hgr.block _ (by omega) (hne _ (by omega))).trans HR5.out⟩, ⟨(hgr.block _ (by omega) (hne _ (by omega))).trans HP5.out⟩, ⟨Kd.N_step HM5.out (fun k hk hlt => hgr.block k hlt (hne k (by have h : w2.heap.size < k := hk; omega)))⟩, ⟨by rw [HZ.out]; exact ho⟩⟩
        · have q0 : decide ((j : Int) < (D.overs.length : Int)) = false := by simpa using hj
          have q1 : decide (j < D.overs.length) = false := by simpa using hj
          have hin : j = D.overs.length := by have := HI.out; omega
          rw [hin] at HD
          obtain ⟨A7, c7, hv7⟩ := Kd.N_slice HN.out
          subst hv7
          obtain ⟨p0_, p1_, p2_, p3_, p4_, p5_⟩ := p_cells HP.out
          obtain ⟨z0, z1, z2, z3, z4, z5⟩ := p_cells (g := w.heap.size + 1 + 1) HR.out
          have g0 : wr.frozen? ⟨w.heap.size + 1 + 1, 0, none⟩ = false := blk_frozen HR.out 0
          have g1 : wr.frozen? ⟨w.heap.size + 1 + 1, 1, none⟩ = false := blk_frozen HR.out 1
          have g2 : wr.frozen? ⟨w.heap.size + 1 + 1, 2, none⟩ = false := blk_frozen HR.out 2
          have g3 : wr.frozen? ⟨w.heap.size + 1 + 1, 3, none⟩ = false := blk_frozen HR.out 3
          have g4 : wr.frozen? ⟨w.heap.size + 1 + 1, 4, none⟩ = false := blk_frozen HR.out 4
          have g5 : wr.frozen? ⟨w.heap.size + 1 + 1, 5, none⟩ = false := blk_frozen HR.out 5
          clear hin hj
          have HR' : Aside0 (wr.heap[w.heap.size + 1 + 1]? = some (.cells (pcs ⟨#[]⟩ (.slice none 0 0) (.slice none 0 0) (.slice none 0 0) (.slice none 0 0) (.slice none 0 0)) 35 (0, 0))) := HR
          go_wp2_with fail
          clear p0_ p1_ p2_ p3_ p4_ p5_ z0 z1 z2 z3 z4 z5 g0 g1 g2 g3 g4 g5
          have hlw := HLW.out
          have h0 := blk_put HR'.out 0 (.string D.nm) rfl
          have h1 := blk_put h0 1 (.slice B1 0 d1) rfl
          have h2 := blk_put h1 2 (.slice A7 (pinst D c D.insts.length).length c7) rfl
          have h3 := blk_put h2 3 (.slice B3 D.dims.length d3) rfl
          have h4 := blk_put h3 4 (.slice B4 0 d4) rfl
          have h5 := blk_put h4 5 (.slice B5 0 d5) rfl
          have hbl : Below w.heap.size w _ := (below_set (below_set (below_set (below_set (below_set (below_set HB.out (g := w.heap.size + 1 + 1) (j := 0) (v := (.string D.nm)) (by omega)) (g := w.heap.size + 1 + 1) (j := 1) (v := (.slice B1 0 d1)) (by omega)) (g := w.heap.size + 1 + 1) (j := 2) (v := (.slice A7 (pinst D c D.insts.length).length c7)) (by omega)) (g := w.heap.size + 1 + 1) (j := 3) (v := (.slice B3 D.dims.length d3)) (by omega)) (g := w.heap.size + 1 + 1) (j := 4) (v := (.slice B4 0 d4)) (by omega)) (g := w.heap.size + 1 + 1) (j := 5) (v := (.slice B5 0 d5)) (by omega))
          have hfarI : ∀ k, w2.heap.size < k → k ≠ w.heap.size + 1 + 1 := fun k hk => by omega
          have hfarD : ∀ k, (w.heap.size + 2 < k ∧ k < w2.heap.size) → k ≠ w.heap.size + 1 + 1 := fun k hk => by omega
          have HI9 := (Kd.N_far (p := ⟨w.heap.size + 1 + 1, 5, none⟩) (Kd.N_far (p := ⟨w.heap.size + 1 + 1, 4, none⟩) (Kd.N_far (p := ⟨w.heap.size + 1 + 1, 3, none⟩) (Kd.N_far (p := ⟨w.heap.size + 1 + 1, 2, none⟩) (Kd.N_far (p := ⟨w.heap.size + 1 + 1, 1, none⟩) (Kd.N_far (p := ⟨w.heap.size + 1 + 1, 0, none⟩) HN.out hfarI (.string D.nm)) hfarI (.slice B1 0 d1)) hfarI (.slice A7 (pinst D c D.insts.length).length c7)) hfarI (.slice B3 D.dims.length d3)) hfarI (.slice B4 0 d4)) hfarI (.slice B5 0 d5))
          have HD9 := (Kd.N_far (p := ⟨w.heap.size + 1 + 1, 5, none⟩) (Kd.N_far (p := ⟨w.heap.size + 1 + 1, 4, none⟩) (Kd.N_far (p := ⟨w.heap.size + 1 + 1, 3, none⟩) (Kd.N_far (p := ⟨w.heap.size + 1 + 1, 2, none⟩) (Kd.N_far (p := ⟨w.heap.size + 1 + 1, 1, none⟩) (Kd.N_far (p := ⟨w.heap.size + 1 + 1, 0, none⟩) HD.out hfarD (.string D.nm)) hfarD (.slice B1 0 d1)) hfarD (.slice A7 (pinst D c D.insts.length).length c7)) hfarD (.slice B3 D.dims.length d3)) hfarD (.slice B4 0 d4)) hfarD (.slice B5 0 d5))
          refine bodyPost_ret (results_cell_row rfl _ _ (w.heap.size + 1 + 1) 35 _ (0, 0) _ rfl h5 Try.underlying35 rfl (by kernel_rfl)) rfl ?_
          exact ⟨B1, A7, B4, B5, d1, c7, d4, d5, B3, d3, by rw [pdim_length]; rfl, Kd.N_mono HI9 (fun _ _ => trivial), by rw [pdim_length]; exact Kd.N_mono HD9 (fun _ _ => trivial), hbl⟩
end Go.Proofs.Ytbnmdlnpfikkcaa.PX
/- Product: what it returns for a valid family and a known configuration. -/
namespace Go.Proofs.Ytbnmdlnpfikkcaa.PX
open Go.RowKit Go.Proofs.YtbnmdlnpfikkcaaW.PrintWords Go.Proofs.YtbnmdlnpfikkcaaW.PrintLast Go.Proofs.YtbnmdlnpfikkcaaW.PrintMore
set_option linter.unusedVariables false
set_option linter.unusedSimpArgs false
theorem res_ct {P : Program} {fn : Func} {p u : Tmp} {ty : TypeId} (h : fn.results = #[.cell p ty, .tmp u]) (tmps : Array Value) (w : World) (g : Nat) (t : TypeId) (cs : Array Value) (fr : Nat × Nat) (d : TypeDesc)
    (hp : tmps.getD p undef = .pointer (some ⟨g, 0, none⟩)) (hg : w.heap[g]? = some (.cells cs t fr))
    (hu : P.underlying ty = some d) (hd : (match d with | .struct _ | .array _ _ => true | _ => false) = true) (hi : (P.info? ty).map (·.size) = some cs.size) :
    (results fn tmps).run P w = .ok (.tuple #[.agg cs, tmps.getD u undef]) w := by
  have hp' : tmps[p]?.getD undef = .pointer (some ⟨g, 0, none⟩) := by simpa using hp
  simp [results, h, hp', asAddr, run_loadVar_row w g t ty cs fr d hg hu hd hi]
def zeroP : Array Value := pcs ⟨#[]⟩ (.slice none 0 0) (.slice none 0 0) (.slice none 0 0) (.slice none 0 0) (.slice none 0 0)
/-- A product's cells and rows, in a world. -/
def PAt (w : World) (cs : Array Value) (nm : ByteArray) (I : List S105) (Dm : List S81) : Prop :=
  ∃ B1 B2 B4 B5 d1 d2 d4 d5 B3 d3, cs = pcs nm (.slice B1 0 d1) (.slice B2 I.length d2) (.slice B3 Dm.length d3) (.slice B4 0 d4) (.slice B5 0 d5) ∧ Kd.C k105 w B2 I.length I ∧ I.length ≤ d2 ∧ Kd.C k81 w B3 Dm.length Dm ∧ Dm.length ≤ d3
/-- The same, its rows of blocks from base on. -/
def PFt (w : World) (base : Nat) (cs : Array Value) (nm : ByteArray) (I : List S105) (Dm : List S81) : Prop :=
  ∃ B1 B2 B4 B5 d1 d2 d4 d5 B3 d3, cs = pcs nm (.slice B1 0 d1) (.slice B2 I.length d2) (.slice B3 Dm.length d3) (.slice B4 0 d4) (.slice B5 0 d5) ∧ Kd.N k105 105 w base (fun k => base ≤ k) (.slice B2 I.length d2) I ∧ Kd.N k81 81 w base (fun k => base ≤ k) (.slice B3 Dm.length d3) Dm
theorem PFt.at_ {w : World} {base : Nat} {cs : Array Value} {nm : ByteArray} {I : List S105} {Dm : List S81} (h : PFt w base cs nm I Dm) : PAt w cs nm I Dm := by
  obtain ⟨B1, B2, B4, B5, d1, d2, d4, d5, B3, d3, e, h1, h2⟩ := h
  exact ⟨B1, B2, B4, B5, d1, d2, d4, d5, B3, d3, e, (Kd.N_reads' h1).2.2, (Kd.N_reads' h1).2.1, (Kd.N_reads' h2).2.2, (Kd.N_reads' h2).2.1⟩
theorem PAt.below {w w1 : World} {cs : Array Value} {nm : ByteArray} {I : List S105} {Dm : List S81} (h : PAt w cs nm I Dm) (hb : Below w.heap.size w w1) : PAt w1 cs nm I Dm := by
  obtain ⟨B1, B2, B4, B5, d1, d2, d4, d5, B3, d3, e, h1, h2, h3, h4⟩ := h
  exact ⟨B1, B2, B4, B5, d1, d2, d4, d5, B3, d3, e, Kd.C_below h1 hb, h2, Kd.C_below h3 hb, h4⟩
theorem PFt.below {w w1 : World} {base : Nat} {cs : Array Value} {nm : ByteArray} {I : List S105} {Dm : List S81} (h : PFt w base cs nm I Dm) (hb : Below w.heap.size w w1) : PFt w1 base cs nm I Dm := by
  obtain ⟨B1, B2, B4, B5, d1, d2, d4, d5, B3, d3, e, h1, h2⟩ := h
  exact ⟨B1, B2, B4, B5, d1, d2, d4, d5, B3, d3, e, Kd.N_below h1 hb, Kd.N_below h2 hb⟩
theorem PFt.far {w : World} {base g j : Nat} {u : Value} {cs : Array Value} {nm : ByteArray} {I : List S105} {Dm : List S81} (h : PFt w base cs nm I Dm) (hg : g < base) : PFt (w.setCell ⟨g, j, none⟩ u) base cs nm I Dm := by
  obtain ⟨B1, B2, B4, B5, d1, d2, d4, d5, B3, d3, e, h1, h2⟩ := h
  have hne : ∀ k, base ≤ k → k ≠ g := fun k hk => by omega
  exact ⟨B1, B2, B4, B5, d1, d2, d4, d5, B3, d3, e, Kd.N_far (p := ⟨g, j, none⟩) h1 hne u, Kd.N_far (p := ⟨g, j, none⟩) h2 hne u⟩
/-- What Product leaves for an allowed configuration. -/
def ProductPost (D : Fam) (c : Nat) (w : World) (e : Ending) (w' : World) : Prop := ∃ cs, e = .returned (.tuple #[.agg cs, .int .i64 0]) ∧ PFt w' w.heap.size cs D.nm (pinst D c D.insts.length) (pdim D c D.overs.length) ∧ Below w.heap.size w w'
set_option maxHeartbeats 2000000 in
set_option maxRecDepth 100000 in
theorem product_yes (D : Fam) (H : Hd) (A : Option Addr) (c : Nat) (l : List ByteArray) (w : World) (HF : FamAt w D H) (hck : chk D = 0) (hr : Kd.C Kd.string w A l.length l) (hc : l.length ≤ c) (ho : OptsSz D) (hl : ∀ x ∈ l, x.size ≤ maxLen) (hll : l.length ≤ 100) (hrd : rdE D.opts l = 0)
    (h1 : D.parts = []) (h4 : D.cons = []) (h5 : D.reqs = []) (hi : D.insts.length ≤ 100) (hd : D.dims.length ≤ 100) (hon : D.overs.length ≤ 100) (hg : ∀ g ∈ D.guards, LitsOk g.f1) (hov : ∀ j : Nat, j < D.overs.length → LitsOk (rd_T83 D.overs (j : Int)).f0 ∧ 0 ≤ (rd_T83 D.overs (j : Int)).f1 ∧ (rd_T83 D.overs (j : Int)).f1 < (D.dims.length : Int))
    (hall : idxP (fun x => !satR (rdC D.opts l) x) D.rules < 0) :
    Calls Try.prog 34 #[fv D H, .slice A l.length c] w (ProductPost D (rdC D.opts l) w) := by
  have hu41 := Try.underlying41
  have hu35 := Try.underlying35
  have CC := Lib.hid (fun W (hW : Below w.heap.size w W) => conf_calls D H A c l W (HF.below hW) hck (Kd.C_below hr hW) hc ho hl hll)
  have CV := Lib.hid (fun W (hW : Below w.heap.size w W) => viol_calls (rdC D.opts l) H.A7 H.c7 D.rules W (Nat.lt_trans (rdC_lt _ _) (by decide)) (Kd.C_below HF.r7 hW) HF.l7 (chk_ok hck).rules)
  have CP := Lib.hid (fun W (hW : Below w.heap.size w W) => prod_calls D H (rdC D.opts l) W (HF.below hW) (rdC_lt _ _) h1 h4 h5 hi hd hon hg hov)
  unfold fv
  obtain ⟨q, hq⟩ : ∃ q, q = rdC D.opts l := ⟨_, rfl⟩
  have HQ := Aside0.mk (hq ▸ rdC_lt D.opts l : q < 4096)
  rw [hrd] at CC
  rw [← hq] at CC CV CP hall ⊢
  clear HF hck hr hc ho hl hg hov hrd hq h1 h4 h5
  obtain ⟨v, hv⟩ : ∃ v, v = idxP (fun x => !satR q x) D.rules := ⟨_, rfl⟩
  rw [← hv] at CV hall
  clear hv
  have hd0 : decide (0 ≤ v) = false := by simpa using hall
  have hd1 : decide (v ≥ 0) = false := by simpa using hall
  obtain ⟨w1, hw1⟩ : ∃ w1, w1 = (w.alloc (.cells (fcells D H) 41)).alloc (.cells zeroP 35) := ⟨_, rfl⟩
  have e1 : (w.alloc (.cells (fcells D H) 41)).heap.size = w.heap.size + 1 := by simp
  have HB1 : Aside0 (Below w.heap.size w w1) := ⟨by rw [hw1]; exact below_alloc (below_alloc (Below.refl _ _) _) _⟩
  have HF1 : Aside0 (w1.heap[w.heap.size]? = some (.cells (fcells D H) 41 (0, 0))) := ⟨by rw [hw1]; exact blk_alloc (heap_alloc_new w _) _⟩
  have HR1 : Aside0 (w1.heap[w.heap.size + 1]? = some (.cells zeroP 35 (0, 0))) := ⟨by
    have h := heap_alloc_new (w.alloc (.cells (fcells D H) 41)) (.cells zeroP 35)
    rw [e1] at h
    rw [hw1]; exact h⟩
  clear e1
  unfold zeroP pcs fcells at hw1
  go_enter Try.func34, Try.ntmps34
  go_upto_region 1 with (fail)
  rw [← hw1]
  clear hw1
  obtain ⟨k0, k1, k2, k3, k4, k5, k6, k7, k8, k9⟩ := box_cells HF1.out
  go_wp2_with fail
  clear k0 k1 k2 k3 k4 k5 k6 k7 k8 k9
  refine (CC.out _ HB1.out).mono ?_
  rintro e w2 ⟨rfl, hb⟩
  have HB2 := Aside0.mk (below_step HB1.out hb)
  have HF2 := Aside0.mk (blk_below HF1.out hb)
  have HR2 := Aside0.mk (blk_below HR1.out hb)
  clear hb CC HB1 HF1 HR1
  obtain ⟨k0, k1, k2, k3, k4, k5, k6, k7, k8, k9⟩ := box_cells HF2.out
  go_wp2_with fail
  clear k0 k1 k2 k3 k4 k5 k6 k7 k8 k9
  refine (CV.out w2 HB2.out).mono ?_
  rintro e w3 ⟨rfl, hb⟩
  have HB3 := Aside0.mk (below_step HB2.out hb)
  have HF3 := Aside0.mk (blk_below HF2.out hb)
  have HR3 := Aside0.mk (blk_below HR2.out hb)
  clear hb CV HB2 HF2 HR2
  obtain ⟨k0, k1, k2, k3, k4, k5, k6, k7, k8, k9⟩ := box_cells HF3.out
  go_wp2_with fail
  clear k0 k1 k2 k3 k4 k5 k6 k7 k8 k9
  refine (CP.out w3 HB3.out).mono ?_
  rintro e w4 ⟨B1, B2, B4, B5, d1, d2, d4, d5, B3, d3, rfl, hI, hD, hb⟩
  have HB4 := Aside0.mk (below_step HB3.out hb)
  have HR4 := Aside0.mk (blk_below HR3.out hb)
  have hne : w.heap.size + 1 < w3.heap.size := blk_lt HR3.out
  have HNE := Aside0.mk hne
  have HI4 := Aside0.mk hI
  have HD4 := Aside0.mk hD
  clear hb HF3 HR3 CP hI hD hne
  obtain ⟨z0, z1, z2, z3, z4, z5⟩ := p_cells HR4.out
  have g0 := blk_frozen HR4.out 0
  have g1 := blk_frozen HR4.out 1
  have g2 := blk_frozen HR4.out 2
  have g3 := blk_frozen HR4.out 3
  have g4 := blk_frozen HR4.out 4
  have g5 := blk_frozen HR4.out 5
  go_wp2_with fail
  clear z0 z1 z2 z3 z4 z5 g0 g1 g2 g3 g4 g5
  have hfar : ∀ k, w.heap.size + 1 < k → k ≠ w.heap.size + 1 := fun k hk => by omega
  have h0 := blk_put HR4.out 0 (.string D.nm) rfl
  have h1 := blk_put h0 1 (.slice B1 0 d1) rfl
  have h2 := blk_put h1 2 (.slice B2 (pinst D q D.insts.length).length d2) rfl
  have h3 := blk_put h2 3 (.slice B3 (pdim D q D.overs.length).length d3) rfl
  have h4 := blk_put h3 4 (.slice B4 0 d4) rfl
  have h5 := blk_put h4 5 (.slice B5 0 d5) rfl
  have hbl : Below w.heap.size w _ := (below_set (below_set (below_set (below_set (below_set (below_set HB4.out (g := w.heap.size + 1) (j := 0) (v := (.string D.nm)) (Nat.le_succ _)) (g := w.heap.size + 1) (j := 1) (v := (.slice B1 0 d1)) (Nat.le_succ _)) (g := w.heap.size + 1) (j := 2) (v := (.slice B2 (pinst D q D.insts.length).length d2)) (Nat.le_succ _)) (g := w.heap.size + 1) (j := 3) (v := (.slice B3 (pdim D q D.overs.length).length d3)) (Nat.le_succ _)) (g := w.heap.size + 1) (j := 4) (v := (.slice B4 0 d4)) (Nat.le_succ _)) (g := w.heap.size + 1) (j := 5) (v := (.slice B5 0 d5)) (Nat.le_succ _))
  have HI9 := (Kd.N_far (p := ⟨w.heap.size + 1, 5, none⟩) (Kd.N_far (p := ⟨w.heap.size + 1, 4, none⟩) (Kd.N_far (p := ⟨w.heap.size + 1, 3, none⟩) (Kd.N_far (p := ⟨w.heap.size + 1, 2, none⟩) (Kd.N_far (p := ⟨w.heap.size + 1, 1, none⟩) (Kd.N_far (p := ⟨w.heap.size + 1, 0, none⟩) (N_fix (fun _ _ _ _ h => h) HI4.out HNE.out) hfar (.string D.nm)) hfar (.slice B1 0 d1)) hfar (.slice B2 (pinst D q D.insts.length).length d2)) hfar (.slice B3 (pdim D q D.overs.length).length d3)) hfar (.slice B4 0 d4)) hfar (.slice B5 0 d5))
  have HD9 := (Kd.N_far (p := ⟨w.heap.size + 1, 5, none⟩) (Kd.N_far (p := ⟨w.heap.size + 1, 4, none⟩) (Kd.N_far (p := ⟨w.heap.size + 1, 3, none⟩) (Kd.N_far (p := ⟨w.heap.size + 1, 2, none⟩) (Kd.N_far (p := ⟨w.heap.size + 1, 1, none⟩) (Kd.N_far (p := ⟨w.heap.size + 1, 0, none⟩) (N_fix (fun _ _ _ _ h => h) HD4.out HNE.out) hfar (.string D.nm)) hfar (.slice B1 0 d1)) hfar (.slice B2 (pinst D q D.insts.length).length d2)) hfar (.slice B3 (pdim D q D.overs.length).length d3)) hfar (.slice B4 0 d4)) hfar (.slice B5 0 d5))
  refine bodyPost_ret (res_ct rfl _ _ (w.heap.size + 1) 35 _ (0, 0) _ rfl h5 Try.underlying35 rfl (by kernel_rfl)) rfl ?_
  have hle := HB3.out.size
  exact ⟨_, rfl, ⟨B1, B2, B4, B5, d1, d2, d4, d5, B3, d3, rfl, Kd.N_lower (Kd.N_mono HI9 (fun k hk => by have h : w.heap.size + 1 < k := hk; show w.heap.size ≤ k; omega)) hle, Kd.N_lower (Kd.N_mono HD9 (fun k hk => by have h : w.heap.size + 1 < k := hk; show w.heap.size ≤ k; omega)) hle⟩, hbl⟩
set_option maxHeartbeats 2000000 in
set_option maxRecDepth 100000 in
theorem product_no (D : Fam) (H : Hd) (A : Option Addr) (c : Nat) (l : List ByteArray) (w : World) (HF : FamAt w D H) (hck : chk D = 0) (hr : Kd.C Kd.string w A l.length l) (hc : l.length ≤ c) (ho : OptsSz D) (hl : ∀ x ∈ l, x.size ≤ maxLen) (hll : l.length ≤ 100) (hrd : rdE D.opts l = 0)
    (hall : 0 ≤ idxP (fun x => !satR (rdC D.opts l) x) D.rules) :
    Calls Try.prog 34 #[fv D H, .slice A l.length c] w fun e w' => e = .returned (.tuple #[.agg zeroP, .int .i64 17]) ∧ Below w.heap.size w w' := by
  have hu41 := Try.underlying41
  have hu35 := Try.underlying35
  have CC := Lib.hid (fun W (hW : Below w.heap.size w W) => conf_calls D H A c l W (HF.below hW) hck (Kd.C_below hr hW) hc ho hl hll)
  have CV := Lib.hid (fun W (hW : Below w.heap.size w W) => viol_calls (rdC D.opts l) H.A7 H.c7 D.rules W (Nat.lt_trans (rdC_lt _ _) (by decide)) (Kd.C_below HF.r7 hW) HF.l7 (chk_ok hck).rules)
  unfold fv
  obtain ⟨q, hq⟩ : ∃ q, q = rdC D.opts l := ⟨_, rfl⟩
  rw [hrd] at CC
  rw [← hq] at CC CV hall
  clear HF hck hr hc ho hl hrd hq
  obtain ⟨v, hv⟩ : ∃ v, v = idxP (fun x => !satR q x) D.rules := ⟨_, rfl⟩
  rw [← hv] at CV hall
  clear hv
  have hd0 : decide (0 ≤ v) = true := by simpa using hall
  have hd1 : decide (v ≥ 0) = true := by simpa using hall
  obtain ⟨w1, hw1⟩ : ∃ w1, w1 = (w.alloc (.cells (fcells D H) 41)).alloc (.cells zeroP 35) := ⟨_, rfl⟩
  have e1 : (w.alloc (.cells (fcells D H) 41)).heap.size = w.heap.size + 1 := by simp
  have HB1 : Aside0 (Below w.heap.size w w1) := ⟨by rw [hw1]; exact below_alloc (below_alloc (Below.refl _ _) _) _⟩
  have HF1 : Aside0 (w1.heap[w.heap.size]? = some (.cells (fcells D H) 41 (0, 0))) := ⟨by rw [hw1]; exact blk_alloc (heap_alloc_new w _) _⟩
  have HR1 : Aside0 (w1.heap[w.heap.size + 1]? = some (.cells zeroP 35 (0, 0))) := ⟨by
    have h := heap_alloc_new (w.alloc (.cells (fcells D H) 41)) (.cells zeroP 35)
    rw [e1] at h
    rw [hw1]; exact h⟩
  clear e1
  unfold zeroP pcs fcells at hw1
  go_enter Try.func34, Try.ntmps34
  go_upto_region 1 with (fail)
  rw [← hw1]
  clear hw1
  obtain ⟨k0, k1, k2, k3, k4, k5, k6, k7, k8, k9⟩ := box_cells HF1.out
  go_wp2_with fail
  clear k0 k1 k2 k3 k4 k5 k6 k7 k8 k9
  refine (CC.out _ HB1.out).mono ?_
  rintro e w2 ⟨rfl, hb⟩
  have HB2 := Aside0.mk (below_step HB1.out hb)
  have HF2 := Aside0.mk (blk_below HF1.out hb)
  have HR2 := Aside0.mk (blk_below HR1.out hb)
  clear hb CC HB1 HF1 HR1
  obtain ⟨k0, k1, k2, k3, k4, k5, k6, k7, k8, k9⟩ := box_cells HF2.out
  go_wp2_with fail
  clear k0 k1 k2 k3 k4 k5 k6 k7 k8 k9
  refine (CV.out w2 HB2.out).mono ?_
  rintro e w3 ⟨rfl, hb⟩
  have HB3 := Aside0.mk (below_step HB2.out hb)
  have HR3 := Aside0.mk (blk_below HR2.out hb)
  clear hb CV HB2 HF2 HR2
  obtain ⟨z0, z1, z2, z3, z4, z5⟩ := p_cells HR3.out
  have g0 := blk_frozen HR3.out 0
  have g1 := blk_frozen HR3.out 1
  have g2 := blk_frozen HR3.out 2
  have g3 := blk_frozen HR3.out 3
  have g4 := blk_frozen HR3.out 4
  have g5 := blk_frozen HR3.out 5
  go_wp2_with fail
  clear z0 z1 z2 z3 z4 z5 g0 g1 g2 g3 g4 g5
  have h0 := blk_put HR3.out 0 (.string ⟨#[]⟩) rfl
  have h1 := blk_put h0 1 (.slice none 0 0) rfl
  have h2 := blk_put h1 2 (.slice none 0 0) rfl
  have h3 := blk_put h2 3 (.slice none 0 0) rfl
  have h4 := blk_put h3 4 (.slice none 0 0) rfl
  have h5 := blk_put h4 5 (.slice none 0 0) rfl
  have hbl : Below w.heap.size w _ := (below_set (below_set (below_set (below_set (below_set (below_set HB3.out (g := w.heap.size + 1) (j := 0) (v := (.string ⟨#[]⟩)) (Nat.le_succ _)) (g := w.heap.size + 1) (j := 1) (v := (.slice none 0 0)) (Nat.le_succ _)) (g := w.heap.size + 1) (j := 2) (v := (.slice none 0 0)) (Nat.le_succ _)) (g := w.heap.size + 1) (j := 3) (v := (.slice none 0 0)) (Nat.le_succ _)) (g := w.heap.size + 1) (j := 4) (v := (.slice none 0 0)) (Nat.le_succ _)) (g := w.heap.size + 1) (j := 5) (v := (.slice none 0 0)) (Nat.le_succ _))
  refine bodyPost_ret (res_ct rfl _ _ (w.heap.size + 1) 35 _ (0, 0) _ rfl h5 Try.underlying35 rfl (by kernel_rfl)) rfl ?_
  exact ⟨rfl, hbl⟩
end Go.Proofs.Ytbnmdlnpfikkcaa.PX
/- Products' law: the pure part. -/
namespace Go.Proofs.Ytbnmdlnpfikkcaa.PX
open Go.RowKit Go.Proofs.YtbnmdlnpfikkcaaW.PrintWords Go.Proofs.YtbnmdlnpfikkcaaW.PrintLast Go.Proofs.YtbnmdlnpfikkcaaW.PrintMore
set_option linter.unusedVariables false
set_option linter.unusedSimpArgs false
/-- What the products ask of a family. -/
structure PW (D : Fam) (n : Nat) : Prop where
  gl : ∀ i : Nat, i < D.guards.length → LitsIn n (rd_T79 D.guards (i : Int)).f1 ∧ (rd_T79 D.guards (i : Int)).f1.length < 50
  ol : ∀ j : Nat, j < D.overs.length → LitsIn n (rd_T83 D.overs (j : Int)).f0 ∧ (rd_T83 D.overs (j : Int)).f0.length < 50 ∧ 0 ≤ (rd_T83 D.overs (j : Int)).f1 ∧ (rd_T83 D.overs (j : Int)).f1 < (D.dims.length : Int)
  gn : D.guards.length ≤ 48
  on : D.overs.length ≤ 48
  il : D.insts.length ≤ 10
  dl : D.dims.length ≤ 10
/-! What Product depends on. -/
def uses (D : Fam) (i : Nat) : Bool := decide (0 < (useL (gUse D) (i : Int) D.guards.length).length + (useL (oUse D) (i : Int) D.overs.length).length)
def usedM (D : Fam) : Nat → Nat
  | 0 => 0
  | i + 1 => if uses D i then usedM D i ||| 2 ^ i else usedM D i
theorem usedM_lt (D : Fam) : ∀ m, m ≤ 12 → usedM D m < 2 ^ 12
  | 0, _ => Nat.two_pow_pos 12
  | m + 1, h => by
    have ih := usedM_lt D m (by omega)
    unfold usedM
    split
    · exact Nat.or_lt_two_pow ih (Nat.pow_lt_pow_right (by decide) (by omega))
    · exact ih
theorem usedM_bit (D : Fam) (i : Nat) : ∀ m, (usedM D m).testBit i = (decide (i < m) && uses D i)
  | 0 => by simp [usedM]
  | m + 1 => by
    have ih := usedM_bit D i m
    unfold usedM
    by_cases e : i = m
    · subst e
      split
      · rename_i h; rw [Nat.testBit_or, ih, Nat.testBit_two_pow_self, h]; simp
      · rename_i h; rw [ih]; simp [h]
    · have h1 : decide (i < m + 1) = decide (i < m) := by
        by_cases h : i < m
        · rw [decide_eq_true h, decide_eq_true (by omega)]
        · rw [decide_eq_false h, decide_eq_false (by omega)]
      split
      · rw [Nat.testBit_or, ih, Nat.testBit_two_pow_of_ne (Ne.symm e), h1]; simp
      · rw [ih, h1]
theorem set_bit : ∀ n, n < 7 → ∀ k, k < 2 ^ n → ∀ i, i < n → (setOf n k).testBit i = onI (cfg n k) (i : Nat) := by decide +kernel
theorem set_lt : ∀ n, n < 7 → ∀ k, k < 2 ^ n → setOf n k < 64 := by decide +kernel
theorem useL_none (e : Nat → List S62) (o : Int) : ∀ m, (useL e o m).length = 0 → ∀ j, j < m → ment (e j) o = false
  | 0, _, j, hj => absurd hj (Nat.not_lt_zero _)
  | m + 1, h, j, hj => by
    unfold useL at h
    split at h
    · simp at h
    · rename_i hm
      by_cases e' : j = m
      · subst e'; simpa using hm
      · exact useL_none e o m h j (by omega)
theorem nlit_dep {D : Fam} {n k1 k2 : Nat} (h6 : n ≤ 6) (h1 : k1 < 2 ^ n) (h2 : k2 < 2 ^ n) (he : setOf n k1 &&& usedM D n = setOf n k2 &&& usedM D n) {l : List S62} (hl : LitsIn n l)
    (hu : ∀ i : Nat, ment l (i : Int) = true → uses D i = true) : l.any (nlit (cfg n k1)) = l.any (nlit (cfg n k2)) := by
  apply any_eq_of
  intro x hx
  obtain ⟨h3, h4⟩ := hl x hx
  obtain ⟨i, hi⟩ : ∃ i : Nat, x.f0 = i := ⟨x.f0.toNat, by omega⟩
  have hm : ment l (i : Int) = true := by
    unfold ment
    rw [List.any_eq_true]
    exact ⟨x, hx, by rw [hi]; simp⟩
  have hb : (usedM D n).testBit i = true := by rw [usedM_bit, hu i hm, decide_eq_true (by omega)]; rfl
  have e := congrArg (fun q => Nat.testBit q i) he
  simp only [Nat.testBit_and, hb, Bool.and_true] at e
  rw [set_bit n (by omega) k1 h1 i (by omega), set_bit n (by omega) k2 h2 i (by omega)] at e
  unfold nlit
  rw [hi, e]
theorem gUse_uses {D : Fam} {j : Nat} (hj : j < D.guards.length) (i : Nat) (h : ment (gUse D j) (i : Int) = true) : uses D i = true := by
  unfold uses
  rw [decide_eq_true_iff]
  rcases Nat.eq_zero_or_pos (useL (gUse D) (i : Int) D.guards.length).length with h0 | h0
  · rw [useL_none _ _ _ h0 j hj] at h; cases h
  · omega
theorem oUse_uses {D : Fam} {j : Nat} (hj : j < D.overs.length) (i : Nat) (h : ment (oUse D j) (i : Int) = true) : uses D i = true := by
  unfold uses
  rw [decide_eq_true_iff]
  rcases Nat.eq_zero_or_pos (useL (oUse D) (i : Int) D.overs.length).length with h0 | h0
  · rw [useL_none _ _ _ h0 j hj] at h; cases h
  · omega
theorem rd79_of {l : List S79} {g : S79} (h : g ∈ l) : ∃ j, j < l.length ∧ rd_T79 l (j : Int) = g := by
  obtain ⟨j, hj, rfl⟩ := List.getElem_of_mem h
  refine ⟨j, hj, ?_⟩
  unfold rd_T79
  rw [Int.toNat_natCast, List.getD_eq_getElem?_getD, List.getElem?_eq_getElem hj]
  rfl
theorem barred_dep {D : Fam} {n k1 k2 : Nat} (h6 : n ≤ 6) (h1 : k1 < 2 ^ n) (h2 : k2 < 2 ^ n) (hp : PW D n) (he : setOf n k1 &&& usedM D n = setOf n k2 &&& usedM D n) (i : Nat) : barred D (cfg n k1) i = barred D (cfg n k2) i := by
  unfold barred
  apply any_eq_of
  intro g hg
  obtain ⟨j, hj, e⟩ := rd79_of hg
  have hl := (hp.gl j hj).1
  have := nlit_dep h6 h1 h2 he hl (gUse_uses hj)
  rw [e] at this
  rw [this]
theorem dep_inst {D : Fam} {n k1 k2 : Nat} (h6 : n ≤ 6) (h1 : k1 < 2 ^ n) (h2 : k2 < 2 ^ n) (hp : PW D n) (he : setOf n k1 &&& usedM D n = setOf n k2 &&& usedM D n) : ∀ i, pinst D (cfg n k1) i = pinst D (cfg n k2) i
  | 0 => rfl
  | i + 1 => by
    unfold pinst
    rw [dep_inst h6 h1 h2 hp he i, barred_dep h6 h1 h2 hp he i]
theorem dep_dim {D : Fam} {n k1 k2 : Nat} (h6 : n ≤ 6) (h1 : k1 < 2 ^ n) (h2 : k2 < 2 ^ n) (hp : PW D n) (he : setOf n k1 &&& usedM D n = setOf n k2 &&& usedM D n) : ∀ j, j ≤ D.overs.length → pdim D (cfg n k1) j = pdim D (cfg n k2) j
  | 0, _ => rfl
  | j + 1, hj => by
    unfold pdim
    rw [dep_dim h6 h1 h2 hp he j (by omega), nlit_dep h6 h1 h2 he (hp.ol j (by omega)).1 (oUse_uses (show j < D.overs.length by omega))]
theorem bits_and_i64_nat (a b : Nat) (ha : a < 9223372036854775808) (hb : b < 9223372036854775808) :
    Go.bits .and .i64 (a : Int) (b : Int) = ((a &&& b : Nat) : Int) := by
  have hx : a &&& b ≤ a := Nat.and_le_left
  have h1 : (BitVec.ofInt 64 (a : Int)).toNat = a := by
    rw [BitVec.ofInt_natCast, BitVec.toNat_ofNat]; exact Nat.mod_eq_of_lt (by omega)
  have h2 : (BitVec.ofInt 64 (b : Int)).toNat = b := by
    rw [BitVec.ofInt_natCast, BitVec.toNat_ofNat]; exact Nat.mod_eq_of_lt (by omega)
  show IntKind.i64.wrap ((BitVec.ofInt 64 (a : Int) &&& BitVec.ofInt 64 (b : Int)).toNat : Int) = _
  rw [BitVec.toNat_and, h1, h2, IntKind.wrap_i64]
  omega
/-! The described family is such a one. -/
theorem famK_PW {a : Int} (R G O : List (List Int)) (h0 : 0 ≤ a) (h255 : a ≤ 255) : PW (famK a R G O) (nOf a) := by
  obtain ⟨h1, h6, _⟩ := nOf_ok h0 h255
  refine ⟨?_, ?_, ?_, ?_, ?_, ?_⟩
  · intro i hi
    have hl : (famK a R G O).guards = guardsF (nOf a) G instsB.length (min G.length 4) := rfl
    have hi' : i < min G.length 4 := by rw [hl] at hi; simpa [guardsF] using hi
    rw [hl, guardsF_get hi']
    exact ⟨decL_in _ _, by have := decL_len (nOf a) (rd_L2 G (i : Int)); show (decL (nOf a) (rd_L2 G (i : Int))).length < 50; omega⟩
  · intro j hj
    have hl : (famK a R G O).overs = oversF (nOf a) O dimsB (min O.length 4) := rfl
    have hj' : j < min O.length 4 := by rw [hl] at hj; simpa [oversF] using hj
    rw [hl]
    have t1 : 0 ≤ Int.tmod (j : Int) (dimsB.length : Int) := Int.tmod_nonneg _ (by omega)
    have t2 : Int.tmod (j : Int) (dimsB.length : Int) < (dimsB.length : Int) := Int.tmod_lt_of_pos _ (by decide)
    have hg := oversF_get (n := nOf a) (O := O) (dims := dimsB) hj'
    have hq := decL_in (nOf a) (rd_L2 O (j : Int))
    have hq2 := decL_len (nOf a) (rd_L2 O (j : Int))
    unfold overF at hg
    generalize Int.tmod (j : Int) (dimsB.length : Int) = d at t1 t2 hg
    generalize decL (nOf a) (rd_L2 O (j : Int)) = l at hg hq hq2
    generalize wrap64 (100 + (j : Int)) = v at hg
    obtain ⟨e0, e1, e2⟩ := ovr_f l d (rd_T81 dimsB d) v
    rw [hg, e0, e1]
    exact ⟨hq, by omega, t1, t2⟩
  · show (guardsF _ _ _ _).length ≤ 48
    simp [guardsF]; omega
  · show (oversF _ _ _ _).length ≤ 48
    simp [oversF]; omega
  · show instsB.length ≤ 10
    decide
  · show dimsB.length ≤ 10
    decide
end Go.Proofs.Ytbnmdlnpfikkcaa.PX
/- The reference's product: what it returns. -/
namespace Go.Proofs.Ytbnmdlnpfikkcaa.PX
open Go.RowKit Go.Proofs.YtbnmdlnpfikkcaaW.PrintWords Go.Proofs.YtbnmdlnpfikkcaaW.PrintLast Go.Proofs.YtbnmdlnpfikkcaaW.PrintMore
set_option linter.unusedVariables false
set_option linter.unusedSimpArgs false
/-- The first guards bar instance i. -/
def bar (D : Fam) (c i : Nat) : Nat → Bool
  | 0 => false
  | g + 1 => bar D c i g || ((rd_T79 D.guards (g : Int)).f0 == (i : Int) && (rd_T79 D.guards (g : Int)).f1.any (nlit c))
theorem bar_take (D : Fam) (c i : Nat) : ∀ g, g ≤ D.guards.length → bar D c i g = (D.guards.take g).any fun x => x.f0 == (i : Int) && x.f1.any (nlit c)
  | 0, _ => by simp [bar]
  | g + 1, h => by
    have hlt : g < D.guards.length := by omega
    unfold bar
    rw [bar_take D c i g (by omega), List.take_succ_eq_append_getElem hlt, List.any_append]
    have e : rd_T79 D.guards (g : Int) = D.guards[g] := by
      unfold rd_T79
      rw [Int.toNat_natCast, List.getD_eq_getElem?_getD, List.getElem?_eq_getElem hlt]
      rfl
    rw [e]
    simp
theorem bar_all (D : Fam) (c i : Nat) : bar D c i D.guards.length = barred D c i := by
  rw [bar_take D c i _ (Nat.le_refl _), List.take_length]
  rfl
theorem refall_calls (A : Option Addr) (c : Nat) (l : List S62) (n k : Nat) (w : World) (h6 : n ≤ 6) (hk : k < 2 ^ n) (hr : Kd.C k62 w A l.length l) (hc : l.length ≤ c) (hl : LitsIn n l) (hl2 : l.length < 50) :
    Calls Try.prog 43 #[.slice A l.length c, .int .i64 ((setOf n k : Nat) : Int)] w fun e w' => e = .returned (.bool (!l.any (nlit (cfg n k)))) ∧ Below w.heap.size w w' := by
  have h := all_f (s := ((setOf n k : Nat) : Int)) (K := 100) hl.pos (by omega) (by omega)
  rw [all_set h6 hk l hl] at h
  exact (dowellaw48_all.calls 100 A c l ((setOf n k : Nat) : Int) _ w hr hc h)
/-- What the reference's product leaves. -/
def PostP (D : Fam) (c : Nat) (w : World) (e : Ending) (w' : World) : Prop := ∃ cs, e = .returned (.agg cs) ∧ PAt w' cs D.nm (pinst D c D.insts.length) (pdim D c D.overs.length) ∧ Below w.heap.size w w'
set_option maxHeartbeats 2000000 in
set_option maxRecDepth 100000 in
theorem refP0_calls (D : Fam) (H : Hd) (n k : Nat) (w : World) (HF : FamAt w D H) (h6 : n ≤ 6) (hk : k < 2 ^ n) (hp : PW D n) (h1 : D.parts = []) (h4 : D.cons = []) (h5 : D.reqs = []) :
    Calls Try.prog 36 #[fv D H, .int .i64 ((setOf n k : Nat) : Int)] w fun e w' => ∃ cs, e = .returned (.agg cs) ∧ PAt w' cs D.nm (pinst D (cfg n k) D.insts.length) (pdim D (cfg n k) D.overs.length) ∧ Below w.heap.size w w' := by
  have hu41 := Try.underlying41
  have hu35 := Try.underlying35
  have hu83 := Try.underlying83
  have hu79 := Try.underlying79
  have CA := Lib.hid (fun (A : Option Addr) (c : Nat) (l : List S62) (W : World) => refall_calls A c l n k W h6 hk)
  obtain ⟨S, hS⟩ : ∃ S : Int, S = ((setOf n k : Nat) : Int) := ⟨_, rfl⟩
  rw [← hS] at CA ⊢
  obtain ⟨c, hc⟩ : ∃ c, c = cfg n k := ⟨_, rfl⟩
  rw [← hc] at CA ⊢
  clear hS hc h6 hk
  have il := hp.il
  have dl := hp.dl
  have on := hp.on
  have gn := hp.gn
  have HPW := Aside0.mk hp
  have HFA := Aside0.mk HF
  have HH1 := Aside0.mk h1
  have HH4 := Aside0.mk h4
  have HH5 := Aside0.mk h5
  have HPOST : Aside0 (∀ e w', PostP D c w e w' → ∃ cs, e = .returned (.agg cs) ∧ PAt w' cs D.nm (pinst D c D.insts.length) (pdim D c D.overs.length) ∧ Below w.heap.size w w') := ⟨fun e w' h => h⟩
  refine Calls.mono ?_ HPOST.out
  clear HPOST hp
  unfold fv
  rw [h1, h4, h5]
  have HD0 := Aside0.mk (Kd.F_bound (foot81 HF.r3))
  obtain ⟨w2, hw2⟩ : ∃ W, W = ((w.alloc (.cells (fcells D H) 41)).alloc (.cells (pcs ⟨#[]⟩ (.slice none 0 0) (.slice none 0 0) (.slice none 0 0) (.slice none 0 0) (.slice none 0 0)) 35)).alloc (.cells (pcs D.nm (.slice H.A1 0 H.c1) (.slice H.A2 D.insts.length H.c2) (.slice H.A3 D.dims.length H.c3) (.slice H.A4 0 H.c4) (.slice H.A5 0 H.c5)) 35) := ⟨_, rfl⟩
  have e1 : (w.alloc (.cells (fcells D H) 41)).heap.size = w.heap.size + 1 := by simp
  have e2 : ((w.alloc (.cells (fcells D H) 41)).alloc (.cells (pcs ⟨#[]⟩ (.slice none 0 0) (.slice none 0 0) (.slice none 0 0) (.slice none 0 0) (.slice none 0 0)) 35)).heap.size = w.heap.size + 2 := by simp
  have e3 : w2.heap.size = w.heap.size + 3 := by rw [hw2]; simp
  have HB2 : Aside0 (Below w.heap.size w w2) := ⟨by rw [hw2]; exact below_alloc (below_alloc (below_alloc (Below.refl _ _) _) _) _⟩
  have HF2 : Aside0 (w2.heap[w.heap.size]? = some (.cells (fcells D H) 41 (0, 0))) := ⟨by rw [hw2]; exact blk_alloc (blk_alloc (heap_alloc_new w _) _) _⟩
  have HR2 : Aside0 (w2.heap[w.heap.size + 1]? = some (.cells (pcs ⟨#[]⟩ (.slice none 0 0) (.slice none 0 0) (.slice none 0 0) (.slice none 0 0) (.slice none 0 0)) 35 (0, 0))) := ⟨by
    have h := heap_alloc_new (w.alloc (.cells (fcells D H) 41)) (.cells (pcs ⟨#[]⟩ (.slice none 0 0) (.slice none 0 0) (.slice none 0 0) (.slice none 0 0) (.slice none 0 0)) 35)
    rw [e1] at h
    rw [hw2]; exact blk_alloc h _⟩
  have HP2 : Aside0 (w2.heap[w.heap.size + 2]? = some (.cells (pcs D.nm (.slice H.A1 0 H.c1) (.slice H.A2 D.insts.length H.c2) (.slice H.A3 D.dims.length H.c3) (.slice H.A4 0 H.c4) (.slice H.A5 0 H.c5)) 35 (0, 0))) := ⟨by
    have h := heap_alloc_new ((w.alloc (.cells (fcells D H) 41)).alloc (.cells (pcs ⟨#[]⟩ (.slice none 0 0) (.slice none 0 0) (.slice none 0 0) (.slice none 0 0) (.slice none 0 0)) 35)) (.cells (pcs D.nm (.slice H.A1 0 H.c1) (.slice H.A2 D.insts.length H.c2) (.slice H.A3 D.dims.length H.c3) (.slice H.A4 0 H.c4) (.slice H.A5 0 H.c5)) 35)
    rw [e2] at h
    rw [hw2]; exact h⟩
  have HE3 := Aside0.mk e3
  clear e1 e2 e3 HF
  unfold pcs fcells at hw2
  rw [h1, h4, h5] at hw2
  clear h1 h4 h5
  go_enter Try.func36, Try.ntmps36
  go_upto_region 2 with (fail)
  rw [show ([] : List S129).length = 0 from rfl, show ([] : List S158).length = 0 from rfl, show ([] : List S165).length = 0 from rfl] at hw2
  rw [← hw2]
  clear hw2
  obtain ⟨k0, k1, k2, k3, k4, k5, k6, k7, k8, k9⟩ := box_cells HF2.out
  clear k0 k1 k2 k3 k4 k5 k6 k7 k8 k9
  obtain ⟨k0, k1, k2, k3, k4, k5, k6, k7, k8, k9⟩ := box_cells (blk_alloc HF2.out (.cells #[] 81))
  have hlt : w.heap.size + 2 < w2.heap.size := by have := HE3.out; omega
  go_wp2_with ((with_reducible refine gate_builtin (b := .append) rfl ?_); at_builtin; refine Kd.N_append_rows k81 (w0 := w2) w2.heap.size rfl (.tmp 13) (.tmp 16) 31 81 (.agg #[(.string ⟨#[]⟩), (.int .i64 0), (.int .i64 0), (.int .i64 0)]) 40 rfl Try.underlying31 info81 rfl (by decide) (by decide) (.slice (some ⟨w2.heap.size, 0, none⟩) 0 0) [] D.dims H.A3 D.dims.length H.c3 (fun _ => True) (fun k => k < w.heap.size ∧ k < w.heap.size) rfl rfl (N_fresh81 w2 _ (fun _ _ => trivial)) (Kd.F_below HD0.out (below_alloc HB2.out _)) ?aK (fun _ _ => trivial) (below_alloc (Below.refl _ _) _) (by simp) ?aL ?_; (case aK => exact fun k hk => ⟨trivial, by simp [Value.ownBlock]; omega⟩); (case aL => have : ([] : List S81).length = 0 := rfl; omega); intro v1 w5 ho hb hg hat; rw [List.nil_append] at ho; obtain ⟨B3, d3, hv3⟩ := Kd.N_slice ho; subst hv3; have HB5 := Aside0.mk (below_step HB2.out hb); have HF5 := Aside0.mk (blk_below HF2.out hb); have HR5 := Aside0.mk (blk_below HR2.out hb); have HP5 := Aside0.mk (blk_below HP2.out hb); have HN5 := Aside0.mk (Kd.N_bound (Kd.N_lower (N_fix (fun _ _ _ _ h => h) ho hlt) HB2.out.size)); clear ho hb hg hat hlt; obtain ⟨p0_, p1_, p2_, p3_, p4_, p5_⟩ := p_cells (g := w.heap.size + 1 + 1) HP5.out; have f2 : w5.frozen? ⟨w.heap.size + 1 + 1, 2, none⟩ = false := blk_frozen HP5.out 2; have f3 : w5.frozen? ⟨w.heap.size + 1 + 1, 3, none⟩ = false := blk_frozen HP5.out 3)
  clear p0_ p1_ p2_ p3_ p4_ p5_ f2 f3 k0 k1 k2 k3 k4 k5 k6 k7 k8 k9
  obtain ⟨w3, hw3⟩ : ∃ W, W = (w5.setCell ⟨w.heap.size + 1 + 1, 2, none⟩ (.slice none 0 0)).setCell ⟨w.heap.size + 1 + 1, 3, none⟩ (.slice B3 D.dims.length d3) := ⟨_, rfl⟩
  obtain ⟨Q, hQ⟩ : ∃ Q, Q = w3.heap.size := ⟨_, rfl⟩
  have hs3 : w3.heap.size = w5.heap.size := by rw [hw3]; simp
  have HQQ : Aside0 (w.heap.size + 2 < Q) := ⟨by have := blk_lt HP5.out; omega⟩
  have HB3 : Aside0 (Below w.heap.size w w3) := ⟨by rw [hw3]; exact below_set (below_set HB5.out (by omega)) (by omega)⟩
  have HF3 : Aside0 (w3.heap[w.heap.size]? = some (.cells (fcells D H) 41 (0, 0))) := ⟨by rw [hw3]; exact blk_far (p := ⟨w.heap.size + 1 + 1, 3, none⟩) (blk_far (p := ⟨w.heap.size + 1 + 1, 2, none⟩) HF5.out (by show w.heap.size ≠ w.heap.size + 1 + 1; omega) _) (by show w.heap.size ≠ w.heap.size + 1 + 1; omega) _⟩
  have HR3 : Aside0 (w3.heap[w.heap.size + 1]? = some (.cells (pcs ⟨#[]⟩ (.slice none 0 0) (.slice none 0 0) (.slice none 0 0) (.slice none 0 0) (.slice none 0 0)) 35 (0, 0))) := ⟨by rw [hw3]; exact blk_far (p := ⟨w.heap.size + 1 + 1, 3, none⟩) (blk_far (p := ⟨w.heap.size + 1 + 1, 2, none⟩) HR5.out (by show w.heap.size + 1 ≠ w.heap.size + 1 + 1; omega) _) (by show w.heap.size + 1 ≠ w.heap.size + 1 + 1; omega) _⟩
  have HP3 : Aside0 (w3.heap[w.heap.size + 2]? = some (.cells (pcs D.nm (.slice H.A1 0 H.c1) (.slice none 0 0) (.slice B3 D.dims.length d3) (.slice H.A4 0 H.c4) (.slice H.A5 0 H.c5)) 35 (0, 0))) := ⟨by rw [hw3]; exact blk_put (g := w.heap.size + 1 + 1) (blk_put HP5.out 2 (.slice none 0 0) rfl) 3 _ rfl⟩
  have HN3 : Aside0 (Kd.N k81 81 w3 w.heap.size (fun k => w.heap.size + 2 < k ∧ k < Q) (.slice B3 D.dims.length d3) D.dims) := ⟨by rw [hQ, hs3, hw3]; exact Kd.N_far (p := ⟨w.heap.size + 1 + 1, 3, none⟩) (Kd.N_far (p := ⟨w.heap.size + 1 + 1, 2, none⟩) HN5.out (fun k hk => by show k ≠ w.heap.size + 1 + 1; omega) _) (fun k hk => by show k ≠ w.heap.size + 1 + 1; omega) _⟩
  have HQ3 : Aside0 (Q ≤ w3.heap.size) := ⟨Nat.le_of_eq hQ⟩
  rw [← hw3]
  clear hw3 hs3 hQ HB5 HF5 HR5 HP5 HN5 HB2 HF2 HR2 HP2
  go_loopg [6] D.insts.length (fun gk v6 w' => ∃ (i : Nat) (u : Value), v6 = .int .i64 (i : Int) ∧ Aside0 (i ≤ D.insts.length) ∧ Aside0 (D.insts.length - i ≤ gk) ∧ Aside0 (Below w.heap.size w w') ∧ Aside0 (w'.heap[w.heap.size]? = some (.cells (fcells D H) 41 (0, 0))) ∧ Aside0 (w'.heap[w.heap.size + 1]? = some (.cells (pcs ⟨#[]⟩ (.slice none 0 0) (.slice none 0 0) (.slice none 0 0) (.slice none 0 0) (.slice none 0 0)) 35 (0, 0))) ∧ Aside0 (w'.heap[w.heap.size + 2]? = some (.cells (pcs D.nm (.slice H.A1 0 H.c1) u (.slice B3 D.dims.length d3) (.slice H.A4 0 H.c4) (.slice H.A5 0 H.c5)) 35 (0, 0))) ∧ Aside0 (Q ≤ w'.heap.size) ∧ Aside0 (Kd.N k105 105 w' w.heap.size (fun k => Q ≤ k) u (pinst D c i)) ∧ Aside0 (Kd.N k81 81 w' w.heap.size (fun k => w.heap.size + 2 < k ∧ k < Q) (.slice B3 D.dims.length d3) (D.dims)))
  case atStart => exact ⟨0, .slice none 0 0, rfl, ⟨Nat.zero_le _⟩, ⟨Nat.sub_le _ _⟩, HB3, HF3, HR3, HP3, HQ3, ⟨Kd.N_nil _ _ _ _ _⟩, HN3⟩
  case round =>
    clear HB3 HF3 HR3 HP3 HN3
    obtain ⟨i, u, rfl, HI, HG, HB, HF, HR, HP, HQW, HN, HD⟩ := hrel
    obtain ⟨k0, k1, k2, k3, k4, k5, k6, k7, k8, k9⟩ := box_cells HF.out
    by_cases hi : i < D.insts.length
    · have q0 : decide ((i : Int) < (D.insts.length : Int)) = true := by simpa using hi
      have q1 : decide (i < D.insts.length) = true := by simpa using hi
      go_wp2_with fail
      clear k0 k1 k2 k3 k4 k5 k6 k7 k8 k9 q0 q1
      go_loopg [8, 7] D.guards.length (fun gk v8 v7 w' => ∃ g : Nat, v8 = .int .i64 (g : Int) ∧ v7 = .bool (!bar D c i g) ∧ Aside0 (g ≤ D.guards.length) ∧ Aside0 (D.guards.length - g ≤ gk) ∧ Aside0 (Below wr.heap.size wr w'))
      case atStart => exact ⟨0, rfl, rfl, ⟨Nat.zero_le _⟩, ⟨Nat.sub_le _ _⟩, ⟨Below.refl _ _⟩⟩
      case round =>
        obtain ⟨wo, hwo⟩ : ∃ W, W = wr := ⟨_, rfl⟩
        obtain ⟨g, rfl, rfl, HI2, HG2, HW⟩ := hrel
        obtain ⟨k0, k1, k2, k3, k4, k5, k6, k7, k8, k9⟩ := box_cells (blk_below HF.out HW.out)
        have hbs : bar D c i (g + 1) = (bar D c i g || ((rd_T79 D.guards (g : Int)).f0 == (i : Int) && (rd_T79 D.guards (g : Int)).f1.any (nlit c))) := rfl
        obtain ⟨bb, hbb⟩ : ∃ b, b = bar D c i g := ⟨_, rfl⟩
        rw [← hbb] at hbs ⊢
        have HBS := Aside0.mk hbs
        have HBB := Aside0.mk hbb
        clear hbs hbb hwo
        by_cases hg : g < D.guards.length
        · have q0 : decide ((g : Int) < (D.guards.length : Int)) = true := by simpa using hg
          have q1 : decide (g < D.guards.length) = true := by simpa using hg
          have p0 : 0 ≤ (g : Int) := by omega
          have p1 : (g : Int) < (D.guards.length : Int) := by omega
          obtain ⟨ad, A1, c1, hA, hx0, hx1, hl1, hC1⟩ := at_T79 (Kd.C_below (Kd.C_below HFA.out.r8 HB.out) HW.out) (g : Int) p0 p1
          rw [Int.toNat_natCast] at hx0 hx1
          obtain ⟨hli, hll⟩ := HPW.out.gl g hg
          obtain ⟨o, ho⟩ : ∃ o, o = rd_T79 D.guards (g : Int) := ⟨_, rfl⟩
          rw [← ho] at hx0 hx1 hl1 hC1 hli hll HBS
          have HOO := Aside0.mk ho
          have CG := Lib.hid (CA.out A1 c1 o.f1 _ hC1 hl1 hli hll)
          rw [hA] at k8
          clear ho hC1 hl1 hli hll
          have HAA := Aside0.mk hA
          clear hA
          cases bb with
          | true =>
            have HY : Aside0 (bar D c i (g + 1) = true) := ⟨HBS.out⟩
            go_wp2_with fail
            go_roundg (D.guards.length - (g + 1))
            case measure => have := HG2.out; omega
            case rel => exact ⟨g + 1, by go_num, by rw [HY.out]; rfl, ⟨hg⟩, ⟨Nat.le_refl _⟩, HW⟩
          | false =>
            by_cases he : o.f0 = (i : Int)
            · have hz : (o.f0 != (i : Int)) = false := by rw [he]; simp
              have HY : Aside0 (bar D c i (g + 1) = o.f1.any (nlit c)) := ⟨by rw [HBS.out, beq_iff_eq.2 he]; simp⟩
              clear he
              go_wp2_with fail
              refine CG.out.mono ?_
              rintro e w7 ⟨rfl, hb⟩
              have HW7 := Aside0.mk (below_step HW.out hb)
              clear hb
              go_wp2_with fail
              go_roundg (D.guards.length - (g + 1))
              case measure => have := HG2.out; omega
              case rel => exact ⟨g + 1, by go_num, by rw [HY.out], ⟨hg⟩, ⟨Nat.le_refl _⟩, HW7⟩
            · have hz : (o.f0 != (i : Int)) = true := by simpa using he
              have HY : Aside0 (bar D c i (g + 1) = false) := ⟨by rw [HBS.out, beq_eq_false_iff_ne.2 he]; rfl⟩
              clear he
              go_wp2_with fail
              go_roundg (D.guards.length - (g + 1))
              case measure => have := HG2.out; omega
              case rel => exact ⟨g + 1, by go_num, by rw [HY.out]; rfl, ⟨hg⟩, ⟨Nat.le_refl _⟩, HW⟩
        · have q0 : decide ((g : Int) < (D.guards.length : Int)) = false := by simpa using hg
          have q1 : decide (g < D.guards.length) = false := by simpa using hg
          have hin : g = D.guards.length := by have := HI2.out; omega
          rw [hin, bar_all] at HBB
          have HB' := Aside0.mk (below_step HB.out HW.out)
          have HF' := Aside0.mk (blk_below HF.out HW.out)
          have HR' := Aside0.mk (blk_below HR.out HW.out)
          have HP' := Aside0.mk (blk_below HP.out HW.out)
          have HN' := Aside0.mk (Kd.N_below HN.out HW.out)
          have HD' := Aside0.mk (Kd.N_below HD.out HW.out)
          have HQW' := Aside0.mk (Nat.le_trans HQW.out HW.out.size)
          clear HB HF HR HP HN HD HQW hin hg HI2 HG2 HW
          cases bb with
          | true =>
            have HY : Aside0 (pinst D c (i + 1) = pinst D c i) := ⟨by simp only [pinst]; rw [if_pos HBB.out.symm]⟩
            go_wp2_with fail
            go_roundg (D.insts.length - (i + 1))
            case measure => have := HG.out; omega
            case rel => exact ⟨i + 1, u, by go_num, ⟨hi⟩, ⟨Nat.le_refl _⟩, HB', HF', HR', HP', HQW', ⟨by rw [HY.out]; exact HN'.out⟩, HD'⟩
          | false =>
            have HY : Aside0 (pinst D c (i + 1) = pinst D c i ++ [rd_T105 D.insts (i : Int)]) := ⟨by simp only [pinst]; rw [if_neg (by rw [← HBB.out]; decide)]⟩
            have p0 : 0 ≤ (i : Int) := by omega
            have p1 : (i : Int) < (D.insts.length : Int) := by omega
            obtain ⟨ad, hA, hx0, hx1, hx2, hx3, hx4, hx5, hx6, hx7, hx8⟩ := at_T105 HFA.out.r2 (i : Int) p0 p1
            rw [Int.toNat_natCast] at hx0 hx1 hx2 hx3 hx4 hx5 hx6 hx7 hx8
            obtain ⟨x, hx⟩ : ∃ x, x = rd_T105 D.insts (i : Int) := ⟨_, rfl⟩
            rw [← hx] at hx0 hx1 hx2 hx3 hx4 hx5 hx6 hx7 hx8 HY
            have HAA := Aside0.mk hA
            have hun := pinst_length D c i
            obtain ⟨L, hL⟩ : ∃ L, L = pinst D c i := ⟨_, rfl⟩
            have HLL := Aside0.mk hL
            rw [← hL] at HY hun
            obtain ⟨M, hM⟩ : ∃ M, M = L ++ [x] := ⟨_, rfl⟩
            rw [← hM] at HY
            have HM := Aside0.mk hM
            clear hM hA hx hL
            go_upto_region 12 with (fail)
            refine start_ (n := 15) (S := fun w' => Below w.heap.size w w' ∧ w'.heap[w.heap.size]? = some (.cells (fcells D H) 41 (0, 0)) ∧ w'.heap[w.heap.size + 2]? = some (.cells (pcs D.nm (.slice H.A1 0 H.c1) u (.slice B3 D.dims.length d3) (.slice H.A4 0 H.c4) (.slice H.A5 0 H.c5)) 35 (0, 0))) (ds := [14]) #[false, false, false, false, false, false, false, false, false, false, false, false, false, false, false] (by kernel_rfl) rfl rfl ⟨below_drew HB'.out, blk_drew HF'.out, blk_drew HP'.out⟩ (fun hHeld => ?_)
            have HNd := Aside0.mk (Kd.N_drew HN'.out)
            have HDd := Aside0.mk (Kd.N_drew HD'.out)
            have HRd := Aside0.mk (blk_drew HR'.out)
            have HWR : Aside0 (Q ≤ wr.drew.heap.size) := ⟨Nat.le_trans HQW'.out (below_drew (Below.refl wr.heap.size wr)).size⟩
            rw [← HLL.out] at HNd
            generalize wr.drew = w19 at HNd HDd HRd HWR hHeld ⊢
            refine pure_ (i := 0) (N := some 59) (v := ?_) (a' := ?_) #[true, false, false, false, false, false, false, false, false, false, false, false, false, false, false] rfl rfl (by kernel_rfl) (fun _ _ _ h => h) (Or.inl ⟨by rfl, ?_⟩) ?_ ?_
            rotate_left
            · intro w'
              go_simp
              with_reducible rfl
            rotate_left
            · simp only [Act.put, List.setIfInBounds_toArray, List.set_cons_zero, List.set_cons_succ, i64_w, i32_w]
              rfl
            refine pure_ (i := 1) (N := some 60) (v := ?_) (a' := ?_) #[true, true, false, false, false, false, false, false, false, false, false, false, false, false, false] rfl rfl (by kernel_rfl) (fun _ _ _ h => h) (Or.inl ⟨by rfl, ?_⟩) ?_ ?_
            rotate_left
            · intro w'
              go_simp
              with_reducible rfl
            rotate_left
            · simp only [Act.put, List.setIfInBounds_toArray, List.set_cons_zero, List.set_cons_succ, i64_w, i32_w]
              rfl
            refine take_ (i := 2) (N := some 61) (v := ?_) (a' := ?_) #[true, true, true, false, false, false, false, false, false, false, false, false, false, false, false] rfl rfl (by kernel_rfl) (fun _ _ _ h => h) (Or.inl ⟨by rfl, ?_⟩) hHeld ?_ ?_
            rotate_left
            · intro w' hS
              obtain ⟨p0_, p1_, p2_, p3_, p4_, p5_⟩ := p_cells (g := w.heap.size + 1 + 1) hS.2.2
              go_simp
              with_reducible rfl
            rotate_left
            · simp only [Act.put, List.setIfInBounds_toArray, List.set_cons_zero, List.set_cons_succ, i64_w, i32_w]
              rfl
            refine pure_ (i := 3) (N := some 62) (v := ?_) (a' := ?_) #[true, true, true, true, false, false, false, false, false, false, false, false, false, false, false] rfl rfl (by kernel_rfl) (fun _ _ _ h => h) (Or.inl ⟨by rfl, ?_⟩) ?_ ?_
            rotate_left
            · intro w'
              go_simp
              with_reducible rfl
            rotate_left
            · simp only [Act.put, List.setIfInBounds_toArray, List.set_cons_zero, List.set_cons_succ, i64_w, i32_w]
              rfl
            refine pure_ (i := 4) (N := some 63) (v := ?_) (a' := ?_) #[true, true, true, true, true, false, false, false, false, false, false, false, false, false, false] rfl rfl (by kernel_rfl) (fun _ _ _ h => h) (Or.inl ⟨by rfl, ?_⟩) ?_ ?_
            rotate_left
            · intro w'
              go_simp
              with_reducible rfl
            rotate_left
            · simp only [Act.put, List.setIfInBounds_toArray, List.set_cons_zero, List.set_cons_succ, i64_w, i32_w]
              rfl
            refine pure_ (i := 5) (N := some 64) (v := ?_) (a' := ?_) #[true, true, true, true, true, true, false, false, false, false, false, false, false, false, false] rfl rfl (by kernel_rfl) (fun _ _ _ h => h) (Or.inl ⟨by rfl, ?_⟩) ?_ ?_
            rotate_left
            · intro w'
              go_simp
              with_reducible rfl
            rotate_left
            · simp only [Act.put, List.setIfInBounds_toArray, List.set_cons_zero, List.set_cons_succ, i64_w, i32_w]
              rfl
            refine take_ (i := 6) (N := some 65) (v := ?_) (a' := ?_) #[true, true, true, true, true, true, true, false, false, false, false, false, false, false, false] rfl rfl (by kernel_rfl) (fun _ _ _ h => h) (Or.inl ⟨by rfl, ?_⟩) hHeld ?_ ?_
            rotate_left
            · intro w' hS
              obtain ⟨k0, k1, k2, k3, k4, k5, k6, k7, k8, k9⟩ := box_cells hS.2.1
              rw [HAA.out] at k2
              go_simp
              with_reducible rfl
            rotate_left
            · simp only [Act.put, List.setIfInBounds_toArray, List.set_cons_zero, List.set_cons_succ, i64_w, i32_w]
              rfl
            refine pure_ (i := 7) (N := some 66) (v := ?_) (a' := ?_) #[true, true, true, true, true, true, true, true, false, false, false, false, false, false, false] rfl rfl (by kernel_rfl) (fun _ _ _ h => h) (Or.inl ⟨by rfl, ?_⟩) ?_ ?_
            rotate_left
            · intro w'
              go_simp
              with_reducible rfl
            rotate_left
            · simp only [Act.put, List.setIfInBounds_toArray, List.set_cons_zero, List.set_cons_succ, i64_w, i32_w]
              rfl
            refine pure_ (i := 8) (N := some 67) (v := ?_) (a' := ?_) #[true, true, true, true, true, true, true, true, true, false, false, false, false, false, false] rfl rfl (by kernel_rfl) (fun _ _ _ h => h) (Or.inl ⟨by rfl, ?_⟩) ?_ ?_
            rotate_left
            · intro w'
              go_simp
              with_reducible rfl
            rotate_left
            · simp only [Act.put, List.setIfInBounds_toArray, List.set_cons_zero, List.set_cons_succ, i64_w, i32_w]
              rfl
            refine take_ (i := 9) (N := some 68) (v := ?_) (a' := ?_) #[true, true, true, true, true, true, true, true, true, true, false, false, false, false, false] rfl rfl (by kernel_rfl) (fun _ _ _ h => h) (Or.inl ⟨by rfl, ?_⟩) hHeld ?_ ?_
            rotate_left
            · intro w' hS
              have y0_ := cell_keep hS.1 hx0
              have y1_ := cell_keep hS.1 hx1
              have y2_ := cell_keep hS.1 hx2
              have y3_ := cell_keep hS.1 hx3
              have y4_ := cell_keep hS.1 hx4
              have y5_ := cell_keep hS.1 hx5
              have y6_ := cell_keep hS.1 hx6
              have y7_ := cell_keep hS.1 hx7
              have y8_ := cell_keep hS.1 hx8
              go_simp
              with_reducible rfl
            rotate_left
            · simp only [Act.put, List.setIfInBounds_toArray, List.set_cons_zero, List.set_cons_succ, i64_w, i32_w]
              rfl
            refine one_ (i := 10) (N := some 69) #[true, true, true, true, true, true, true, true, true, true, true, false, false, false, false] rfl rfl (by kernel_rfl) (by decide) (fun K hK => ?_)
            refine value_ (w1 := ?_) (v := ?_) (by rfl) rfl ?_ ?_
            rotate_left 2
            · go_simp
              constructor
              · rfl
              · rfl
            refine hK.out _ _ ⟨below_alloc hHeld.1 _, blk_alloc hHeld.2.1 _, blk_alloc hHeld.2.2 _⟩ (fun hHeld2 => ?_)
            clear hK K
            refine norm_ (a' := ?_) ?_ ?_
            rotate_left
            · show Act.put _ (some 69) _ = _
              simp only [Act.put, List.setIfInBounds_toArray, List.set_cons_zero, List.set_cons_succ, i64_w, i32_w]
              rfl
            refine one_ (i := 11) (N := some 70) #[true, true, true, true, true, true, true, true, true, true, true, true, false, false, false] rfl rfl (by kernel_rfl) (by decide) (fun K hK => ?_)
            refine Kd.N_append_step k105 (w0 := w) w.heap.size (by rfl) (.tmp 61) (.tmp 69) 28 105 (.agg #[(.string ⟨#[]⟩), (.string ⟨#[]⟩), (.int .i64 0), (.int .i64 0), (.int .i64 0), (.int .i64 0), (.string ⟨#[]⟩), (.string ⟨#[]⟩), (.string ⟨#[]⟩)]) 112 rfl Try.underlying28 info105 rfl (by decide) (by decide) u L x [.string x.f0, .string x.f1, .int .i64 x.f2.f0.f0, .int .i64 x.f2.f0.f1, .int .i64 x.f2.f0.f2, .int .i64 x.f2.f0.f3, .string x.f2.f1.f0, .string x.f2.f1.f1, .string x.f2.f1.f2] (fun k => Q ≤ k) (fun _ => False) rfl rfl (fun W' _ => k105_K W' x) (fun _ hk => hk.elim) ?aF HNd.out hHeld.1 hHeld.1.size ?aL ?_
            (case aF => exact fun k hk => Nat.le_trans HWR.out hk)
            (case aL => omega)
            intro v1 w7 ho hb hg hat
            rw [← HM.out] at ho
            obtain ⟨A7, c7, hv7⟩ := Kd.N_slice ho
            subst hv7
            have hne : ∀ k, k < Q → some k ≠ u.ownBlock := fun k hk he => by have h : Q ≤ k := HNd.out.1 _ he.symm; omega
            have hf7 := (hg.block _ (blk_lt hHeld.2.1) (hne _ (by have := HQQ.out; omega))).trans hHeld.2.1
            have hp7 := (hg.block _ (blk_lt hHeld.2.2) (hne _ (by have := HQQ.out; omega))).trans hHeld.2.2
            have hr7 := (hg.block _ (blk_lt HRd.out) (hne _ (by have := HQQ.out; omega))).trans HRd.out
            have hd7 := Kd.N_step HDd.out (fun k hk hlt => hg.block k hlt (hne k hk.2))
            have hq7 : Q ≤ w7.heap.size := Nat.le_trans HWR.out hg.size
            have H7 := Aside0.mk (And.intro ho (And.intro hr7 (And.intro hd7 hq7)))
            refine hK.out _ _ ⟨hb, hf7, hp7⟩ (fun hHeld3 => ?_)
            clear hK K ho hr7 hd7 hf7 hp7 hb hg hat hne hq7
            refine norm_ (a' := ?_) ?_ ?_
            rotate_left
            · show Act.put _ (some 70) _ = _
              simp only [Act.put, List.setIfInBounds_toArray, List.set_cons_zero, List.set_cons_succ, i64_w, i32_w]
              rfl
            refine pure_ (i := 12) (N := some 71) (v := ?_) (a' := ?_) #[true, true, true, true, true, true, true, true, true, true, true, true, true, false, false] rfl rfl (by kernel_rfl) (fun _ _ _ h => h) (Or.inl ⟨by rfl, ?_⟩) ?_ ?_
            rotate_left
            · intro w'
              go_simp
              with_reducible rfl
            rotate_left
            · simp only [Act.put, List.setIfInBounds_toArray, List.set_cons_zero, List.set_cons_succ, i64_w, i32_w]
              rfl
            refine pure_ (i := 13) (N := some 72) (v := ?_) (a' := ?_) #[true, true, true, true, true, true, true, true, true, true, true, true, true, true, false] rfl rfl (by kernel_rfl) (fun _ _ _ h => h) (Or.inl ⟨by rfl, ?_⟩) ?_ ?_
            rotate_left
            · intro w'
              go_simp
              with_reducible rfl
            rotate_left
            · simp only [Act.put, List.setIfInBounds_toArray, List.set_cons_zero, List.set_cons_succ, i64_w, i32_w]
              rfl
            refine last_ (i := 14) (N := none) #[true, true, true, true, true, true, true, true, true, true, true, true, true, true, true] rfl rfl (by kernel_rfl) (by decide) (fun K hK => ?_)
            obtain ⟨p0_, p1_, p2_, p3_, p4_, p5_⟩ := p_cells (g := w.heap.size + 1 + 1) hHeld3.2.2
            have f2 : w7.frozen? ⟨w.heap.size + 1 + 1, 2, none⟩ = false := blk_frozen hHeld3.2.2 2
            refine skip_ (w1 := ?_) (by rfl) rfl ?_ ?_
            rotate_left
            · go_simp
              rfl
            refine hK.out _ _ ?_
            clear hK K p0_ p1_ p2_ p3_ p4_ p5_ f2
            refine done_ (by kernel_rfl) ?_
            go_wp2_with fail
            obtain ⟨ho, hr7, hd7, hq7⟩ := H7.out
            have hqq := HQQ.out
            go_roundg (D.insts.length - (i + 1))
            case measure => have := HG.out; omega
            case rel => exact ⟨i + 1, .slice A7 M.length c7, by go_num, ⟨hi⟩, ⟨Nat.le_refl _⟩, ⟨below_set hHeld3.1 (by omega)⟩, ⟨blk_far (p := ⟨w.heap.size + 1 + 1, 2, none⟩) hHeld3.2.1 (by show w.heap.size ≠ w.heap.size + 1 + 1; omega) _⟩, ⟨blk_far (p := ⟨w.heap.size + 1 + 1, 2, none⟩) hr7 (by show w.heap.size + 1 ≠ w.heap.size + 1 + 1; omega) _⟩, ⟨blk_put hHeld3.2.2 2 _ rfl⟩, ⟨by simpa using hq7⟩, ⟨by rw [HY.out]; exact Kd.N_far (p := ⟨w.heap.size + 1 + 1, 2, none⟩) ho (fun k hk => by have h : Q ≤ k := hk; show k ≠ w.heap.size + 1 + 1; omega) _⟩, ⟨Kd.N_far (p := ⟨w.heap.size + 1 + 1, 2, none⟩) hd7 (fun k hk => by show k ≠ w.heap.size + 1 + 1; omega) _⟩⟩
    · have q0 : decide ((i : Int) < (D.insts.length : Int)) = false := by simpa using hi
      have q1 : decide (i < D.insts.length) = false := by simpa using hi
      have hin : i = D.insts.length := by have := HI.out; omega
      rw [hin] at HN
      go_wp2_with fail
      clear k0 k1 k2 k3 k4 k5 k6 k7 k8 k9 hin q0 q1 hi HI HG
      go_loopg [9] D.overs.length (fun gk v9 w' => ∃ j : Nat, v9 = .int .i64 (j : Int) ∧ Aside0 (j ≤ D.overs.length) ∧ Aside0 (D.overs.length - j ≤ gk) ∧ Aside0 (Below w.heap.size w w') ∧ Aside0 (w'.heap[w.heap.size]? = some (.cells (fcells D H) 41 (0, 0))) ∧ Aside0 (w'.heap[w.heap.size + 1]? = some (.cells (pcs ⟨#[]⟩ (.slice none 0 0) (.slice none 0 0) (.slice none 0 0) (.slice none 0 0) (.slice none 0 0)) 35 (0, 0))) ∧ Aside0 (w'.heap[w.heap.size + 2]? = some (.cells (pcs D.nm (.slice H.A1 0 H.c1) u (.slice B3 D.dims.length d3) (.slice H.A4 0 H.c4) (.slice H.A5 0 H.c5)) 35 (0, 0))) ∧ Aside0 (Q ≤ w'.heap.size) ∧ Aside0 (Kd.N k105 105 w' w.heap.size (fun k => Q ≤ k) u (pinst D c D.insts.length)) ∧ Aside0 (Kd.N k81 81 w' w.heap.size (fun k => w.heap.size + 2 < k ∧ k < Q) (.slice B3 D.dims.length d3) (pdim D c j)))
      case atStart => exact ⟨0, rfl, ⟨Nat.zero_le _⟩, ⟨Nat.sub_le _ _⟩, HB, HF, HR, HP, HQW, HN, HD⟩
      case round =>
        clear HB HF HR HP HN HD HQW
        obtain ⟨j, rfl, HI, HG, HB, HF, HR, HP, HQW, HN, HD⟩ := hrel
        obtain ⟨k0, k1, k2, k3, k4, k5, k6, k7, k8, k9⟩ := box_cells HF.out
        by_cases hj : j < D.overs.length
        · have q0 : decide ((j : Int) < (D.overs.length : Int)) = true := by simpa using hj
          have q1 : decide (j < D.overs.length) = true := by simpa using hj
          have p0 : 0 ≤ (j : Int) := by omega
          have p1 : (j : Int) < (D.overs.length : Int) := by omega
          obtain ⟨ad, A0, c0, hA, hx0, hx1, hx2, hx3, hx4, hx5, hl0, hC0⟩ := at_T83 (Kd.C_below HFA.out.r9 HB.out) (j : Int) p0 p1
          rw [Int.toNat_natCast] at hx0 hx1 hx2 hx3 hx4 hx5
          obtain ⟨hlok, hll, hf0, hf1⟩ := HPW.out.ol j hj
          have hdl := pdim_length D c j
          have HY : Aside0 (pdim D c (j + 1) = if (rd_T83 D.overs (j : Int)).f0.any (nlit c) then pdim D c j else (pdim D c j).set (rd_T83 D.overs (j : Int)).f1.toNat (rd_T83 D.overs (j : Int)).f2) := ⟨rfl⟩
          obtain ⟨o, ho⟩ : ∃ o, o = rd_T83 D.overs (j : Int) := ⟨_, rfl⟩
          rw [← ho] at hx0 hx1 hx2 hx3 hx4 hx5 hl0 hC0 hlok hll hf0 hf1 HY
          clear ho
          obtain ⟨L, hL⟩ : ∃ L, L = pdim D c j := ⟨_, rfl⟩
          rw [← hL] at HY HD hdl
          have HDL := Aside0.mk hdl
          clear hL hdl
          have CH := Lib.hid (fun W (hW : Below wr.heap.size wr W) => CA.out A0 c0 o.f0 W (Kd.C_below hC0 hW) hl0 hlok hll)
          have HAA := Aside0.mk hA
          rw [hA] at k9
          clear hC0 hl0 hlok hll hA
          go_upto_region 17 with (fail)
          clear k0 k1 k2 k3 k4 k5 k6 k7 k8 k9 hx0 hx1 hx2 hx3 hx4 hx5 q0 q1
          obtain ⟨w4, hw4⟩ : ∃ W, W = wr.alloc (.cells #[.slice A0 o.f0.length c0, .int .i64 o.f1, .string o.f2.f0, .int .i64 o.f2.f1, .int .i64 o.f2.f2, .int .i64 o.f2.f3] 83) := ⟨_, rfl⟩
          have hb4 : Below wr.heap.size wr w4 := by rw [hw4]; exact below_alloc (Below.refl _ _) _
          have HX4 : Aside0 (w4.heap[wr.heap.size]? = some (.cells #[.slice A0 o.f0.length c0, .int .i64 o.f1, .string o.f2.f0, .int .i64 o.f2.f1, .int .i64 o.f2.f2, .int .i64 o.f2.f3] 83 (0, 0))) := ⟨by rw [hw4]; exact heap_alloc_new wr _⟩
          rw [← hw4]
          have CH4 := Lib.hid (CH.out w4 hb4)
          have HB4 := Aside0.mk hb4
          clear hb4 hw4
          have x0_ := (blk_cell HX4.out 0).trans rfl
          go_wp2_with fail
          clear x0_
          refine CH4.out.mono ?_
          rintro e w5 ⟨rfl, hb⟩
          have HX5 := Aside0.mk (blk_below HX4.out hb)
          have hbw := below_step HB4.out hb
          have HB5 := Aside0.mk (below_step HB.out hbw)
          have HF5 := Aside0.mk (blk_below HF.out hbw)
          have HR5 := Aside0.mk (blk_below HR.out hbw)
          have HP5 := Aside0.mk (blk_below HP.out hbw)
          have HQ5 := Aside0.mk (Nat.le_trans HQW.out hbw.size)
          have HN5 := Aside0.mk (Kd.N_below HN.out hbw)
          have HD5 := Aside0.mk (Kd.N_below HD.out hbw)
          clear hb hbw HX4 CH4 CH HB HF HR HP HN HD HQW HB4
          cases hbd : o.f0.any (nlit c) with
          | true =>
            have HZ : Aside0 (pdim D c (j + 1) = L) := ⟨by rw [HY.out, if_pos hbd]⟩
            clear hbd
            go_wp2_with fail
            go_roundg (D.overs.length - (j + 1))
            case measure => have := HG.out; omega
            case rel => exact ⟨j + 1, by go_num, ⟨hj⟩, ⟨Nat.le_refl _⟩, HB5, HF5, HR5, HP5, HQ5, HN5, ⟨by rw [HZ.out]; exact HD5.out⟩⟩
          | false =>
            have HZ : Aside0 (pdim D c (j + 1) = L.set o.f1.toNat o.f2) := ⟨by rw [HY.out, if_neg (by rw [hbd]; decide)]⟩
            clear hbd
            obtain ⟨g, hcap, hv, hgb, hgl, hgt⟩ := Kd.N_form HD5.out (by have := HDL.out; omega)
            obtain ⟨rfl, rfl⟩ : B3 = some ⟨g, 0, none⟩ ∧ d3 = hcap := by
              injection hv with e1 _ e3
              exact ⟨e1, e3⟩
            clear hv
            obtain ⟨cs, hcl, hFK, hcc, hfr⟩ := Kd.N_elem HD5.out z81 o.f1 hf0 (show o.f1 < ((D.dims.length : Nat) : Int) from hf1)
            have HSEG := Lib.hid (Kd.N_seg HD5.out o.f1 hf0 (show o.f1 < ((D.dims.length : Nat) : Int) from hf1) (c := cs) (seg := [.string o.f2.f0, .int .i64 o.f2.f1, .int .i64 o.f2.f2, .int .i64 o.f2.f3]) (j := 0) (x' := o.f2) (okp := fun _ => False) hcl hcc (Nat.le_refl 4) (by
              rw [List.take_zero, List.nil_append, List.drop_of_length_le (by rw [hcl]; exact Nat.le_refl 4), List.append_nil]
              exact fun W' _ => k81.K_of_M (k81_mkM W' 0 (fun _ => True) o.f2)) (fun _ hk => hk.elim))
            obtain rfl := k81_open (Kd.FK_now hFK)
            have y0 : w5.cell? ⟨g, o.f1.toNat * 4, none⟩ = some (.string (L.getD o.f1.toNat z81).f0) := hcc 0 _ rfl
            have z0 : w5.frozen? ⟨g, o.f1.toNat * 4, none⟩ = false := hfr 0
            have y1 : w5.cell? ⟨g, o.f1.toNat * 4 + 1, none⟩ = some (.int .i64 (L.getD o.f1.toNat z81).f1) := hcc 1 _ rfl
            have z1 : w5.frozen? ⟨g, o.f1.toNat * 4 + 1, none⟩ = false := hfr 1
            have y2 : w5.cell? ⟨g, o.f1.toNat * 4 + 2, none⟩ = some (.int .i64 (L.getD o.f1.toNat z81).f2) := hcc 2 _ rfl
            have z2 : w5.frozen? ⟨g, o.f1.toNat * 4 + 2, none⟩ = false := hfr 2
            have y3 : w5.cell? ⟨g, o.f1.toNat * 4 + 3, none⟩ = some (.int .i64 (L.getD o.f1.toNat z81).f3) := hcc 3 _ rfl
            have z3 : w5.frozen? ⟨g, o.f1.toNat * 4 + 3, none⟩ = false := hfr 3
            clear hcc hfr hcl hFK
            obtain ⟨p0_, p1_, p2_, p3_, p4_, p5_⟩ := p_cells (g := w.heap.size + 1 + 1) HP5.out
            have x1_ := (blk_cell HX5.out 1).trans rfl
            have x2_ := (blk_cell HX5.out 2).trans rfl
            have x3_ := (blk_cell HX5.out 3).trans rfl
            have x4_ := (blk_cell HX5.out 4).trans rfl
            have x5_ := (blk_cell HX5.out 5).trans rfl
            go_wp2_with fail
            clear p0_ p1_ p2_ p3_ p4_ p5_ x1_ x2_ x3_ x4_ x5_ y0 y1 y2 y3 z0 z1 z2 z3
            obtain ⟨ho, hgr⟩ := HSEG.out
            have hgk : w.heap.size + 2 < g ∧ g < Q := HD5.out.1 g rfl
            have hl5 := blk_lt HP5.out
            have hne : ∀ k, k ≠ g → some k ≠ some g := fun k h e => h (Option.some.inj e)
            go_roundg (D.overs.length - (j + 1))
            case measure => have := HG.out; omega
            case rel => exact ⟨j + 1, by go_num, ⟨hj⟩, ⟨Nat.le_refl _⟩, ⟨below_set (below_set (below_set (below_set HB5.out hgb) hgb) hgb) hgb⟩, ⟨(hgr.block _ (by omega) (hne _ (by omega))).trans HF5.out⟩, ⟨(hgr.block _ (by omega) (hne _ (by omega))).trans HR5.out⟩, ⟨(hgr.block _ (by omega) (hne _ (by omega))).trans HP5.out⟩, ⟨Nat.le_trans HQ5.out hgr.size⟩, ⟨Kd.N_step HN5.out (fun k hk hlt => hgr.block k hlt (hne k (by have h : Q ≤ k := hk; omega)))⟩, ⟨by rw [HZ.out]; exact ho⟩⟩
        · have q0 : decide ((j : Int) < (D.overs.length : Int)) = false := by simpa using hj
          have q1 : decide (j < D.overs.length) = false := by simpa using hj
          have hin : j = D.overs.length := by have := HI.out; omega
          rw [hin] at HD
          obtain ⟨A7, c7, hv7⟩ := Kd.N_slice HN.out
          subst hv7
          have hqq := HQQ.out
          obtain ⟨p0_, p1_, p2_, p3_, p4_, p5_⟩ := p_cells (g := w.heap.size + 1 + 1) HP.out
          obtain ⟨z0, z1, z2, z3, z4, z5⟩ := p_cells HR.out
          have g0 := blk_frozen HR.out 0
          have g1 := blk_frozen HR.out 1
          have g2 := blk_frozen HR.out 2
          have g3 := blk_frozen HR.out 3
          have g4 := blk_frozen HR.out 4
          have g5 := blk_frozen HR.out 5
          clear hin hj
          go_wp2_with fail
          clear p0_ p1_ p2_ p3_ p4_ p5_ z0 z1 z2 z3 z4 z5 g0 g1 g2 g3 g4 g5
          have h0 := blk_put HR.out 0 (.string D.nm) rfl
          have h1 := blk_put h0 1 (.slice H.A1 0 H.c1) rfl
          have h2 := blk_put h1 2 (.slice A7 (pinst D c D.insts.length).length c7) rfl
          have h3 := blk_put h2 3 (.slice B3 D.dims.length d3) rfl
          have h4 := blk_put h3 4 (.slice H.A4 0 H.c4) rfl
          have h5 := blk_put h4 5 (.slice H.A5 0 H.c5) rfl
          have hbl : Below w.heap.size w _ := (below_set (below_set (below_set (below_set (below_set (below_set HB.out (g := w.heap.size + 1) (j := 0) (v := (.string D.nm)) (Nat.le_succ _)) (g := w.heap.size + 1) (j := 1) (v := (.slice H.A1 0 H.c1)) (Nat.le_succ _)) (g := w.heap.size + 1) (j := 2) (v := (.slice A7 (pinst D c D.insts.length).length c7)) (Nat.le_succ _)) (g := w.heap.size + 1) (j := 3) (v := (.slice B3 D.dims.length d3)) (Nat.le_succ _)) (g := w.heap.size + 1) (j := 4) (v := (.slice H.A4 0 H.c4)) (Nat.le_succ _)) (g := w.heap.size + 1) (j := 5) (v := (.slice H.A5 0 H.c5)) (Nat.le_succ _))
          have hfarI : ∀ k, Q ≤ k → k ≠ w.heap.size + 1 := fun k hk => by omega
          have hfarD : ∀ k, (w.heap.size + 2 < k ∧ k < Q) → k ≠ w.heap.size + 1 := fun k hk => by omega
          have HI9 := (Kd.N_far (p := ⟨w.heap.size + 1, 5, none⟩) (Kd.N_far (p := ⟨w.heap.size + 1, 4, none⟩) (Kd.N_far (p := ⟨w.heap.size + 1, 3, none⟩) (Kd.N_far (p := ⟨w.heap.size + 1, 2, none⟩) (Kd.N_far (p := ⟨w.heap.size + 1, 1, none⟩) (Kd.N_far (p := ⟨w.heap.size + 1, 0, none⟩) HN.out hfarI (.string D.nm)) hfarI (.slice H.A1 0 H.c1)) hfarI (.slice A7 (pinst D c D.insts.length).length c7)) hfarI (.slice B3 D.dims.length d3)) hfarI (.slice H.A4 0 H.c4)) hfarI (.slice H.A5 0 H.c5))
          have HD9 := (Kd.N_far (p := ⟨w.heap.size + 1, 5, none⟩) (Kd.N_far (p := ⟨w.heap.size + 1, 4, none⟩) (Kd.N_far (p := ⟨w.heap.size + 1, 3, none⟩) (Kd.N_far (p := ⟨w.heap.size + 1, 2, none⟩) (Kd.N_far (p := ⟨w.heap.size + 1, 1, none⟩) (Kd.N_far (p := ⟨w.heap.size + 1, 0, none⟩) HD.out hfarD (.string D.nm)) hfarD (.slice H.A1 0 H.c1)) hfarD (.slice A7 (pinst D c D.insts.length).length c7)) hfarD (.slice B3 D.dims.length d3)) hfarD (.slice H.A4 0 H.c4)) hfarD (.slice H.A5 0 H.c5))
          refine bodyPost_ret (results_cell_row rfl _ _ (w.heap.size + 1) 35 _ (0, 0) _ rfl h5 Try.underlying35 rfl (by kernel_rfl)) rfl ?_
          exact ⟨_, rfl, ⟨H.A1, A7, H.A4, H.A5, H.c1, c7, H.c4, H.c5, B3, d3, by rw [pdim_length]; rfl, (Kd.N_reads' HI9).2.2, (Kd.N_reads' HI9).2.1, (Kd.N_reads' HD9).2.2, by rw [pdim_length]; exact (Kd.N_reads' HD9).2.1⟩, hbl⟩
end Go.Proofs.Ytbnmdlnpfikkcaa.PX
/- sameProduct of two products of the same content. -/
namespace Go.Proofs.Ytbnmdlnpfikkcaa.PX
open Go.RowKit Go.Proofs.YtbnmdlnpfikkcaaW.PrintWords Go.Proofs.YtbnmdlnpfikkcaaW.PrintLast Go.Proofs.YtbnmdlnpfikkcaaW.PrintMore
set_option linter.unusedVariables false
set_option linter.unusedSimpArgs false
attribute [local go_sem high] eqA81 eqA105
set_option maxHeartbeats 2000000 in
set_option maxRecDepth 100000 in
theorem same_calls (cs ds : Array Value) (nm : ByteArray) (I : List S105) (Dm : List S81) (w : World) (h1 : PAt w cs nm I Dm) (h2 : PAt w ds nm I Dm) (hi : I.length < 1000) (hd : Dm.length < 1000) :
    Calls Try.prog 35 #[.agg cs, .agg ds] w fun e w' => e = .returned (.bool true) ∧ Below w.heap.size w w' := by
  have hu35 := Try.underlying35
  have hu105 := Try.underlying105
  have hu81 := Try.underlying81
  obtain ⟨B1, B2, B4, B5, d1, d2, d4, d5, B3, d3, rfl, r2, l2, r3, l3⟩ := h1
  obtain ⟨C1, C2, C4, C5, c1, c2, c4, c5, C3, c3, rfl, s2, m2, s3, m3⟩ := h2
  have HR2 := Aside0.mk r2
  have HR3 := Aside0.mk r3
  have HS2 := Aside0.mk s2
  have HS3 := Aside0.mk s3
  clear r2 l2 r3 l3 s2 m2 s3 m3
  obtain ⟨w1, hw1⟩ : ∃ w1, w1 = (w.alloc (.cells (pcs nm (.slice B1 0 d1) (.slice B2 I.length d2) (.slice B3 Dm.length d3) (.slice B4 0 d4) (.slice B5 0 d5)) 35)).alloc (.cells (pcs nm (.slice C1 0 c1) (.slice C2 I.length c2) (.slice C3 Dm.length c3) (.slice C4 0 c4) (.slice C5 0 c5)) 35) := ⟨_, rfl⟩
  have e1 : (w.alloc (.cells (pcs nm (.slice B1 0 d1) (.slice B2 I.length d2) (.slice B3 Dm.length d3) (.slice B4 0 d4) (.slice B5 0 d5)) 35)).heap.size = w.heap.size + 1 := by simp
  have HB : Aside0 (Below w.heap.size w w1) := ⟨by rw [hw1]; exact below_alloc (below_alloc (Below.refl _ _) _) _⟩
  have HP : Aside0 (w1.heap[w.heap.size]? = some (.cells (pcs nm (.slice B1 0 d1) (.slice B2 I.length d2) (.slice B3 Dm.length d3) (.slice B4 0 d4) (.slice B5 0 d5)) 35 (0, 0))) := ⟨by rw [hw1]; exact blk_alloc (heap_alloc_new w _) _⟩
  have HQ : Aside0 (w1.heap[w.heap.size + 1]? = some (.cells (pcs nm (.slice C1 0 c1) (.slice C2 I.length c2) (.slice C3 Dm.length c3) (.slice C4 0 c4) (.slice C5 0 c5)) 35 (0, 0))) := ⟨by
    have h := heap_alloc_new (w.alloc (.cells (pcs nm (.slice B1 0 d1) (.slice B2 I.length d2) (.slice B3 Dm.length d3) (.slice B4 0 d4) (.slice B5 0 d5)) 35)) (.cells (pcs nm (.slice C1 0 c1) (.slice C2 I.length c2) (.slice C3 Dm.length c3) (.slice C4 0 c4) (.slice C5 0 c5)) 35)
    rw [e1] at h
    rw [hw1]; exact h⟩
  clear e1
  unfold pcs at hw1 ⊢
  go_enter Try.func35, Try.ntmps35
  go_upto_region 1 with (fail)
  rw [← hw1]
  clear hw1
  obtain ⟨p0_, p1_, p2_, p3_, p4_, p5_⟩ := p_cells HP.out
  obtain ⟨q0_, q1_, q2_, q3_, q4_, q5_⟩ := p_cells HQ.out
  go_wp2_with fail
  clear p0_ p1_ p2_ p3_ p4_ p5_ q0_ q1_ q2_ q3_ q4_ q5_
  go_loopg [5] I.length (fun gk v5 w' => ∃ i : Nat, v5 = .int .i64 (i : Int) ∧ Aside0 (i ≤ I.length) ∧ Aside0 (I.length - i ≤ gk) ∧ Aside0 (Below w1.heap.size w1 w'))
  case atStart => exact ⟨0, rfl, ⟨Nat.zero_le _⟩, ⟨Nat.sub_le _ _⟩, ⟨Below.refl _ _⟩⟩
  case round =>
    obtain ⟨i, rfl, HI, HG, HW⟩ := hrel
    obtain ⟨p0_, p1_, p2_, p3_, p4_, p5_⟩ := p_cells (blk_below HP.out HW.out)
    obtain ⟨q0_, q1_, q2_, q3_, q4_, q5_⟩ := p_cells (blk_below HQ.out HW.out)
    by_cases hlt : i < I.length
    · have z0 : decide ((i : Int) < (I.length : Int)) = true := by simpa using hlt
      have z1 : decide (i < I.length) = true := by simpa using hlt
      have o0 : 0 ≤ (i : Int) := by omega
      have o1 : (i : Int) < (I.length : Int) := by omega
      obtain ⟨ad1, hA1, x0_, x1_, x2_, x3_, x4_, x5_, x6_, x7_, x8_⟩ := at_T105 (Kd.C_below (Kd.C_below HR2.out HB.out) HW.out) (i : Int) o0 o1
      obtain ⟨ad2, hA2, y0_, y1_, y2_, y3_, y4_, y5_, y6_, y7_, y8_⟩ := at_T105 (Kd.C_below (Kd.C_below HS2.out HB.out) HW.out) (i : Int) o0 o1
      rw [Int.toNat_natCast] at x0_ x1_ x2_ x3_ x4_ x5_ x6_ x7_ x8_ y0_ y1_ y2_ y3_ y4_ y5_ y6_ y7_ y8_
      subst hA1 hA2
      obtain ⟨x, hx⟩ : ∃ x, x = rd_T105 I (i : Int) := ⟨_, rfl⟩
      rw [← hx] at x0_ x1_ x2_ x3_ x4_ x5_ x6_ x7_ x8_ y0_ y1_ y2_ y3_ y4_ y5_ y6_ y7_ y8_
      clear hx
      go_upto_region 6 with (fail)
      go_quiet (fail)
      go_wp2_with fail
      go_roundg (I.length - (i + 1))
      case measure => have := HG.out; omega
      case rel => exact ⟨i + 1, by go_num, ⟨hlt⟩, ⟨Nat.le_refl _⟩, ⟨pw_below_drewN HW.out _⟩⟩
    · have z0 : decide ((i : Int) < (I.length : Int)) = false := by simpa using hlt
      have z1 : decide (i < I.length) = false := by simpa using hlt
      clear hlt
      go_wp2_with fail
      clear p0_ p1_ p2_ p3_ p4_ p5_ q0_ q1_ q2_ q3_ q4_ q5_
      go_loopg [6] Dm.length (fun gk v6 w' => ∃ i : Nat, v6 = .int .i64 (i : Int) ∧ Aside0 (i ≤ Dm.length) ∧ Aside0 (Dm.length - i ≤ gk) ∧ Aside0 (Below w1.heap.size w1 w'))
      case atStart => exact ⟨0, rfl, ⟨Nat.zero_le _⟩, ⟨Nat.sub_le _ _⟩, HW⟩
      case round =>
        obtain ⟨i, rfl, HI, HG, HW⟩ := hrel
        obtain ⟨p0_, p1_, p2_, p3_, p4_, p5_⟩ := p_cells (blk_below HP.out HW.out)
        obtain ⟨q0_, q1_, q2_, q3_, q4_, q5_⟩ := p_cells (blk_below HQ.out HW.out)
        by_cases hlt : i < Dm.length
        · have z0 : decide ((i : Int) < (Dm.length : Int)) = true := by simpa using hlt
          have z1 : decide (i < Dm.length) = true := by simpa using hlt
          have o0 : 0 ≤ (i : Int) := by omega
          have o1 : (i : Int) < (Dm.length : Int) := by omega
          obtain ⟨ad1, hA1, x0_, x1_, x2_, x3_⟩ := at_T81 (Kd.C_below (Kd.C_below HR3.out HB.out) HW.out) (i : Int) o0 o1
          obtain ⟨ad2, hA2, y0_, y1_, y2_, y3_⟩ := at_T81 (Kd.C_below (Kd.C_below HS3.out HB.out) HW.out) (i : Int) o0 o1
          rw [Int.toNat_natCast] at x0_ x1_ x2_ x3_ y0_ y1_ y2_ y3_
          subst hA1 hA2
          obtain ⟨x, hx⟩ : ∃ x, x = rd_T81 Dm (i : Int) := ⟨_, rfl⟩
          rw [← hx] at x0_ x1_ x2_ x3_ y0_ y1_ y2_ y3_
          clear hx
          go_upto_region 11 with (fail)
          go_quiet (fail)
          go_wp2_with fail
          go_roundg (Dm.length - (i + 1))
          case measure => have := HG.out; omega
          case rel => exact ⟨i + 1, by go_num, ⟨hlt⟩, ⟨Nat.le_refl _⟩, ⟨pw_below_drewN HW.out _⟩⟩
        · have z0 : decide ((i : Int) < (Dm.length : Int)) = false := by simpa using hlt
          have z1 : decide (i < Dm.length) = false := by simpa using hlt
          clear hlt
          go_wp2_with fail
          clear p0_ p1_ p2_ p3_ p4_ p5_ q0_ q1_ q2_ q3_ q4_ q5_
          go_loopg [7] 0 (fun gk v7 w' => v7 = .int .i64 0 ∧ Aside0 (Below w1.heap.size w1 w'))
          case atStart => exact ⟨rfl, HW⟩
          case round =>
            obtain ⟨rfl, HW⟩ := hrel
            obtain ⟨p0_, p1_, p2_, p3_, p4_, p5_⟩ := p_cells (blk_below HP.out HW.out)
            go_wp2_with fail
            go_ret
            exact ⟨rfl, below_step HB.out HW.out⟩
end Go.Proofs.Ytbnmdlnpfikkcaa.PX
/- Products' law: the calls, as the law wants them. -/
namespace Go.Proofs.Ytbnmdlnpfikkcaa.PX
open Go.RowKit Go.Proofs.YtbnmdlnpfikkcaaW.PrintWords Go.Proofs.YtbnmdlnpfikkcaaW.PrintLast Go.Proofs.YtbnmdlnpfikkcaaW.PrintMore
set_option linter.unusedVariables false
set_option linter.unusedSimpArgs false
/-- The product of a configuration, or nothing where it is not allowed. -/
def prA (D : Fam) (c : Nat) : Bool := decide (idxP (fun x => !satR c x) D.rules < 0)
def prN (D : Fam) (c : Nat) : ByteArray := if prA D c then D.nm else ⟨#[]⟩
def prI (D : Fam) (c : Nat) : List S105 := if prA D c then pinst D c D.insts.length else []
def prD (D : Fam) (c : Nat) : List S81 := if prA D c then pdim D c D.overs.length else []
def prE (D : Fam) (c : Nat) : Int := if prA D c then 0 else 17
/-- What the law's family is. -/
structure FW (D : Fam) : Prop where
  n1 : 1 ≤ D.opts.length
  n6 : D.opts.length ≤ 6
  ck : chk D = 0
  ru : ∀ r ∈ D.rules, LitsIn D.opts.length r.f1
  sm : Small D
  op : D.opts = optsF D.opts.length
  pw : PW D D.opts.length
  p0 : D.parts = []
  c0 : D.cons = []
  q0 : D.reqs = []
theorem zero_ft (w : World) (base : Nat) : PFt w base zeroP ⟨#[]⟩ [] [] :=
  ⟨none, none, none, none, 0, 0, 0, 0, none, 0, rfl, Kd.N_nil _ _ _ _ _, Kd.N_nil _ _ _ _ _⟩
theorem prodK_calls (D : Fam) (H : Hd) (k : Nat) (A : Option Addr) (cp : Nat) (w : World) (HF : FamAt w D H) (hw : FW D) (hk : k < 2 ^ D.opts.length)
    (hr : Kd.C Kd.string w A (cnames (cfg D.opts.length k) D.opts).length (cnames (cfg D.opts.length k) D.opts)) (hc : (cnames (cfg D.opts.length k) D.opts).length ≤ cp) :
    Calls Try.prog 34 #[fv D H, .slice A (cnames (cfg D.opts.length k) D.opts).length cp] w fun e w' => ∃ cs, e = .returned (.tuple #[.agg cs, .int .i64 (prE D (cfg D.opts.length k))]) ∧ PFt w' w.heap.size cs (prN D (cfg D.opts.length k)) (prI D (cfg D.opts.length k)) (prD D (cfg D.opts.length k)) ∧ Below w.heap.size w w' := by
  have hE := names_E hw.n6 hk
  rw [← hw.op] at hE
  have hOS : OptsSz D := by unfold OptsSz; rw [hw.op]; exact optsF_sz hw.n6
  have hnin : ∀ x ∈ cnames (cfg D.opts.length k) D.opts, x.size ≤ maxLen := fun x hx => hOS x (cn_in _ _ _ (Nat.le_refl _) x hx)
  have hnl : (cnames (cfg D.opts.length k) D.opts).length ≤ 100 := by have := cn_length (cfg D.opts.length k) D.opts D.opts.length; have := hw.n6; unfold cnames; omega
  have il := hw.pw.il
  have dl := hw.pw.dl
  have on := hw.pw.on
  by_cases h : idxP (fun x => !satR (cfg D.opts.length k) x) D.rules < 0
  · have ha : prA D (cfg D.opts.length k) = true := by unfold prA; rw [decide_eq_true h]
    refine (product_yes D H A cp _ w HF hw.ck hr hc hOS hnin hnl hE.1 hw.p0 hw.c0 hw.q0 (by omega) (by omega) (by omega) (fun g hg => ?_) (fun j hj => ?_) (by rw [hE.2]; exact h)).mono ?_
    · obtain ⟨j, hj, e⟩ := rd79_of hg
      have := (hw.pw.gl j hj).1
      rw [e] at this
      exact this.ok (by have := hw.n6; omega)
    · obtain ⟨h1, h2, h3, h4⟩ := hw.pw.ol j hj
      exact ⟨h1.ok (by have := hw.n6; omega), h3, h4⟩
    · rintro e w' ⟨cs, rfl, h1, h2⟩
      rw [hE.2] at h1
      refine ⟨cs, by unfold prE; rw [if_pos ha], ?_, h2⟩
      unfold prN prI prD
      rw [if_pos ha, if_pos ha, if_pos ha]
      exact h1
  · have ha : prA D (cfg D.opts.length k) = false := by unfold prA; rw [decide_eq_false h]
    refine (product_no D H A cp _ w HF hw.ck hr hc hOS hnin hnl hE.1 (by rw [hE.2]; omega)).mono ?_
    rintro e w' ⟨rfl, hb⟩
    refine ⟨zeroP, by unfold prE; rw [ha, if_neg (by decide)], ?_, hb⟩
    unfold prN prI prD
    rw [ha, if_neg (by decide), if_neg (by decide), if_neg (by decide)]
    exact zero_ft _ _
theorem refP_calls (D : Fam) (H : Hd) (k : Nat) (w : World) (HF : FamAt w D H) (hw : FW D) (hk : k < 2 ^ D.opts.length) :
    Calls Try.prog 36 #[fv D H, .int .i64 ((setOf D.opts.length k : Nat) : Int)] w fun e w' => ∃ cs, e = .returned (.agg cs) ∧ PAt w' cs D.nm (pinst D (cfg D.opts.length k) D.insts.length) (pdim D (cfg D.opts.length k) D.overs.length) ∧ Below w.heap.size w w' :=
  refP0_calls D H D.opts.length k w HF hw.n6 hk hw.pw hw.p0 hw.c0 hw.q0
theorem pr_small {D : Fam} (hw : FW D) (c : Nat) : (prI D c).length < 1000 ∧ (prD D c).length < 1000 := by
  have il := hw.pw.il
  have dl := hw.pw.dl
  have h1 := pinst_length D c D.insts.length
  have h2 := pdim_length D c D.overs.length
  unfold prI prD
  cases prA D c
  · exact ⟨by show ([] : List S105).length < 1000; decide, by show ([] : List S81).length < 1000; decide⟩
  · exact ⟨by show (pinst D c D.insts.length).length < 1000; omega, by show (pdim D c D.overs.length).length < 1000; omega⟩
/-- A product whose rows lie apart from one block. -/
def SepAt (W : World) (gb : Nat) (cs : Array Value) (nm : ByteArray) (I : List S105) (Dm : List S81) : Prop :=
  ∃ B1 B2 B4 B5 d1 d2 d4 d5 B3 d3, cs = #[.string nm, .slice B1 0 d1, .slice B2 I.length d2, .slice B3 Dm.length d3, .slice B4 0 d4, .slice B5 0 d5] ∧ I.length ≤ d2 ∧ Dm.length ≤ d3 ∧ ∀ W' : World, (∀ k, k ≠ gb → W'.heap[k]? = W.heap[k]?) → Kd.C k105 W' B2 I.length I ∧ Kd.C k81 W' B3 Dm.length Dm
theorem sep_old {W : World} {base gb : Nat} {cs : Array Value} {nm : ByteArray} {I : List S105} {Dm : List S81} (h : PFt W base cs nm I Dm) (hg : gb < base) : SepAt W gb cs nm I Dm := by
  obtain ⟨B1, B2, B4, B5, d1, d2, d4, d5, B3, d3, e, h1, h2⟩ := h
  refine ⟨B1, B2, B4, B5, d1, d2, d4, d5, B3, d3, e, (Kd.N_reads' h1).2.1, (Kd.N_reads' h2).2.1, fun W' hW => ?_⟩
  have hm : ∀ k, base ≤ k → k < W.heap.size → W'.heap[k]? = W.heap[k]? := fun k hk _ => hW k (by omega)
  exact ⟨(Kd.N_reads' (Kd.N_step h1 hm)).2.2, (Kd.N_reads' (Kd.N_step h2 hm)).2.2⟩
theorem sep_new {W0 W : World} {gb : Nat} {cs : Array Value} {nm : ByteArray} {I : List S105} {Dm : List S81} (h : PAt W0 cs nm I Dm) (hb : Below W0.heap.size W0 W) (hg : W0.heap.size ≤ gb) : SepAt W gb cs nm I Dm := by
  obtain ⟨B1, B2, B4, B5, d1, d2, d4, d5, B3, d3, e, h1, h2, h3, h4⟩ := h
  refine ⟨B1, B2, B4, B5, d1, d2, d4, d5, B3, d3, e, h2, h4, fun W' hW => ?_⟩
  have hm : ∀ k, k < W0.heap.size → k < W0.heap.size → W'.heap[k]? = W0.heap[k]? := fun k hk _ => (hW k (by omega)).trans (hb.block k hk)
  exact ⟨foot105 h1 W' hm, foot81 h3 W' hm⟩
theorem put_prod {w0 W : World} {g : Nat} {nm : ByteArray} {v1 v2 v3 v4 v5 : Value} (hb : Below w0.heap.size w0 W) (hg : w0.heap.size ≤ g) (hz : W.heap[g]? = some (.cells zeroP 35 (0, 0))) :
    ((((((W.setCell ⟨g, 0, none⟩ (.string nm)).setCell ⟨g, 1, none⟩ v1).setCell ⟨g, 2, none⟩ v2).setCell ⟨g, 3, none⟩ v3).setCell ⟨g, 4, none⟩ v4).setCell ⟨g, 5, none⟩ v5).heap[g]? = some (.cells #[.string nm, v1, v2, v3, v4, v5] 35 (0, 0)) ∧
    Below w0.heap.size w0 ((((((W.setCell ⟨g, 0, none⟩ (.string nm)).setCell ⟨g, 1, none⟩ v1).setCell ⟨g, 2, none⟩ v2).setCell ⟨g, 3, none⟩ v3).setCell ⟨g, 4, none⟩ v4).setCell ⟨g, 5, none⟩ v5) ∧
    ∀ k, k ≠ g → ((((((W.setCell ⟨g, 0, none⟩ (.string nm)).setCell ⟨g, 1, none⟩ v1).setCell ⟨g, 2, none⟩ v2).setCell ⟨g, 3, none⟩ v3).setCell ⟨g, 4, none⟩ v4).setCell ⟨g, 5, none⟩ v5).heap[k]? = W.heap[k]? := by
  have h0 := blk_put hz 0 (.string nm) rfl
  have h1 := blk_put h0 1 v1 rfl
  have h2 := blk_put h1 2 v2 rfl
  have h3 := blk_put h2 3 v3 rfl
  have h4 := blk_put h3 4 v4 rfl
  have h5 := blk_put h4 5 v5 rfl
  refine ⟨h5, below_set (below_set (below_set (below_set (below_set (below_set hb hg) hg) hg) hg) hg) hg, fun k hk => ?_⟩
  rw [Below.heap_setCell _ _ _ _ hk, Below.heap_setCell _ _ _ _ hk, Below.heap_setCell _ _ _ _ hk, Below.heap_setCell _ _ _ _ hk, Below.heap_setCell _ _ _ _ hk, Below.heap_setCell _ _ _ _ hk]
theorem seen_snoc {D : Fam} {SQ : List Int} {sv : Int} {k : Nat} (h : ∀ j : Nat, j < SQ.length → ∃ k, k < 2 ^ D.opts.length ∧ prA D (cfg D.opts.length k) = true ∧ rd SQ (j : Int) = ((setOf D.opts.length k : Nat) : Int)) (hk : k < 2 ^ D.opts.length) (ha : prA D (cfg D.opts.length k) = true) (hs : sv = ((setOf D.opts.length k : Nat) : Int)) :
    ∀ j : Nat, j < (SQ ++ [sv]).length → ∃ k, k < 2 ^ D.opts.length ∧ prA D (cfg D.opts.length k) = true ∧ rd (SQ ++ [sv]) (j : Int) = ((setOf D.opts.length k : Nat) : Int) := by
  intro j hj
  rw [List.length_append] at hj
  by_cases e : j < SQ.length
  · obtain ⟨k2, h1, h2, h3⟩ := h j e
    refine ⟨k2, h1, h2, ?_⟩
    rw [← h3]
    unfold rd
    rw [Int.toNat_natCast, List.getD_eq_getElem?_getD, List.getD_eq_getElem?_getD, List.getElem?_append_left e]
  · obtain rfl : j = SQ.length := by simp at hj; omega
    refine ⟨k, hk, ha, ?_⟩
    rw [← hs]
    unfold rd
    rw [Int.toNat_natCast, List.getD_eq_getElem?_getD, List.getElem?_append_right (Nat.le_refl _)]
    simp
end Go.Proofs.Ytbnmdlnpfikkcaa.PX
