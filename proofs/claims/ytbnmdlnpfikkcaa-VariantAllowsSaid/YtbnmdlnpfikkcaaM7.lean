/- The reference's functions in plain lists, and its sets against the program's configurations. -/
import Derived.Test.YtbnmdlnpfikkcaaM5
import Derived.Test.YtbnmdlnpfikkcaaM6
/- The reference's functions, told in plain lists. -/
namespace Go.Proofs.Ytbnmdlnpfikkcaa.PX
open Go.RowKit Go.Proofs.YtbnmdlnpfikkcaaW.PrintWords Go.Proofs.YtbnmdlnpfikkcaaW.PrintLast Go.Proofs.YtbnmdlnpfikkcaaW.PrintMore
set_option linter.unusedVariables false
set_option linter.unusedSimpArgs false
/-- Option i of a set. -/
def refOn (s : Int) (i : Int) : Bool := (Go.bits .and .i64 (shr .i64 s i) 1) == 1
def holdsR (s : Int) (x : S62) : Bool := refOn s x.f0 == x.f1
theorem rd62_drop {l : List S62} {i : Nat} (h : i < l.length) : l.drop i = rd_T62 l i :: l.drop (i + 1) := by
  rw [List.drop_eq_getElem_cons h]
  congr 1
  unfold rd_T62
  rw [Int.toNat_natCast, List.getD_eq_getElem?_getD, List.getElem?_eq_getElem h]
  rfl
theorem rd62_in {l : List S62} {i : Nat} (h : i < l.length) : rd_T62 l i ∈ l := by
  unfold rd_T62
  rw [Int.toNat_natCast, List.getD_eq_getElem?_getD, List.getElem?_eq_getElem h]
  exact List.getElem_mem h
theorem wrap_succ (i : Nat) (h : i < 100000) : wrap64 ((i : Int) + 1) = ((i + 1 : Nat) : Int) := by unfold wrap64; omega
def Pos (l : List S62) : Prop := ∀ x ∈ l, 0 ≤ x.f0
theorem holds_f {x : S62} {s : Int} (h : 0 ≤ x.f0) : dowellaw48_holds.f x.f0 x.f1 s = some (holdsR s x) := by
  unfold dowellaw48_holds.f
  rw [if_pos h]
  rfl
theorem all_from (l : List S62) (s : Int) (hp : Pos l) (hl : l.length < 100000) (d : Nat) : ∀ (K i : Nat), i + d = l.length → d < K → dowellaw48_all.l0 K l s i = some ((l.drop i).all (holdsR s)) := by
  induction d with
  | zero =>
    intro K i hi hK
    obtain ⟨K, rfl⟩ : ∃ m, K = m + 1 := ⟨K - 1, by omega⟩
    simp only [dowellaw48_all.l0]
    rw [if_neg (by omega), List.drop_eq_nil_of_le (by omega)]
    rfl
  | succ d ih =>
    intro K i hi hK
    obtain ⟨K, rfl⟩ : ∃ m, K = m + 1 := ⟨K - 1, by omega⟩
    have hlt : i < l.length := by omega
    simp only [dowellaw48_all.l0]
    rw [if_pos (by omega), if_pos (by omega), holds_f (hp _ (rd62_in hlt)), Option.bind_some, wrap_succ i (by omega), rd62_drop hlt, List.all_cons]
    cases h : holdsR s (rd_T62 l i) with
    | true => rw [if_pos rfl, Bool.true_and]; exact ih K (i + 1) (by omega) (by omega)
    | false => rw [if_neg (by decide), Bool.false_and]
theorem all_f {l : List S62} {s : Int} {K : Nat} (hp : Pos l) (hl : l.length < 100000) (hK : l.length < K) : dowellaw48_all.f K l s = some (l.all (holdsR s)) := by
  have := all_from l s hp hl l.length K 0 (by omega) hK
  rwa [List.drop_zero] at this
theorem one_from (l : List S62) (s : Int) (hp : Pos l) (hl : l.length < 100000) (d : Nat) : ∀ (K i : Nat), i + d = l.length → d < K → dowellaw48_one.l0 K l s i = some ((l.drop i).any (holdsR s)) := by
  induction d with
  | zero =>
    intro K i hi hK
    obtain ⟨K, rfl⟩ : ∃ m, K = m + 1 := ⟨K - 1, by omega⟩
    simp only [dowellaw48_one.l0]
    rw [if_neg (by omega), List.drop_eq_nil_of_le (by omega)]
    rfl
  | succ d ih =>
    intro K i hi hK
    obtain ⟨K, rfl⟩ : ∃ m, K = m + 1 := ⟨K - 1, by omega⟩
    have hlt : i < l.length := by omega
    simp only [dowellaw48_one.l0]
    rw [if_pos (by omega), if_pos (by omega), holds_f (hp _ (rd62_in hlt)), Option.bind_some, wrap_succ i (by omega), rd62_drop hlt, List.any_cons]
    cases h : holdsR s (rd_T62 l i) with
    | true => rw [if_pos rfl, Bool.true_or]
    | false => rw [if_neg (by decide), Bool.false_or]; exact ih K (i + 1) (by omega) (by omega)
theorem one_f {l : List S62} {s : Int} {K : Nat} (hp : Pos l) (hl : l.length < 100000) (hK : l.length < K) : dowellaw48_one.f K l s = some (l.any (holdsR s)) := by
  have := one_from l s hp hl l.length K 0 (by omega) hK
  rwa [List.drop_zero] at this
/-- The first rule from i on that is neither left out nor satisfied. -/
def brk (s : Int) : List S70 → List Bool → Nat → Int
  | [], _, _ => -1
  | r :: rs, os, i => if os.headD false then brk s rs os.tail (i + 1) else if r.f1.any (holdsR s) then brk s rs os.tail (i + 1) else i
theorem rd_bool {o : List Bool} {i : Nat} : rdOf false o (i : Int) = (o.drop i).headD false := by
  unfold rdOf
  rw [Int.toNat_natCast, List.getD_eq_getElem?_getD, List.headD_eq_head?_getD, List.head?_drop]
theorem broken_from (D : Fam) (o : List Bool) (s : Int) (hp : ∀ r ∈ D.rules, Pos r.f1 ∧ r.f1.length < 50) (hl : D.rules.length < 50) (ho : D.rules.length ≤ o.length) (d : Nat) : ∀ (K i : Nat), i + d = D.rules.length → d + 60 < K →
    dowellaw48_broken.l0 K o s i D.nm D.parts D.insts D.dims D.cons D.reqs D.opts D.rules D.guards D.overs = some (brk s (D.rules.drop i) (o.drop i) i) := by
  induction d with
  | zero =>
    intro K i hi hK
    obtain ⟨K, rfl⟩ : ∃ m, K = m + 1 := ⟨K - 1, by omega⟩
    simp only [dowellaw48_broken.l0]
    rw [if_neg (by omega), List.drop_eq_nil_of_le (by omega)]
    rfl
  | succ d ih =>
    intro K i hi hK
    obtain ⟨K, rfl⟩ : ∃ m, K = m + 1 := ⟨K - 1, by omega⟩
    have hlt : i < D.rules.length := by omega
    have hm : rd_T70 D.rules (i : Int) ∈ D.rules := by
      unfold rd_T70
      rw [Int.toNat_natCast, List.getD_eq_getElem?_getD, List.getElem?_eq_getElem hlt]
      exact List.getElem_mem hlt
    obtain ⟨h1, h2⟩ := hp _ hm
    have hn := ih K (i + 1) (by omega) (by omega)
    simp only [dowellaw48_broken.l0]
    rw [if_pos (by omega), if_pos (by omega), if_pos (by omega), one_f h1 (by omega) (by omega), Option.bind_some, wrap_succ i (by omega), rd_drop hlt, rd_bool, brk, List.tail_drop, hn]
    cases (o.drop i).headD false <;> cases (rd_T70 D.rules (i : Int)).f1.any (holdsR s) <;> rfl
/-- What the reference asks of a family. -/
structure Small (D : Fam) : Prop where
  pos : ∀ r ∈ D.rules, Pos r.f1 ∧ r.f1.length < 50
  rules : D.rules.length < 50
theorem broken_f {D : Fam} (h : Small D) {o : List Bool} {s : Int} {K : Nat} (ho : D.rules.length ≤ o.length) (hK : 150 ≤ K) :
    dowellaw48_broken.f K D.nm D.parts D.insts D.dims D.cons D.reqs D.opts D.rules D.guards D.overs o s = some (brk s D.rules o 0) := by
  have := broken_from D o s h.pos h.rules ho D.rules.length K 0 (by omega) (by have := h.rules; omega)
  rwa [List.drop_zero, List.drop_zero] at this
def okS (D : Fam) (o : List Bool) (ch : List S62) (s : Int) : Bool := ch.all (holdsR s) && decide (brk s D.rules o 0 < 0)
theorem rd_int_drop {l : List Int} {i : Nat} (h : i < l.length) : l.drop i = rd l i :: l.drop (i + 1) := by
  rw [List.drop_eq_getElem_cons h]
  congr 1
  unfold rd
  rw [Int.toNat_natCast, List.getD_eq_getElem?_getD, List.getElem?_eq_getElem h]
  rfl
theorem allowed_from {D : Fam} (h : Small D) (o : List Bool) (ch : List S62) (ho : D.rules.length ≤ o.length) (hp : Pos ch) (hc : ch.length < 100) (ss : List Int) (hs : ss.length < 10000) (d : Nat) : ∀ (K i : Nat) (acc : List Int), i + d = ss.length → acc.length ≤ i → d + 200 < K →
    dowellaw48_allowed.l0 K o ch acc ss i D.nm D.parts D.insts D.dims D.cons D.reqs D.opts D.rules D.guards D.overs = some (acc ++ (ss.drop i).filter (okS D o ch)) := by
  induction d with
  | zero =>
    intro K i acc hi ha hK
    obtain ⟨K, rfl⟩ : ∃ m, K = m + 1 := ⟨K - 1, by omega⟩
    simp only [dowellaw48_allowed.l0]
    rw [if_neg (by omega), List.drop_eq_nil_of_le (by omega)]
    simp
  | succ d ih =>
    intro K i acc hi ha hK
    obtain ⟨K, rfl⟩ : ∃ m, K = m + 1 := ⟨K - 1, by omega⟩
    have hlt : i < ss.length := by omega
    simp only [dowellaw48_allowed.l0]
    rw [if_pos (by omega), if_pos (by omega), all_f hp (by omega) (by omega), Option.bind_some, broken_f h ho (by omega), Option.bind_some, wrap_succ i (by omega), rd_int_drop hlt, List.filter_cons]
    cases h1 : ch.all (holdsR (rd ss (i : Int))) with
    | false =>
      rw [if_neg (by decide), if_neg (by simp [okS, h1])]
      exact ih K (i + 1) acc (by omega) (by omega) (by omega)
    | true =>
      rw [if_pos rfl]
      by_cases h2 : brk (rd ss (i : Int)) D.rules o 0 < 0
      · rw [if_pos h2, if_pos (by omega), if_pos (by simp [okS, h1, h2])]
        rw [ih K (i + 1) _ (by omega) (by simp; omega) (by omega), List.append_assoc]
        rfl
      · rw [if_neg h2, if_neg (by simp [okS, h1, h2])]
        exact ih K (i + 1) acc (by omega) (by omega) (by omega)
end Go.Proofs.Ytbnmdlnpfikkcaa.PX
/- Sets and configurations: both lists are one, under two numberings. -/
namespace Go.Proofs.Ytbnmdlnpfikkcaa.PX
open Go.RowKit Go.Proofs.YtbnmdlnpfikkcaaW.PrintWords Go.Proofs.YtbnmdlnpfikkcaaW.PrintLast Go.Proofs.YtbnmdlnpfikkcaaW.PrintMore
set_option linter.unusedVariables false
set_option linter.unusedSimpArgs false
/-- The set of configuration k of n options. -/
def setOf (n k : Nat) : Nat := (List.range n).foldl (fun s i => s + ((k / 2 ^ (n - 1 - i)) % 2) * 2 ^ i) 0
def setsL (n : Nat) : List Int := (List.range (2 ^ n)).reverse.map fun k => ((setOf n k : Nat) : Int)
theorem sets_f1 : dowellaw48_sets.f 4000 1 = some (setsL 1) := by decide +kernel
theorem sets_f2 : dowellaw48_sets.f 4000 2 = some (setsL 2) := by decide +kernel
theorem sets_f3 : dowellaw48_sets.f 4000 3 = some (setsL 3) := by decide +kernel
theorem sets_f4 : dowellaw48_sets.f 4000 4 = some (setsL 4) := by decide +kernel
theorem sets_f5 : dowellaw48_sets.f 4000 5 = some (setsL 5) := by decide +kernel
theorem sets_f6 : dowellaw48_sets.f 4000 6 = some (setsL 6) := by decide +kernel
theorem bit_all : ∀ n, n < 7 → ∀ k, k < 2 ^ n → ∀ i, i < n → refOn (setOf n k : Nat) (i : Nat) = onI (cfg n k) (i : Nat) := by decide +kernel
theorem sets_f {n : Nat} (h1 : 1 ≤ n) (h6 : n ≤ 6) : dowellaw48_sets.f 4000 n = some (setsL n) := by
  obtain rfl | rfl | rfl | rfl | rfl | rfl : n = 1 ∨ n = 2 ∨ n = 3 ∨ n = 4 ∨ n = 5 ∨ n = 6 := by omega
  · exact sets_f1
  · exact sets_f2
  · exact sets_f3
  · exact sets_f4
  · exact sets_f5
  · exact sets_f6
theorem setsL_length (n : Nat) : (setsL n).length = 2 ^ n := by simp [setsL]
/-- Literals of n options. -/
def LitsIn (n : Nat) (l : List S62) : Prop := ∀ x ∈ l, 0 ≤ x.f0 ∧ x.f0 < (n : Int)
theorem LitsIn.pos {n : Nat} {l : List S62} (h : LitsIn n l) : Pos l := fun x hx => (h x hx).1
theorem LitsIn.ok {n : Nat} {l : List S62} (h : LitsIn n l) (hn : n ≤ 12) : LitsOk l := fun x hx => by have := h x hx; omega
theorem holds_set {n k : Nat} (h6 : n ≤ 6) (hk : k < 2 ^ n) {x : S62} (h : 0 ≤ x.f0 ∧ x.f0 < (n : Int)) : holdsR (setOf n k : Nat) x = !nlit (cfg n k) x := by
  obtain ⟨i, hi⟩ : ∃ i : Nat, x.f0 = i := ⟨x.f0.toNat, by omega⟩
  unfold holdsR nlit
  rw [hi, bit_all n (by omega) k hk i (by omega)]
  cases onI (cfg n k) i <;> cases x.f1 <;> rfl
theorem all_set {n k : Nat} (h6 : n ≤ 6) (hk : k < 2 ^ n) (l : List S62) (h : LitsIn n l) : l.all (holdsR (setOf n k : Nat)) = !l.any (nlit (cfg n k)) := by
  induction l with
  | nil => rfl
  | cons x l ih =>
    rw [List.all_cons, List.any_cons, holds_set h6 hk (h x (List.mem_cons_self)), ih (fun y hy => h y (List.mem_cons_of_mem _ hy))]
    simp
theorem any_set {n k : Nat} (h6 : n ≤ 6) (hk : k < 2 ^ n) (l : List S62) (h : LitsIn n l) : l.any (holdsR (setOf n k : Nat)) = l.any (fun y => !nlit (cfg n k) y) := by
  induction l with
  | nil => rfl
  | cons x l ih =>
    rw [List.any_cons, List.any_cons, holds_set h6 hk (h x (List.mem_cons_self)), ih (fun y hy => h y (List.mem_cons_of_mem _ hy))]
/-- The rules that are not left out. -/
def kept : List S70 → List Bool → List S70
  | [], _ => []
  | r :: rs, o => if o.headD false then kept rs o.tail else r :: kept rs o.tail
theorem kept_mem : ∀ (rs : List S70) (o : List Bool) (x : S70), x ∈ kept rs o → x ∈ rs
  | [], _, _, h => h
  | r :: rs, o, x, h => by
    unfold kept at h
    split at h
    · exact List.mem_cons_of_mem _ (kept_mem rs _ x h)
    · rcases List.mem_cons.1 h with h | h
      · rw [h]; exact List.mem_cons_self
      · exact List.mem_cons_of_mem _ (kept_mem rs _ x h)
theorem kept_none : ∀ (rs : List S70) (m : Nat), kept rs (List.replicate m false) = rs
  | [], _ => rfl
  | r :: rs, m => by
    cases m with
    | zero => unfold kept; rw [if_neg (by decide)]; exact congrArg _ (kept_none rs 0)
    | succ m => unfold kept; rw [List.replicate_succ, List.headD_cons, if_neg (by decide), List.tail_cons, kept_none rs m]
theorem brk_kept (s : Int) : ∀ (rs : List S70) (o : List Bool) (i : Nat), decide (brk s rs o i < 0) = !(kept rs o).any (fun r => !r.f1.any (holdsR s))
  | [], _, _ => rfl
  | r :: rs, o, i => by
    unfold brk kept
    have ih := brk_kept s rs o.tail (i + 1)
    cases o.headD false with
    | true => simpa using ih
    | false =>
      cases h : r.f1.any (holdsR s) with
      | true => simpa [h] using ih
      | false => simp [h]
/-- The numbers of the configurations of n options that a choice and some rules leave, the greatest first. -/
def ks (n : Nat) (ch : List S62) (rs : List S70) : List Nat := (List.range (2 ^ n)).reverse.filter fun k => okC ch rs (cfg n k)
theorem ks_lt (n : Nat) (ch : List S62) (rs : List S70) : ∀ k ∈ ks n ch rs, k < 2 ^ n := fun k hk => by
  have := (List.mem_filter.1 hk).1
  simpa using this
theorem down_filter (n : Nat) (ch : List S62) (rs : List S70) : ∀ m, down n ch rs m = ((List.range m).reverse.filter fun k => okC ch rs (cfg n k)).map (cfg n)
  | 0 => rfl
  | m + 1 => by
    rw [List.range_succ, List.reverse_append, List.reverse_singleton, List.singleton_append, List.filter_cons]
    unfold down
    rw [down_filter n ch rs m]
    split <;> rfl
theorem confs_ks (D : Fam) (ch : List S62) (rs : List S70) : confs D ch rs = (ks D.opts.length ch rs).map (cfg D.opts.length) := down_filter _ _ _ _
theorem any_eq_of {α : Type} (p q : α → Bool) : ∀ l : List α, (∀ x ∈ l, p x = q x) → l.any p = l.any q
  | [], _ => rfl
  | x :: l, h => by
    rw [List.any_cons, List.any_cons, h x List.mem_cons_self, any_eq_of p q l (fun y hy => h y (List.mem_cons_of_mem _ hy))]
theorem okS_okC {D : Fam} {o : List Bool} {ch : List S62} {n k : Nat} (h6 : n ≤ 6) (hk : k < 2 ^ n) (hch : LitsIn n ch) (hrs : ∀ r ∈ D.rules, LitsIn n r.f1) :
    okS D o ch (setOf n k : Nat) = okC ch (kept D.rules o) (cfg n k) := by
  unfold okS okC
  rw [all_set h6 hk ch hch, brk_kept]
  congr 1
  have h1 : decide (idxP (fun x => !satR (cfg n k) x) (kept D.rules o) < 0) = !decide (0 ≤ idxP (fun x => !satR (cfg n k) x) (kept D.rules o)) := by
    by_cases h : 0 ≤ idxP (fun x => !satR (cfg n k) x) (kept D.rules o)
    · rw [decide_eq_true h, decide_eq_false (by omega)]; rfl
    · rw [decide_eq_false h, decide_eq_true (by omega)]; rfl
  rw [h1, idxP_nonneg]
  congr 1
  exact any_eq_of _ _ _ fun r hr => by
    unfold satR
    rw [any_set h6 hk r.f1 (hrs r (kept_mem _ _ _ hr))]
theorem allowed_f {D : Fam} (h : Small D) {n : Nat} (hn : D.opts.length = n) (h1 : 1 ≤ n) (h6 : n ≤ 6) {o : List Bool} {ch : List S62} (ho : D.rules.length ≤ o.length) (hch : LitsIn n ch) (hc : ch.length < 100) (hrs : ∀ r ∈ D.rules, LitsIn n r.f1) :
    dowellaw48_allowed.f 4000 D.nm D.parts D.insts D.dims D.cons D.reqs D.opts D.rules D.guards D.overs o ch = some ((ks n ch (kept D.rules o)).map fun k => ((setOf n k : Nat) : Int)) := by
  have h64 : 2 ^ n ≤ 2 ^ 6 := Nat.pow_le_pow_right (by decide) h6
  have hs := setsL_length n
  unfold dowellaw48_allowed.f
  rw [hn, sets_f h1 h6, Option.bind_some]
  have he := allowed_from h o ch ho hch.pos hc (setsL n) (by omega) (2 ^ n) 4000 0 [] (by omega) (Nat.le_refl _) (by omega)
  rw [List.nil_append, List.drop_zero] at he
  refine he.trans ?_
  unfold setsL ks
  rw [List.filter_map]
  congr 2
  apply List.filter_congr
  intro k hk
  have hk2 : k < 2 ^ n := by simpa using hk
  exact okS_okC h6 hk2 hch hrs
end Go.Proofs.Ytbnmdlnpfikkcaa.PX
