/- The reference's functions in plain lists, and its sets against the program's configurations. -/
import Derived.Test.YtbnmdlnpfikkcaaM5
import Derived.Test.YtbnmdlnpfikkcaaM6
/- The reference's functions, told in plain lists. -/
namespace Go.Proofs.Ytbnmdlnpfikkcaa.PX
open Go.RowKit Go.Proofs.YtbnmdlnpfikkcaaW.PrintWords Go.Proofs.YtbnmdlnpfikkcaaW.PrintLast Go.Proofs.YtbnmdlnpfikkcaaW.PrintMore
set_option linter.unusedVariables false
set_option linter.unusedSimpArgs false
/-- Option i of a set. -/
def refOn (s : Int) (i : Int) : Bool := (Go.bits .and .i64 (shr .i64 s i) 1) == 1
def holdsR (s : Int) (x : S62) : Bool := refOn s x.f0 == x.f1
theorem rd62_drop {l : List S62} {i : Nat} (h : i < l.length) : l.drop i = rd_T62 l i :: l.drop (i + 1) := by
  rw [List.drop_eq_getElem_cons h]
  congr 1
  unfold rd_T62
  rw [Int.toNat_natCast, List.getD_eq_getElem?_getD, List.getElem?_eq_getElem h]
  rfl
theorem rd62_in {l : List S62} {i : Nat} (h : i < l.length) : rd_T62 l i ∈ l := by
  unfold rd_T62
  rw [Int.toNat_natCast, List.getD_eq_getElem?_getD, List.getElem?_eq_getElem h]
  exact List.getElem_mem h
theorem wrap_succ (i : Nat) (h : i < 100000) : wrap64 ((i : Int) + 1) = ((i + 1 : Nat) : Int) := by unfold wrap64; omega
def Pos (l : List S62) : Prop := ∀ x ∈ l, 0 ≤ x.f0
theorem holds_f {x : S62} {s : Int} (h : 0 ≤ x.f0) : dowellaw48_holds.f x.f0 x.f1 s = some (holdsR s x) := by
  unfold dowellaw48_holds.f
  rw [if_pos h]
  rfl
theorem all_from (l : List S62) (s : Int) (hp : Pos l) (hl : l.length < 100000) (d : Nat) : ∀ (K i : Nat), i + d = l.length → d < K → dowellaw48_all.l0 K l s i = some ((l.drop i).all (holdsR s)) := by
  induction d with
  | zero =>
    intro K i hi hK
    obtain ⟨K, rfl⟩ : ∃ m, K = m + 1 := ⟨K - 1, by omega⟩
    simp only [dowellaw48_all.l0]
    rw [if_neg (by omega), List.drop_eq_nil_of_le (by omega)]
    rfl
  | succ d ih =>
    intro K i hi hK
    obtain ⟨K, rfl⟩ : ∃ m, K = m + 1 := ⟨K - 1, by omega⟩
    have hlt : i < l.length := by omega
    simp only [dowellaw48_all.l0]
    rw [if_pos (by omega), if_pos (by omega), holds_f (hp _ (rd62_in hlt)), Option.bind_some, wrap_succ i (by omega), rd62_drop hlt, List.all_cons]
    cases h : holdsR s (rd_T62 l i) with
    | true => rw [if_pos rfl, Bool.true_and]; exact ih K (i + 1) (by omega) (by omega)
    | false => rw [if_neg (by decide), Bool.false_and]
theorem all_f {l : List S62} {s : Int} {K : Nat} (hp : Pos l) (hl : l.length < 100000) (hK : l.length < K) : dowellaw48_all.f K l s = some (l.all (holdsR s)) := by
  have := all_from l s hp hl l.length K 0 (by omega) hK
  rwa [List.drop_zero] at this
theorem one_from (l : List S62) (s : Int) (hp : Pos l) (hl : l.length < 100000) (d : Nat) : ∀ (K i : Nat), i + d = l.length → d < K → dowellaw48_one.l0 K l s i = some ((l.drop i).any (holdsR s)) := by
  induction d with
  | zero =>
    intro K i hi hK
    obtain ⟨K, rfl⟩ : ∃ m, K = m + 1 := ⟨K - 1, by omega⟩
    simp only [dowellaw48_one.l0]
    rw [if_neg (by omega), List.drop_eq_nil_of_le (by omega)]
    rfl
  | succ d ih =>
    intro K i hi hK
    obtain ⟨K, rfl⟩ : ∃ m, K = m + 1 := ⟨K - 1, by omega⟩
    have hlt : i < l.length := by omega
    simp only [dowellaw48_one.l0]
    rw [if_pos (by omega), if_pos (by omega), holds_f (hp _ (rd62_in hlt)), Option.bind_some, wrap_succ i (by omega), rd62_drop hlt, List.any_cons]
    cases h : holdsR s (rd_T62 l i) with
    | true => rw [if_pos rfl, Bool.true_or]
    | false => rw [if_neg (by decide), Bool.false_or]; exact ih K (i + 1) (by omega) (by omega)
theorem one_f {l : List S62} {s : Int} {K : Nat} (hp : Pos l) (hl : l.length < 100000) (hK : l.length < K) : dowellaw48_one.f K l s = some (l.any (holdsR s)) := by
  have := one_from l s hp hl l.length K 0 (by omega) hK
  rwa [List.drop_zero] at this
/-- The first rule from i on that is neither left out nor satisfied. -/
def brk (s : Int) : List S70 → List Bool → Nat → Int
  | [], _, _ => -1
  | r :: rs, os, i => if os.headD false then brk s rs os.tail (i + 1) else if r.f1.any (holdsR s) then brk s rs os.tail (i + 1) else i
theorem rd_bool {o : List Bool} {i : Nat} : rdOf false o (i : Int) = (o.drop i).headD false := by
  unfold rdOf
  rw [Int.toNat_natCast, List.getD_eq_getElem?_getD, List.headD_eq_head?_getD, List.head?_drop]
theorem broken_from (D : Fam) (o : List Bool) (s : Int) (hp : ∀ r ∈ D.rules, Pos r.f1 ∧ r.f1.length < 50) (hl : D.rules.length < 50) (ho : D.rules.length ≤ o.length) (d : Nat) : ∀ (K i : Nat), i + d = D.rules.length → d + 60 < K →
    dowellaw48_broken.l0 K o s i D.nm D.parts D.insts D.dims D.cons D.reqs D.opts D.rules D.guards D.overs = some (brk s (D.rules.drop i) (o.drop i) i) := by
  induction d with
  | zero =>
    intro K i hi hK
    obtain ⟨K, rfl⟩ : ∃ m, K = m + 1 := ⟨K - 1, by omega⟩
    simp only [dowellaw48_broken.l0]
    rw [if_neg (by omega), List.drop_eq_nil_of_le (by omega)]
    rfl
  | succ d ih =>
    intro K i hi hK
    obtain ⟨K, rfl⟩ : ∃ m, K = m + 1 := ⟨K - 1, by omega⟩
    have hlt : i < D.rules.length := by omega
    have hm : rd_T70 D.rules (i : Int) ∈ D.rules := by
      unfold rd_T70
      rw [Int.toNat_natCast, List.getD_eq_getElem?_getD, List.getElem?_eq_getElem hlt]
      exact List.getElem_mem hlt
    obtain ⟨h1, h2⟩ := hp _ hm
    have hn := ih K (i + 1) (by omega) (by omega)
    simp only [dowellaw48_broken.l0]
    rw [if_pos (by omega), if_pos (by omega), if_pos (by omega), one_f h1 (by omega) (by omega), Option.bind_some, wrap_succ i (by omega), rd_drop hlt, rd_bool, brk, List.tail_drop, hn]
    cases (o.drop i).headD false <;> cases (rd_T70 D.rules (i : Int)).f1.any (holdsR s) <;> rfl
/-- What the reference asks of a family. -/
structure Small (D : Fam) : Prop where
  pos : ∀ r ∈ D.rules, Pos r.f1 ∧ r.f1.length < 50
  rules : D.rules.length < 50
theorem broken_f {D : Fam} (h : Small D) {o : List Bool} {s : Int} {K : Nat} (ho : D.rules.length ≤ o.length) (hK : 150 ≤ K) :
    dowellaw48_broken.f K D.nm D.parts D.insts D.dims D.cons D.reqs D.opts D.rules D.guards D.overs o s = some (brk s D.rules o 0) := by
  have := broken_from D o s h.pos h.rules ho D.rules.length K 0 (by omega) (by have := h.rules; omega)
  rwa [List.drop_zero, List.drop_zero] at this
end Go.Proofs.Ytbnmdlnpfikkcaa.PX
/- Sets and configurations: both lists are one, under two numberings. -/
namespace Go.Proofs.Ytbnmdlnpfikkcaa.PX
open Go.RowKit Go.Proofs.YtbnmdlnpfikkcaaW.PrintWords Go.Proofs.YtbnmdlnpfikkcaaW.PrintLast Go.Proofs.YtbnmdlnpfikkcaaW.PrintMore
set_option linter.unusedVariables false
set_option linter.unusedSimpArgs false
/-- The set of configuration k of n options. -/
def setOf (n k : Nat) : Nat := (List.range n).foldl (fun s i => s + ((k / 2 ^ (n - 1 - i)) % 2) * 2 ^ i) 0
def setsL (n : Nat) : List Int := (List.range (2 ^ n)).reverse.map fun k => ((setOf n k : Nat) : Int)
theorem sets_f1 : dowellaw48_sets.f 4000 1 = some (setsL 1) := by decide +kernel
theorem sets_f2 : dowellaw48_sets.f 4000 2 = some (setsL 2) := by decide +kernel
theorem sets_f3 : dowellaw48_sets.f 4000 3 = some (setsL 3) := by decide +kernel
theorem sets_f4 : dowellaw48_sets.f 4000 4 = some (setsL 4) := by decide +kernel
theorem sets_f5 : dowellaw48_sets.f 4000 5 = some (setsL 5) := by decide +kernel
theorem sets_f6 : dowellaw48_sets.f 4000 6 = some (setsL 6) := by decide +kernel
theorem bit_all : ∀ n, n < 7 → ∀ k, k < 2 ^ n → ∀ i, i < n → refOn (setOf n k : Nat) (i : Nat) = onI (cfg n k) (i : Nat) := by decide +kernel
theorem sets_f {n : Nat} (h1 : 1 ≤ n) (h6 : n ≤ 6) : dowellaw48_sets.f 4000 n = some (setsL n) := by
  obtain rfl | rfl | rfl | rfl | rfl | rfl : n = 1 ∨ n = 2 ∨ n = 3 ∨ n = 4 ∨ n = 5 ∨ n = 6 := by omega
  · exact sets_f1
  · exact sets_f2
  · exact sets_f3
  · exact sets_f4
  · exact sets_f5
  · exact sets_f6
theorem setsL_length (n : Nat) : (setsL n).length = 2 ^ n := by simp [setsL]
/-- Literals of n options. -/
def LitsIn (n : Nat) (l : List S62) : Prop := ∀ x ∈ l, 0 ≤ x.f0 ∧ x.f0 < (n : Int)
theorem LitsIn.pos {n : Nat} {l : List S62} (h : LitsIn n l) : Pos l := fun x hx => (h x hx).1
theorem LitsIn.ok {n : Nat} {l : List S62} (h : LitsIn n l) (hn : n ≤ 12) : LitsOk l := fun x hx => by have := h x hx; omega
theorem holds_set {n k : Nat} (h6 : n ≤ 6) (hk : k < 2 ^ n) {x : S62} (h : 0 ≤ x.f0 ∧ x.f0 < (n : Int)) : holdsR (setOf n k : Nat) x = !nlit (cfg n k) x := by
  obtain ⟨i, hi⟩ : ∃ i : Nat, x.f0 = i := ⟨x.f0.toNat, by omega⟩
  unfold holdsR nlit
  rw [hi, bit_all n (by omega) k hk i (by omega)]
  cases onI (cfg n k) i <;> cases x.f1 <;> rfl
theorem all_set {n k : Nat} (h6 : n ≤ 6) (hk : k < 2 ^ n) (l : List S62) (h : LitsIn n l) : l.all (holdsR (setOf n k : Nat)) = !l.any (nlit (cfg n k)) := by
  induction l with
  | nil => rfl
  | cons x l ih =>
    rw [List.all_cons, List.any_cons, holds_set h6 hk (h x (List.mem_cons_self)), ih (fun y hy => h y (List.mem_cons_of_mem _ hy))]
    simp
theorem any_set {n k : Nat} (h6 : n ≤ 6) (hk : k < 2 ^ n) (l : List S62) (h : LitsIn n l) : l.any (holdsR (setOf n k : Nat)) = l.any (fun y => !nlit (cfg n k) y) := by
  induction l with
  | nil => rfl
  | cons x l ih =>
    rw [List.any_cons, List.any_cons, holds_set h6 hk (h x (List.mem_cons_self)), ih (fun y hy => h y (List.mem_cons_of_mem _ hy))]
/-- The rules that are not left out. -/
def kept : List S70 → List Bool → List S70
  | [], _ => []
  | r :: rs, o => if o.headD false then kept rs o.tail else r :: kept rs o.tail
theorem any_eq_of {α : Type} (p q : α → Bool) : ∀ l : List α, (∀ x ∈ l, p x = q x) → l.any p = l.any q
  | [], _ => rfl
  | x :: l, h => by
    rw [List.any_cons, List.any_cons, h x List.mem_cons_self, any_eq_of p q l (fun y hy => h y (List.mem_cons_of_mem _ hy))]
end Go.Proofs.Ytbnmdlnpfikkcaa.PX
