/- The described family: what it is, and that it is valid. -/
import Derived.Test.YtbnmdlnpfikkcaaM7
import Derived.Test.YtbnmdlnpfikkcaaMG
import Derived.Test.YtbnmdlnpfikkcaaM8
import Derived.Test.YtbnmdlnpfikkcaaM6
/- The reference's other functions in plain lists; the family that a description stands for. -/
namespace Go.Proofs.Ytbnmdlnpfikkcaa.PX
open Go.RowKit Go.Proofs.YtbnmdlnpfikkcaaW.PrintWords Go.Proofs.YtbnmdlnpfikkcaaW.PrintLast Go.Proofs.YtbnmdlnpfikkcaaW.PrintMore
set_option linter.unusedVariables false
set_option linter.unusedSimpArgs false
theorem refnames_from (D : Fam) (n k : Nat) (hn : D.opts.length = n) (h6 : n ≤ 6) (hk : k < 2 ^ n) (d : Nat) : ∀ (K i : Nat), i + d = n → d < K →
    dowellaw48_names.l0 K (setOf n k : Nat) (cn (cfg n k) D.opts i) i D.nm D.parts D.insts D.dims D.cons D.reqs D.opts D.rules D.guards D.overs = some (cnames (cfg n k) D.opts) := by
  induction d with
  | zero =>
    intro K i hi hK
    obtain ⟨K, rfl⟩ : ∃ m, K = m + 1 := ⟨K - 1, by omega⟩
    simp only [dowellaw48_names.l0]
    rw [if_neg (by omega)]
    have : i = D.opts.length := by omega
    rw [this]; rfl
  | succ d ih =>
    intro K i hi hK
    obtain ⟨K, rfl⟩ : ∃ m, K = m + 1 := ⟨K - 1, by omega⟩
    have hb := bit_all n (by omega) k hk i (by omega)
    unfold refOn at hb
    have hn2 := ih K (i + 1) (by omega) (by omega)
    have hcl := cn_length (cfg n k) D.opts i
    simp only [dowellaw48_names.l0]
    rw [if_pos (by omega), if_pos (by omega), wrap_succ i (by omega)]
    cases ho : onI (cfg n k) (i : Int) with
    | true =>
      have e : cn (cfg n k) D.opts (i + 1) = cn (cfg n k) D.opts i ++ [rdOf ByteArray.empty D.opts (i : Int)] := by simp [cn, ho]
      rw [ho] at hb
      rw [if_pos (by simpa using hb), if_pos (by omega), ← e]
      exact hn2
    | false =>
      have e : cn (cfg n k) D.opts (i + 1) = cn (cfg n k) D.opts i := by simp [cn, ho]
      rw [ho] at hb
      rw [if_neg (by simpa using hb), ← e]
      exact hn2
theorem refnames_f {D : Fam} {n k : Nat} (hn : D.opts.length = n) (h6 : n ≤ 6) (hk : k < 2 ^ n) :
    dowellaw48_names.f 4000 D.nm D.parts D.insts D.dims D.cons D.reqs D.opts D.rules D.guards D.overs (setOf n k : Nat) = some (cnames (cfg n k) D.opts) :=
  refnames_from D n k hn h6 hk n 4000 0 (by omega) (by omega)
theorem sameNames_from (l : List ByteArray) (hl : l.length < 3000) (d : Nat) : ∀ (K i : Nat), i + d = l.length → d < K → dowellaw48_sameNames.l0 K l l i = some true := by
  induction d with
  | zero =>
    intro K i hi hK
    obtain ⟨K, rfl⟩ : ∃ m, K = m + 1 := ⟨K - 1, by omega⟩
    simp only [dowellaw48_sameNames.l0]
    rw [if_neg (by omega)]
  | succ d ih =>
    intro K i hi hK
    obtain ⟨K, rfl⟩ : ∃ m, K = m + 1 := ⟨K - 1, by omega⟩
    simp only [dowellaw48_sameNames.l0]
    rw [if_pos (by omega), if_pos (by omega), if_pos (by omega), if_pos trivial, wrap_succ i (by omega)]
    exact ih K (i + 1) (by omega) (by omega)
theorem sameNames_f {l : List ByteArray} (hl : l.length < 3000) : dowellaw48_sameNames.f 4000 l l = some true := by
  unfold dowellaw48_sameNames.f
  rw [if_pos rfl]
  exact sameNames_from l hl l.length 4000 0 (by omega) (by omega)
theorem sameInts_from (l : List Int) (hl : l.length < 3000) (d : Nat) : ∀ (K i : Nat), i + d = l.length → d < K → dowellaw48_sameInts.l0 K l l i = some true := by
  induction d with
  | zero =>
    intro K i hi hK
    obtain ⟨K, rfl⟩ : ∃ m, K = m + 1 := ⟨K - 1, by omega⟩
    simp only [dowellaw48_sameInts.l0]
    rw [if_neg (by omega)]
  | succ d ih =>
    intro K i hi hK
    obtain ⟨K, rfl⟩ : ∃ m, K = m + 1 := ⟨K - 1, by omega⟩
    simp only [dowellaw48_sameInts.l0]
    rw [if_pos (by omega), if_pos (by omega), if_pos (by omega), if_pos trivial, wrap_succ i (by omega)]
    exact ih K (i + 1) (by omega) (by omega)
theorem sameInts_f {l : List Int} (hl : l.length < 3000) : dowellaw48_sameInts.f 4000 l l = some true := by
  unfold dowellaw48_sameInts.f
  rw [if_pos rfl]
  exact sameInts_from l hl l.length 4000 0 (by omega) (by omega)
theorem sameLits_from (l : List S62) (hl : l.length < 3000) (d : Nat) : ∀ (K i : Nat), i + d = l.length → d < K → dowellaw48_sameLiterals.l0 K l l i = some true := by
  induction d with
  | zero =>
    intro K i hi hK
    obtain ⟨K, rfl⟩ : ∃ m, K = m + 1 := ⟨K - 1, by omega⟩
    simp only [dowellaw48_sameLiterals.l0]
    rw [if_neg (by omega)]
  | succ d ih =>
    intro K i hi hK
    obtain ⟨K, rfl⟩ : ∃ m, K = m + 1 := ⟨K - 1, by omega⟩
    simp only [dowellaw48_sameLiterals.l0]
    rw [if_pos (by omega), if_pos (by omega), if_pos (by omega), if_neg (by simp), wrap_succ i (by omega)]
    exact ih K (i + 1) (by omega) (by omega)
theorem sameLits_f {l : List S62} (hl : l.length < 3000) : dowellaw48_sameLiterals.f 4000 l l = some true := by
  unfold dowellaw48_sameLiterals.f
  rw [if_pos rfl]
  exact sameLits_from l hl l.length 4000 0 (by omega) (by omega)
/-! The family that a description stands for. -/
def optN (i : Nat) : ByteArray := strOfNums [(97 + ((i : Int) % 256)) % 256]
def ruleN (i : Nat) : ByteArray := strOfNums [114, (49 + ((i : Int) % 256)) % 256]
def optsF (n : Nat) : List ByteArray := (List.range n).map optN
def ruleF (n : Nat) (R : List (List Int)) (i : Nat) : S70 := ⟨ruleN i, decL n (rd_L2 R (i : Int))⟩
def guardF (n : Nat) (G : List (List Int)) (m : Nat) (i : Nat) : S79 := ⟨Int.tmod (i : Int) (m : Int), decL n (rd_L2 G (i : Int))⟩
def ovr (l : List S62) (d : Int) (x : S81) (v : Int) : S83 := ⟨l, d, ⟨x.f0, v, x.f2, x.f3⟩⟩
def overF (n : Nat) (O : List (List Int)) (dims : List S81) (i : Nat) : S83 :=
  ovr (decL n (rd_L2 O (i : Int))) (Int.tmod (i : Int) (dims.length : Int)) (rd_T81 dims (Int.tmod (i : Int) (dims.length : Int))) (wrap64 (100 + (i : Int)))
def rulesF (n : Nat) (R : List (List Int)) (k : Nat) : List S70 := (List.range k).map (ruleF n R)
def guardsF (n : Nat) (G : List (List Int)) (m k : Nat) : List S79 := (List.range k).map (guardF n G m)
def oversF (n : Nat) (O : List (List Int)) (dims : List S81) (k : Nat) : List S83 := (List.range k).map (overF n O dims)
def All8 (R : List (List Int)) : Prop := ∀ r ∈ R, i8s r = true
theorem decode_f {n : Nat} {R : List (List Int)} (h1 : 1 ≤ n) (h6 : n ≤ 6) (h : All8 R) {i : Nat} (hi : i < R.length) : dowellaw48_decode.f n (rd_L2 R (i : Int)) = some (decL n (rd_L2 R (i : Int))) := by
  unfold dowellaw48_decode.f
  have hm : i8s (rd_L2 R (i : Int)) = true := by
    unfold rd_L2
    rw [Int.toNat_natCast, List.getD_eq_getElem?_getD, List.getElem?_eq_getElem hi]
    exact h _ (List.getElem_mem hi)
  rw [if_pos ⟨by omega, by omega, hm⟩, Int.toNat_natCast]
section
variable (n : Nat) (a : Int) (R G O : List (List Int)) (nm : ByteArray) (P : List S129) (I : List S105) (Dm : List S81) (C : List S158) (Q : List S165) (nm' : ByteArray) (P' : List S129) (I' : List S105) (Dm' : List S81) (C' : List S158) (Q' : List S165)
theorem fam3 (h1 : 1 ≤ n) (h6 : n ≤ 6) (hO : All8 O) (hd : 0 < Dm.length) (hd2 : Dm.length < 100) (op : List ByteArray) (ru : List S70) (gu : List S79) (d : Nat) : ∀ (K i : Nat), i + d = min O.length 4 → d < K →
    dowellaw48_Family.l3 K n i a R G O nm P I Dm C Q nm' P' I' Dm' C' Q' op ru gu (oversF n O Dm i) = some (nm', P', I', Dm', C', Q', op, ru, gu, oversF n O Dm (min O.length 4)) := by
  induction d with
  | zero =>
    intro K i hi hK
    obtain ⟨K, rfl⟩ : ∃ m, K = m + 1 := ⟨K - 1, by omega⟩
    have e : min O.length 4 = i := by omega
    simp only [dowellaw48_Family.l3]
    rw [e]
    by_cases h : (i : Int) < (O.length : Int)
    · rw [if_pos h, if_neg (by omega)]
    · rw [if_neg h]
  | succ d ih =>
    intro K i hi hK
    obtain ⟨K, rfl⟩ : ∃ m, K = m + 1 := ⟨K - 1, by omega⟩
    have hn := ih K (i + 1) (by omega) (by omega)
    have e : oversF n O Dm (i + 1) = oversF n O Dm i ++ [overF n O Dm i] := by simp [oversF, List.range_succ]
    have hl : (oversF n O Dm i).length = i := by simp [oversF]
    have t1 : 0 ≤ Int.tmod (i : Int) (Dm.length : Int) := Int.tmod_nonneg _ (by omega)
    have t2 : Int.tmod (i : Int) (Dm.length : Int) < (Dm.length : Int) := Int.tmod_lt_of_pos _ (by omega)
    simp only [dowellaw48_Family.l3]
    rw [if_pos (by omega), if_pos (by omega), if_pos (by omega), if_neg (by omega), if_pos t1, if_pos t2, if_pos (by omega), decode_f h1 h6 hO (by omega), Option.bind_some, hl, if_pos (by omega), wrap_succ i (by omega)]
    rw [e] at hn
    exact hn
theorem fam2 (h1 : 1 ≤ n) (h6 : n ≤ 6) (hG : All8 G) (hi' : 0 < I.length) (hi2 : I.length < 100) (op : List ByteArray) (ru : List S70) (r : _) (d : Nat) : ∀ (K i : Nat), i + d = min G.length 4 → d + 100 < K →
    (∀ K, 50 < K → dowellaw48_Family.l3 K n 0 a R G O nm P I Dm C Q nm' P' I' Dm' C' Q' op ru (guardsF n G I.length (min G.length 4)) [] = some r) →
    dowellaw48_Family.l2 K n i a R G O nm P I Dm C Q nm' P' I' Dm' C' Q' op ru (guardsF n G I.length i) = some r := by
  induction d with
  | zero =>
    intro K i hi hK h3
    obtain ⟨K, rfl⟩ : ∃ m, K = m + 2 := ⟨K - 2, by omega⟩
    have e : min G.length 4 = i := by omega
    have h3' := h3 K (by omega)
    rw [e] at h3'
    simp only [dowellaw48_Family.l2, dowellaw48_Family.j4]
    by_cases h : (i : Int) < (G.length : Int)
    · rw [if_pos h, if_neg (by omega)]; exact h3'
    · rw [if_neg h]; exact h3'
  | succ d ih =>
    intro K i hi hK h3
    obtain ⟨K, rfl⟩ : ∃ m, K = m + 1 := ⟨K - 1, by omega⟩
    have hn := ih K (i + 1) (by omega) (by omega) h3
    have e : guardsF n G I.length (i + 1) = guardsF n G I.length i ++ [guardF n G I.length i] := by simp [guardsF, List.range_succ]
    have hl : (guardsF n G I.length i).length = i := by simp [guardsF]
    simp only [dowellaw48_Family.l2]
    rw [if_pos (by omega), if_pos (by omega), if_pos (by omega), if_neg (by omega), if_pos (by omega), decode_f h1 h6 hG (by omega), Option.bind_some, hl, if_pos (by omega), wrap_succ i (by omega)]
    rw [e] at hn
    exact hn
theorem fam1 (h1 : 1 ≤ n) (h6 : n ≤ 6) (hR : All8 R) (op : List ByteArray) (r : _) (d : Nat) : ∀ (K i : Nat), i + d = min R.length 6 → d + 300 < K →
    (∀ K, 200 < K → dowellaw48_Family.l2 K n 0 a R G O nm P I Dm C Q nm' P' I' Dm' C' Q' op (rulesF n R (min R.length 6)) [] = some r) →
    dowellaw48_Family.l1 K n i a R G O nm P I Dm C Q nm' P' I' Dm' C' Q' op (rulesF n R i) = some r := by
  induction d with
  | zero =>
    intro K i hi hK h3
    obtain ⟨K, rfl⟩ : ∃ m, K = m + 2 := ⟨K - 2, by omega⟩
    have e : min R.length 6 = i := by omega
    have h3' := h3 K (by omega)
    rw [e] at h3'
    simp only [dowellaw48_Family.l1, dowellaw48_Family.j2]
    by_cases h : (i : Int) < (R.length : Int)
    · rw [if_pos h, if_neg (by omega)]; exact h3'
    · rw [if_neg h]; exact h3'
  | succ d ih =>
    intro K i hi hK h3
    obtain ⟨K, rfl⟩ : ∃ m, K = m + 1 := ⟨K - 1, by omega⟩
    have hn := ih K (i + 1) (by omega) (by omega) h3
    have e : rulesF n R (i + 1) = rulesF n R i ++ [ruleF n R i] := by simp [rulesF, List.range_succ]
    have hl : (rulesF n R i).length = i := by simp [rulesF]
    simp only [dowellaw48_Family.l1]
    rw [if_pos (by omega), if_pos (by omega), if_pos (by omega), decode_f h1 h6 hR (by omega), Option.bind_some, hl, if_pos (by omega), wrap_succ i (by omega)]
    rw [e] at hn
    exact hn
theorem fam0 (h6 : n ≤ 6) (r : _) (d : Nat) : ∀ (K i : Nat), i + d = n → d + 700 < K →
    (∀ K, 600 < K → dowellaw48_Family.l1 K n 0 a R G O nm P I Dm C Q nm' P' I' Dm' C' Q' (optsF n) [] = some r) →
    dowellaw48_Family.l0 K n i a R G O nm P I Dm C Q nm' P' I' Dm' C' Q' (optsF i) = some r := by
  induction d with
  | zero =>
    intro K i hi hK h3
    obtain ⟨K, rfl⟩ : ∃ m, K = m + 1 := ⟨K - 1, by omega⟩
    have e : n = i := by omega
    subst e
    simp only [dowellaw48_Family.l0]
    rw [if_neg (by omega)]
    exact h3 K (by omega)
  | succ d ih =>
    intro K i hi hK h3
    obtain ⟨K, rfl⟩ : ∃ m, K = m + 1 := ⟨K - 1, by omega⟩
    have hn := ih K (i + 1) (by omega) (by omega) h3
    have e : optsF (i + 1) = optsF i ++ [optN i] := by simp [optsF, List.range_succ]
    have hl : (optsF i).length = i := by simp [optsF]
    simp only [dowellaw48_Family.l0, dowellaw48_option.f, Option.bind_some]
    rw [if_pos (by omega), hl, if_pos (by omega), wrap_succ i (by omega)]
    rw [e] at hn
    exact hn
end
/-- The number of options that a description asks for. -/
def nOf (a : Int) : Nat := 1 + (a % 6).toNat
theorem nOf_ok {a : Int} (h0 : 0 ≤ a) (h1 : a ≤ 255) : 1 ≤ nOf a ∧ nOf a ≤ 6 ∧ wrap64 (1 + wrap64 (Int.tmod a 6)) = (nOf a : Int) := by
  have e : Int.tmod a 6 = a % 6 := Int.tmod_eq_emod_of_nonneg h0
  unfold nOf
  rw [e]
  unfold wrap64
  omega
/-- The family of a description, over a base. -/
def famOf (a : Int) (R G O : List (List Int)) (nm : ByteArray) (P : List S129) (I : List S105) (Dm : List S81) (C : List S158) (Q : List S165) : Fam :=
  ⟨nm, P, I, Dm, C, Q, optsF (nOf a), rulesF (nOf a) R (min R.length 6), guardsF (nOf a) G I.length (min G.length 4), oversF (nOf a) O Dm (min O.length 4)⟩
theorem family_f {a : Int} {R G O : List (List Int)} {nm : ByteArray} {P : List S129} {I : List S105} {Dm : List S81} {C : List S158} {Q : List S165} (h0 : 0 ≤ a) (h255 : a ≤ 255) (hR : All8 R) (hG : All8 G) (hO : All8 O)
    (hi : 0 < I.length) (hi2 : I.length < 100) (hd : 0 < Dm.length) (hd2 : Dm.length < 100) :
    dowellaw48_Family.f 4000 a R G O nm P I Dm C Q = some (nm, P, I, Dm, C, Q, optsF (nOf a), rulesF (nOf a) R (min R.length 6), guardsF (nOf a) G I.length (min G.length 4), oversF (nOf a) O Dm (min O.length 4)) := by
  obtain ⟨h1, h6, e⟩ := nOf_ok h0 h255
  unfold dowellaw48_Family.f
  rw [e]
  exact fam0 (nOf a) a R G O nm P I Dm C Q nm P I Dm C Q h6 _ (nOf a) 4000 0 (by omega) (by omega) fun K hK =>
    fam1 (nOf a) a R G O nm P I Dm C Q nm P I Dm C Q h1 h6 hR _ _ (min R.length 6) K 0 (by omega) (by omega) fun K hK =>
    fam2 (nOf a) a R G O nm P I Dm C Q nm P I Dm C Q h1 h6 hG hi hi2 _ _ _ (min G.length 4) K 0 (by omega) (by omega) fun K hK =>
    fam3 (nOf a) a R G O nm P I Dm C Q nm P I Dm C Q h1 h6 hO hd hd2 _ _ _ (min O.length 4) K 0 (by omega) (by omega)
end Go.Proofs.Ytbnmdlnpfikkcaa.PX
/- A described family over the plain base is a valid one. -/
namespace Go.Proofs.Ytbnmdlnpfikkcaa.PX
open Go.RowKit Go.Proofs.YtbnmdlnpfikkcaaW.PrintWords Go.Proofs.YtbnmdlnpfikkcaaW.PrintLast Go.Proofs.YtbnmdlnpfikkcaaW.PrintMore
set_option linter.unusedVariables false
set_option linter.unusedSimpArgs false
def nmB : ByteArray := ⟨#[98, 97, 115, 101]⟩
def instB (i : Nat) : S105 := ⟨optN i, (⟨#[112]⟩ : ByteArray), ⟨⟨0, 0, 0, 0⟩, ⟨⟨#[]⟩, ⟨#[]⟩, ⟨#[]⟩⟩⟩⟩
def instsB : List S105 := [instB 0, instB 1, instB 2]
def dimsB : List S81 := [⟨⟨#[100]⟩, 10, -1, 1⟩, ⟨⟨#[101]⟩, 20, -1, 1⟩]
theorem plain_f : dowellaw48_plain.f 4000 = some (nmB, [], instsB, dimsB, [], []) := by kernel_rfl
theorem dl_sorted (f : Nat → Int) : ∀ k, (dl f k).Pairwise (fun a b => a.f0 < b.f0) ∧ ∀ x ∈ dl f k, 0 ≤ x.f0 ∧ x.f0 < (k : Int)
  | 0 => ⟨List.Pairwise.nil, fun x hx => by simp [dl] at hx⟩
  | k + 1 => by
    obtain ⟨h1, h2⟩ := dl_sorted f k
    unfold dl
    split
    · refine ⟨?_, fun x hx => ?_⟩
      · rw [List.pairwise_append]
        refine ⟨h1, List.pairwise_singleton _ _, fun a ha b hb => ?_⟩
        rw [List.mem_singleton.1 hb]
        exact (h2 a ha).2
      · rcases List.mem_append.1 hx with hx | hx
        · have := h2 x hx; omega
        · rw [List.mem_singleton.1 hx]
          show 0 ≤ (k : Int) ∧ (k : Int) < ((k + 1 : Nat) : Int)
          omega
    · exact ⟨h1, fun x hx => by have := h2 x hx; omega⟩
theorem rd62_get {l : List S62} {i : Nat} (h : i < l.length) : rd_T62 l (i : Int) = l[i] := by
  unfold rd_T62
  rw [Int.toNat_natCast, List.getD_eq_getElem?_getD, List.getElem?_eq_getElem h]
  rfl
theorem litsE_sorted {n : Nat} {l : List S62} (h1 : l.Pairwise (fun a b => a.f0 < b.f0)) (h2 : LitsIn n l) : litsE n l = 0 := by
  unfold litsE
  refine fE_none _ _ fun j hj => ?_
  unfold litE
  have h3 := h2 _ (rd62_in hj)
  rw [if_neg (by omega), if_neg]
  rintro ⟨h4, h5⟩
  have e : ((j : Int) - 1) = ((j - 1 : Nat) : Int) := by omega
  rw [e, rd62_get hj, rd62_get (by omega)] at h5
  have := List.pairwise_iff_getElem.1 h1 (j - 1) j (by omega) hj (by omega)
  omega
theorem decL_in (n : Nat) (l : List Int) : LitsIn n (decL n l) := (dl_sorted _ n).2
theorem decL_E (n : Nat) (l : List Int) : litsE n (decL n l) = 0 := litsE_sorted (dl_sorted _ n).1 (decL_in n l)
theorem decL_len (n : Nat) (l : List Int) : (decL n l).length ≤ n := dl_length _ _
def leD (a b : ByteArray) : Bool := Op.bytesLess a.data.toList b.data.toList || a.data.toList == b.data.toList
theorem leB_leD (a b : ByteArray) : leB a b = leD a b := by unfold leB leD; rw [ByteArray.toList_eq, ByteArray.toList_eq]
theorem optN_ok : ∀ i, i < 6 → nameB (optN i) = true ∧ (0 < i → leD (optN i) (optN (i - 1)) = false) := by decide +kernel
theorem ruleN_ok : ∀ i, i < 6 → nameB (ruleN i) = true ∧ memB ((List.range i).map ruleN) (ruleN i) = false := by decide +kernel
theorem optsF_get {n i : Nat} (h : i < n) : rdS (optsF n) (i : Int) = optN i := by
  unfold rdS rdOf optsF
  rw [Int.toNat_natCast, List.getD_eq_getElem?_getD]
  simp [h]
theorem opts_ok {n : Nat} (h6 : n ≤ 6) : fE (optE (optsF n)) (optsF n).length = 0 := by
  refine fE_none _ _ fun j hj => ?_
  have hj : j < n := by simpa [optsF] using hj
  obtain ⟨h1, h2⟩ := optN_ok j (by omega)
  unfold optE
  rw [optsF_get hj, h1, if_neg (by decide), if_neg]
  rintro ⟨h3, h4⟩
  rw [show ((j : Int) - 1) = ((j - 1 : Nat) : Int) by omega, optsF_get (by omega), leB_leD, h2 h3] at h4
  cases h4
theorem rulesF_get {n : Nat} {R : List (List Int)} {k i : Nat} (h : i < k) : rd_T70 (rulesF n R k) (i : Int) = ruleF n R i := by
  unfold rd_T70 rulesF
  rw [Int.toNat_natCast, List.getD_eq_getElem?_getD]
  simp [h]
theorem guardsF_get {n : Nat} {G : List (List Int)} {m k i : Nat} (h : i < k) : rd_T79 (guardsF n G m k) (i : Int) = guardF n G m i := by
  unfold rd_T79 guardsF
  rw [Int.toNat_natCast, List.getD_eq_getElem?_getD]
  simp [h]
theorem oversF_get {n : Nat} {O : List (List Int)} {dims : List S81} {k i : Nat} (h : i < k) : rd_T83 (oversF n O dims k) (i : Int) = overF n O dims i := by
  unfold rd_T83 oversF
  rw [Int.toNat_natCast, List.getD_eq_getElem?_getD]
  simp [h]
theorem rules_ok {n : Nat} {R : List (List Int)} {k : Nat} (hk : k ≤ 6) : fE (ruleE n (rulesF n R k)) (rulesF n R k).length = 0 := by
  refine fE_none _ _ fun j hj => ?_
  have hj : j < k := by simpa [rulesF] using hj
  obtain ⟨h1, h2⟩ := ruleN_ok j (by omega)
  unfold ruleE
  have e : ((rulesF n R k).take j).map (·.f0) = (List.range j).map ruleN := by
    unfold rulesF
    rw [← List.map_take, List.take_range, List.map_map, Nat.min_eq_left (by omega)]
    rfl
  rw [rulesF_get hj, e]
  unfold ruleF
  rw [h1, h2, if_neg (by decide), if_neg (by decide)]
  exact decL_E _ _
theorem guards_ok {n : Nat} {G : List (List Int)} {m k : Nat} (hm : 0 < m) : fE (guardE n m (guardsF n G m k)) (guardsF n G m k).length = 0 := by
  refine fE_none _ _ fun j hj => ?_
  have hj : j < k := by simpa [guardsF] using hj
  unfold guardE
  rw [guardsF_get hj]
  unfold guardF
  have t1 : 0 ≤ Int.tmod (j : Int) (m : Int) := Int.tmod_nonneg _ (by omega)
  have t2 : Int.tmod (j : Int) (m : Int) < (m : Int) := Int.tmod_lt_of_pos _ (by omega)
  rw [if_neg (by show ¬ (Int.tmod (j : Int) (m : Int) < 0 ∨ (m : Int) ≤ Int.tmod (j : Int) (m : Int)); omega)]
  exact decL_E _ _
theorem overE_zero {n : Int} {dims : List S81} {l : List S83} {i : Nat} {o : S83} (he : rd_T83 l (i : Int) = o) (h1 : litsE n o.f0 = 0) (h2 : 0 ≤ o.f1) (h3 : o.f1 < (dims.length : Int)) (h4 : o.f2.f0 = (rd_T81 dims o.f1).f0) : overE n dims l i = 0 := by
  unfold overE
  rw [he, h1, if_neg (by simp), if_neg (by omega), h4, if_pos rfl]
theorem ovr_f (l : List S62) (d : Int) (x : S81) (v : Int) : (ovr l d x v).f0 = l ∧ (ovr l d x v).f1 = d ∧ (ovr l d x v).f2.f0 = x.f0 := ⟨rfl, rfl, rfl⟩
theorem overs_ok {n : Nat} {O : List (List Int)} {dims : List S81} {k : Nat} (hm : 0 < dims.length) : fE (overE n dims (oversF n O dims k)) (oversF n O dims k).length = 0 := by
  refine fE_none _ _ fun j hj => ?_
  have hj : j < k := by simpa [oversF] using hj
  have t1 : 0 ≤ Int.tmod (j : Int) (dims.length : Int) := Int.tmod_nonneg _ (by omega)
  have t2 : Int.tmod (j : Int) (dims.length : Int) < (dims.length : Int) := Int.tmod_lt_of_pos _ (by omega)
  have hg := oversF_get (n := n) (O := O) (dims := dims) hj
  have hl := decL_E n (rd_L2 O (j : Int))
  unfold overF at hg
  generalize Int.tmod (j : Int) (dims.length : Int) = d at t1 t2 hg
  generalize decL n (rd_L2 O (j : Int)) = l at hg hl
  generalize wrap64 (100 + (j : Int)) = v at hg
  obtain ⟨e0, e1, e2⟩ := ovr_f l d (rd_T81 dims d) v
  refine overE_zero hg (by rw [e0]; exact hl) (by rw [e1]; exact t1) (by rw [e1]; exact t2) (by rw [e1, e2])
/-- A described family over the plain base. -/
def famK (a : Int) (R G O : List (List Int)) : Fam := famOf a R G O nmB [] instsB dimsB [] []
theorem famK_f {a : Int} {R G O : List (List Int)} (h0 : 0 ≤ a) (h255 : a ≤ 255) (hR : All8 R) (hG : All8 G) (hO : All8 O) :
    dowellaw48_Family.f 4000 a R G O nmB [] instsB dimsB [] [] = some ((famK a R G O).nm, (famK a R G O).parts, (famK a R G O).insts, (famK a R G O).dims, (famK a R G O).cons, (famK a R G O).reqs, (famK a R G O).opts, (famK a R G O).rules, (famK a R G O).guards, (famK a R G O).overs) :=
  family_f h0 h255 hR hG hO (by decide) (by decide) (by decide) (by decide)
theorem famK_opts (a : Int) (R G O : List (List Int)) : (famK a R G O).opts.length = nOf a := by
  show (optsF (nOf a)).length = nOf a
  simp [optsF]
theorem famK_chk {a : Int} (R G O : List (List Int)) (h0 : 0 ≤ a) (h255 : a ≤ 255) : chk (famK a R G O) = 0 := by
  obtain ⟨h1, h6, _⟩ := nOf_ok h0 h255
  have e1 := famK_opts a R G O
  have e2 : (famK a R G O).rules.length = min R.length 6 := by show (rulesF _ _ _).length = _; simp [rulesF]
  have e3 : (famK a R G O).guards.length = min G.length 4 := by show (guardsF _ _ _ _).length = _; simp [guardsF]
  have e4 : (famK a R G O).overs.length = min O.length 4 := by show (oversF _ _ _ _).length = _; simp [oversF]
  have hopts := opts_ok h6
  have hrules : fE (ruleE ((famK a R G O).opts.length : Nat) (famK a R G O).rules) (famK a R G O).rules.length = 0 := by rw [e1]; exact rules_ok (by omega)
  have hguards : fE (guardE ((famK a R G O).opts.length : Nat) ((famK a R G O).insts.length : Nat) (famK a R G O).guards) (famK a R G O).guards.length = 0 := by rw [e1]; exact guards_ok (m := 3) (by decide)
  have hovers : fE (overE ((famK a R G O).opts.length : Nat) (famK a R G O).dims (famK a R G O).overs) (famK a R G O).overs.length = 0 := by rw [e1]; exact overs_ok (dims := dimsB) (by decide)
  unfold chk
  rw [if_neg (by omega), if_neg (by intro h; exact h hopts), if_neg (by intro h; exact h hrules), if_neg (by intro h; exact h hguards)]
  exact hovers
theorem famK_rules {a : Int} (R G O : List (List Int)) : ∀ r ∈ (famK a R G O).rules, LitsIn (nOf a) r.f1 := by
  intro r hr
  obtain ⟨i, _, rfl⟩ := List.mem_map.1 hr
  exact decL_in _ _
theorem famK_small {a : Int} (R G O : List (List Int)) (h0 : 0 ≤ a) (h255 : a ≤ 255) : Small (famK a R G O) := by
  obtain ⟨h1, h6, _⟩ := nOf_ok h0 h255
  refine ⟨fun r hr => ⟨(famK_rules R G O r hr).pos, ?_⟩, ?_⟩
  · obtain ⟨i, _, rfl⟩ := List.mem_map.1 hr
    exact Nat.lt_of_le_of_lt (decL_len _ _) (by omega)
  · show (rulesF _ _ _).length < 50
    simp [rulesF]; omega
end Go.Proofs.Ytbnmdlnpfikkcaa.PX
/- plain and Family, as the laws want them. -/
namespace Go.Proofs.Ytbnmdlnpfikkcaa.PX
open Go.RowKit Go.Proofs.YtbnmdlnpfikkcaaW.PrintWords Go.Proofs.YtbnmdlnpfikkcaaW.PrintLast Go.Proofs.YtbnmdlnpfikkcaaW.PrintMore
set_option linter.unusedVariables false
set_option linter.unusedSimpArgs false
/-- The plain base, in a world. -/
structure BaseAt (w : World) (A1 A2 A3 A4 A5 : Option Addr) (c1 c2 c3 c4 c5 : Nat) : Prop where
  r1 : Kd.C k129 w A1 ([] : List S129).length []
  r2 : Kd.C k105 w A2 instsB.length instsB
  l2 : instsB.length ≤ c2
  r3 : Kd.C k81 w A3 dimsB.length dimsB
  l3 : dimsB.length ≤ c3
  r4 : Kd.C k158 w A4 ([] : List S158).length []
  r5 : Kd.C k165 w A5 ([] : List S165).length []
theorem BaseAt.below {w w1 : World} {A1 A2 A3 A4 A5 : Option Addr} {c1 c2 c3 c4 c5 : Nat} (h : BaseAt w A1 A2 A3 A4 A5 c1 c2 c3 c4 c5) (hb : Below w.heap.size w w1) : BaseAt w1 A1 A2 A3 A4 A5 c1 c2 c3 c4 c5 :=
  ⟨Kd.C_below h.r1 hb, Kd.C_below h.r2 hb, h.l2, Kd.C_below h.r3 hb, h.l3, Kd.C_below h.r4 hb, Kd.C_below h.r5 hb⟩
def baseV (A1 A2 A3 A4 A5 : Option Addr) (c1 c2 c3 c4 c5 : Nat) : Value := .agg #[.string nmB, .slice A1 ([] : List S129).length c1, .slice A2 instsB.length c2, .slice A3 dimsB.length c3, .slice A4 ([] : List S158).length c4, .slice A5 ([] : List S165).length c5]
theorem plain_calls (w : World) : Calls Try.prog 13 #[] w fun e w' => ∃ A1 A2 A3 A4 A5 c1 c2 c3 c4 c5, e = .returned (baseV A1 A2 A3 A4 A5 c1 c2 c3 c4 c5) ∧ BaseAt w' A1 A2 A3 A4 A5 c1 c2 c3 c4 c5 ∧ Below w.heap.size w w' := by
  refine (dowellaw48_plain.calls 4000 nmB [] instsB dimsB [] [] w plain_f).mono ?_
  rintro e w' ⟨v1, v2, v3, v4, v5, rfl, h1, h2, h3, h4, h5, hb⟩
  obtain ⟨A1, c1, rfl, l1, g1⟩ := Kd.R_reads h1
  obtain ⟨A2, c2, rfl, l2, g2⟩ := Kd.R_reads h2
  obtain ⟨A3, c3, rfl, l3, g3⟩ := Kd.R_reads h3
  obtain ⟨A4, c4, rfl, l4, g4⟩ := Kd.R_reads (Kd.S_R h4)
  obtain ⟨A5, c5, rfl, l5, g5⟩ := Kd.R_reads h5
  exact ⟨A1, A2, A3, A4, A5, c1, c2, c3, c4, c5, rfl, ⟨g1, g2, l2, g3, l3, g4, g5⟩, hb⟩
/-- Family over the plain base. -/
theorem fam_calls0 (a : Int) (R G O : List (List Int)) (B1 B2 B3 : Option Addr) (d1 d2 d3 : Nat) (A1 A2 A3 A4 A5 : Option Addr) (c1 c2 c3 c4 c5 : Nat) (w : World) (h0 : 0 ≤ a) (h255 : a ≤ 255) (hR : All8 R) (hG : All8 G) (hO : All8 O)
    (r1 : Kd.C (Kd.slice 95 (Kd.int .i8)) w B1 R.length R) (l1 : R.length ≤ d1) (r2 : Kd.C (Kd.slice 95 (Kd.int .i8)) w B2 G.length G) (l2 : G.length ≤ d2) (r3 : Kd.C (Kd.slice 95 (Kd.int .i8)) w B3 O.length O) (l3 : O.length ≤ d3)
    (hb : BaseAt w A1 A2 A3 A4 A5 c1 c2 c3 c4 c5) :
    Calls Try.prog 12 #[.agg #[.int .u8 a, .slice B1 R.length d1, .slice B2 G.length d2, .slice B3 O.length d3], baseV A1 A2 A3 A4 A5 c1 c2 c3 c4 c5] w fun e w' => ∃ A6 A7 A8 A9 c6 c7 c8 c9, e = .returned (fv (famK a R G O) ⟨A1, A2, A3, A4, A5, A6, A7, A8, A9, c1, c2, c3, c4, c5, c6, c7, c8, c9⟩) ∧ FamAt w' (famK a R G O) ⟨A1, A2, A3, A4, A5, A6, A7, A8, A9, c1, c2, c3, c4, c5, c6, c7, c8, c9⟩ ∧ Kd.R Kd.string 9 w' w.heap.size (fun _ => True) (.slice A6 (famK a R G O).opts.length c6) (famK a R G O).opts ∧ Kd.N k70 70 w' w.heap.size (fun _ => True) (.slice A7 (famK a R G O).rules.length c7) (famK a R G O).rules ∧ Below w.heap.size w w' := by
  refine (dowellaw48_Family.calls 4000 a B1 d1 R B2 d2 G B3 d3 O nmB A1 c1 [] A2 c2 instsB A3 c3 dimsB A4 c4 [] A5 c5 [] _ _ _ _ _ _ _ _ _ _ w r1 l1 r2 l2 r3 l3 hb.r1 (Nat.zero_le _) hb.r2 hb.l2 hb.r3 hb.l3 hb.r4 (Nat.zero_le _) hb.r5 (Nat.zero_le _) (famK_f h0 h255 hR hG hO)).mono ?_
  rintro e w' ⟨v6, v7, v8, v9, rfl, g6, g7, g8, g9, hw⟩
  obtain ⟨A6, c6, rfl, l6, k6⟩ := Kd.R_reads g6
  obtain ⟨A7, c7, rfl, l7, k7⟩ := Kd.R_reads (Kd.S_R g7)
  obtain ⟨A8, c8, rfl, l8, k8⟩ := Kd.R_reads (Kd.S_R g8)
  obtain ⟨A9, c9, rfl, l9, k9⟩ := Kd.R_reads (Kd.S_R g9)
  have hB := hb.below hw
  exact ⟨A6, A7, A8, A9, c6, c7, c8, c9, rfl, ⟨hB.r1, Nat.zero_le _, hB.r2, hB.l2, hB.r3, hB.l3, hB.r4, Nat.zero_le _, hB.r5, Nat.zero_le _, k6, l6, k7, l7, k8, l8, k9, l9⟩, g6, Kd.S_N g7, hw⟩
end Go.Proofs.Ytbnmdlnpfikkcaa.PX
