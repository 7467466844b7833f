/- The described family: what it is, and that it is valid. -/
import Derived.Test.YtcilmcoaondbmaaGreatDoorM7
import Derived.Test.YtcilmcoaondbmaaGreatDoorMG
import Derived.Test.YtcilmcoaondbmaaGreatDoorM8
import Derived.Test.YtcilmcoaondbmaaGreatDoorM6
/- The reference's other functions in plain lists; the family that a description stands for. -/
namespace Go.Proofs.YtcilmcoaondbmaaGreatDoor.PX
open Go.RowKit Go.Proofs.YtcilmcoaondbmaaGreatDoorW.PrintWords Go.Proofs.YtcilmcoaondbmaaGreatDoorW.PrintLast Go.Proofs.YtcilmcoaondbmaaGreatDoorW.PrintMore
set_option linter.unusedVariables false
set_option linter.unusedSimpArgs false
theorem sameNames_from (l : List ByteArray) (hl : l.length < 3000) (d : Nat) : ∀ (K i : Nat), i + d = l.length → d < K → dowellaw48_sameNames.l0 K l l i = some true := by
  induction d with
  | zero =>
    intro K i hi hK
    obtain ⟨K, rfl⟩ : ∃ m, K = m + 1 := ⟨K - 1, by omega⟩
    simp only [dowellaw48_sameNames.l0]
    rw [if_neg (by omega)]
  | succ d ih =>
    intro K i hi hK
    obtain ⟨K, rfl⟩ : ∃ m, K = m + 1 := ⟨K - 1, by omega⟩
    simp only [dowellaw48_sameNames.l0]
    rw [if_pos (by omega), if_pos (by omega), if_pos (by omega), if_pos trivial, wrap_succ i (by omega)]
    exact ih K (i + 1) (by omega) (by omega)
theorem sameNames_f {l : List ByteArray} (hl : l.length < 3000) : dowellaw48_sameNames.f 4000 l l = some true := by
  unfold dowellaw48_sameNames.f
  rw [if_pos rfl]
  exact sameNames_from l hl l.length 4000 0 (by omega) (by omega)
theorem sameInts_from (l : List Int) (hl : l.length < 3000) (d : Nat) : ∀ (K i : Nat), i + d = l.length → d < K → dowellaw48_sameInts.l0 K l l i = some true := by
  induction d with
  | zero =>
    intro K i hi hK
    obtain ⟨K, rfl⟩ : ∃ m, K = m + 1 := ⟨K - 1, by omega⟩
    simp only [dowellaw48_sameInts.l0]
    rw [if_neg (by omega)]
  | succ d ih =>
    intro K i hi hK
    obtain ⟨K, rfl⟩ : ∃ m, K = m + 1 := ⟨K - 1, by omega⟩
    simp only [dowellaw48_sameInts.l0]
    rw [if_pos (by omega), if_pos (by omega), if_pos (by omega), if_pos trivial, wrap_succ i (by omega)]
    exact ih K (i + 1) (by omega) (by omega)
theorem sameInts_f {l : List Int} (hl : l.length < 3000) : dowellaw48_sameInts.f 4000 l l = some true := by
  unfold dowellaw48_sameInts.f
  rw [if_pos rfl]
  exact sameInts_from l hl l.length 4000 0 (by omega) (by omega)
theorem sameLits_from (l : List S62) (hl : l.length < 3000) (d : Nat) : ∀ (K i : Nat), i + d = l.length → d < K → dowellaw48_sameLiterals.l0 K l l i = some true := by
  induction d with
  | zero =>
    intro K i hi hK
    obtain ⟨K, rfl⟩ : ∃ m, K = m + 1 := ⟨K - 1, by omega⟩
    simp only [dowellaw48_sameLiterals.l0]
    rw [if_neg (by omega)]
  | succ d ih =>
    intro K i hi hK
    obtain ⟨K, rfl⟩ : ∃ m, K = m + 1 := ⟨K - 1, by omega⟩
    simp only [dowellaw48_sameLiterals.l0]
    rw [if_pos (by omega), if_pos (by omega), if_pos (by omega), if_neg (by simp), wrap_succ i (by omega)]
    exact ih K (i + 1) (by omega) (by omega)
theorem sameLits_f {l : List S62} (hl : l.length < 3000) : dowellaw48_sameLiterals.f 4000 l l = some true := by
  unfold dowellaw48_sameLiterals.f
  rw [if_pos rfl]
  exact sameLits_from l hl l.length 4000 0 (by omega) (by omega)
theorem literals_from (n : Int) (l : List S62) (hl : l.length < 1000) (d : Nat) : ∀ (K i : Nat), i + d = l.length → 2 * d < K → (∀ j, j < i → litE n l j = 0) → dowellaw48_literals.l0 K n l i = some (litsE n l) := by
  induction d with
  | zero =>
    intro K i hi hK h
    obtain ⟨K, rfl⟩ : ∃ m, K = m + 1 := ⟨K - 1, by omega⟩
    simp only [dowellaw48_literals.l0]
    rw [if_neg (by omega)]
    unfold litsE
    rw [fE_none _ _ fun j hj => h j (by omega)]
  | succ d ih =>
    intro K i hi hK h
    obtain ⟨K, rfl⟩ : ∃ m, K = m + 2 := ⟨K - 2, by omega⟩
    have hlt : i < l.length := by omega
    have hw : wrap64 ((i : Int) + 1) = ((i + 1 : Nat) : Int) := by unfold wrap64; omega
    have hnext : litE n l i = 0 → dowellaw48_literals.l0 K n l ((i + 1 : Nat) : Int) = some (litsE n l) := fun h0 =>
      ih K (i + 1) (by omega) (by omega) fun j hj => by
        by_cases e : j = i
        · rw [e]; exact h0
        · exact h j (by omega)
    have hhit : litE n l i ≠ 0 → litsE n l = litE n l i := fun h0 => fE_hit _ _ i hlt h h0
    simp only [dowellaw48_literals.l0]
    rw [if_pos (by omega), if_pos (by omega)]
    by_cases h1 : (rd_T62 l (i : Int)).f0 < 0
    · rw [if_pos h1]
      simp only [dowellaw48_literals.j1]
      have e : litE n l i = 10 := by unfold litE; rw [if_pos (.inl h1)]
      rw [if_pos trivial, hhit (by rw [e]; decide), e]
    · rw [if_neg h1]
      simp only [dowellaw48_literals.j1]
      by_cases h2 : (rd_T62 l (i : Int)).f0 ≥ n
      · have e : litE n l i = 10 := by unfold litE; rw [if_pos (.inr h2)]
        rw [if_pos (by simpa using h2), hhit (by rw [e]; decide), e]
      · rw [if_neg (by simpa using h2)]
        have ho : ¬ ((rd_T62 l (i : Int)).f0 < 0 ∨ n ≤ (rd_T62 l (i : Int)).f0) := by omega
        by_cases h3 : (i : Int) > 0
        · have hw1 : wrap64 ((i : Int) - 1) = (i : Int) - 1 := by unfold wrap64; omega
          rw [if_pos h3, hw1, if_pos (by omega), if_pos (by omega), if_pos (by omega), if_pos (by omega)]
          by_cases h4 : (rd_T62 l (i : Int)).f0 ≤ (rd_T62 l ((i : Int) - 1)).f0
          · have e : litE n l i = 8 := by unfold litE; rw [if_neg ho, if_pos ⟨by omega, h4⟩]
            rw [if_pos h4, hhit (by rw [e]; decide), e]
          · have e : litE n l i = 0 := by unfold litE; rw [if_neg ho, if_neg (fun hh => h4 hh.2)]
            rw [if_neg h4, hw]
            exact hnext e
        · have e : litE n l i = 0 := by unfold litE; rw [if_neg ho, if_neg (fun hh => h3 (by omega))]
          rw [if_neg h3, hw]
          exact hnext e
theorem literals_f {n : Int} {l : List S62} (hl : l.length < 1000) : dowellaw48_literals.f 4000 n l = some (litsE n l) :=
  literals_from n l hl l.length 4000 0 (by omega) (by omega) fun j hj => absurd hj (Nat.not_lt_zero _)

/-! The family that a description stands for. -/
def optN (i : Nat) : ByteArray := strOfNums [(97 + ((i : Int) % 256)) % 256]
def ruleN (i : Nat) : ByteArray := strOfNums [114, (49 + ((i : Int) % 256)) % 256]
def optsF (n : Nat) : List ByteArray := (List.range n).map optN
def ruleF (n : Nat) (R : List (List Int)) (i : Nat) : S70 := ⟨ruleN i, decL n (rd_L2 R (i : Int))⟩
def guardF (n : Nat) (G : List (List Int)) (m : Nat) (i : Nat) : S79 := ⟨Int.tmod (i : Int) (m : Int), decL n (rd_L2 G (i : Int))⟩
def ovr (l : List S62) (d : Int) (x : S81) (v : Int) : S83 := ⟨l, d, ⟨x.f0, v, x.f2, x.f3⟩⟩
def overF (n : Nat) (O : List (List Int)) (dims : List S81) (i : Nat) : S83 :=
  ovr (decL n (rd_L2 O (i : Int))) (Int.tmod (i : Int) (dims.length : Int)) (rd_T81 dims (Int.tmod (i : Int) (dims.length : Int))) (wrap64 (100 + (i : Int)))
def rulesF (n : Nat) (R : List (List Int)) (k : Nat) : List S70 := (List.range k).map (ruleF n R)
def guardsF (n : Nat) (G : List (List Int)) (m k : Nat) : List S79 := (List.range k).map (guardF n G m)
def oversF (n : Nat) (O : List (List Int)) (dims : List S81) (k : Nat) : List S83 := (List.range k).map (overF n O dims)
def All8 (R : List (List Int)) : Prop := ∀ r ∈ R, i8s r = true
theorem decode_f {n : Nat} {R : List (List Int)} (h1 : 1 ≤ n) (h6 : n ≤ 6) (h : All8 R) {i : Nat} (hi : i < R.length) : dowellaw48_decode.f n (rd_L2 R (i : Int)) = some (decL n (rd_L2 R (i : Int))) := by
  unfold dowellaw48_decode.f
  have hm : i8s (rd_L2 R (i : Int)) = true := by
    unfold rd_L2
    rw [Int.toNat_natCast, List.getD_eq_getElem?_getD, List.getElem?_eq_getElem hi]
    exact h _ (List.getElem_mem hi)
  rw [if_pos ⟨by omega, by omega, hm⟩, Int.toNat_natCast]
section
variable (n : Nat) (a : Int) (R G O : List (List Int)) (nm : ByteArray) (P : List S129) (I : List S105) (Dm : List S81) (C : List S158) (Q : List S165) (nm' : ByteArray) (P' : List S129) (I' : List S105) (Dm' : List S81) (C' : List S158) (Q' : List S165)
theorem fam3 (h1 : 1 ≤ n) (h6 : n ≤ 6) (hO : All8 O) (hd : 0 < Dm.length) (hd2 : Dm.length < 100) (op : List ByteArray) (ru : List S70) (gu : List S79) (d : Nat) : ∀ (K i : Nat), i + d = min O.length 4 → d < K →
    dowellaw48_Family.l3 K n i a R G O nm P I Dm C Q nm' P' I' Dm' C' Q' op ru gu (oversF n O Dm i) = some (nm', P', I', Dm', C', Q', op, ru, gu, oversF n O Dm (min O.length 4)) := by
  induction d with
  | zero =>
    intro K i hi hK
    obtain ⟨K, rfl⟩ : ∃ m, K = m + 1 := ⟨K - 1, by omega⟩
    have e : min O.length 4 = i := by omega
    simp only [dowellaw48_Family.l3]
    rw [e]
    by_cases h : (i : Int) < (O.length : Int)
    · rw [if_pos h, if_neg (by omega)]
    · rw [if_neg h]
  | succ d ih =>
    intro K i hi hK
    obtain ⟨K, rfl⟩ : ∃ m, K = m + 1 := ⟨K - 1, by omega⟩
    have hn := ih K (i + 1) (by omega) (by omega)
    have e : oversF n O Dm (i + 1) = oversF n O Dm i ++ [overF n O Dm i] := by simp [oversF, List.range_succ]
    have hl : (oversF n O Dm i).length = i := by simp [oversF]
    have t1 : 0 ≤ Int.tmod (i : Int) (Dm.length : Int) := Int.tmod_nonneg _ (by omega)
    have t2 : Int.tmod (i : Int) (Dm.length : Int) < (Dm.length : Int) := Int.tmod_lt_of_pos _ (by omega)
    simp only [dowellaw48_Family.l3]
    rw [if_pos (by omega), if_pos (by omega), if_pos (by omega), if_neg (by omega), if_pos t1, if_pos t2, if_pos (by omega), decode_f h1 h6 hO (by omega), Option.bind_some, hl, if_pos (by omega), wrap_succ i (by omega)]
    rw [e] at hn
    exact hn
theorem fam2 (h1 : 1 ≤ n) (h6 : n ≤ 6) (hG : All8 G) (hi' : 0 < I.length) (hi2 : I.length < 100) (op : List ByteArray) (ru : List S70) (r : _) (d : Nat) : ∀ (K i : Nat), i + d = min G.length 4 → d + 100 < K →
    (∀ K, 50 < K → dowellaw48_Family.l3 K n 0 a R G O nm P I Dm C Q nm' P' I' Dm' C' Q' op ru (guardsF n G I.length (min G.length 4)) [] = some r) →
    dowellaw48_Family.l2 K n i a R G O nm P I Dm C Q nm' P' I' Dm' C' Q' op ru (guardsF n G I.length i) = some r := by
  induction d with
  | zero =>
    intro K i hi hK h3
    obtain ⟨K, rfl⟩ : ∃ m, K = m + 2 := ⟨K - 2, by omega⟩
    have e : min G.length 4 = i := by omega
    have h3' := h3 K (by omega)
    rw [e] at h3'
    simp only [dowellaw48_Family.l2, dowellaw48_Family.j4]
    by_cases h : (i : Int) < (G.length : Int)
    · rw [if_pos h, if_neg (by omega)]; exact h3'
    · rw [if_neg h]; exact h3'
  | succ d ih =>
    intro K i hi hK h3
    obtain ⟨K, rfl⟩ : ∃ m, K = m + 1 := ⟨K - 1, by omega⟩
    have hn := ih K (i + 1) (by omega) (by omega) h3
    have e : guardsF n G I.length (i + 1) = guardsF n G I.length i ++ [guardF n G I.length i] := by simp [guardsF, List.range_succ]
    have hl : (guardsF n G I.length i).length = i := by simp [guardsF]
    simp only [dowellaw48_Family.l2]
    rw [if_pos (by omega), if_pos (by omega), if_pos (by omega), if_neg (by omega), if_pos (by omega), decode_f h1 h6 hG (by omega), Option.bind_some, hl, if_pos (by omega), wrap_succ i (by omega)]
    rw [e] at hn
    exact hn
theorem fam1 (h1 : 1 ≤ n) (h6 : n ≤ 6) (hR : All8 R) (op : List ByteArray) (r : _) (d : Nat) : ∀ (K i : Nat), i + d = min R.length 6 → d + 300 < K →
    (∀ K, 200 < K → dowellaw48_Family.l2 K n 0 a R G O nm P I Dm C Q nm' P' I' Dm' C' Q' op (rulesF n R (min R.length 6)) [] = some r) →
    dowellaw48_Family.l1 K n i a R G O nm P I Dm C Q nm' P' I' Dm' C' Q' op (rulesF n R i) = some r := by
  induction d with
  | zero =>
    intro K i hi hK h3
    obtain ⟨K, rfl⟩ : ∃ m, K = m + 2 := ⟨K - 2, by omega⟩
    have e : min R.length 6 = i := by omega
    have h3' := h3 K (by omega)
    rw [e] at h3'
    simp only [dowellaw48_Family.l1, dowellaw48_Family.j2]
    by_cases h : (i : Int) < (R.length : Int)
    · rw [if_pos h, if_neg (by omega)]; exact h3'
    · rw [if_neg h]; exact h3'
  | succ d ih =>
    intro K i hi hK h3
    obtain ⟨K, rfl⟩ : ∃ m, K = m + 1 := ⟨K - 1, by omega⟩
    have hn := ih K (i + 1) (by omega) (by omega) h3
    have e : rulesF n R (i + 1) = rulesF n R i ++ [ruleF n R i] := by simp [rulesF, List.range_succ]
    have hl : (rulesF n R i).length = i := by simp [rulesF]
    simp only [dowellaw48_Family.l1]
    rw [if_pos (by omega), if_pos (by omega), if_pos (by omega), decode_f h1 h6 hR (by omega), Option.bind_some, hl, if_pos (by omega), wrap_succ i (by omega)]
    rw [e] at hn
    exact hn
theorem fam0 (h6 : n ≤ 6) (r : _) (d : Nat) : ∀ (K i : Nat), i + d = n → d + 700 < K →
    (∀ K, 600 < K → dowellaw48_Family.l1 K n 0 a R G O nm P I Dm C Q nm' P' I' Dm' C' Q' (optsF n) [] = some r) →
    dowellaw48_Family.l0 K n i a R G O nm P I Dm C Q nm' P' I' Dm' C' Q' (optsF i) = some r := by
  induction d with
  | zero =>
    intro K i hi hK h3
    obtain ⟨K, rfl⟩ : ∃ m, K = m + 1 := ⟨K - 1, by omega⟩
    have e : n = i := by omega
    subst e
    simp only [dowellaw48_Family.l0]
    rw [if_neg (by omega)]
    exact h3 K (by omega)
  | succ d ih =>
    intro K i hi hK h3
    obtain ⟨K, rfl⟩ : ∃ m, K = m + 1 := ⟨K - 1, by omega⟩
    have hn := ih K (i + 1) (by omega) (by omega) h3
    have e : optsF (i + 1) = optsF i ++ [optN i] := by simp [optsF, List.range_succ]
    have hl : (optsF i).length = i := by simp [optsF]
    simp only [dowellaw48_Family.l0, dowellaw48_option.f, Option.bind_some]
    rw [if_pos (by omega), hl, if_pos (by omega), wrap_succ i (by omega)]
    rw [e] at hn
    exact hn
end
/-- The number of options that a description asks for. -/
def nOf (a : Int) : Nat := 1 + (a % 6).toNat
theorem nOf_ok {a : Int} (h0 : 0 ≤ a) (h1 : a ≤ 255) : 1 ≤ nOf a ∧ nOf a ≤ 6 ∧ wrap64 (1 + wrap64 (Int.tmod a 6)) = (nOf a : Int) := by
  have e : Int.tmod a 6 = a % 6 := Int.tmod_eq_emod_of_nonneg h0
  unfold nOf
  rw [e]
  unfold wrap64
  omega
/-- The family of a description, over a base. -/
def famOf (a : Int) (R G O : List (List Int)) (nm : ByteArray) (P : List S129) (I : List S105) (Dm : List S81) (C : List S158) (Q : List S165) : Fam :=
  ⟨nm, P, I, Dm, C, Q, optsF (nOf a), rulesF (nOf a) R (min R.length 6), guardsF (nOf a) G I.length (min G.length 4), oversF (nOf a) O Dm (min O.length 4)⟩
theorem family_f {a : Int} {R G O : List (List Int)} {nm : ByteArray} {P : List S129} {I : List S105} {Dm : List S81} {C : List S158} {Q : List S165} (h0 : 0 ≤ a) (h255 : a ≤ 255) (hR : All8 R) (hG : All8 G) (hO : All8 O)
    (hi : 0 < I.length) (hi2 : I.length < 100) (hd : 0 < Dm.length) (hd2 : Dm.length < 100) :
    dowellaw48_Family.f 4000 a R G O nm P I Dm C Q = some (nm, P, I, Dm, C, Q, optsF (nOf a), rulesF (nOf a) R (min R.length 6), guardsF (nOf a) G I.length (min G.length 4), oversF (nOf a) O Dm (min O.length 4)) := by
  obtain ⟨h1, h6, e⟩ := nOf_ok h0 h255
  unfold dowellaw48_Family.f
  rw [e]
  exact fam0 (nOf a) a R G O nm P I Dm C Q nm P I Dm C Q h6 _ (nOf a) 4000 0 (by omega) (by omega) fun K hK =>
    fam1 (nOf a) a R G O nm P I Dm C Q nm P I Dm C Q h1 h6 hR _ _ (min R.length 6) K 0 (by omega) (by omega) fun K hK =>
    fam2 (nOf a) a R G O nm P I Dm C Q nm P I Dm C Q h1 h6 hG hi hi2 _ _ _ (min G.length 4) K 0 (by omega) (by omega) fun K hK =>
    fam3 (nOf a) a R G O nm P I Dm C Q nm P I Dm C Q h1 h6 hO hd hd2 _ _ _ (min O.length 4) K 0 (by omega) (by omega)
end Go.Proofs.YtcilmcoaondbmaaGreatDoor.PX
/- A described family over the plain base is a valid one. -/
namespace Go.Proofs.YtcilmcoaondbmaaGreatDoor.PX
open Go.RowKit Go.Proofs.YtcilmcoaondbmaaGreatDoorW.PrintWords Go.Proofs.YtcilmcoaondbmaaGreatDoorW.PrintLast Go.Proofs.YtcilmcoaondbmaaGreatDoorW.PrintMore
set_option linter.unusedVariables false
set_option linter.unusedSimpArgs false
def nmB : ByteArray := ⟨#[98, 97, 115, 101]⟩
def instB (i : Nat) : S105 := ⟨optN i, (⟨#[112]⟩ : ByteArray), ⟨⟨0, 0, 0, 0⟩, ⟨⟨#[]⟩, ⟨#[]⟩, ⟨#[]⟩⟩⟩⟩
def instsB : List S105 := [instB 0, instB 1, instB 2]
def dimsB : List S81 := [⟨⟨#[100]⟩, 10, -1, 1⟩, ⟨⟨#[101]⟩, 20, -1, 1⟩]
theorem plain_f : dowellaw48_plain.f 4000 = some (nmB, [], instsB, dimsB, [], []) := by kernel_rfl
/-- A described family over the plain base. -/
def famK (a : Int) (R G O : List (List Int)) : Fam := famOf a R G O nmB [] instsB dimsB [] []
theorem famK_f {a : Int} {R G O : List (List Int)} (h0 : 0 ≤ a) (h255 : a ≤ 255) (hR : All8 R) (hG : All8 G) (hO : All8 O) :
    dowellaw48_Family.f 4000 a R G O nmB [] instsB dimsB [] [] = some ((famK a R G O).nm, (famK a R G O).parts, (famK a R G O).insts, (famK a R G O).dims, (famK a R G O).cons, (famK a R G O).reqs, (famK a R G O).opts, (famK a R G O).rules, (famK a R G O).guards, (famK a R G O).overs) :=
  family_f h0 h255 hR hG hO (by decide) (by decide) (by decide) (by decide)
end Go.Proofs.YtcilmcoaondbmaaGreatDoor.PX
/- plain and Family, as the laws want them. -/
namespace Go.Proofs.YtcilmcoaondbmaaGreatDoor.PX
open Go.RowKit Go.Proofs.YtcilmcoaondbmaaGreatDoorW.PrintWords Go.Proofs.YtcilmcoaondbmaaGreatDoorW.PrintLast Go.Proofs.YtcilmcoaondbmaaGreatDoorW.PrintMore
set_option linter.unusedVariables false
set_option linter.unusedSimpArgs false
/-- The plain base, in a world. -/
structure BaseAt (w : World) (A1 A2 A3 A4 A5 : Option Addr) (c1 c2 c3 c4 c5 : Nat) : Prop where
  r1 : Kd.C k129 w A1 ([] : List S129).length []
  r2 : Kd.C k105 w A2 instsB.length instsB
  l2 : instsB.length ≤ c2
  r3 : Kd.C k81 w A3 dimsB.length dimsB
  l3 : dimsB.length ≤ c3
  r4 : Kd.C k158 w A4 ([] : List S158).length []
  r5 : Kd.C k165 w A5 ([] : List S165).length []
theorem BaseAt.below {w w1 : World} {A1 A2 A3 A4 A5 : Option Addr} {c1 c2 c3 c4 c5 : Nat} (h : BaseAt w A1 A2 A3 A4 A5 c1 c2 c3 c4 c5) (hb : Below w.heap.size w w1) : BaseAt w1 A1 A2 A3 A4 A5 c1 c2 c3 c4 c5 :=
  ⟨Kd.C_below h.r1 hb, Kd.C_below h.r2 hb, h.l2, Kd.C_below h.r3 hb, h.l3, Kd.C_below h.r4 hb, Kd.C_below h.r5 hb⟩
def baseV (A1 A2 A3 A4 A5 : Option Addr) (c1 c2 c3 c4 c5 : Nat) : Value := .agg #[.string nmB, .slice A1 ([] : List S129).length c1, .slice A2 instsB.length c2, .slice A3 dimsB.length c3, .slice A4 ([] : List S158).length c4, .slice A5 ([] : List S165).length c5]
theorem plain_calls (w : World) : Calls Tryz.prog 18 #[] w fun e w' => ∃ A1 A2 A3 A4 A5 c1 c2 c3 c4 c5, e = .returned (baseV A1 A2 A3 A4 A5 c1 c2 c3 c4 c5) ∧ BaseAt w' A1 A2 A3 A4 A5 c1 c2 c3 c4 c5 ∧ Below w.heap.size w w' := by
  refine (dowellaw48_plain.calls 4000 nmB [] instsB dimsB [] [] w plain_f).mono ?_
  rintro e w' ⟨v1, v2, v3, v4, v5, rfl, h1, h2, h3, h4, h5, hb⟩
  obtain ⟨A1, c1, rfl, l1, g1⟩ := Kd.R_reads h1
  obtain ⟨A2, c2, rfl, l2, g2⟩ := Kd.R_reads h2
  obtain ⟨A3, c3, rfl, l3, g3⟩ := Kd.R_reads h3
  obtain ⟨A4, c4, rfl, l4, g4⟩ := Kd.R_reads (Kd.S_R h4)
  obtain ⟨A5, c5, rfl, l5, g5⟩ := Kd.R_reads h5
  exact ⟨A1, A2, A3, A4, A5, c1, c2, c3, c4, c5, rfl, ⟨g1, g2, l2, g3, l3, g4, g5⟩, hb⟩
/-- Family over the plain base. -/
theorem fam_calls0 (a : Int) (R G O : List (List Int)) (B1 B2 B3 : Option Addr) (d1 d2 d3 : Nat) (A1 A2 A3 A4 A5 : Option Addr) (c1 c2 c3 c4 c5 : Nat) (w : World) (h0 : 0 ≤ a) (h255 : a ≤ 255) (hR : All8 R) (hG : All8 G) (hO : All8 O)
    (r1 : Kd.C (Kd.slice 66 (Kd.int .i8)) w B1 R.length R) (l1 : R.length ≤ d1) (r2 : Kd.C (Kd.slice 66 (Kd.int .i8)) w B2 G.length G) (l2 : G.length ≤ d2) (r3 : Kd.C (Kd.slice 66 (Kd.int .i8)) w B3 O.length O) (l3 : O.length ≤ d3)
    (hb : BaseAt w A1 A2 A3 A4 A5 c1 c2 c3 c4 c5) :
    Calls Tryz.prog 17 #[.agg #[.int .u8 a, .slice B1 R.length d1, .slice B2 G.length d2, .slice B3 O.length d3], baseV A1 A2 A3 A4 A5 c1 c2 c3 c4 c5] w fun e w' => ∃ A6 A7 A8 A9 c6 c7 c8 c9, e = .returned (fv (famK a R G O) ⟨A1, A2, A3, A4, A5, A6, A7, A8, A9, c1, c2, c3, c4, c5, c6, c7, c8, c9⟩) ∧ FamAt w' (famK a R G O) ⟨A1, A2, A3, A4, A5, A6, A7, A8, A9, c1, c2, c3, c4, c5, c6, c7, c8, c9⟩ ∧ Kd.R Kd.string 9 w' w.heap.size (fun _ => True) (.slice A6 (famK a R G O).opts.length c6) (famK a R G O).opts ∧ Kd.N k70 40 w' w.heap.size (fun _ => True) (.slice A7 (famK a R G O).rules.length c7) (famK a R G O).rules ∧ Below w.heap.size w w' := by
  refine (dowellaw48_Family.calls 4000 a B1 d1 R B2 d2 G B3 d3 O nmB A1 c1 [] A2 c2 instsB A3 c3 dimsB A4 c4 [] A5 c5 [] _ _ _ _ _ _ _ _ _ _ w r1 l1 r2 l2 r3 l3 hb.r1 (Nat.zero_le _) hb.r2 hb.l2 hb.r3 hb.l3 hb.r4 (Nat.zero_le _) hb.r5 (Nat.zero_le _) (famK_f h0 h255 hR hG hO)).mono ?_
  rintro e w' ⟨v6, v7, v8, v9, rfl, g6, g7, g8, g9, hw⟩
  obtain ⟨A6, c6, rfl, l6, k6⟩ := Kd.R_reads g6
  obtain ⟨A7, c7, rfl, l7, k7⟩ := Kd.R_reads (Kd.S_R g7)
  obtain ⟨A8, c8, rfl, l8, k8⟩ := Kd.R_reads (Kd.S_R g8)
  obtain ⟨A9, c9, rfl, l9, k9⟩ := Kd.R_reads (Kd.S_R g9)
  have hB := hb.below hw
  exact ⟨A6, A7, A8, A9, c6, c7, c8, c9, rfl, ⟨trivial, Nat.zero_le _, trivial, hB.l2, hB.r3, hB.l3, trivial, Nat.zero_le _, trivial, Nat.zero_le _, k6, l6, k7, l7, k8, l8, k9, l9⟩, g6, Kd.S_N g7, hw⟩
end Go.Proofs.YtcilmcoaondbmaaGreatDoor.PX
