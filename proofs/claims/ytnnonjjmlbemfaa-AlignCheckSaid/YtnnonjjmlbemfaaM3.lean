/- Plain lemmas of chapter 45, no program in sight: potentials that prove an alignment to be cheapest. -/
import Derived.Test.YtnnonjjmlbemfaaM2
namespace Go.Proofs.Ytnnonjjmlbemfaa.Al
/-- a step from a place does not lead to a potential that is too small -/
def Okk (P Q : List Int) (t : List (List Int)) (i j : Nat) (s : Int) : Prop := ∀ P' Q' c, st s (P.drop i) (Q.drop j) = some (P', Q', c) → cl t i j ≤ c + cl t (P.length - P'.length) (Q.length - Q'.length)
def A3 (P Q : List Int) (t : List (List Int)) (i j s : Nat) : Prop := ∀ s' : Nat, s ≤ s' → s' < 5 → Okk P Q t i j (s' : Int)
def A2 (P Q : List Int) (t : List (List Int)) (i j : Nat) : Prop := ∀ j', j ≤ j' → j' ≤ Q.length → A3 P Q t i j' 0
def A1 (P Q : List Int) (t : List (List Int)) (i : Nat) : Prop := ∀ i', i ≤ i' → i' ≤ P.length → A2 P Q t i' 0
theorem A3_end {P Q : List Int} {t : List (List Int)} {i j : Nat} : A3 P Q t i j 5 := fun s' a b => by omega
theorem A3_next {P Q : List Int} {t : List (List Int)} {i j s : Nat} (h : s < 5) : A3 P Q t i j s ↔ Okk P Q t i j (s : Int) ∧ A3 P Q t i j (s + 1) := by
  constructor
  · exact fun a => ⟨a s (Nat.le_refl _) h, fun s' x y => a s' (by omega) y⟩
  · rintro ⟨a, b⟩ s' x y
    by_cases e : s' = s
    · rw [e]; exact a
    · exact b s' (by omega) y
theorem A2_end {P Q : List Int} {t : List (List Int)} {i j : Nat} (h : Q.length < j) : A2 P Q t i j := fun j' a b => by omega
theorem A2_next {P Q : List Int} {t : List (List Int)} {i j : Nat} (h : j ≤ Q.length) : A2 P Q t i j ↔ A3 P Q t i j 0 ∧ A2 P Q t i (j + 1) := by
  constructor
  · exact fun a => ⟨a j (Nat.le_refl _) h, fun s' x y => a s' (by omega) y⟩
  · rintro ⟨a, b⟩ s' x y
    by_cases e : s' = j
    · rw [e]; exact a
    · exact b s' (by omega) y
theorem A1_end {P Q : List Int} {t : List (List Int)} {i : Nat} (h : P.length < i) : A1 P Q t i := fun j' a b => by omega
theorem A1_next {P Q : List Int} {t : List (List Int)} {i : Nat} (h : i ≤ P.length) : A1 P Q t i ↔ A2 P Q t i 0 ∧ A1 P Q t (i + 1) := by
  constructor
  · exact fun a => ⟨a i (Nat.le_refl _) h, fun s' x y => a s' (by omega) y⟩
  · rintro ⟨a, b⟩ s' x y
    by_cases e : s' = i
    · rw [e]; exact a
    · exact b s' (by omega) y
/-- what Check asks of the steps and the potentials -/
structure CK (P Q steps : List Int) (t : List (List Int)) : Prop where
  sh : Sh t P.length Q.length
  co_ : co P Q steps = some (cl t 0 0)
  z : cl t P.length Q.length = 0
  pot : A1 P Q t 0
theorem Pot.al {t : List (List Int)} (P Q : List Int) (hp : A1 P Q t 0) (hz : cl t P.length Q.length = 0) {R S : List Int} {c : Int} (h : Al R S c) : ∀ i j, i ≤ P.length → j ≤ Q.length → R = P.drop i → S = Q.drop j → cl t i j ≤ c := by
  induction h with
  | nil =>
    intro i j hi hj h1 h2
    have e1 : i = P.length := by have := congrArg List.length h1; rw [List.length_drop] at this; simp at this; omega
    have e2 : j = Q.length := by have := congrArg List.length h2; rw [List.length_drop] at this; simp at this; omega
    rw [e1, e2, hz]; exact Int.le_refl _
  | @step x y R' S' c d hpc ha ih =>
    intro i j hi hj h1 h2
    obtain ⟨k, hk, hs⟩ := hpc.st
    have hs := hs R' S'
    rw [h1, h2] at hs
    have l1 := congrArg List.length h1
    have l2 := congrArg List.length h2
    rw [List.length_append, List.length_drop] at l1 l2
    have e1 : R' = P.drop (P.length - R'.length) := by
      have := congrArg (List.drop x.length) h1
      rw [List.drop_left, List.drop_drop] at this
      rw [show P.length - R'.length = i + x.length by omega]; exact this
    have e2 : S' = Q.drop (Q.length - S'.length) := by
      have := congrArg (List.drop y.length) h2
      rw [List.drop_left, List.drop_drop] at this
      rw [show Q.length - S'.length = j + y.length by omega]; exact this
    have h3 := ih (P.length - R'.length) (Q.length - S'.length) (by omega) (by omega) e1 e2
    obtain ⟨k', rfl, hk'⟩ : ∃ k' : Nat, k = (k' : Int) ∧ k' < 5 := ⟨k.toNat, by omega, by omega⟩
    have h4 := hp i (Nat.zero_le _) hi j (Nat.zero_le _) hj k' (Nat.zero_le _) hk' R' S' c hs
    omega
/-- such steps are a cheapest alignment -/
theorem CK.best {P Q steps : List Int} {t : List (List Int)} (h : CK P Q steps t) : co P Q steps = some (D P Q) := by
  have h1 := Pot.al P Q h.pot h.z (D_al P Q) 0 0 (Nat.zero_le _) (Nat.zero_le _) rfl rfl
  have h2 := D_le (co_al h.co_)
  rw [h.co_]
  congr 1
  omega
/-- the cheapest costs are such potentials -/
theorem CK_tab {P Q l : List Int} (h : Bs P Q l) : CK P Q l (tab P Q) := by
  refine ⟨tab_sh P Q, ?_, ?_, ?_⟩
  · rw [Bs_co h, tab_cl _ _ (Nat.zero_le _) (Nat.zero_le _), List.drop_zero, List.drop_zero]
  · rw [tab_cl _ _ (Nat.le_refl _) (Nat.le_refl _), List.drop_length, List.drop_length]; exact D_nil
  · intro i _ hi j _ hj s _ hs P' Q' c h
    rw [tab_cl _ _ hi hj, tab_cl _ _ (by omega) (by omega)]
    have h1 := D_step h
    obtain ⟨x, y, hp, e1, e2⟩ := st_pc h
    have l1 := congrArg List.length e1
    have l2 := congrArg List.length e2
    rw [List.length_append, List.length_drop] at l1 l2
    have d1 : P.drop (P.length - P'.length) = P' := by
      have := congrArg (List.drop x.length) e1
      rw [List.drop_left, List.drop_drop] at this
      rw [show P.length - P'.length = i + x.length by omega]; exact this
    have d2 : Q.drop (Q.length - Q'.length) = Q' := by
      have := congrArg (List.drop y.length) e2
      rw [List.drop_left, List.drop_drop] at this
      rw [show Q.length - Q'.length = j + y.length by omega]; exact this
    rw [d1, d2]
    exact h1
end Go.Proofs.Ytnnonjjmlbemfaa.Al
