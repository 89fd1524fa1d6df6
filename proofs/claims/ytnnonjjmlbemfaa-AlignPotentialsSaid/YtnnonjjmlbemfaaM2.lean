/- Plain lemmas of chapter 45, no program in sight: the table of cheapest costs, and the first of the cheapest alignments. -/
import Derived.Test.YtnnonjjmlbemfaaM1
namespace Go.Proofs.Ytnnonjjmlbemfaa.Al
theorem Pc.le {x y : List Int} {c : Int} (h : Pc x y c) : c ≤ 4 := by
  cases h with
  | m a b => unfold sub; split <;> omega
  | _ => decide
theorem st_cost {k : Int} {P Q P' Q' : List Int} {c : Int} (h : st k P Q = some (P', Q', c)) : 0 ≤ c ∧ c ≤ 4 := by
  obtain ⟨x, y, hp, _, _⟩ := st_pc h
  exact ⟨hp.nonneg, hp.le⟩
theorem Al.nil_inv {P Q : List Int} {c : Int} (h : Al P Q c) : P = [] → Q = [] → c = 0 := by
  induction h with
  | nil => intro _ _; rfl
  | step hp _ _ => intro h1 h2; cases hp <;> simp at h1 h2
/-- cells of a table -/
def cl (g : List (List Int)) (i j : Nat) : Int := (g.getD i []).getD j 0
structure Sh (g : List (List Int)) (m n : Nat) : Prop where
  len : g.length = m + 1
  row : ∀ i, i ≤ m → (g.getD i []).length = n + 1
theorem getD_set {α : Type} (g : List α) (i i' : Nat) (v d : α) (h : i < g.length) : (g.set i v).getD i' d = if i' = i then v else g.getD i' d := by
  rw [List.getD_eq_getElem?_getD, List.getElem?_set]
  by_cases e : i = i'
  · subst e; rw [if_pos rfl, if_pos h, if_pos rfl]; rfl
  · rw [if_neg e, if_neg (fun x => e x.symm), List.getD_eq_getElem?_getD]
theorem Sh.set {g : List (List Int)} {m n i j : Nat} {v : Int} (h : Sh g m n) (hi : i ≤ m) (hj : j ≤ n) : Sh (g.set i ((g.getD i []).set j v)) m n ∧ ∀ i' j', cl (g.set i ((g.getD i []).set j v)) i' j' = if i' = i ∧ j' = j then v else cl g i' j' := by
  refine ⟨⟨by rw [List.length_set]; exact h.len, fun i' hi' => ?_⟩, fun i' j' => ?_⟩
  · rw [getD_set _ _ _ _ _ (by rw [h.len]; omega)]
    split
    · rw [List.length_set]; exact h.row i hi
    · exact h.row i' hi'
  · unfold cl
    rw [getD_set _ _ _ _ _ (by rw [h.len]; omega)]
    by_cases e : i' = i
    · subst e
      rw [if_pos rfl, getD_set _ _ _ _ _ (by rw [h.row _ hi]; omega)]
      by_cases e2 : j' = j
      · rw [if_pos e2, if_pos ⟨rfl, e2⟩]
      · rw [if_neg e2, if_neg (fun x => e2 x.2)]
    · rw [if_neg e, if_neg (fun x => e x.1)]
/-- the table -/
def tab (P Q : List Int) : List (List Int) := (List.range (P.length + 1)).map fun i => (List.range (Q.length + 1)).map fun j => D (P.drop i) (Q.drop j)
theorem getD_map_range {α : Type} (f : Nat → α) (n i : Nat) (d : α) (h : i < n) : ((List.range n).map f).getD i d = f i := by
  rw [List.getD_eq_getElem?_getD, List.getElem?_map, List.getElem?_range h]; rfl
theorem tab_sh (P Q : List Int) : Sh (tab P Q) P.length Q.length := by
  refine ⟨by unfold tab; rw [List.length_map, List.length_range], fun i hi => ?_⟩
  unfold tab
  rw [getD_map_range _ _ _ _ (by omega), List.length_map, List.length_range]
theorem tab_cl (P Q : List Int) {i j : Nat} (hi : i ≤ P.length) (hj : j ≤ Q.length) : cl (tab P Q) i j = D (P.drop i) (Q.drop j) := by
  unfold cl tab
  rw [getD_map_range _ _ _ _ (by omega), getD_map_range _ _ _ _ (by omega)]
theorem getD_ext {α : Type} {a b : List α} (d : α) (hl : a.length = b.length) (h : ∀ i, i < a.length → a.getD i d = b.getD i d) : a = b := by
  refine List.ext_getElem hl fun i h1 h2 => ?_
  have := h i h1
  rw [List.getD_eq_getElem?_getD, List.getD_eq_getElem?_getD, List.getElem?_eq_getElem h1, List.getElem?_eq_getElem h2] at this
  exact this
theorem sh_ext {g g' : List (List Int)} {m n : Nat} (h : Sh g m n) (h' : Sh g' m n) (he : ∀ i j, i ≤ m → j ≤ n → cl g i j = cl g' i j) : g = g' := by
  refine getD_ext [] (by rw [h.len, h'.len]) fun i hi => ?_
  have hi' : i ≤ m := by rw [h.len] at hi; omega
  refine getD_ext 0 (by rw [h.row i hi', h'.row i hi']) fun j hj => ?_
  exact he i j hi' (by rw [h.row i hi'] at hj; omega)
/-- a number that no step from here goes below, and that is none below the cheapest cost, is the cheapest cost -/
theorem D_of {P Q : List Int} {b : Int} (hne : ¬ (P = [] ∧ Q = [])) (h1 : D P Q ≤ b) (h2 : ∀ s, 0 ≤ s → s < 5 → ∀ P' Q' c, st s P Q = some (P', Q', c) → b ≤ c + D P' Q') : b = D P Q := by
  obtain ⟨k, P', Q', c, hs, hd⟩ := D_some hne
  have hk := st_kind hs
  have := h2 k (by omega) (by omega) P' Q' c hs
  omega
theorem D_not_none {P Q : List Int} (hne : ¬ (P = [] ∧ Q = [])) (h2 : ∀ s, 0 ≤ s → s < 5 → st s P Q = none) : False := by
  obtain ⟨k, P', Q', c, hs, hd⟩ := D_some hne
  have hk := st_kind hs
  rw [h2 k (by omega) (by omega)] at hs
  cases hs
/-- a step that leads along a cheapest alignment -/
def Good (P Q : List Int) (s : Int) : Prop := ∃ P' Q' c, st s P Q = some (P', Q', c) ∧ D P Q = c + D P' Q'
/-- the first of the cheapest alignments -/
inductive Bs : List Int → List Int → List Int → Prop
  | nil : Bs [] [] []
  | step {P Q P' Q' l : List Int} {s c : Int} : st s P Q = some (P', Q', c) → D P Q = c + D P' Q' → (∀ s', 0 ≤ s' → s' < s → ¬ Good P Q s') → Bs P' Q' l → Bs P Q (s :: l)
theorem least5 (p : Int → Prop) (h : ∃ k, (k = 0 ∨ k = 1 ∨ k = 2 ∨ k = 3 ∨ k = 4) ∧ p k) : ∃ k, (k = 0 ∨ k = 1 ∨ k = 2 ∨ k = 3 ∨ k = 4) ∧ p k ∧ ∀ k', 0 ≤ k' → k' < k → ¬ p k' := by
  by_cases h0 : p 0
  · exact ⟨0, by omega, h0, fun k' a b => by omega⟩
  · by_cases h1 : p 1
    · exact ⟨1, by omega, h1, fun k' a b => (show k' = 0 by omega) ▸ h0⟩
    · by_cases h2 : p 2
      · refine ⟨2, by omega, h2, fun k' a b => ?_⟩
        have : k' = 0 ∨ k' = 1 := by omega
        rcases this with rfl | rfl
        · exact h0
        · exact h1
      · by_cases h3 : p 3
        · refine ⟨3, by omega, h3, fun k' a b => ?_⟩
          have : k' = 0 ∨ k' = 1 ∨ k' = 2 := by omega
          rcases this with rfl | rfl | rfl
          · exact h0
          · exact h1
          · exact h2
        · obtain ⟨k, hk, hp⟩ := h
          rcases hk with rfl | rfl | rfl | rfl | rfl
          · exact absurd hp h0
          · exact absurd hp h1
          · exact absurd hp h2
          · exact absurd hp h3
          · refine ⟨4, by omega, hp, fun k' a b => ?_⟩
            have : k' = 0 ∨ k' = 1 ∨ k' = 2 ∨ k' = 3 := by omega
            rcases this with rfl | rfl | rfl | rfl
            · exact h0
            · exact h1
            · exact h2
            · exact h3
theorem Bs_ex : ∀ (n : Nat) (P Q : List Int), P.length + Q.length ≤ n → ∃ l, Bs P Q l ∧ l.length ≤ n
  | 0, P, Q, h => by
    obtain rfl := List.eq_nil_of_length_eq_zero (show P.length = 0 by omega)
    obtain rfl := List.eq_nil_of_length_eq_zero (show Q.length = 0 by omega)
    exact ⟨[], .nil, Nat.le_refl _⟩
  | n + 1, P, Q, h => by
    by_cases he : P = [] ∧ Q = []
    · obtain ⟨rfl, rfl⟩ := he
      exact ⟨[], .nil, Nat.zero_le _⟩
    · obtain ⟨k0, P0, Q0, c0, hs0, hd0⟩ := D_some he
      obtain ⟨k, hk, ⟨P', Q', c, hs, hd⟩, hl⟩ := least5 (Good P Q) ⟨k0, st_kind hs0, P0, Q0, c0, hs0, hd0⟩
      have hlen := st_len hs
      obtain ⟨l, hb, hn⟩ := Bs_ex n P' Q' (by omega)
      exact ⟨k :: l, .step hs hd hl hb, by simp; omega⟩
/-- steps that go through, and their cost -/
def co : List Int → List Int → List Int → Option Int
  | P, Q, [] => if P = [] ∧ Q = [] then some 0 else none
  | P, Q, s :: l => match st s P Q with
    | some (P', Q', c) => (co P' Q' l).map (c + ·)
    | none => none
theorem co_al : ∀ {l P Q : List Int} {c : Int}, co P Q l = some c → Al P Q c
  | [], P, Q, c, h => by
    unfold co at h
    by_cases he : P = [] ∧ Q = []
    · rw [if_pos he] at h; cases h; obtain ⟨rfl, rfl⟩ := he; exact .nil
    · rw [if_neg he] at h; cases h
  | s :: l, P, Q, c, h => by
    unfold co at h
    cases hs : st s P Q with
    | none => rw [hs] at h; cases h
    | some r =>
      obtain ⟨P', Q', c1⟩ := r
      rw [hs] at h
      obtain ⟨c2, h2, rfl⟩ := Option.map_eq_some_iff.1 h
      obtain ⟨x, y, hp, rfl, rfl⟩ := st_pc hs
      exact .step hp (co_al h2)
theorem Bs_co {P Q l : List Int} (h : Bs P Q l) : co P Q l = some (D P Q) := by
  induction h with
  | nil => rfl
  | step hs hd _ _ ih => unfold co; rw [hs]; simp only [ih, Option.map_some, hd]
/-- of two lists: the order -/
def cmpL : List Int → List Int → Int
  | [], [] => 0
  | [], _ :: _ => -1
  | _ :: _, [] => 1
  | a :: l, b :: m => if a < b then -1 else if a > b then 1 else cmpL l m
theorem Bs_first {P Q l : List Int} (h : Bs P Q l) : ∀ m, co P Q m = some (D P Q) → cmpL l m ≤ 0 := by
  induction h with
  | nil => intro m _; cases m <;> simp [cmpL]
  | @step P Q P' Q' l s c hs hd hl hb ih =>
    intro m hm
    cases m with
    | nil =>
      unfold co at hm
      by_cases he : P = [] ∧ Q = []
      · obtain ⟨rfl, rfl⟩ := he
        have := st_len hs
        simp at this
      · rw [if_neg he] at hm; cases hm
    | cons b m =>
      have hg : Good P Q b ∧ ∀ P2 Q2 c2, st b P Q = some (P2, Q2, c2) → co P2 Q2 m = some (D P2 Q2) := by
        unfold co at hm
        cases hb2 : st b P Q with
        | none => rw [hb2] at hm; cases hm
        | some r =>
          obtain ⟨P2, Q2, c2⟩ := r
          rw [hb2] at hm
          obtain ⟨c3, h3, h4⟩ := Option.map_eq_some_iff.1 hm
          have h5 := D_le (co_al h3)
          have h6 := D_step hb2
          have h7 : c2 + c3 = D P Q := h4
          refine ⟨⟨P2, Q2, c2, hb2, by omega⟩, fun P3 Q3 c4 e => ?_⟩
          cases e
          rw [h3]
          congr 1
          omega
      obtain ⟨P2, Q2, c2, h2, h3⟩ := hg.1
      have hkind := st_kind h2
      have hks := st_kind hs
      unfold cmpL
      by_cases h1 : s < b
      · rw [if_pos h1]; decide
      · rw [if_neg h1]
        by_cases h4 : s > b
        · exact absurd hg.1 (hl b (by omega) (by omega))
        · rw [if_neg h4]
          obtain rfl : s = b := by omega
          exact ih m (hg.2 _ _ _ hs)
end Go.Proofs.Ytnnonjjmlbemfaa.Al
