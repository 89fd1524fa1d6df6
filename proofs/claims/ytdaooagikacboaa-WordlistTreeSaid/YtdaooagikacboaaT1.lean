/- Chapter 54: the tree of a sorted list, in plain words, and that there is one. -/
import Derived.Test.YtdaooagikacboaaW9
import Derived.Test.YtdaooagikacboaaWA
namespace Go.Proofs.Ytdaooagikacboaa.Lem
open Go.RowKit Go.Proofs.Ytdaooagikacboaa.X Go.Proofs.YtdaooagikacboaaW.PrintWords Go.Proofs.YtdaooagikacboaaW.PrintLast
mutual
/-- the nodes of the words that go on with these letters, from an index on -/
inductive Tr : List (List UInt8) → Int → Nat → List Lf → Prop
  | mk {ts rs : List (List UInt8)} {s : Int} {b : Nat} {e : Bool} {K : List Int} {N : List Lf} (he : ts = if e = true then [] :: rs else rs) (h : Gr rs (b + 1) K N) : Tr ts s b (⟨s, e, K⟩ :: N)
inductive Gr : List (List UInt8) → Nat → List Int → List Lf → Prop
  | nil {b : Nat} : Gr [] b [] []
  | cons {g rem : List (List UInt8)} {c : UInt8} {b : Nat} {S N : List Lf} {K : List Int} (hg : g ≠ []) (hc : ∀ t ∈ rem, ∃ c' t', t = c' :: t' ∧ c < c') (h : Tr g (c.toNat : Int) b S) (h2 : Gr rem (b + S.length) K N) : Gr (g.map (c :: ·) ++ rem) b ((b : Int) :: K) (S ++ N)
end
def Srt (ts : List (List UInt8)) : Prop := ts.Pairwise (fun a b => a < b)
def mea (ts : List (List UInt8)) : Nat := (ts.map (fun t => t.length + 1)).sum
theorem mea_app (a b : List (List UInt8)) : mea (a ++ b) = mea a + mea b := by unfold mea; rw [List.map_append, List.sum_append]
theorem mea_cons (c : UInt8) : ∀ g : List (List UInt8), mea (g.map (c :: ·)) = mea g + g.length
  | [] => rfl
  | t :: r => by
    have := mea_cons c r
    unfold mea at this ⊢
    simp only [List.map_cons, List.sum_cons, List.length_cons] at this ⊢
    omega
theorem not_lt_nil (t : List UInt8) : ¬ t < [] := by intro h; cases h
/-- the words of the first letter, and the others -/
theorem first_group (c : UInt8) : ∀ (rs : List (List UInt8)), Srt rs → (∀ t ∈ rs, ∃ c' t', t = c' :: t' ∧ ¬ c' < c) → ∃ g rem, rs = g.map (c :: ·) ++ rem ∧ Srt g ∧ Srt rem ∧ ∀ t ∈ rem, ∃ c' t', t = c' :: t' ∧ c < c'
  | [], _, _ => ⟨[], [], rfl, List.Pairwise.nil, List.Pairwise.nil, fun t h => by cases h⟩
  | x :: r, hs, hc => by
    obtain ⟨c', t', rfl, hx⟩ := hc x (List.mem_cons_self ..)
    have hp := List.pairwise_cons.1 hs
    by_cases h : c' = c
    · subst h
      obtain ⟨g, rem, h1, h2, h3, h4⟩ := first_group c' r hp.2 (fun t ht => hc t (List.mem_cons_of_mem _ ht))
      refine ⟨t' :: g, rem, by rw [h1]; rfl, List.pairwise_cons.2 ⟨fun u hu => ?_, h2⟩, h3, h4⟩
      have h5 := hp.1 (c' :: u) (by rw [h1]; exact List.mem_append_left _ (List.mem_map_of_mem hu))
      rw [List.cons_lt_cons_iff] at h5
      rcases h5 with h5 | h5
      · exact absurd h5 (UInt8.lt_irrefl _)
      · exact h5.2
    · have hlt : c < c' := by
        rcases Nat.lt_trichotomy c.toNat c'.toNat with h5 | h5 | h5
        · exact UInt8.lt_iff_toNat_lt.2 h5
        · exact absurd (UInt8.toNat_inj.1 h5).symm h
        · exact absurd (UInt8.lt_iff_toNat_lt.2 h5) hx
      refine ⟨[], (c' :: t') :: r, rfl, List.Pairwise.nil, hs, fun t ht => ?_⟩
      rcases List.mem_cons.1 ht with rfl | ht
      · exact ⟨c', t', rfl, hlt⟩
      · obtain ⟨c2, t2, rfl, _⟩ := hc t (List.mem_cons_of_mem _ ht)
        refine ⟨c2, t2, rfl, ?_⟩
        have h5 := hp.1 _ ht
        rw [List.cons_lt_cons_iff] at h5
        rcases h5 with h5 | h5
        · exact UInt8.lt_trans hlt h5
        · rw [← h5.1]; exact hlt
theorem tr_of_gr (n : Nat) (hgr : ∀ rs : List (List UInt8), mea rs ≤ n → Srt rs → (∀ t ∈ rs, t ≠ []) → ∀ b, ∃ K N, Gr rs b K N) (ts : List (List UInt8)) (hm : mea ts ≤ n) (hs : Srt ts) (s : Int) (b : Nat) : ∃ N, Tr ts s b N := by
  cases ts with
  | nil =>
    exact ⟨_, Tr.mk (e := false) (rs := []) rfl Gr.nil⟩
  | cons x r =>
    have hp := List.pairwise_cons.1 hs
    have hne : ∀ t ∈ r, t ≠ [] := by
      intro t ht h
      subst h
      exact not_lt_nil x (hp.1 _ ht)
    by_cases hx : x = []
    · subst hx
      obtain ⟨K, N, h⟩ := hgr r (by unfold mea at hm ⊢; simp only [List.map_cons, List.sum_cons] at hm; omega) hp.2 hne (b + 1)
      exact ⟨_, Tr.mk (e := true) (rs := r) (by rw [if_pos rfl]) h⟩
    · obtain ⟨K, N, h⟩ := hgr (x :: r) hm hs (fun t ht => by
        rcases List.mem_cons.1 ht with rfl | ht
        · exact hx
        · exact hne t ht) (b + 1)
      exact ⟨_, Tr.mk (e := false) (rs := x :: r) (by rw [if_neg (by decide)]) h⟩
theorem gr_ex : ∀ (n : Nat) (rs : List (List UInt8)), mea rs ≤ n → Srt rs → (∀ t ∈ rs, t ≠ []) → ∀ b, ∃ K N, Gr rs b K N
  | n, [], _, _, _, b => ⟨[], [], Gr.nil⟩
  | 0, x :: r, hm, _, _, b => by unfold mea at hm; simp only [List.map_cons, List.sum_cons] at hm; omega
  | n + 1, x :: r, hm, hs, hne, b => by
    have hp := List.pairwise_cons.1 hs
    obtain ⟨c, t, rfl⟩ : ∃ c t, x = c :: t := by
      cases x with
      | nil => exact absurd rfl (hne [] (List.mem_cons_self ..))
      | cons c t => exact ⟨c, t, rfl⟩
    obtain ⟨g, rem, h1, h2, h3, h4⟩ := first_group c ((c :: t) :: r) hs (fun u hu => by
      rcases List.mem_cons.1 hu with rfl | hu
      · exact ⟨c, t, rfl, UInt8.lt_irrefl _⟩
      · cases u with
        | nil => exact absurd rfl (hne [] (List.mem_cons_of_mem _ hu))
        | cons c2 t2 =>
          refine ⟨c2, t2, rfl, fun h => ?_⟩
          have h5 := hp.1 _ hu
          rw [List.cons_lt_cons_iff] at h5
          rcases h5 with h5 | h5
          · exact UInt8.lt_irrefl _ (UInt8.lt_trans h h5)
          · rw [h5.1] at h; exact UInt8.lt_irrefl _ h)
    have hg : g ≠ [] := by
      rintro rfl
      rw [List.map_nil, List.nil_append] at h1
      obtain ⟨c', t', h5, h6⟩ := h4 (c :: t) (by rw [← h1]; exact List.mem_cons_self ..)
      rw [(List.cons.inj h5).1] at h6
      exact UInt8.lt_irrefl _ h6
    have hl : 0 < g.length := List.length_pos_iff.2 hg
    have hmm := mea_app (g.map (c :: ·)) rem
    rw [← h1, mea_cons] at hmm
    obtain ⟨S, hS⟩ := tr_of_gr n (gr_ex n) g (by omega) h2 (c.toNat : Int) b
    obtain ⟨K, N, hN⟩ := gr_ex n rem (by omega) h3 (fun u hu => by
      obtain ⟨c', t', rfl, _⟩ := h4 u hu
      simp) (b + S.length)
    rw [h1]
    exact ⟨_, _, Gr.cons hg h4 hS hN⟩
theorem tr_ex (ts : List (List UInt8)) (hs : Srt ts) (s : Int) (b : Nat) : ∃ N, Tr ts s b N := tr_of_gr (mea ts) (gr_ex _) ts (Nat.le_refl _) hs s b
end Go.Proofs.Ytdaooagikacboaa.Lem
