/- WordlistAll in plain words: from the empty string on, Next goes through all words that Find returns, in order. -/
import Derived.Test.YtdaooagikacboaaW3
import Derived.Test.YtdaooagikacboaaW4
import Derived.Test.YtdaooagikacboaaX11
namespace Go.Proofs.Ytdaooagikacboaa.Lem
open Go.RowKit Go.Proofs.Ytdaooagikacboaa.X Go.Proofs.YtdaooagikacboaaW.PrintWords Go.Proofs.YtdaooagikacboaaW.PrintLast
theorem made_loop (xs : List Int) (ws : List ByteArray) (hx : ∀ x ∈ xs, 0 ≤ x ∧ x ≤ 255) (h0 : 0 < ws.length) (h1 : ws.length ≤ 100) (d : Nat) : ∀ (i : Nat) (w : List ByteArray), i + d = 40 → w.length ≤ i → ∃ r, Ev (fun k => ancepsref54_Made.l0 k xs ws (i : Int) w) r ∧ r.length ≤ 40 := by
  induction d with
  | zero =>
    intro i w hi hw
    refine ⟨w, Ev.step (fun k => ancepsref54_Made.l0.eq_2 _ _ _ _ _) ?_, by omega⟩
    refine Ev.cond (fun h => ?_) (fun h => ?_)
    · rw [decide_eq_false (by omega)]
      exact Ev.step (fun k => ancepsref54_Made.j1.eq_2 _ _ _ _ _ _) (Ev.neg Bool.false_ne_true (Ev.val rfl))
    · exact Ev.step (fun k => ancepsref54_Made.j1.eq_2 _ _ _ _ _ _) (Ev.neg Bool.false_ne_true (Ev.val rfl))
  | succ d ih =>
    intro i w hi hw
    by_cases hlt : (i : Int) < (xs.length : Int)
    · have hr : 0 ≤ rd xs (i : Int) ∧ rd xs (i : Int) ≤ 255 := by
        unfold rd
        rw [Int.toNat_natCast, List.getD_eq_getElem?_getD, List.getElem?_eq_getElem (by omega)]
        exact hx _ (List.getElem_mem _)
      obtain ⟨r1, e1, l1⟩ := ih (i + 1) (addS w (rdOf ByteArray.empty ws (Int.tmod (rd xs (i : Int)) (ws.length : Int)))).1 (by omega) (by have := addS_len w (rdOf ByteArray.empty ws (Int.tmod (rd xs (i : Int)) (ws.length : Int))); omega)
      obtain ⟨r2, e2, l2⟩ := ih (i + 1) w (by omega) (by omega)
      refine ⟨if (addS w (rdOf ByteArray.empty ws (Int.tmod (rd xs (i : Int)) (ws.length : Int)))).2 = 0 then r1 else r2, Ev.step (fun k => ancepsref54_Made.l0.eq_2 _ _ _ _ _) (Ev.pos hlt ?_), by split <;> assumption⟩
      rw [decide_eq_true (by omega)]
      refine Ev.step (fun k => ancepsref54_Made.j1.eq_2 _ _ _ _ _ _) (Ev.pos rfl (Ev.pos (by omega) (Ev.pos hlt (Ev.neg (by omega) ?_))))
      rw [w64 (by omega) (by omega), w64 (by omega) (by omega)]
      have t0 : 0 ≤ Int.tmod (rd xs (i : Int)) (ws.length : Int) := Int.tmod_nonneg _ hr.1
      have t1 : Int.tmod (rd xs (i : Int)) (ws.length : Int) < (ws.length : Int) := Int.tmod_lt_of_pos _ (by omega)
      refine Ev.pos t0 (Ev.pos t1 (Ev.bind (radd_ev w _ (by omega)) ?_))
      refine Ev.cond (fun h => ?_) (fun h => ?_)
      · rw [if_pos h]; exact e1
      · rw [if_neg h]; exact e2
    · refine ⟨w, Ev.step (fun k => ancepsref54_Made.l0.eq_2 _ _ _ _ _) (Ev.neg hlt ?_), by omega⟩
      exact Ev.step (fun k => ancepsref54_Made.j1.eq_2 _ _ _ _ _ _) (Ev.neg Bool.false_ne_true (Ev.val rfl))
theorem made_ev (xs : List Int) (hx : ∀ x ∈ xs, 0 ≤ x ∧ x ≤ 255) : ∃ r, Ev (fun k => ancepsref54_Made.f k xs) r ∧ r.length ≤ 40 := by
  unfold ancepsref54_Made.f
  exact made_loop xs _ hx (by decide) (by decide) 40 0 [] (by omega) (by simp)
def found (a b : Int) (m : ByteArray) (s : ByteArray) : Bool := decide ((s.size : Int) ≥ a) && (decide ((s.size : Int) ≤ b) && fitS s m)
theorem find_loop (l : List ByteArray) (m : ByteArray) (a b : Int) (hl : l.length ≤ 1000000000) (hw : ∀ s ∈ l, s.size ≤ 1000000) (hm : m.size ≤ 1000000) (d : Nat) : ∀ i : Nat, i + d = l.length → Ev (fun k => wordlist_Find.l0 k m a b ((l.take i).filter (found a b m)) l (l.length : Int) (i : Int)) (l.filter (found a b m), 0) := by
  induction d with
  | zero =>
    intro i hi
    rw [List.take_of_length_le (by omega)]
    exact Ev.step (fun k => wordlist_Find.l0.eq_2 _ _ _ _ _ _ _ _) (Ev.neg (by omega) (Ev.val rfl))
  | succ d ih =>
    intro i hi
    have hn := ih (i + 1) (by omega)
    have ht : l.take (i + 1) = l.take i ++ [l[i]] := by rw [List.take_add_one, List.getElem?_eq_getElem (by omega)]; rfl
    rw [ht, List.filter_append] at hn
    refine Ev.step (fun k => wordlist_Find.l0.eq_2 _ _ _ _ _ _ _ _) (Ev.pos (by omega) (Ev.pos (by omega) (Ev.pos (by omega) ?_)))
    rw [rdOf_at l i (by omega), w64 (by omega) (by omega)]
    have no : found a b m l[i] = false → Ev (fun k => wordlist_Find.l0 k m a b ((l.take i).filter (found a b m)) l (l.length : Int) ((i : Int) + 1)) (l.filter (found a b m), 0) := by
      intro h
      rw [List.filter_cons_of_neg (by rw [h]; exact Bool.false_ne_true), List.filter_nil, List.append_nil] at hn
      exact hn
    refine Ev.cond (fun h1 => ?_) (fun h1 => no (by unfold found; rw [decide_eq_false h1]; rfl))
    refine Ev.cond (fun h2 => ?_) (fun h2 => no (by unfold found; rw [decide_eq_false h2, Bool.false_and, Bool.and_false]))
    refine Ev.bind (fits_ev _ m (hw _ (List.getElem_mem _)) hm) (Ev.cond (fun h3 => ?_) (fun h3 => no (by unfold found; rw [Bool.eq_false_iff.2 h3, Bool.and_false, Bool.and_false])))
    have hf : found a b m l[i] = true := by unfold found; rw [decide_eq_true h1, decide_eq_true h2, h3]; rfl
    rw [List.filter_cons_of_pos hf, List.filter_nil] at hn
    refine Ev.pos ?_ hn
    have := List.length_filter_le (found a b m) (l.take i)
    have := List.length_take_le i l
    omega
theorem find_ev (l : List ByteArray) (m : ByteArray) (hl : l.length ≤ 1000000000) : Ev (fun k => wordlist_Find.f k l m 0 16) (if askedS l m = 0 then (l.filter (found 0 16 m), 0) else ([], askedS l m)) := by
  unfold wordlist_Find.f
  refine Ev.bind (asked_ev l m hl) (Ev.cond (fun h => ?_) (fun h => Ev.val (by rw [if_neg h])))
  rw [if_pos h]
  obtain ⟨h1, h2⟩ := asked_ok h
  refine Ev.neg (by decide) (Ev.neg (by decide) (Ev.step (fun k => wordlist_Find.j0.eq_2 _ _ _ _ _ _) ?_))
  refine Ev.neg (by decide) ?_
  have := find_loop l m 0 16 hl (fun s hs => by have := (wrongS_ok (valid_word h1 s hs)).2.1; omega) (by have := (mask_ok h2).1; omega) l.length 0 (by omega)
  rw [List.take_zero] at this
  exact this
theorem find_at {α : Type} (p : α → Bool) : ∀ (L : List α) (i : Nat), (∀ j x, j < i → L[j]? = some x → p x = false) → (∀ x, L[i]? = some x → p x = true) → L.find? p = L[i]?
  | [], i, _, _ => by simp
  | x :: L, 0, _, h2 => by rw [List.find?_cons, h2 x rfl]; rfl
  | x :: L, i + 1, h1, h2 => by
    rw [List.find?_cons, h1 0 x (by omega) rfl]
    rw [List.getElem?_cons_succ]
    exact find_at p L i (fun j y hj hy => h1 (j + 1) y (by omega) (by rw [List.getElem?_cons_succ]; exact hy)) (fun y hy => h2 y (by rw [List.getElem?_cons_succ]; exact hy))
theorem valid_pairs {l : List ByteArray} (h : validS l = 0) : l.Pairwise (fun x y => less x y = true) := by
  rw [List.pairwise_iff_getElem]
  intro i j hi hj hij
  have := sorted_at h hij hj
  rwa [getD_at l i hi, getD_at l j hj] at this
theorem filter_found {l : List ByteArray} (h : validS l = 0) (m : ByteArray) : l.filter (found 0 16 m) = l.filter (fun s => fitS s m) := by
  apply List.filter_congr
  intro s hs
  obtain ⟨_, h2, _⟩ := wrongS_ok (valid_word h s hs)
  unfold found
  rw [decide_eq_true (by omega), decide_eq_true (by omega), Bool.true_and, Bool.true_and]
theorem next_at {l : List ByteArray} (h : validS l = 0) (m x : ByteArray) (i : Nat) (hx : i = 0 ∧ x = ⟨#[]⟩ ∨ 0 < i ∧ (l.filter (fun s => fitS s m))[i - 1]? = some x) : nextL l x m = resN ((l.filter (fun s => fitS s m))[i]?) := by
  have hp : (l.filter (fun s => fitS s m)).Pairwise (fun x y => less x y = true) := (valid_pairs h).filter _
  have hg : ∀ s ∈ l.filter (fun s => fitS s m), 0 < s.size := fun s hs => (wrongS_ok (valid_word h s (List.mem_filter.1 hs).1)).1
  generalize hL : l.filter (fun s => fitS s m) = L at hx hp hg
  have hf : l.find? (after1 x m) = L.find? (less x) := by
    rw [← hL, List.find?_filter]
    congr 1
    funext s
    unfold after1
    cases fitS s m <;> cases less x s <;> rfl
  have hpi := List.pairwise_iff_getElem.1 hp
  have key : L.find? (less x) = L[i]? := by
    apply find_at
    · intro j y hj hy
      rcases hx with ⟨h0, _⟩ | ⟨h0, hx⟩
      · omega
      · obtain ⟨h3, rfl⟩ := List.getElem?_eq_some_iff.1 hx
        obtain ⟨h4, rfl⟩ := List.getElem?_eq_some_iff.1 hy
        by_cases hji : j = i - 1
        · subst hji; exact less_irrefl _
        · exact less_asymm (hpi j (i - 1) h4 h3 (by omega))
    · intro y hy
      rcases hx with ⟨h0, hx⟩ | ⟨h0, hx⟩
      · obtain ⟨h4, rfl⟩ := List.getElem?_eq_some_iff.1 hy
        have := hg _ (List.getElem_mem h4)
        rw [hx, less_lt]
        rw [show (⟨#[]⟩ : ByteArray).toList = [] from list_nil.2 rfl]
        cases hz : (L[i]).toList with
        | nil => have := list_nil.1 hz; omega
        | cons a r => exact List.nil_lt_cons a r
      · obtain ⟨h3, rfl⟩ := List.getElem?_eq_some_iff.1 hx
        obtain ⟨h4, rfl⟩ := List.getElem?_eq_some_iff.1 hy
        exact hpi (i - 1) i h3 h4 (by omega)
  unfold nextL
  rw [hf, key]
theorem all_loop {l : List ByteArray} {m : ByteArray} (h : askedS l m = 0) (hl : l.length ≤ 1000) (d : Nat) : ∀ (i : Nat) (x : ByteArray), i + d = (l.filter (fun s => fitS s m)).length → (i = 0 ∧ x = ⟨#[]⟩ ∨ 0 < i ∧ (l.filter (fun s => fitS s m))[i - 1]? = some x) → Ev (fun k => ancepslaw54_WordlistAll.l0 k m (l.filter (fun s => fitS s m)) x (i : Int) l) true := by
  obtain ⟨hv, hm⟩ := asked_ok h
  have hlen := List.length_filter_le (fun s => fitS s m) l
  induction d with
  | zero =>
    intro i x hi hx
    refine Ev.step (fun k => ancepslaw54_WordlistAll.l0.eq_2 _ _ _ _ _ _) (Ev.bind (next_ev l x m (by omega)) ?_)
    unfold nextS
    rw [if_pos h, next_at hv m x i hx, List.getElem?_eq_none (by omega), resN]
    refine Ev.pos rfl (Ev.val ?_)
    rw [beq_iff_eq]; omega
  | succ d ih =>
    intro i x hi hx
    refine Ev.step (fun k => ancepslaw54_WordlistAll.l0.eq_2 _ _ _ _ _ _) (Ev.bind (next_ev l x m (by omega)) ?_)
    unfold nextS
    rw [if_pos h, next_at hv m x i hx, List.getElem?_eq_getElem (by omega), resN]
    refine Ev.neg (show ¬ (0 : Int) = 10 by decide) (Ev.pos rfl (Ev.neg (by omega) (Ev.pos (by omega) (Ev.pos (by omega) ?_))))
    rw [rdOf_at _ i (by omega), w64 (by omega) (by omega)]
    refine Ev.pos rfl ?_
    exact ih (i + 1) _ (by omega) (Or.inr ⟨by omega, by rw [Nat.add_sub_cancel, List.getElem?_eq_getElem (by omega)]⟩)
end Go.Proofs.Ytdaooagikacboaa.Lem
namespace Go.Proofs.Ytdaooagikacboaa.Pure
open Go.RowKit Go.Proofs.Ytdaooagikacboaa.X Go.Proofs.YtdaooagikacboaaW.PrintWords Go.Proofs.YtdaooagikacboaaW.PrintLast Go.Proofs.Ytdaooagikacboaa.Lem
theorem WordlistAll : ancepslaw54_WordlistAll.Pure := by
  intro l0 a1 _ _ hx _
  have hx' : ∀ x ∈ l0, 0 ≤ x ∧ x ≤ 255 := by
    intro x hm
    have := hx x hm
    unfold Lit.wf at this
    rw [Bool.and_eq_true, decide_eq_true_iff, decide_eq_true_iff] at this
    exact ⟨this.1, this.2⟩
  suffices h : Ev (fun k => ancepslaw54_WordlistAll.f k l0 a1) true by
    obtain ⟨K, hK⟩ := h
    exact ⟨K, hK K (Nat.le_refl _)⟩
  unfold ancepslaw54_WordlistAll.f
  refine Ev.bind awake_ev (Ev.pos rfl (Ev.step (fun k => ancepslaw54_WordlistAll.j0.eq_2 _ _ _ _) ?_))
  refine Ev.cond (fun h => Ev.bind awake_ev (Ev.val rfl)) (fun h => ?_)
  obtain ⟨w, hw, hlen⟩ := made_ev l0 hx'
  refine Ev.bind hw (Ev.bind (find_ev w a1 (by omega)) ?_)
  by_cases h0 : askedS w a1 = 0
  · rw [if_pos h0]
    refine Ev.pos rfl ?_
    rw [filter_found (asked_ok h0).1]
    exact all_loop h0 (by omega) (w.filter (fun s => fitS s a1)).length 0 _ (by omega) (Or.inl ⟨rfl, rfl⟩)
  · rw [if_neg h0]
    exact Ev.neg h0 (Ev.val rfl)
end Go.Proofs.Ytdaooagikacboaa.Pure
