/- Words of package apparatus returns what the reference returns, for any two lines; of a line with itself, each word with itself (lines longer than the law's own guard are left out by the law itself). -/
import Derived.Test.YtmjigfoldeekmaaVQ
import Derived.Test.YtmjigfoldeekmaaX16
namespace Go.Proofs.Ytmjigfoldeekmaa.Pure
open Go.RowKit Go.Proofs.Ytmjigfoldeekmaa.X Go.Proofs.Ytmjigfoldeekmaa.Lem Go.Proofs.YtmjigfoldeekmaaW.PrintWords Go.Proofs.YtmjigfoldeekmaaW.PrintLast
theorem awake_ev : Ev (fun k => ancepslaw57_awake.f k) true := Ev.of (fun k => ancepslaw57_awake.mono k) (k := 60) (by kernel_rfl)
theorem rdP (l : List S29) (i : Nat) : rd_T29 l (i : Int) = l.getD i z29 := by unfold rd_T29; rw [Int.toNat_natCast]
theorem pairs_loop (l : List S29) (hl : l.length ≤ 1000000) (d : Nat) : ∀ i : Nat, i + d = l.length → Ev (fun k => api_Pair.l0 k l l (l.length : Int) (i : Int)) true := by
  induction d with
  | zero => intro i hi; exact Ev.step (fun k => api_Pair.l0.eq_2 _ _ _ _ _) (Ev.neg (by omega) (Ev.val rfl))
  | succ d ih =>
    intro i hi
    refine Ev.step (fun k => api_Pair.l0.eq_2 _ _ _ _ _) (Ev.pos (by omega) (Ev.pos (by omega) (Ev.pos (by omega) (Ev.pos (by omega) (Ev.neg (by simp) ?_)))))
    rw [w64 (by omega) (by omega)]
    exact ih (i + 1) (by omega)
theorem pairs_ev (l : List S29) (hl : l.length ≤ 1000000) : Ev (fun k => api_Pair.f k l l) true := by
  unfold api_Pair.f
  exact Ev.pos rfl (pairs_loop l hl l.length 0 (by omega))
theorem pathS_self : ∀ (a : List ByteArray) (i : Nat), (pathS a a i i).length = a.length ∧ ∀ p, p < a.length → (pathS a a i i).getD p z29 = ⟨((i + p : Nat) : Int), ((i + p : Nat) : Int)⟩
  | [], i => by rw [pathS]; exact ⟨rfl, fun p hp => absurd hp (Nat.not_lt_zero _)⟩
  | x :: a, i => by
    obtain ⟨h1, h2⟩ := pathS_self a (i + 1)
    have hc1 := cost_self (x :: a)
    have hc2 := cost_self a
    have e : ((i : Nat) : Int) + 1 = ((i + 1 : Nat) : Int) := by omega
    rw [pathS, if_pos (by rw [hc1, hc2, if_pos rfl]), e]
    refine ⟨by rw [List.length_cons, h1, List.length_cons], fun p hp => ?_⟩
    match p with
    | 0 => rfl
    | p + 1 =>
      rw [List.length_cons] at hp
      show (pathS a a ((i + 1 : Nat) : Int) ((i + 1 : Nat) : Int)).getD p z29 = _
      rw [h2 p (by omega), show i + 1 + p = i + (p + 1) by omega]
theorem wordsP_len (x y : ByteArray) : (wordsP x y).1.length ≤ 240 := by
  have h1 := foldedS_len x
  have h2 := foldedS_len y
  unfold wordsP
  split
  · split
    · have := pathS_len _ (foldedS x).1 (foldedS y).1 0 0 rfl
      show (pathS (foldedS x).1 (foldedS y).1 0 0).length ≤ 240
      omega
    · show ([] : List S29).length ≤ 240
      rw [List.length_nil]; omega
  · show ([] : List S29).length ≤ 240
    rw [List.length_nil]; omega
theorem wordsP_self (x : ByteArray) : (wordsP x x).2 = (wordsS x).2 ∧ (wordsP x x).1.length = (wordsS x).1.length ∧ ∀ p, p < (wordsP x x).1.length → (wordsP x x).1.getD p z29 = ⟨(p : Int), (p : Int)⟩ := by
  have e2 : (foldedS x).2 = (wordsS x).2 := rfl
  have e1 : (foldedS x).1.length = (wordsS x).1.length := by unfold foldedS; rw [List.length_map]
  unfold wordsP
  by_cases h : (foldedS x).2 = 0
  · rw [if_pos h, if_pos h]
    obtain ⟨h1, h2⟩ := pathS_self (foldedS x).1 0
    refine ⟨by rw [← e2, h], by rw [← e1]; exact h1, fun p hp => ?_⟩
    have h3 : p < (foldedS x).1.length := by rw [← h1]; exact hp
    have := h2 p h3
    rw [Nat.zero_add] at this
    exact this
  · rw [if_neg h]
    exact ⟨e2, by rw [wordsS_bad (by rw [← e2]; exact h)]; rfl, fun p hp => absurd hp (Nat.not_lt_zero _)⟩
theorem l0_loop (x : ByteArray) (hx : x.size ≤ 140737488355328) (d : Nat) : ∀ i : Nat, i + d = (wordsP x x).1.length → Ev (fun k => ancepslaw57_ApparatusWords.l0 k x (wordsP x x).1 (wordsP x x).2 (wordsP x x).1 ((wordsP x x).1.length : Int) (i : Int)) true := by
  obtain ⟨h1, h2, h3⟩ := wordsP_self x
  have hl := wordsP_len x x
  induction d with
  | zero =>
    intro i hi
    refine Ev.step (fun k => ancepslaw57_ApparatusWords.l0.eq_2 _ _ _ _ _ _ _) (Ev.neg (by omega) (Ev.bind (rwords_ev x hx) (Ev.pos h1 (Ev.val ?_))))
    rw [h2]
    exact beq_iff_eq.2 rfl
  | succ d ih =>
    intro i hi
    refine Ev.step (fun k => ancepslaw57_ApparatusWords.l0.eq_2 _ _ _ _ _ _ _) (Ev.pos (by omega) (Ev.pos (by omega) (Ev.pos (by omega) ?_)))
    rw [rdP, h3 i (by omega), w64 (by omega) (by omega)]
    exact Ev.pos rfl (Ev.pos rfl (ih (i + 1) (by omega)))
theorem ApparatusWords : ancepslaw57_ApparatusWords.Pure := by
  intro x y hx hy
  refine Ev.rounds (g := fun k => ancepslaw57_ApparatusWords.f k x y) ?_
  have hj : Ev (fun k => ancepslaw57_ApparatusWords.j0 k x y true) true := Ev.step (fun k => ancepslaw57_ApparatusWords.j0.eq_2 _ _ _ _) (Ev.pos rfl (Ev.bind awake_ev (Ev.val rfl)))
  have hn : Ev (fun k => ancepslaw57_ApparatusWords.j0 k x y false) true := by
    have hl := wordsP_len x y
    refine Ev.step (fun k => ancepslaw57_ApparatusWords.j0.eq_2 _ _ _ _) (Ev.neg Bool.false_ne_true (Ev.bind (cw_ev x y (by omega) (by omega)) (Ev.bind (rw_ev x y (by omega) (by omega)) (Ev.pos rfl (Ev.bind (pairs_ev _ (by omega)) ?_)))))
    exact Ev.step (fun k => ancepslaw57_ApparatusWords.j1.eq_2 _ _ _) (Ev.neg (by decide) (Ev.bind (cw_ev x x (by omega) (by omega)) (l0_loop x (by omega) _ 0 (Nat.zero_add _))))
  unfold ancepslaw57_ApparatusWords.f
  refine Ev.bind awake_ev (Ev.pos rfl (Ev.cond (fun _ => hj) (fun _ => ?_)))
  by_cases h : (y.size : Int) > 200
  · rw [decide_eq_true h]; exact hj
  · rw [decide_eq_false h]; exact hn
end Go.Proofs.Ytmjigfoldeekmaa.Pure
