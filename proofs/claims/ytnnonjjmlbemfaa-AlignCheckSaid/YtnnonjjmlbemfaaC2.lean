/- The reference's Check in plain words, and the guard on potentials. -/
import Derived.Test.YtnnonjjmlbemfaaC1
import Derived.Test.YtnnonjjmlbemfaaR1
import Derived.Test.YtnnonjjmlbemfaaR3
import Derived.Test.YtnnonjjmlbemfaaX29
import Derived.Test.YtnnonjjmlbemfaaX30
set_option linter.unusedVariables false
namespace Go.Proofs.Ytnnonjjmlbemfaa.Lem
open Go.RowKit Go.Proofs.Ytnnonjjmlbemfaa.X Go.Proofs.Ytnnonjjmlbemfaa.Al Go.Proofs.YtnnonjjmlbemfaaW.PrintWords Go.Proofs.YtnnonjjmlbemfaaW.PrintLast
theorem small1 {t : List (List Int)} (hr : ∀ i, (t.getD i []).length ≤ 45) {i : Nat} (hi : i < t.length) (ht : t.length ≤ 45) {b : Bool} {R : Prop} (hb : b = true → R)
    (ih : Ev (fun k => ancepsref45_small.l0 k t ((i + 1 : Nat) : Int)) b) (d : Nat) :
    ∀ j : Nat, j + d = (t.getD i []).length → ∃ b, Ev (fun k => ancepsref45_small.l1 k t (i : Int) (j : Int)) b ∧ (b = true → (∀ j', j ≤ j' → j' < (t.getD i []).length → -1000000 ≤ cl t i j' ∧ cl t i j' ≤ 1000000) ∧ R) := by
  have hri := hr i
  induction d with
  | zero =>
    intro j hj
    refine ⟨b, Ev.step (fun k => ancepsref45_small.l1.eq_2 _ _ _ _) (Ev.pos (by omega) (Ev.pos (by omega) (Ev.neg (by rw [row_cl]; omega) ?_))), fun h => ⟨fun j' a c => by omega, hb h⟩⟩
    rw [w64 (by omega) (by omega)]
    exact ih
  | succ d ihd =>
    intro j hj
    obtain ⟨b1, e1, e2⟩ := ihd (j + 1) (by omega)
    have e1' : Ev (fun k => ancepsref45_small.l1 k t (i : Int) (wrap64 ((j : Int) + 1))) b1 := by rw [w64 (by omega) (by omega)]; exact e1
    by_cases h1 : cl t i j < -1000000
    · exact ⟨false, Ev.step (fun k => ancepsref45_small.l1.eq_2 _ _ _ _) (Ev.pos (by omega) (Ev.pos (by omega) (Ev.pos (by rw [row_cl]; omega) (Ev.pos (by omega) (Ev.pos (by rw [rd_cl]; exact h1) (Ev.now _)))))), fun h => absurd h (by decide)⟩
    · by_cases h2 : cl t i j > 1000000
      · exact ⟨false, Ev.step (fun k => ancepsref45_small.l1.eq_2 _ _ _ _) (Ev.pos (by omega) (Ev.pos (by omega) (Ev.pos (by rw [row_cl]; omega) (Ev.pos (by omega) (Ev.neg (by rw [rd_cl]; exact h1) (Ev.pos (by rw [rd_cl]; exact h2) (Ev.now _))))))), fun h => absurd h (by decide)⟩
      · refine ⟨b1, Ev.step (fun k => ancepsref45_small.l1.eq_2 _ _ _ _) (Ev.pos (by omega) (Ev.pos (by omega) (Ev.pos (by rw [row_cl]; omega) (Ev.pos (by omega) (Ev.neg (by rw [rd_cl]; exact h1) (Ev.neg (by rw [rd_cl]; exact h2) e1')))))), fun h => ⟨fun j' a c => ?_, (e2 h).2⟩⟩
        by_cases e : j' = j
        · rw [e]; omega
        · exact (e2 h).1 j' (by omega) c
theorem small0 {t : List (List Int)} (hr : ∀ i, (t.getD i []).length ≤ 45) (ht : t.length ≤ 45) (d : Nat) :
    ∀ i : Nat, i + d = t.length → ∃ b, Ev (fun k => ancepsref45_small.l0 k t (i : Int)) b ∧ (b = true → ∀ i', i ≤ i' → i' < t.length → ∀ j', j' < (t.getD i' []).length → -1000000 ≤ cl t i' j' ∧ cl t i' j' ≤ 1000000) := by
  induction d with
  | zero =>
    intro i hi
    exact ⟨true, Ev.step (fun k => ancepsref45_small.l0.eq_2 _ _ _) (Ev.neg (by omega) (Ev.now _)), fun _ i' a b => by omega⟩
  | succ d ihd =>
    intro i hi
    obtain ⟨b1, e1, e2⟩ := ihd (i + 1) (by omega)
    obtain ⟨b2, f1, f2⟩ := small1 hr (show i < t.length by omega) ht e2 e1 _ 0 (Nat.zero_add _)
    refine ⟨b2, Ev.step (fun k => ancepsref45_small.l0.eq_2 _ _ _) (Ev.pos (by omega) f1), fun h i' a b j' c => ?_⟩
    by_cases e : i' = i
    · rw [e] at c ⊢; exact (f2 h).1 j' (Nat.zero_le _) c
    · exact (f2 h).2 i' (by omega) b j' c
theorem small_ev {t : List (List Int)} (hr : ∀ i, (t.getD i []).length ≤ 45) (ht : t.length ≤ 45) : ∃ b, Ev (fun k => ancepsref45_small.f k t) b ∧ (b = true → Sm t) := by
  obtain ⟨b, h1, h2⟩ := small0 hr ht t.length 0 (Nat.zero_add _)
  refine ⟨b, h1, fun h i j => ?_⟩
  by_cases hi : i < t.length
  · by_cases hj : j < (t.getD i []).length
    · exact h2 h i (Nat.zero_le _) hi j hj
    · unfold cl
      rw [List.getD_eq_getElem?_getD (l := t.getD i []), List.getElem?_eq_none (by omega)]
      exact ⟨by decide, by decide⟩
  · unfold cl
    rw [List.getD_eq_getElem?_getD (l := t), List.getElem?_eq_none (by omega)]
    exact ⟨by simp, by simp⟩
theorem few_out {t : List (List Int)} {i : Nat} (hr : ∀ i', i' < i → (t.getD i' []).length ≤ 45) (hi : i = t.length ∨ 45 < t.length) : ∃ b, Ev (fun k => ancepsref45_Few.j1 k t (i : Int) false) b ∧ (b = true → t.length ≤ 45 ∧ Sm t) := by
  by_cases ht : t.length ≤ 45
  · have hr' : ∀ i', (t.getD i' []).length ≤ 45 := by
      intro i'
      by_cases h : i' < i
      · exact hr i' h
      · rw [List.getD_eq_getElem?_getD, List.getElem?_eq_none (by omega)]; simp
    obtain ⟨b, h1, h2⟩ := small_ev hr' ht
    exact ⟨b, Ev.step (fun k => ancepsref45_Few.j1.eq_2 _ _ _ _) (Ev.neg (by decide) (Ev.pos (by omega) (Ev.bind h1 (Ev.now _)))), fun h => ⟨ht, h2 h⟩⟩
  · exact ⟨false, Ev.step (fun k => ancepsref45_Few.j1.eq_2 _ _ _ _) (Ev.neg (by decide) (Ev.neg (by omega) (Ev.now _))), fun h => absurd h (by decide)⟩
theorem few0 (t : List (List Int)) (d : Nat) : ∀ i : Nat, i + d = 50 → i ≤ t.length → (∀ i', i' < i → (t.getD i' []).length ≤ 45) → ∃ b, Ev (fun k => ancepsref45_Few.l0 k t (i : Int)) b ∧ (b = true → t.length ≤ 45 ∧ Sm t) := by
  induction d with
  | zero =>
    intro i hi hl hr
    by_cases h : i < t.length
    · obtain ⟨b, h1, h2⟩ := few_out (t := t) hr (.inr (by omega))
      refine ⟨b, Ev.step (fun k => ancepsref45_Few.l0.eq_2 _ _ _) (Ev.pos (by omega) ?_), h2⟩
      rw [decide_eq_false (by omega)]
      exact h1
    · obtain ⟨b, h1, h2⟩ := few_out (t := t) hr (.inl (by omega))
      exact ⟨b, Ev.step (fun k => ancepsref45_Few.l0.eq_2 _ _ _) (Ev.neg (by omega) h1), h2⟩
  | succ d ihd =>
    intro i hi hl hr
    by_cases h : i < t.length
    · by_cases hrow : (t.getD i []).length ≤ 45
      · obtain ⟨b, h1, h2⟩ := ihd (i + 1) (by omega) (by omega) (fun i' h => by
          by_cases e : i' = i
          · rw [e]; exact hrow
          · exact hr i' (by omega))
        refine ⟨b, Ev.step (fun k => ancepsref45_Few.l0.eq_2 _ _ _) (Ev.pos (by omega) ?_), h2⟩
        rw [decide_eq_true (by omega)]
        refine Ev.step (fun k => ancepsref45_Few.j1.eq_2 _ _ _ _) (Ev.pos rfl (Ev.pos (by omega) (Ev.pos (by omega) (Ev.neg (by rw [row_cl]; omega) ?_))))
        rw [w64 (by omega) (by omega)]
        exact h1
      · refine ⟨false, Ev.step (fun k => ancepsref45_Few.l0.eq_2 _ _ _) (Ev.pos (by omega) ?_), fun h => absurd h (by decide)⟩
        rw [decide_eq_true (by omega)]
        exact Ev.step (fun k => ancepsref45_Few.j1.eq_2 _ _ _ _) (Ev.pos rfl (Ev.pos (by omega) (Ev.pos (by omega) (Ev.pos (by rw [row_cl]; omega) (Ev.now _)))))
    · obtain ⟨b, h1, h2⟩ := few_out (t := t) hr (.inl (by omega))
      exact ⟨b, Ev.step (fun k => ancepsref45_Few.l0.eq_2 _ _ _) (Ev.neg (by omega) h1), h2⟩
theorem few_ev (t : List (List Int)) : ∃ b, Ev (fun k => ancepsref45_Few.f k t) b ∧ (b = true → t.length ≤ 45 ∧ Sm t) := few0 t 50 0 rfl (Nat.zero_le _) (fun i' h => by omega)
theorem right3 {p q : ByteArray} (G : Gv p q) {t : List (List Int)} (hs : Sh t p.size q.size) (hm : Sm t) {i j : Nat} (hi : i ≤ p.size) (hj : j ≤ q.size) {R : Prop} {b : Bool} (hb : b = true ↔ R)
    (ih : Ev (fun k => ancepsref45_right.l2 k p q t (i : Int) ((j + 1 : Nat) : Int)) b) (d : Nat) :
    ∀ s : Nat, s + d = 5 → ∃ b, Ev (fun k => ancepsref45_right.l3 k p q t (i : Int) (j : Int) (s : Int)) b ∧ (b = true ↔ A3 (bytesOf p) (bytesOf q) t i j s ∧ R) := by
  have hp := G.hp
  have hq := G.hq
  have hl := hs.len
  induction d with
  | zero =>
    intro s hs
    obtain rfl : s = 5 := by omega
    refine ⟨b, Ev.step (fun k => ancepsref45_right.l3.eq_2 _ _ _ _ _ _ _) (Ev.neg (by decide) ?_), ⟨fun h => ⟨A3_end, hb.1 h⟩, fun h => hb.2 h.2⟩⟩
    rw [w64 (by omega) (by omega)]
    exact ih
  | succ d ihd =>
    intro s hsd
    obtain ⟨b1, e1, e2⟩ := ihd (s + 1) (by omega)
    have e1' : Ev (fun k => ancepsref45_right.l3 k p q t (i : Int) (j : Int) (wrap64 ((s : Int) + 1))) b1 := by rw [w64 (by omega) (by omega)]; exact e1
    rcases rstep_ev G hi hj (s : Int) with ⟨i', j', c, h1, h2, h3, h4, h5, h6, h7⟩ | ⟨h1, x, y, z, h2⟩
    · have hc := st_cost h6
      have m1 := hm i j
      have m2 := hm i' j'
      have r1 := hs.row i hi
      have r2 := hs.row i' h3
      have ho := okk_of (t := t) h3 h4 h6
      have pre : ∀ {r : Bool}, Ev (fun k => if cl t i j > cl t i' j' then (if cl t i j - cl t i' j' > c then some false else ancepsref45_right.l3 k p q t (i : Int) (j : Int) (wrap64 ((s : Int) + 1))) else ancepsref45_right.l3 k p q t (i : Int) (j : Int) (wrap64 ((s : Int) + 1))) r → Ev (fun k => ancepsref45_right.l3 k p q t (i : Int) (j : Int) (s : Int)) r := by
        intro r h
        refine Ev.step (fun k => ancepsref45_right.l3.eq_2 _ _ _ _ _ _ _) (Ev.pos (by omega) (Ev.bind h7 (Ev.pos rfl (Ev.pos (by omega) (Ev.pos (by omega) (Ev.pos (by omega) (Ev.pos (by rw [row_cl]; omega) (Ev.pos (by show (0 : Int) ≤ (i' : Int); omega) (Ev.pos (by show (i' : Int) < _; omega) (Ev.pos (by show (0 : Int) ≤ (j' : Int); omega) (Ev.pos (by show (j' : Int) < ((rd_L2 t (i' : Int)).length : Int); rw [row_cl]; omega) ?_)))))))))))
        show Ev (fun k => if rd (rd_L2 t (i : Int)) (j : Int) > rd (rd_L2 t (i' : Int)) (j' : Int) then (if wrap64 (rd (rd_L2 t (i : Int)) (j : Int) - rd (rd_L2 t (i' : Int)) (j' : Int)) > c then some false else ancepsref45_right.l3 k p q t (i : Int) (j : Int) (wrap64 ((s : Int) + 1))) else ancepsref45_right.l3 k p q t (i : Int) (j : Int) (wrap64 ((s : Int) + 1))) r
        rw [rd_cl, rd_cl, w64 (i := cl t i j - _) (by omega) (by omega)]
        exact h
      by_cases hgt : cl t i j > c + cl t i' j'
      · refine ⟨false, pre (Ev.pos (by omega) (Ev.pos (by omega) (Ev.now _))), ⟨fun h => absurd h (by decide), fun h => ?_⟩⟩
        have := ho.1 ((A3_next (s := s) (show s < 5 by omega)).1 h.1).1
        omega
      · refine ⟨b1, pre (Ev.cond (fun _ => Ev.neg (by omega) e1') (fun _ => e1')), ?_⟩
        rw [e2, A3_next (s := s) (show s < 5 by omega)]
        exact ⟨fun h => ⟨⟨ho.2 (by omega), h.1⟩, h.2⟩, fun h => ⟨h.1.2, h.2⟩⟩
    · refine ⟨b1, Ev.step (fun k => ancepsref45_right.l3.eq_2 _ _ _ _ _ _ _) (Ev.pos (by omega) (Ev.bind h2 (Ev.neg Bool.false_ne_true e1'))), ?_⟩
      rw [e2, A3_next (s := s) (show s < 5 by omega)]
      exact ⟨fun h => ⟨⟨okk_none h1, h.1⟩, h.2⟩, fun h => ⟨h.1.2, h.2⟩⟩
theorem right2 {p q : ByteArray} (G : Gv p q) {t : List (List Int)} (hs : Sh t p.size q.size) (hm : Sm t) {i : Nat} (hi : i ≤ p.size) {R : Prop} {b : Bool} (hb : b = true ↔ R)
    (ih : Ev (fun k => ancepsref45_right.l1 k p q t ((i + 1 : Nat) : Int)) b) (d : Nat) :
    ∀ j : Nat, j + d = q.size + 1 → ∃ b, Ev (fun k => ancepsref45_right.l2 k p q t (i : Int) (j : Int)) b ∧ (b = true ↔ A2 (bytesOf p) (bytesOf q) t i j ∧ R) := by
  have hp := G.hp
  have hq := G.hq
  induction d with
  | zero =>
    intro j hj
    refine ⟨b, Ev.step (fun k => ancepsref45_right.l2.eq_2 _ _ _ _ _ _) (Ev.neg (by omega) ?_), ⟨fun h => ⟨A2_end (by rw [bl]; omega), hb.1 h⟩, fun h => hb.2 h.2⟩⟩
    rw [w64 (by omega) (by omega)]
    exact ih
  | succ d ihd =>
    intro j hj
    obtain ⟨b1, e1, e2⟩ := ihd (j + 1) (by omega)
    obtain ⟨b2, f1, f2⟩ := right3 G hs hm hi (show j ≤ q.size by omega) e2 e1 5 0 rfl
    refine ⟨b2, Ev.step (fun k => ancepsref45_right.l2.eq_2 _ _ _ _ _ _) (Ev.pos (by omega) f1), ?_⟩
    rw [f2, A2_next (show j ≤ (bytesOf q).length by rw [bl]; omega)]
    exact ⟨fun h => ⟨⟨h.1, h.2.1⟩, h.2.2⟩, fun h => ⟨h.1.1, h.1.2, h.2⟩⟩
theorem right1 {p q : ByteArray} (G : Gv p q) {t : List (List Int)} (hs : Sh t p.size q.size) (hm : Sm t) (d : Nat) :
    ∀ i : Nat, i + d = p.size + 1 → ∃ b, Ev (fun k => ancepsref45_right.l1 k p q t (i : Int)) b ∧ (b = true ↔ A1 (bytesOf p) (bytesOf q) t i ∧ cl t p.size q.size = 0) := by
  have hp := G.hp
  have hq := G.hq
  have hl := hs.len
  have hr := hs.row p.size (Nat.le_refl _)
  induction d with
  | zero =>
    intro i hi
    refine ⟨(rd (rd_L2 t (p.size : Int)) (q.size : Int) == 0), Ev.step (fun k => ancepsref45_right.l1.eq_2 _ _ _ _ _) (Ev.neg (by omega) (Ev.pos (by omega) (Ev.pos (by omega) (Ev.pos (by omega) (Ev.pos (by rw [row_cl]; omega) (Ev.now _)))))), ?_⟩
    rw [rd_cl, beq_iff_eq]
    exact ⟨fun h => ⟨A1_end (by rw [bl]; omega), h⟩, fun h => h.2⟩
  | succ d ihd =>
    intro i hi
    obtain ⟨b1, e1, e2⟩ := ihd (i + 1) (by omega)
    obtain ⟨b2, f1, f2⟩ := right2 G hs hm (show i ≤ p.size by omega) e2 e1 (q.size + 1) 0 (by omega)
    refine ⟨b2, Ev.step (fun k => ancepsref45_right.l1.eq_2 _ _ _ _ _) (Ev.pos (by omega) f1), ?_⟩
    rw [f2, A1_next (show i ≤ (bytesOf p).length by rw [bl]; omega)]
    exact ⟨fun h => ⟨⟨h.1, h.2.1⟩, h.2.2⟩, fun h => ⟨h.1.1, h.1.2, h.2⟩⟩
theorem right0 {p q : ByteArray} (G : Gv p q) {t : List (List Int)} (hl : t.length = p.size + 1) (hm : Sm t) (d : Nat) :
    ∀ i : Nat, i + d = p.size + 1 → (∀ i', i' < i → (t.getD i' []).length = q.size + 1) → ∃ b, Ev (fun k => ancepsref45_right.l0 k p q t (i : Int)) b ∧ (b = true ↔ Sh t p.size q.size ∧ A1 (bytesOf p) (bytesOf q) t 0 ∧ cl t p.size q.size = 0) := by
  have hp := G.hp
  have hq := G.hq
  have e : wrap64 ((q.size : Int) + 1) = ((q.size + 1 : Nat) : Int) := by rw [w64 (by omega) (by omega)]; omega
  induction d with
  | zero =>
    intro i hi hr
    have hs : Sh t p.size q.size := ⟨hl, fun i' h => hr i' (by omega)⟩
    obtain ⟨b, h1, h2⟩ := right1 G hs hm (p.size + 1) 0 (by omega)
    exact ⟨b, Ev.step (fun k => ancepsref45_right.l0.eq_2 _ _ _ _ _) (Ev.neg (by omega) h1), h2.trans ⟨fun h => ⟨hs, h⟩, fun h => h.2⟩⟩
  | succ d ihd =>
    intro i hi hr
    by_cases hrow : (t.getD i []).length = q.size + 1
    · obtain ⟨b, h1, h2⟩ := ihd (i + 1) (by omega) (fun i' h => by
        by_cases e : i' = i
        · rw [e]; exact hrow
        · exact hr i' (by omega))
      refine ⟨b, Ev.step (fun k => ancepsref45_right.l0.eq_2 _ _ _ _ _) (Ev.pos (by omega) (Ev.pos (by omega) (Ev.pos (by omega) ?_))), h2⟩
      rw [row_cl, e, w64 (i := (i : Int) + 1) (by omega) (by omega)]
      exact Ev.pos (by rw [hrow]) h1
    · refine ⟨false, Ev.step (fun k => ancepsref45_right.l0.eq_2 _ _ _ _ _) (Ev.pos (by omega) (Ev.pos (by omega) (Ev.pos (by omega) ?_))), ⟨fun h => absurd h (by decide), fun h => absurd (h.1.row i (by omega)) hrow⟩⟩
      rw [row_cl, e]
      exact Ev.neg (by omega) (Ev.now _)
theorem right_ev {p q : ByteArray} (G : Gv p q) {t : List (List Int)} (hm : Sm t) (ht : t.length ≤ 1000000) : ∃ b, Ev (fun k => ancepsref45_right.f k p q t) b ∧ (b = true ↔ Sh t p.size q.size ∧ A1 (bytesOf p) (bytesOf q) t 0 ∧ cl t p.size q.size = 0) := by
  have hp := G.hp
  have hq := G.hq
  unfold ancepsref45_right.f
  rw [w64 (i := (p.size : Int) + 1) (by omega) (by omega)]
  by_cases hl : t.length = p.size + 1
  · obtain ⟨b, h1, h2⟩ := right0 G hl hm (p.size + 1) 0 (by omega) (fun i' h => by omega)
    exact ⟨b, Ev.pos (by omega) h1, h2⟩
  · exact ⟨false, Ev.neg (by omega) (Ev.now _), ⟨fun h => absurd h (by decide), fun h => absurd h.1.len hl⟩⟩
theorem rcheck_ev {p q : ByteArray} (G : Gv p q) {t : List (List Int)} (hm : Sm t) (ht : t.length ≤ 1000000) (steps : List Int) (hl : steps.length ≤ 100) : ∃ b, Ev (fun k => ancepsref45_Check.f k p q steps t) b ∧ (b = true ↔ CK (bytesOf p) (bytesOf q) steps t) := by
  unfold ancepsref45_Check.f
  have hg : givS p q = 0 := giv_of G
  obtain ⟨c, ok, c1, c2, c3⟩ := cost_ev G steps hl
  cases ok with
  | false =>
    refine ⟨false, Ev.bind (rgiven_ev p q) (Ev.pos hg (Ev.bind c1 (Ev.neg Bool.false_ne_true (Ev.now _)))), ⟨fun h => absurd h (by decide), fun h => ?_⟩⟩
    have := h.co_
    rw [c3 rfl] at this; cases this
  | true =>
    obtain ⟨b, r1, r2⟩ := right_ev G hm ht
    have hco := c2 rfl
    cases b with
    | false =>
      refine ⟨false, Ev.bind (rgiven_ev p q) (Ev.pos hg (Ev.bind c1 (Ev.pos rfl (Ev.bind r1 (Ev.neg Bool.false_ne_true (Ev.now _)))))), ⟨fun h => absurd h (by decide), fun h => r2.2 ⟨?_, h.pot, ?_⟩⟩⟩
      · have := h.sh; rw [bl, bl] at this; exact this
      · have := h.z; rw [bl, bl] at this; exact this
    | true =>
      obtain ⟨s1, s2, s3⟩ := r2.1 rfl
      have hl0 := s1.len
      have hr0 := s1.row 0 (Nat.zero_le _)
      have z00 : rd (rd_L2 t 0) 0 = cl t 0 0 := rd_cl t 0 0
      have r0 : ((rd_L2 t 0).length : Int) = ((q.size + 1 : Nat) : Int) := by have := row_cl t 0; rw [show ((0 : Nat) : Int) = 0 from rfl] at this; rw [this, hr0]
      refine ⟨(cl t 0 0 == c), Ev.bind (rgiven_ev p q) (Ev.pos hg (Ev.bind c1 (Ev.pos rfl (Ev.bind r1 (Ev.pos rfl (Ev.pos (by omega) (Ev.pos (by rw [r0]; omega) ?_))))))), ?_⟩
      · rw [z00]; exact Ev.now _
      · rw [beq_iff_eq]
        exact ⟨fun h => ⟨by rw [bl, bl]; exact s1, by rw [h]; exact hco, by rw [bl, bl]; exact s3, s2⟩, fun h => by have := h.co_; rw [hco] at this; exact (Option.some.inj this).symm⟩
/-- ends, and where it says true the place it tells lies in the strings -/
def Stp (p q : ByteArray) (g : Nat → Option (Int × Int × Int × Bool)) : Prop := ∃ r, Ev g r ∧ (r.2.2.2 = true → ∃ i' j' : Nat, r.1 = (i' : Int) ∧ r.2.1 = (j' : Int) ∧ i' ≤ p.size ∧ j' ≤ q.size)
theorem Stp.pos {p q : ByteArray} {c : Prop} [Decidable c] {f g : Nat → Option (Int × Int × Int × Bool)} (h : c) (k : Stp p q f) : Stp p q (fun n => if c then f n else g n) := by obtain ⟨r, h1, h2⟩ := k; exact ⟨r, Ev.pos h h1, h2⟩
theorem Stp.neg {p q : ByteArray} {c : Prop} [Decidable c] {f g : Nat → Option (Int × Int × Int × Bool)} (h : ¬ c) (k : Stp p q g) : Stp p q (fun n => if c then f n else g n) := by obtain ⟨r, h1, h2⟩ := k; exact ⟨r, Ev.neg h h1, h2⟩
theorem Stp.cond {p q : ByteArray} {c : Prop} [Decidable c] {f g : Nat → Option (Int × Int × Int × Bool)} (h : c → Stp p q f) (h' : ¬ c → Stp p q g) : Stp p q (fun n => if c then f n else g n) := by
  by_cases hc : c
  · exact Stp.pos hc (h hc)
  · exact Stp.neg hc (h' hc)
theorem Stp.just {p q : ByteArray} {α : Type} {x : Option α} {a : α} {f : Nat → α → Option (Int × Int × Int × Bool)} (h : x = some a) (k : Stp p q (fun n => f n a)) : Stp p q (fun n => x.bind (f n)) := by
  subst h
  obtain ⟨r, h1, h2⟩ := k; exact ⟨r, Ev.just h1, h2⟩
theorem Stp.no {p q : ByteArray} {x y z : Int} : Stp p q (fun _ => some (x, y, z, false)) := ⟨_, Ev.now _, fun h => absurd h Bool.false_ne_true⟩
theorem Stp.yes {p q : ByteArray} {x y z : Int} (i j : Nat) (hx : x = (i : Int)) (hy : y = (j : Int)) (hi : i ≤ p.size) (hj : j ≤ q.size) : Stp p q (fun _ => some (x, y, z, true)) := ⟨_, Ev.now _, fun _ => ⟨i, j, hx, hy, hi, hj⟩⟩
theorem heavy_any (a : ByteArray) (i : Nat) : ∃ b, ancepsref45_heavy.f a (i : Int) = some b ∧ (b = true → i < a.size) := by
  unfold ancepsref45_heavy.f ancepsref45_allows.f
  by_cases h : (i : Int) < (a.size : Int)
  · rw [if_pos h, if_pos (by omega)]
    by_cases h2 : bt a (i : Int) = 45
    · rw [if_pos h2]; exact ⟨_, rfl, fun _ => by omega⟩
    · rw [if_neg h2]; exact ⟨_, rfl, fun _ => by omega⟩
  · rw [if_neg h]; exact ⟨false, rfl, fun h => absurd h (by decide)⟩
theorem allows_any (a b : Int) : ∃ r, ancepsref45_allows.f a b = some r := by
  unfold ancepsref45_allows.f
  by_cases h : a = b
  · exact ⟨true, if_pos h⟩
  · exact ⟨_, if_neg h⟩
theorem lights_any (a : ByteArray) (i : Nat) (hi : i ≤ 100) : ∃ b, ancepsref45_lights.f a (i : Int) = some b ∧ (b = true → i + 1 < a.size) := by
  unfold ancepsref45_lights.f
  rw [w64 (i := (i : Int) + 1) (by omega) (by omega)]
  by_cases h : (i : Int) + 1 < (a.size : Int)
  · rw [if_pos h, if_pos (by omega), if_pos (by omega)]
    obtain ⟨r, hr⟩ := allows_any (bt a (i : Int)) 117
    obtain ⟨r2, hr2⟩ := allows_any (bt a ((i : Int) + 1)) 117
    rw [hr, Option.bind_some]
    cases r with
    | true => rw [if_pos rfl, if_pos (by omega), hr2, Option.bind_some]; exact ⟨r2, rfl, fun _ => by omega⟩
    | false => rw [if_neg (by decide)]; exact ⟨false, rfl, fun _ => by omega⟩
  · rw [if_neg h]; exact ⟨false, rfl, fun h => absurd h (by decide)⟩
theorem j3_any (p : ByteArray) {q : ByteArray} (hp : p.size ≤ 70) (hq : q.size ≤ 70) {i j : Nat} (hi : i ≤ p.size) (hj : j ≤ q.size) (s : Int) (b : Bool) (hb : b = true → i < p.size) : Stp p q (fun k => ancepsref45_Step.j3 k q (i : Int) (j : Int) s b) := by
  have : Stp p q (fun k => if b = true then (some (wrap64 ((i : Int) + 1), (j : Int), 4, true)) else (if s = 4 then (if (j : Int) < (q.size : Int) then (some ((i : Int), wrap64 ((j : Int) + 1), 4, true)) else (some (0, 0, 0, false))) else (some (0, 0, 0, false)))) := by
    refine Stp.cond (fun h => ?_) (fun _ => Stp.cond (fun _ => Stp.cond (fun h => ?_) (fun _ => Stp.no)) (fun _ => Stp.no))
    · have := hb h
      exact Stp.yes (i + 1) j (by rw [w64 (by omega) (by omega)]; omega) rfl (by omega) hj
    · exact Stp.yes i (j + 1) rfl (by rw [w64 (by omega) (by omega)]; omega) hi (by omega)
  obtain ⟨r, h1, h2⟩ := this
  exact ⟨r, Ev.step (fun k => ancepsref45_Step.j3.eq_2 _ _ _ _ _ _) h1, h2⟩
theorem j2_any {p q : ByteArray} (hp : p.size ≤ 70) (hq : q.size ≤ 70) {i j : Nat} (hi : i ≤ p.size) (hj : j ≤ q.size) (s : Int) (b : Bool) (hb : b = true → i + 1 < p.size ∧ j < q.size) : Stp p q (fun k => ancepsref45_Step.j2 k p q (i : Int) (j : Int) s b) := by
  have : Stp p q (fun k => if b = true then (some (wrap64 ((i : Int) + 2), wrap64 ((j : Int) + 1), 1, true)) else (if s = 3 then (ancepsref45_Step.j3 k q (i : Int) (j : Int) s (decide ((i : Int) < (p.size : Int)))) else (ancepsref45_Step.j3 k q (i : Int) (j : Int) s false))) := by
    refine Stp.cond (fun h => ?_) (fun _ => Stp.cond (fun _ => j3_any p hp hq hi hj s _ (fun h => by have := of_decide_eq_true h; omega)) (fun _ => j3_any p hp hq hi hj s _ (fun h => absurd h (by decide))))
    have := hb h
    exact Stp.yes (i + 2) (j + 1) (by rw [w64 (by omega) (by omega)]; omega) (by rw [w64 (by omega) (by omega)]; omega) (by omega) (by omega)
  obtain ⟨r, h1, h2⟩ := this
  exact ⟨r, Ev.step (fun k => ancepsref45_Step.j2.eq_2 _ _ _ _ _ _ _) h1, h2⟩
theorem j1_any {p q : ByteArray} (hp : p.size ≤ 70) (hq : q.size ≤ 70) {i j : Nat} (hi : i ≤ p.size) (hj : j ≤ q.size) (s : Int) (b : Bool) (hb : b = true → i < p.size ∧ j + 1 < q.size) : Stp p q (fun k => ancepsref45_Step.j1 k p q (i : Int) (j : Int) s b) := by
  obtain ⟨x, hx, hx1⟩ := lights_any p i (by omega)
  obtain ⟨y, hy, hy1⟩ := heavy_any q j
  have : Stp p q (fun k => if b = true then (some (wrap64 ((i : Int) + 1), wrap64 ((j : Int) + 2), 1, true)) else (if s = 2 then ((ancepsref45_lights.f p (i : Int)).bind fun t235 => (if t235 = true then ((ancepsref45_heavy.f q (j : Int)).bind fun t236 => (ancepsref45_Step.j2 k p q (i : Int) (j : Int) s t236)) else (ancepsref45_Step.j2 k p q (i : Int) (j : Int) s false))) else (ancepsref45_Step.j2 k p q (i : Int) (j : Int) s false))) := by
    refine Stp.cond (fun h => ?_) (fun _ => Stp.cond (fun _ => Stp.just hx (Stp.cond (fun hx2 => Stp.just hy (j2_any hp hq hi hj s _ (fun h => ⟨hx1 hx2, hy1 h⟩))) (fun _ => j2_any hp hq hi hj s _ (fun h => absurd h (by decide))))) (fun _ => j2_any hp hq hi hj s _ (fun h => absurd h (by decide))))
    have := hb h
    exact Stp.yes (i + 1) (j + 2) (by rw [w64 (by omega) (by omega)]; omega) (by rw [w64 (by omega) (by omega)]; omega) (by omega) (by omega)
  obtain ⟨r, h1, h2⟩ := this
  exact ⟨r, Ev.step (fun k => ancepsref45_Step.j1.eq_2 _ _ _ _ _ _ _) h1, h2⟩
theorem j0_any {p q : ByteArray} (hp : p.size ≤ 70) (hq : q.size ≤ 70) {i j : Nat} (hi : i ≤ p.size) (hj : j ≤ q.size) (s : Int) (b : Bool) (hb : b = true → i < p.size ∧ j < q.size) : Stp p q (fun k => ancepsref45_Step.j0 k p q (i : Int) (j : Int) s b) := by
  obtain ⟨x, hx, hx1⟩ := heavy_any p i
  obtain ⟨y, hy, hy1⟩ := lights_any q j (by omega)
  by_cases h : b = true
  · have hl := hb h
    have yes : ∀ z : Int, Stp p q (fun _ => some (wrap64 ((i : Int) + 1), wrap64 ((j : Int) + 1), z, true)) := fun z =>
      Stp.yes (i + 1) (j + 1) (by rw [w64 (by omega) (by omega)]; omega) (by rw [w64 (by omega) (by omega)]; omega) (by omega) (by omega)
    have : Stp p q (fun k => if bt p (i : Int) = bt q (j : Int) then (some (wrap64 ((i : Int) + 1), wrap64 ((j : Int) + 1), 0, true)) else (if bt p (i : Int) = 120 then (some (wrap64 ((i : Int) + 1), wrap64 ((j : Int) + 1), 0, true)) else (if bt q (j : Int) = 120 then (some (wrap64 ((i : Int) + 1), wrap64 ((j : Int) + 1), 0, true)) else (some (wrap64 ((i : Int) + 1), wrap64 ((j : Int) + 1), 3, true))))) :=
      Stp.cond (fun _ => yes 0) (fun _ => Stp.cond (fun _ => yes 0) (fun _ => Stp.cond (fun _ => yes 0) (fun _ => yes 3)))
    obtain ⟨r, h1, h2⟩ := this
    exact ⟨r, Ev.step (fun k => ancepsref45_Step.j0.eq_2 _ _ _ _ _ _ _) (Ev.pos h (Ev.pos (by omega) (Ev.pos (by omega) (Ev.pos (by omega) (Ev.pos (by omega) h1))))), h2⟩
  · have : Stp p q (fun k => if s = 1 then ((ancepsref45_heavy.f p (i : Int)).bind fun t233 => (if t233 = true then ((ancepsref45_lights.f q (j : Int)).bind fun t234 => (ancepsref45_Step.j1 k p q (i : Int) (j : Int) s t234)) else (ancepsref45_Step.j1 k p q (i : Int) (j : Int) s false))) else (ancepsref45_Step.j1 k p q (i : Int) (j : Int) s false)) :=
      Stp.cond (fun _ => Stp.just hx (Stp.cond (fun hx2 => Stp.just hy (j1_any hp hq hi hj s _ (fun h => ⟨hx1 hx2, hy1 h⟩))) (fun _ => j1_any hp hq hi hj s _ (fun h => absurd h (by decide))))) (fun _ => j1_any hp hq hi hj s _ (fun h => absurd h (by decide)))
    obtain ⟨r, h1, h2⟩ := this
    exact ⟨r, Ev.step (fun k => ancepsref45_Step.j0.eq_2 _ _ _ _ _ _ _) (Ev.neg h h1), h2⟩
theorem step_any {p q : ByteArray} (hp : p.size ≤ 70) (hq : q.size ≤ 70) {i j : Nat} (hi : i ≤ p.size) (hj : j ≤ q.size) (s : Int) : Stp p q (fun k => ancepsref45_Step.f k p q (i : Int) (j : Int) s) := by
  unfold ancepsref45_Step.f
  exact Stp.cond (fun _ => Stp.cond (fun h => j0_any hp hq hi hj s _ (fun h2 => by have := of_decide_eq_true h2; exact ⟨by omega, by omega⟩)) (fun _ => j0_any hp hq hi hj s _ (fun h => absurd h (by decide)))) (fun _ => j0_any hp hq hi hj s _ (fun h => absurd h (by decide)))
theorem cost_any_loop {p q : ByteArray} (hp : p.size ≤ 70) (hq : q.size ≤ 70) (l : List Int) (hl : l.length ≤ 100) (d : Nat) : ∀ (n i j : Nat) (sum : Int), n + d = l.length → i ≤ p.size → j ≤ q.size →
    ∃ r, Ev (fun k => ancepsref45_Cost.l0 k p q l (i : Int) (j : Int) sum (n : Int)) r := by
  induction d with
  | zero =>
    intro n i j sum hn hi hj
    by_cases h : (i : Int) = (p.size : Int)
    · exact ⟨_, Ev.step (fun k => ancepsref45_Cost.l0.eq_2 _ _ _ _ _ _ _ _) (Ev.neg (by omega) (Ev.pos h (Ev.now _)))⟩
    · exact ⟨_, Ev.step (fun k => ancepsref45_Cost.l0.eq_2 _ _ _ _ _ _ _ _) (Ev.neg (by omega) (Ev.neg h (Ev.now _)))⟩
  | succ d ih =>
    intro n i j sum hn hi hj
    obtain ⟨⟨x, y, c, ok⟩, h1, h2⟩ := step_any hp hq hi hj (rd l (n : Int))
    cases ok with
    | false => exact ⟨_, Ev.step (fun k => ancepsref45_Cost.l0.eq_2 _ _ _ _ _ _ _ _) (Ev.pos (by omega) (Ev.pos (by omega) (Ev.bind h1 (Ev.neg Bool.false_ne_true (Ev.now _)))))⟩
    | true =>
      obtain ⟨i', j', e1, e2, e3, e4⟩ := h2 rfl
      have e1 : x = (i' : Int) := e1
      have e2 : y = (j' : Int) := e2
      subst e1 e2
      obtain ⟨r, hr⟩ := ih (n + 1) i' j' (wrap64 (sum + c)) (by omega) e3 e4
      refine ⟨r, Ev.step (fun k => ancepsref45_Cost.l0.eq_2 _ _ _ _ _ _ _ _) (Ev.pos (by omega) (Ev.pos (by omega) (Ev.bind h1 (Ev.pos rfl ?_))))⟩
      show Ev (fun k => ancepsref45_Cost.l0 k p q l (i' : Int) (j' : Int) (wrap64 (sum + c)) (wrap64 ((n : Int) + 1))) r
      rw [w64 (i := (n : Int) + 1) (by omega) (by omega)]
      exact hr
theorem cost_any {p q : ByteArray} (hp : p.size ≤ 70) (hq : q.size ≤ 70) (l : List Int) (hl : l.length ≤ 100) : ∃ r, Ev (fun k => ancepsref45_Cost.f k p q l) r := cost_any_loop hp hq l hl l.length 0 0 0 0 (by omega) (Nat.zero_le _) (Nat.zero_le _)
end Go.Proofs.Ytnnonjjmlbemfaa.Lem
