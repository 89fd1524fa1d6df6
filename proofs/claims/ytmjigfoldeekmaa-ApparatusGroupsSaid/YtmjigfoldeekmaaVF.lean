/- Plain lemmas of chapter 57: an apparatus that is small. -/
import Derived.Test.YtmjigfoldeekmaaV2
import Derived.Test.YtmjigfoldeekmaaX14
namespace Go.Proofs.Ytmjigfoldeekmaa.Lem
open Go.RowKit Go.Proofs.Ytmjigfoldeekmaa.X Go.Proofs.YtmjigfoldeekmaaW.PrintWords Go.Proofs.YtmjigfoldeekmaaW.PrintLast
theorem sum_some (l : List ByteArray) (hs : Small l) (hl : l.length ≤ 140737488355328) (m : Int) (hm : 0 ≤ m ∧ m ≤ 1000000) (d : Nat) : ∀ (i : Nat) (n : Int), i + d = l.length → 0 ≤ n → n ≤ 140737488355328 + m + 1 → ∃ r, 0 ≤ r ∧ n ≤ r ∧ r ≤ 140737488355328 + m + 1 ∧ Ev (fun k => ancepsref01_Sum.l0 k l m n (i : Int)) r := by
  induction d with
  | zero =>
    intro i n hi h0 h1
    exact ⟨n, h0, Int.le_refl _, h1, Ev.step (fun k => rfl) (Ev.neg (by omega) (Ev.val rfl))⟩
  | succ d ih =>
    intro i n hi h0 h1
    have hsz := hs.at_ (show i < l.length by omega)
    by_cases h : n ≤ m
    · obtain ⟨r, r0, rn, r1, hr⟩ := ih (i + 1) (n + 1 + (l.getD i ByteArray.empty).size) (by omega) (by omega) (by omega)
      refine ⟨r, r0, by omega, r1, Ev.step (fun k => rfl) (Ev.pos (by omega) (Ev.pos h (Ev.pos (by omega) ?_)))⟩
      rw [rdOf_getD, w64 (i := n + 1) (by omega) (by omega), w64 (by omega) (by omega), w64 (i := (i : Int) + 1) (by omega) (by omega)]
      exact hr
    · exact ⟨n, h0, Int.le_refl _, h1, Ev.step (fun k => rfl) (Ev.pos (by omega) (Ev.neg h (Ev.val rfl)))⟩
def BigR (l : List S65) : Prop := l.length ≤ 140737488355328 ∧ ∀ x ∈ l, x.f0.size ≤ 140737488355328 ∧ SmallV x.f1 ∧ x.f1.length ≤ 140737488355328
theorem BigR.at_ {l : List S65} (h : BigR l) {i : Nat} (hi : i < l.length) : (l.getD i z65).f0.size ≤ 140737488355328 ∧ SmallV (l.getD i z65).f1 ∧ (l.getD i z65).f1.length ≤ 140737488355328 := h.2 _ (getD_in l _ hi)
theorem few_end (ws : List ByteArray) (l : List S65) (n : Int) (i : Int) (P : Prop) (hP : ws.length ≤ 12 → l.length ≤ 210 → n ≤ 4000 → P) : ∃ b, Ev (fun k => ancepsref57_Few.j1 k n i false ws l) b ∧ (b = true → P) := by
  by_cases h1 : (ws.length : Int) ≤ 12
  · by_cases h2 : (l.length : Int) ≤ 210
    · exact ⟨decide (n ≤ 4000), Ev.step (fun k => ancepsref57_Few.j1.eq_2 _ _ _ _ _ _) (Ev.neg Bool.false_ne_true (Ev.pos h1 (Ev.pos h2 (Ev.val rfl)))), fun h => hP (by omega) (by omega) (of_decide_eq_true h)⟩
    · exact ⟨false, Ev.step (fun k => ancepsref57_Few.j1.eq_2 _ _ _ _ _ _) (Ev.neg Bool.false_ne_true (Ev.pos h1 (Ev.neg h2 (Ev.val rfl)))), fun h => by cases h⟩
  · exact ⟨false, Ev.step (fun k => ancepsref57_Few.j1.eq_2 _ _ _ _ _ _) (Ev.neg Bool.false_ne_true (Ev.neg h1 (Ev.val rfl))), fun h => by cases h⟩
theorem few_in (ws : List ByteArray) (l : List S65) (hs : BigR l) (i : Nat) (hi : i < l.length) (P : Int → Prop) (hP : ∀ n m, n ≤ m → P m → P n) (hnext : ∀ n : Int, 0 ≤ n → n ≤ 140737488359329 → ∃ b, Ev (fun k => ancepsref57_Few.l0 k n ((i : Int) + 1) ws l) b ∧ (b = true → n ≤ 4000 ∧ P n)) (d : Nat) :
    ∀ (j : Nat) (n : Int), j + d = (l.getD i z65).f1.length → 0 ≤ n → n ≤ 140737488359329 → ∃ b, Ev (fun k => ancepsref57_Few.l1 k n (i : Int) (j : Int) ws l) b ∧ (b = true → n ≤ 4000 ∧ P n ∧ (d : Int) ≤ 4000 - n) := by
  obtain ⟨h1, h2, h3⟩ := hs.at_ hi
  have hl := hs.1
  induction d with
  | zero =>
    intro j n hj h0 hn
    obtain ⟨b, hb, hb2⟩ := hnext n h0 hn
    refine ⟨b, Ev.step (fun k => ancepsref57_Few.l1.eq_2 _ _ _ _ _ _) (Ev.pos (by omega) (Ev.pos (by omega) ?_)), fun h => ⟨(hb2 h).1, (hb2 h).2, by have := (hb2 h).1; omega⟩⟩
    rw [rdR, w64 (i := (i : Int) + 1) (by omega) (by omega)]
    exact Ev.neg (by omega) hb
  | succ d ih =>
    intro j n hj h0 hn
    by_cases h : n ≤ 4000
    · have hv := h2.at_ (show j < (l.getD i z65).f1.length by omega)
      obtain ⟨b, hb, hb2⟩ := ih (j + 1) (n + 1 + ((l.getD i z65).f1.getD j z67).f0.size) (by omega) (by omega) (by omega)
      refine ⟨b, Ev.step (fun k => ancepsref57_Few.l1.eq_2 _ _ _ _ _ _) (Ev.pos (by omega) (Ev.pos (by omega) ?_)), fun h => ⟨by omega, hP _ _ (by omega) (hb2 h).2.1, by have := (hb2 h).2.2; omega⟩⟩
      rw [rdR, rdV, w64 (i := n + 1) (by omega) (by omega), w64 (i := n + 1 + _) (by omega) (by omega), w64 (i := (j : Int) + 1) (by omega) (by omega)]
      exact Ev.pos (by omega) (Ev.pos h (Ev.pos (by omega) hb))
    · obtain ⟨b, hb, hb2⟩ := hnext n h0 hn
      refine ⟨b, Ev.step (fun k => ancepsref57_Few.l1.eq_2 _ _ _ _ _ _) (Ev.pos (by omega) (Ev.pos (by omega) ?_)), fun e => absurd (hb2 e).1 h⟩
      rw [rdR, w64 (i := (i : Int) + 1) (by omega) (by omega)]
      exact Ev.pos (by omega) (Ev.neg h hb)
theorem few_loop (ws : List ByteArray) (l : List S65) (hs : BigR l) (d : Nat) : ∀ (i : Nat) (n : Int), i + d = l.length → 0 ≤ n → n ≤ 140737488359329 → ∃ b, Ev (fun k => ancepsref57_Few.l0 k n (i : Int) ws l) b ∧ (b = true → n ≤ 4000 ∧ ws.length ≤ 12 ∧ l.length ≤ 210 ∧ ∀ j, i ≤ j → j < l.length → (l.getD j z65).f1.length ≤ 4000) := by
  have hl := hs.1
  induction d with
  | zero =>
    intro i n hi h0 hn
    obtain ⟨b, hb, hb2⟩ := few_end ws l n (i : Int) _ (fun h1 h2 h3 => (⟨h3, h1, h2, fun j hj hjl => by omega⟩ : n ≤ 4000 ∧ ws.length ≤ 12 ∧ l.length ≤ 210 ∧ ∀ j, i ≤ j → j < l.length → (l.getD j z65).f1.length ≤ 4000))
    exact ⟨b, Ev.step (fun k => ancepsref57_Few.l0.eq_2 _ _ _ _ _) (Ev.neg (by omega) hb), hb2⟩
  | succ d ih =>
    intro i n hi h0 hn
    obtain ⟨h1, h2, h3⟩ := hs.at_ (show i < l.length by omega)
    by_cases h : n ≤ 4000
    · obtain ⟨b, hb, hb2⟩ := few_in ws l hs i (by omega) (fun _ => ws.length ≤ 12 ∧ l.length ≤ 210 ∧ ∀ j, i + 1 ≤ j → j < l.length → (l.getD j z65).f1.length ≤ 4000) (fun _ _ _ h => h) (fun n' h0' hn' => ih (i + 1) n' (by omega) h0' hn') _ 0 (n + 1 + (l.getD i z65).f0.size) (Nat.zero_add _) (by omega) (by omega)
      refine ⟨b, Ev.step (fun k => ancepsref57_Few.l0.eq_2 _ _ _ _ _) (Ev.pos (by omega) ?_), fun e => ?_⟩
      · rw [decide_eq_true h]
        refine Ev.step (fun k => ancepsref57_Few.j1.eq_2 _ _ _ _ _ _) (Ev.pos rfl (Ev.pos (by omega) (Ev.pos (by omega) ?_)))
        rw [rdR, w64 (i := n + 1) (by omega) (by omega), w64 (i := n + 1 + _) (by omega) (by omega)]
        exact hb
      · obtain ⟨e1, ⟨e2, e3, e4⟩, e5⟩ := hb2 e
        refine ⟨by omega, e2, e3, fun j hj hjl => ?_⟩
        by_cases ej : j = i
        · subst ej; omega
        · exact e4 j (by omega) hjl
    · obtain ⟨b, hb, hb2⟩ := few_end ws l n (i : Int) False (fun _ _ h3 => h h3)
      exact ⟨b, Ev.step (fun k => ancepsref57_Few.l0.eq_2 _ _ _ _ _) (Ev.pos (by omega) (by rw [decide_eq_false h]; exact hb)), fun e => (hb2 e).elim⟩
theorem few_ev (ws : List ByteArray) (l : List S65) (hw : Small ws) (hwl : ws.length ≤ 140737488355328) (hs : BigR l) : ∃ b, Ev (fun k => ancepsref57_Few.f k ws l) b ∧ (b = true → ws.length ≤ 12 ∧ l.length ≤ 210 ∧ SmallR l) := by
  unfold ancepsref57_Few.f
  obtain ⟨r, r0, _, r1, hr⟩ := sum_some ws hw hwl 4000 (by decide) ws.length 0 0 (by omega) (by omega) (by omega)
  obtain ⟨b, hb, hb2⟩ := few_loop ws l hs l.length 0 r (by omega) r0 (by omega)
  refine ⟨b, Ev.bind hr hb, fun e => ?_⟩
  obtain ⟨_, e1, e2, e3⟩ := hb2 e
  refine ⟨e1, e2, by omega, fun x hx => ?_⟩
  obtain ⟨j, hj, rfl⟩ := List.mem_iff_getElem.1 hx
  obtain ⟨h1, h2, _⟩ := hs.at_ hj
  have h3 := e3 j (Nat.zero_le _) hj
  rw [getD_lt l _ hj] at h1 h2 h3
  exact ⟨h1, h2, by omega⟩

end Go.Proofs.Ytmjigfoldeekmaa.Lem
