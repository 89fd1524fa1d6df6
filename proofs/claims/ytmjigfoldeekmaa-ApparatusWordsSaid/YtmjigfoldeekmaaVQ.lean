/- Plain lemmas of chapter 57: the reference's Words returns what the program's does. -/
import Derived.Test.YtmjigfoldeekmaaVP
import Derived.Test.YtmjigfoldeekmaaX15
import Derived.Test.YtmjigfoldeekmaaX14
namespace Go.Proofs.Ytmjigfoldeekmaa.Lem
open Go.RowKit Go.Proofs.Ytmjigfoldeekmaa.X Go.Proofs.YtmjigfoldeekmaaW.PrintWords Go.Proofs.YtmjigfoldeekmaaW.PrintLast Go.Proofs.YtmjigfoldeekmaaW.PrintMore
theorem unlike_f (x y : ByteArray) : ancepsref57_unlike.f x y = some (unl x y) := by
  unfold ancepsref57_unlike.f unl
  split <;> rfl
theorem rdN (l : List (List Int)) (i : Nat) : rd_L9 l (i : Int) = l.getD i [] := by unfold rd_L9; rw [Int.toNat_natCast]
theorem tabD_len (a b : List ByteArray) (lo : Nat) : (tabD a b lo).length = a.length + 1 := mk_len _ _
theorem rowR_len (a b : List ByteArray) (i lo : Nat) : (rowR a b i lo).length = b.length + 1 := mk_len _ _
theorem tabR_next (a b : List ByteArray) (i lo : Nat) (h : i < a.length) : (tabR a b i lo).getD (i + 1) [] = mk (b.length + 1) (cS a b (i + 1)) := by
  unfold tabR
  rw [mk_get (by omega), if_neg (by omega), if_neg (by omega)]
theorem getD_set_same {α : Type} (l : List α) (i : Nat) (v z : α) (h : i < l.length) : (l.set i v).getD i z = v := by
  rw [List.getD_eq_getElem?_getD, List.getElem?_set, if_pos rfl, if_pos h]; rfl
theorem getD_set_other {α : Type} (l : List α) (i j : Nat) (v z : α) (h : i ≠ j) : (l.set i v).getD j z = l.getD j z := by
  rw [List.getD_eq_getElem?_getD, List.getElem?_set, if_neg h, ← List.getD_eq_getElem?_getD]
theorem rl1_loop (a b : List ByteArray) (ha : a.length ≤ 1000) (hb : b.length ≤ 1000) (i : Nat) (hi : i ≤ a.length) (r : List S29 × Int) (hr : Ev (fun k => ancepsref57_Words.l0 k a b ((i : Int) - 1) (tabR a b i 0)) r) :
    ∀ lo : Nat, lo ≤ b.length + 1 → Ev (fun k => ancepsref57_Words.l1 k a b (i : Int) ((lo : Int) - 1) (tabR a b i lo)) r := by
  intro lo
  induction lo with
  | zero =>
    intro _
    refine Ev.step (fun k => ancepsref57_Words.l1.eq_2 _ _ _ _ _ _) (Ev.neg (by omega) ?_)
    rw [w64 (by omega) (by omega)]
    exact hr
  | succ j ih =>
    intro hj
    have e : ((j + 1 : Nat) : Int) - 1 = (j : Int) := by omega
    rw [e]
    have hT := tabR_at a b i (j + 1) hi
    have hTl := tabR_len a b i (j + 1)
    have hRl := rowR_len a b i (j + 1)
    have hih := ih (by omega)
    refine Ev.step (fun k => ancepsref57_Words.l1.eq_2 _ _ _ _ _ _) (Ev.pos (by omega) (Ev.pos (by omega) (Ev.pos (by omega) (Ev.pos (by omega) ?_))))
    rw [rdN, hT]
    refine Ev.pos (by omega) (Ev.just ?_)
    rw [Int.toNat_natCast, Int.toNat_natCast, w64 (i := (a.length : Int) - i) (by omega) (by omega), w64 (i := (a.length : Int) - i + b.length) (by omega) (by omega), w64 (i := (a.length : Int) - i + b.length - j) (by omega) (by omega), w64 (i := (j : Int) - 1) (by omega) (by omega)]
    by_cases h1 : i < a.length
    · by_cases h2 : j < b.length
      · obtain ⟨v0, hv0⟩ : ∃ v0, (a.length : Int) - i + b.length - j = v0 := ⟨_, rfl⟩
        rw [hv0]
        obtain ⟨row, hrow⟩ : ∃ row, (rowR a b i (j + 1)).set j v0 = row := ⟨_, rfl⟩
        obtain ⟨Y, hY⟩ : ∃ Y, (tabR a b i (j + 1)).set i row = Y := ⟨_, rfl⟩
        have hYl : Y.length = a.length + 1 := by rw [← hY, List.length_set, hTl]
        have hYi : Y.getD i [] = row := by rw [← hY]; exact getD_set_same _ _ _ _ (by omega)
        have hYn : Y.getD (i + 1) [] = mk (b.length + 1) (cS a b (i + 1)) := by rw [← hY, getD_set_other _ _ _ _ _ (by omega)]; exact tabR_next a b i (j + 1) h1
        have hrl : row.length = b.length + 1 := by rw [← hrow, List.length_set, hRl]
        have hmkl : (mk (b.length + 1) (cS a b (i + 1))).length = b.length + 1 := mk_len _ _
        have hrn : row.getD (j + 1) 0 = cS a b i (j + 1) := by
          rw [← hrow, getD_set_other _ _ _ _ _ (by omega)]
          unfold rowR
          rw [mk_get (by omega), if_neg (Nat.lt_irrefl _)]
        have hun := unl_range (rdOf ByteArray.empty a (i : Int)) (rdOf ByteArray.empty b (j : Int))
        have hc1 := cS_range a b (i + 1) (j + 1)
        have hc2 := cS_range a b (i + 1) j
        have hc3 := cS_range a b i (j + 1)
        have e1 : (i : Int) + 1 = ((i + 1 : Nat) : Int) := by omega
        have e2 : (j : Int) + 1 = ((j + 1 : Nat) : Int) := by omega
        rw [hrow, hY, w64 (i := (i : Int) + 1) (by omega) (by omega), w64 (i := (j : Int) + 1) (by omega) (by omega), e1, e2, rdN, rdN, hYn, hYi]
        refine Ev.pos (by omega) (Ev.pos (by omega) (Ev.bind (Ev.now' (unlike_f _ _)) (Ev.pos (by omega) (Ev.pos (by omega) (Ev.pos (by omega) (Ev.pos (by omega) (Ev.pos (by omega) (Ev.pos (by omega) (Ev.pos (by omega) ?_)))))))))
        rw [rdA, rdA, rdA, mk_get (by omega), mk_get (by omega), hrn, w64 (by omega) (by omega), w64 (by omega) (by omega), w64 (by omega) (by omega), ← cS_step a b i j h1 h2]
        rw [← hY, List.set_set, ← hrow, List.set_set, tabR_put a b i j _ rfl]
        exact hih
      · refine Ev.pos (by omega) (Ev.neg (by omega) ?_)
        rw [tabR_put a b i j _ (by rw [cS_end a b i j (.inr (by omega)) hi (by omega)])]
        exact hih
    · refine Ev.neg (by omega) ?_
      rw [tabR_put a b i j _ (by rw [cS_end a b i j (.inl (by omega)) hi (by omega)])]
      exact hih
theorem rl0_loop (a b : List ByteArray) (ha : a.length ≤ 1000) (hb : b.length ≤ 1000) (r : List S29 × Int) (hr : Ev (fun k => ancepsref57_Words.l2 k a b [] 0 0 (tabD a b 0)) r) : ∀ lo : Nat, lo ≤ a.length + 1 → Ev (fun k => ancepsref57_Words.l0 k a b ((lo : Int) - 1) (tabD a b lo)) r := by
  intro lo
  induction lo with
  | zero =>
    intro _
    exact Ev.step (fun k => ancepsref57_Words.l0.eq_2 _ _ _ _ _) (Ev.neg (by omega) hr)
  | succ i ih =>
    intro hi
    have e : ((i + 1 : Nat) : Int) - 1 = (i : Int) := by omega
    rw [e]
    have hl := tabD_len a b (i + 1)
    refine Ev.step (fun k => ancepsref57_Words.l0.eq_2 _ _ _ _ _) (Ev.pos (by omega) ?_)
    rw [w64 (i := (b.length : Int) + 1) (by omega) (by omega)]
    refine Ev.pos (by omega) (Ev.pos (by omega) (Ev.pos (by omega) (Ev.pos (by omega) ?_)))
    rw [Int.toNat_natCast, show ((b.length : Int) + 1).toNat = b.length + 1 by omega, tab_start]
    have := rl1_loop a b ha hb i (by omega) r (by rw [tab_done]; exact ih (by omega)) (b.length + 1) (Nat.le_refl _)
    rw [show ((b.length + 1 : Nat) : Int) - 1 = (b.length : Int) by omega] at this
    exact this
/-! the way -/
theorem pathS_both (a b : List ByteArray) {i j : Nat} (x y : Int) (hi : i < a.length) (hj : j < b.length) : pathS (a.drop i) (b.drop j) x y = (if cS a b i j = unl (rdOf ByteArray.empty a i) (rdOf ByteArray.empty b j) + cS a b (i + 1) (j + 1) then ⟨x, y⟩ :: pathS (a.drop (i + 1)) (b.drop (j + 1)) (x + 1) (y + 1) else if cS a b i j = 1 + cS a b (i + 1) j then ⟨x, -1⟩ :: pathS (a.drop (i + 1)) (b.drop j) (x + 1) y else ⟨-1, y⟩ :: pathS (a.drop i) (b.drop (j + 1)) x (y + 1)) := by
  have ea := apparatus_Words.drop_at a hi
  have eb := apparatus_Words.drop_at b hj
  have hp : (cS a b i j = unl (rdOf ByteArray.empty a i) (rdOf ByteArray.empty b j) + cS a b (i + 1) (j + 1)) ↔ (costS (a.drop i) (b.drop j) = costS (a.drop (i + 1)) (b.drop (j + 1)) + (if (rdOf ByteArray.empty a (i : Int)).toList = (rdOf ByteArray.empty b (j : Int)).toList then 0 else 1)) := by
    unfold cS unl
    split <;> omega
  have hq : (cS a b i j = 1 + cS a b (i + 1) j) ↔ (costS (a.drop i) (b.drop j) = costS (a.drop (i + 1)) (b.drop j) + 1) := by
    unfold cS
    omega
  simp only [hp, hq]
  rw [ea, eb, pathS, ← ea, ← eb]
theorem pathS_left (a : List ByteArray) {i : Nat} (x y : Int) (hi : i < a.length) : pathS (a.drop i) [] x y = ⟨x, -1⟩ :: pathS (a.drop (i + 1)) [] (x + 1) y := by
  rw [apparatus_Words.drop_at a hi, pathS]
theorem pathS_right (b : List ByteArray) {j : Nat} (x y : Int) (hj : j < b.length) : pathS [] (b.drop j) x y = ⟨-1, y⟩ :: pathS [] (b.drop (j + 1)) x (y + 1) := by
  rw [apparatus_Words.drop_at b hj, pathS]
theorem tab0_at (a b : List ByteArray) {i : Nat} (hi : i ≤ a.length) : (tabD a b 0).getD i [] = mk (b.length + 1) (cS a b i) := by
  unfold tabD
  rw [mk_get (by omega), if_neg (Nat.not_lt_zero _)]
theorem rl2_loop (a b : List ByteArray) (ha : a.length ≤ 1000) (hb : b.length ≤ 1000) (n : Nat) : ∀ (i j : Nat) (acc : List S29), (a.length - i) + (b.length - j) = n → i ≤ a.length → j ≤ b.length → acc.length ≤ i + j →
    Ev (fun k => ancepsref57_Words.l2 k a b acc (i : Int) (j : Int) (tabD a b 0)) (acc ++ pathS (a.drop i) (b.drop j) (i : Int) (j : Int), 0) := by
  have hTl := tabD_len a b 0
  have hml : ∀ p, (mk (b.length + 1) (cS a b p)).length = b.length + 1 := fun p => mk_len _ _
  have e1 : ∀ p : Nat, (p : Int) + 1 = ((p + 1 : Nat) : Int) := fun p => by omega
  induction n using Nat.strongRecOn with
  | _ n ih =>
    intro i j acc hn hi hj hacc
    have hnext : ∀ (i' j' : Nat) (x : S29), (a.length - i') + (b.length - j') < n → i' ≤ a.length → j' ≤ b.length → i + j < i' + j' → Ev (fun k => ancepsref57_Words.l2 k a b (acc ++ [x]) (i' : Int) (j' : Int) (tabD a b 0)) (acc ++ x :: pathS (a.drop i') (b.drop j') (i' : Int) (j' : Int), 0) := by
      intro i' j' x h1 h2 h3 h4
      have := ih _ h1 i' j' (acc ++ [x]) rfl h2 h3 (by rw [List.length_append, List.length_singleton]; omega)
      rw [List.append_assoc] at this
      exact this
    refine Ev.step (fun k => ancepsref57_Words.l2.eq_2 _ _ _ _ _ _ _) ?_
    by_cases h1 : i < a.length
    · refine Ev.pos (by omega) (Ev.step (fun k => ancepsref57_Words.j3.eq_2 _ _ _ _ _ _ _ _) (Ev.pos rfl (Ev.pos (by omega) ?_)))
      have hc := cS_range a b (i + 1) (j + 1)
      have hc2 := cS_range a b (i + 1) j
      by_cases h2 : j < b.length
      · have hun := unl_range (rdOf ByteArray.empty a (i : Int)) (rdOf ByteArray.empty b (j : Int))
        refine Ev.pos (by omega) (Ev.pos (by omega) (Ev.pos (by omega) (Ev.pos (by omega) ?_)))
        rw [rdN, tab0_at a b hi, w64 (i := (i : Int) + 1) (by omega) (by omega), w64 (i := (j : Int) + 1) (by omega) (by omega), e1 i, e1 j, rdN, tab0_at a b (show i + 1 ≤ a.length by omega)]
        have hl1 := hml i
        have hl2 := hml (i + 1)
        refine Ev.pos (by omega) (Ev.bind (Ev.now' (unlike_f _ _)) (Ev.pos (by omega) (Ev.pos (by omega) (Ev.pos (by omega) (Ev.pos (by omega) ?_)))))
        rw [rdA, rdA, mk_get (by omega), mk_get (by omega), w64 (i := unl _ _ + _) (by omega) (by omega)]
        refine Ev.step (fun k => ancepsref57_Words.j4.eq_2 _ _ _ _ _ _ _ _) ?_
        rw [pathS_both a b _ _ h1 h2, e1 i, e1 j]
        refine Ev.cond (fun h => ?_) (fun h => ?_)
        · have h' := beq_iff_eq.1 h
          rw [if_pos h', w64 (by omega) (by omega), w64 (by omega) (by omega)]
          exact Ev.pos (by omega) (by have := hnext (i + 1) (j + 1) ⟨i, j⟩ (by omega) (by omega) (by omega) (by omega); rw [← e1 i, ← e1 j] at this ⊢; exact this)
        · have h' : ¬ cS a b i j = unl (rdOf ByteArray.empty a i) (rdOf ByteArray.empty b j) + cS a b (i + 1) (j + 1) := fun e => h (beq_iff_eq.2 e)
          rw [if_neg h']
          refine Ev.pos (by omega) (Ev.pos (by omega) (Ev.pos (by omega) (Ev.pos (by omega) ?_)))
          rw [rdN, tab0_at a b hi, w64 (i := ((i + 1 : Nat) : Int)) (by omega) (by omega), w64 (i := ((j + 1 : Nat) : Int)) (by omega) (by omega), rdN, tab0_at a b (show i + 1 ≤ a.length by omega)]
          refine Ev.pos (by omega) (Ev.pos (by omega) (Ev.pos (by omega) (Ev.pos (by omega) ?_)))
          rw [rdA, rdA, mk_get (by omega), mk_get (by omega), w64 (i := 1 + _) (by omega) (by omega)]
          refine Ev.cond (fun h3 => ?_) (fun h3 => ?_)
          · rw [if_pos h3]
            exact Ev.pos (by omega) (by have := hnext (i + 1) j ⟨i, -1⟩ (by omega) (by omega) (by omega) (by omega); exact this)
          · rw [if_neg h3]
            exact Ev.pos (by omega) (by have := hnext i (j + 1) ⟨-1, j⟩ (by omega) (by omega) (by omega) (by omega); exact this)
      · obtain rfl : j = b.length := by omega
        refine Ev.neg (by omega) (Ev.step (fun k => ancepsref57_Words.j4.eq_2 _ _ _ _ _ _ _ _) (Ev.neg Bool.false_ne_true (Ev.pos (by omega) (Ev.pos (by omega) (Ev.pos (by omega) (Ev.pos (by omega) ?_))))))
        have hl1 := hml i
        have hl2 := hml (i + 1)
        have hnx := hnext (i + 1) b.length ⟨i, -1⟩ (by omega) (by omega) (Nat.le_refl _) (by omega)
        have hv := cS_end a b i b.length (.inr rfl) hi (Nat.le_refl _)
        have hv2 := cS_end a b (i + 1) b.length (.inr rfl) h1 (Nat.le_refl _)
        rw [rdN, tab0_at a b hi, w64 (i := (i : Int) + 1) (by omega) (by omega), e1 i, rdN, tab0_at a b (show i + 1 ≤ a.length by omega)]
        refine Ev.pos (by omega) (Ev.pos (by omega) (Ev.pos (by omega) (Ev.pos (by omega) ?_)))
        rw [rdA, rdA, mk_get (by omega), mk_get (by omega), w64 (i := 1 + _) (by omega) (by omega)]
        refine Ev.pos (by omega) (Ev.pos (by omega) ?_)
        rw [List.drop_length] at hnx ⊢
        rw [pathS_left a _ _ h1, e1 i]
        exact hnx
    · obtain rfl : i = a.length := by omega
      rw [List.drop_length]
      refine Ev.neg (by omega) ?_
      by_cases h2 : j < b.length
      · rw [decide_eq_true (show (j : Int) < (b.length : Int) by omega)]
        refine Ev.step (fun k => ancepsref57_Words.j3.eq_2 _ _ _ _ _ _ _ _) (Ev.pos rfl (Ev.neg (by omega) ?_))
        refine Ev.step (fun k => ancepsref57_Words.j4.eq_2 _ _ _ _ _ _ _ _) (Ev.neg Bool.false_ne_true (Ev.neg (by omega) (Ev.pos (by omega) ?_)))
        have hnx := hnext a.length (j + 1) ⟨-1, j⟩ (by omega) (Nat.le_refl _) (by omega) (by omega)
        rw [List.drop_length] at hnx
        rw [w64 (by omega) (by omega), pathS_right b _ _ h2, e1 j]
        exact hnx
      · obtain rfl : j = b.length := by omega
        rw [decide_eq_false (show ¬ (b.length : Int) < (b.length : Int) by omega), List.drop_length, pathS, List.append_nil]
        exact Ev.step (fun k => ancepsref57_Words.j3.eq_2 _ _ _ _ _ _ _ _) (Ev.neg Bool.false_ne_true (Ev.val rfl))
theorem rw_ev (x y : ByteArray) (hx : x.size ≤ 140737488355328) (hy : y.size ≤ 140737488355328) : Ev (fun k => ancepsref57_Words.f k x y) (wordsP x y) := by
  have h1 := foldedS_len x
  have h2 := foldedS_len y
  unfold ancepsref57_Words.f wordsP
  refine Ev.bind (rall_ev x hx) (Ev.cond (fun h => ?_) (fun h => Ev.val (by rw [if_neg h])))
  rw [if_pos h]
  refine Ev.bind (rall_ev y hy) (Ev.cond (fun h' => ?_) (fun h' => Ev.val (by rw [if_neg h'])))
  rw [if_pos h', w64 (by omega) (by omega)]
  refine Ev.pos (by omega) (Ev.pos (by omega) ?_)
  have hz : List.replicate ((((foldedS x).1.length : Int) + 1)).toNat ([] : List Int) = tabD (foldedS x).1 (foldedS y).1 ((foldedS x).1.length + 1) := by
    rw [mk_rep, show (((foldedS x).1.length : Int) + 1).toNat = (foldedS x).1.length + 1 by omega]
    unfold tabD
    exact mk_ext fun p hp => by rw [if_pos hp]
  have hl2 := rl2_loop (foldedS x).1 (foldedS y).1 (by omega) (by omega) _ 0 0 [] rfl (Nat.zero_le _) (Nat.zero_le _) (Nat.le_refl _)
  have := rl0_loop (foldedS x).1 (foldedS y).1 (by omega) (by omega) _ hl2 ((foldedS x).1.length + 1) (Nat.le_refl _)
  rw [show (((foldedS x).1.length + 1 : Nat) : Int) - 1 = ((foldedS x).1.length : Int) by omega] at this
  rw [hz]
  exact this
end Go.Proofs.Ytmjigfoldeekmaa.Lem
