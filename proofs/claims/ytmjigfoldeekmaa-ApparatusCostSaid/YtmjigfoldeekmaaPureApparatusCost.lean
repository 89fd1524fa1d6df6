/- Words of package apparatus takes each word of both lines once, in order, and as few unlike words as any alignment does: exchanged, the lines differ in as many steps (lines longer than the law's own guard are left out by the law itself). -/
import Derived.Test.YtmjigfoldeekmaaVP
import Derived.Test.YtmjigfoldeekmaaX14
namespace Go.Proofs.Ytmjigfoldeekmaa.Pure
open Go.RowKit Go.Proofs.Ytmjigfoldeekmaa.X Go.Proofs.Ytmjigfoldeekmaa.Lem Go.Proofs.YtmjigfoldeekmaaW.PrintWords Go.Proofs.YtmjigfoldeekmaaW.PrintLast Go.Proofs.YtmjigfoldeekmaaW.PrintMore
theorem awake_ev : Ev (fun k => ancepslaw57_awake.f k) true := Ev.of (fun k => ancepslaw57_awake.mono k) (k := 60) (by kernel_rfl)
theorem rdP (l : List S29) (i : Nat) : rd_T29 l (i : Int) = l.getD i z29 := by unfold rd_T29; rw [Int.toNat_natCast]
section
variable (a b : List ByteArray)
def wayS (i j : Nat) : List S29 := pathS (a.drop i) (b.drop j) (i : Int) (j : Int)
theorem pathS_both (i j : Nat) (hi : i < a.length) (hj : j < b.length) : wayS a b i j = (if cS a b i j = unl (rdOf ByteArray.empty a i) (rdOf ByteArray.empty b j) + cS a b (i + 1) (j + 1) then ⟨i, j⟩ :: wayS a b (i + 1) (j + 1) else if cS a b i j = 1 + cS a b (i + 1) j then ⟨i, -1⟩ :: wayS a b (i + 1) j else ⟨-1, j⟩ :: wayS a b i (j + 1)) := by
  have ea := apparatus_Words.drop_at a hi
  have eb := apparatus_Words.drop_at b hj
  have hp : (cS a b i j = unl (rdOf ByteArray.empty a i) (rdOf ByteArray.empty b j) + cS a b (i + 1) (j + 1)) ↔ (costS (a.drop i) (b.drop j) = costS (a.drop (i + 1)) (b.drop (j + 1)) + (if (rdOf ByteArray.empty a (i : Int)).toList = (rdOf ByteArray.empty b (j : Int)).toList then 0 else 1)) := by
    unfold cS unl
    split <;> omega
  have hq : (cS a b i j = 1 + cS a b (i + 1) j) ↔ (costS (a.drop i) (b.drop j) = costS (a.drop (i + 1)) (b.drop j) + 1) := by
    unfold cS
    omega
  have e1 : ((i + 1 : Nat) : Int) = (i : Int) + 1 := by omega
  have e2 : ((j + 1 : Nat) : Int) = (j : Int) + 1 := by omega
  simp only [hp, hq]
  unfold wayS
  rw [e1, e2, ea, eb, pathS, ← ea, ← eb]
/-- What holds at the end, and ahead of each step, holds everywhere. -/
theorem way_ind (P : Nat → Nat → Prop) (h0 : wayS a b a.length b.length = [] → cS a b a.length b.length = 0 → P a.length b.length)
    (hB : ∀ i j, i < a.length → j < b.length → cS a b i j = unl (rdOf ByteArray.empty a i) (rdOf ByteArray.empty b j) + cS a b (i + 1) (j + 1) → wayS a b i j = ⟨i, j⟩ :: wayS a b (i + 1) (j + 1) → P (i + 1) (j + 1) → P i j)
    (hL : ∀ i j, i < a.length → j ≤ b.length → cS a b i j = 1 + cS a b (i + 1) j → wayS a b i j = ⟨i, -1⟩ :: wayS a b (i + 1) j → P (i + 1) j → P i j)
    (hR : ∀ i j, i ≤ a.length → j < b.length → cS a b i j = 1 + cS a b i (j + 1) → wayS a b i j = ⟨-1, j⟩ :: wayS a b i (j + 1) → P i (j + 1) → P i j) (n : Nat) :
    ∀ i j, (a.length - i) + (b.length - j) = n → i ≤ a.length → j ≤ b.length → P i j := by
  induction n using Nat.strongRecOn with
  | _ n ih =>
    intro i j hn hi hj
    by_cases h1 : i < a.length
    · by_cases h2 : j < b.length
      · have hw := pathS_both a b i j h1 h2
        by_cases c1 : cS a b i j = unl (rdOf ByteArray.empty a i) (rdOf ByteArray.empty b j) + cS a b (i + 1) (j + 1)
        · rw [if_pos c1] at hw
          exact hB i j h1 h2 c1 hw (ih _ (by omega) (i + 1) (j + 1) rfl (by omega) (by omega))
        · rw [if_neg c1] at hw
          by_cases c2 : cS a b i j = 1 + cS a b (i + 1) j
          · rw [if_pos c2] at hw
            exact hL i j h1 hj c2 hw (ih _ (by omega) (i + 1) j rfl (by omega) hj)
          · rw [if_neg c2] at hw
            have hs := cS_step a b i j h1 h2
            have c3 : cS a b i j = 1 + cS a b i (j + 1) := by
              unfold mn at hs
              revert hs c1 c2
              generalize unl _ _ + cS a b (i + 1) (j + 1) = u1
              generalize 1 + cS a b (i + 1) j = u2
              generalize 1 + cS a b i (j + 1) = u3
              intro c1 c2 hs
              (repeat' (split at hs)) <;> omega
            exact hR i j hi h2 c3 hw (ih _ (by omega) i (j + 1) rfl hi (by omega))
      · obtain rfl : j = b.length := by omega
        have v1 := cS_end a b i b.length (.inr rfl) hi (Nat.le_refl _)
        have v2 := cS_end a b (i + 1) b.length (.inr rfl) h1 (Nat.le_refl _)
        refine hL i b.length h1 (Nat.le_refl _) (by omega) ?_ (ih _ (by omega) (i + 1) b.length rfl (by omega) (Nat.le_refl _))
        unfold wayS
        rw [List.drop_length, apparatus_Words.drop_at a h1, pathS]; rfl
    · obtain rfl : i = a.length := by omega
      by_cases h2 : j < b.length
      · have v1 := cS_end a b a.length j (.inl rfl) (Nat.le_refl _) hj
        have v2 := cS_end a b a.length (j + 1) (.inl rfl) (Nat.le_refl _) h2
        refine hR a.length j (Nat.le_refl _) h2 (by omega) ?_ (ih _ (by omega) a.length (j + 1) rfl (Nat.le_refl _) (by omega))
        unfold wayS
        rw [List.drop_length, apparatus_Words.drop_at b h2, pathS]; rfl
      · obtain rfl : j = b.length := by omega
        refine h0 ?_ (by have := cS_end a b a.length b.length (.inl rfl) (Nat.le_refl _) (Nat.le_refl _); omega)
        unfold wayS
        rw [List.drop_length, List.drop_length, pathS]
end
theorem drop_cons {l : List S29} {p : Nat} {x : S29} {t : List S29} (h : l.drop p = x :: t) : p < l.length ∧ l.getD p z29 = x ∧ l.drop (p + 1) = t := by
  have hp : p < l.length := by
    by_cases e : p < l.length
    · exact e
    · rw [List.drop_of_length_le (by omega)] at h; cases h
  rw [List.drop_eq_getElem_cons hp] at h
  obtain ⟨h1, h2⟩ := List.cons.inj h
  exact ⟨hp, by rw [List.getD_eq_getElem?_getD, List.getElem?_eq_getElem hp]; exact h1, h2⟩
/-- The first list: each word once, in order; how many steps are unlike. -/
theorem first_loop (a b : List ByteArray) (ha : a.length ≤ 1000) (hb : b.length ≤ 1000) (l m : List S29) (hll : l.length ≤ 1000000) (T : Int) (hT : 0 ≤ T ∧ T ≤ 10000) (r : Bool) (hend : Ev (fun k => ancepslaw57_ApparatusCost.l1 k a b T (a.length : Int) (b.length : Int) m (m.length : Int) 0) r) :
    ∀ i j, i ≤ a.length → j ≤ b.length → ∀ (p : Nat) (n : Int), l.drop p = wayS a b i j → p ≤ l.length → 0 ≤ n → n + cS a b i j = T → Ev (fun k => ancepslaw57_ApparatusCost.l0 k a b m n (i : Int) (j : Int) l (l.length : Int) (p : Int)) r := by
  intro i j hi hj
  refine way_ind a b (fun i j => ∀ (p : Nat) (n : Int), l.drop p = wayS a b i j → p ≤ l.length → 0 ≤ n → n + cS a b i j = T → Ev (fun k => ancepslaw57_ApparatusCost.l0 k a b m n (i : Int) (j : Int) l (l.length : Int) (p : Int)) r) ?_ ?_ ?_ ?_ _ i j rfl hi hj
  · intro hw hc p n hd hp h0 hn
    rw [hw] at hd
    have := List.drop_eq_nil_iff.1 hd
    obtain rfl : n = T := by omega
    exact Ev.step (fun k => ancepslaw57_ApparatusCost.l0.eq_2 _ _ _ _ _ _ _ _ _ _) (Ev.neg (by omega) hend)
  · intro i j hi hj hc hw ih p n hd hp h0 hn
    rw [hw] at hd
    obtain ⟨hpl, hx, hd2⟩ := drop_cons hd
    have hcr := cS_range a b (i + 1) (j + 1)
    refine Ev.step (fun k => ancepslaw57_ApparatusCost.l0.eq_2 _ _ _ _ _ _ _ _ _ _) (Ev.pos (by omega) (Ev.pos (by omega) (Ev.pos (by omega) ?_)))
    rw [rdP, hx]
    refine Ev.pos (by show (i : Int) ≥ 0; omega) (Ev.pos rfl (Ev.pos (by show (j : Int) ≥ 0; omega) (Ev.pos rfl (Ev.neg (by show ¬ (i : Int) < 0; omega) (Ev.neg (by omega) (Ev.neg (by omega) ?_))))))
    refine Ev.step (fun k => ancepslaw57_ApparatusCost.j2.eq_2 _ _ _ _ _ _ _ _ _ _ _ _ _) (Ev.neg Bool.false_ne_true (Ev.neg (by show ¬ (i : Int) < 0; omega) (Ev.neg (by show ¬ (j : Int) < 0; omega) (Ev.pos (by omega) (Ev.pos (by omega) (Ev.pos (by omega) (Ev.pos (by omega) ?_)))))))
    refine Ev.step (fun k => ancepslaw57_ApparatusCost.j3.eq_2 _ _ _ _ _ _ _ _ _ _ _ _ _) ?_
    have hgo : ∀ n', 0 ≤ n' → n' + cS a b (i + 1) (j + 1) = T → Ev (fun k => ancepslaw57_ApparatusCost.j4 k a b m n' (i : Int) (j : Int) l (l.length : Int) (p : Int) (i : Int) (j : Int)) r := by
      intro n' h1 h2
      refine Ev.step (fun k => ancepslaw57_ApparatusCost.j4.eq_2 _ _ _ _ _ _ _ _ _ _ _ _) (Ev.pos (by omega) (Ev.pos (by omega) ?_))
      rw [w64 (i := (i : Int) + 1) (by omega) (by omega), w64 (i := (j : Int) + 1) (by omega) (by omega), w64 (i := (p : Int) + 1) (by omega) (by omega)]
      exact ih (p + 1) n' hd2 (by omega) h1 h2
    unfold unl at hc
    by_cases e : (rdOf ByteArray.empty a (i : Int)).toList = (rdOf ByteArray.empty b (j : Int)).toList
    · rw [if_pos e] at hc
      exact Ev.neg (by rw [e]; simp) (hgo n h0 (by omega))
    · rw [if_neg e] at hc
      refine Ev.pos (bne_iff_ne.2 e) ?_
      rw [w64 (by omega) (by omega)]
      exact hgo (n + 1) (by omega) (by omega)
  · intro i j hi hj hc hw ih p n hd hp h0 hn
    rw [hw] at hd
    obtain ⟨hpl, hx, hd2⟩ := drop_cons hd
    have hcr := cS_range a b (i + 1) j
    refine Ev.step (fun k => ancepslaw57_ApparatusCost.l0.eq_2 _ _ _ _ _ _ _ _ _ _) (Ev.pos (by omega) (Ev.pos (by omega) (Ev.pos (by omega) ?_)))
    rw [rdP, hx]
    have hgo : Ev (fun k => ancepslaw57_ApparatusCost.j2 k a b m n (i : Int) (j : Int) l (l.length : Int) (p : Int) false (i : Int) (-1)) r := by
      refine Ev.step (fun k => ancepslaw57_ApparatusCost.j2.eq_2 _ _ _ _ _ _ _ _ _ _ _ _ _) (Ev.neg Bool.false_ne_true (Ev.neg (by omega) (Ev.pos (by decide) ?_)))
      refine Ev.step (fun k => ancepslaw57_ApparatusCost.j3.eq_2 _ _ _ _ _ _ _ _ _ _ _ _ _) (Ev.pos rfl ?_)
      refine Ev.step (fun k => ancepslaw57_ApparatusCost.j4.eq_2 _ _ _ _ _ _ _ _ _ _ _ _) (Ev.pos (by omega) (Ev.neg (by decide) ?_))
      rw [w64 (i := (i : Int) + 1) (by omega) (by omega), w64 (i := n + 1) (by omega) (by omega), w64 (i := (p : Int) + 1) (by omega) (by omega)]
      exact ih (p + 1) (n + 1) hd2 (by omega) (by omega) (by omega)
    refine Ev.pos (by show (i : Int) ≥ 0; omega) (Ev.pos rfl (Ev.neg (by show ¬ (-1 : Int) ≥ 0; decide) (Ev.neg (by show ¬ (i : Int) < 0; omega) (Ev.neg (by omega) (Ev.cond (fun _ => ?_) (fun _ => hgo))))))
    rw [show decide ((⟨(i : Int), -1⟩ : S29).f1 ≥ 0) = false from rfl]
    exact hgo
  · intro i j hi hj hc hw ih p n hd hp h0 hn
    rw [hw] at hd
    obtain ⟨hpl, hx, hd2⟩ := drop_cons hd
    have hcr := cS_range a b i (j + 1)
    refine Ev.step (fun k => ancepslaw57_ApparatusCost.l0.eq_2 _ _ _ _ _ _ _ _ _ _) (Ev.pos (by omega) (Ev.pos (by omega) (Ev.pos (by omega) ?_)))
    rw [rdP, hx]
    have hgo : Ev (fun k => ancepslaw57_ApparatusCost.j2 k a b m n (i : Int) (j : Int) l (l.length : Int) (p : Int) false (-1) (j : Int)) r := by
      refine Ev.step (fun k => ancepslaw57_ApparatusCost.j2.eq_2 _ _ _ _ _ _ _ _ _ _ _ _ _) (Ev.neg Bool.false_ne_true (Ev.pos (by decide) ?_))
      refine Ev.step (fun k => ancepslaw57_ApparatusCost.j3.eq_2 _ _ _ _ _ _ _ _ _ _ _ _ _) (Ev.pos rfl ?_)
      refine Ev.step (fun k => ancepslaw57_ApparatusCost.j4.eq_2 _ _ _ _ _ _ _ _ _ _ _ _) (Ev.neg (by decide) (Ev.pos (by omega) ?_))
      rw [w64 (i := (j : Int) + 1) (by omega) (by omega), w64 (i := n + 1) (by omega) (by omega), w64 (i := (p : Int) + 1) (by omega) (by omega)]
      exact ih (p + 1) (n + 1) hd2 (by omega) (by omega) (by omega)
    exact Ev.neg (by show ¬ (-1 : Int) ≥ 0; decide) (Ev.pos (by show (j : Int) ≥ 0; omega) (Ev.pos rfl (Ev.pos (by show (-1 : Int) < 0; decide) (Ev.neg (by show ¬ (j : Int) < 0; omega) (Ev.cond (fun _ => Ev.neg (by omega) hgo) (fun _ => Ev.neg (by omega) hgo))))))
/-- The second list: as many steps are unlike. -/
theorem second_loop (a b : List ByteArray) (ha : a.length ≤ 1000) (hb : b.length ≤ 1000) (m : List S29) (hml : m.length ≤ 1000000) :
    ∀ i j, i ≤ b.length → j ≤ a.length → ∀ (p : Nat) (n : Int), m.drop p = wayS b a i j → p ≤ m.length → n = cS b a i j → Ev (fun k => ancepslaw57_ApparatusCost.l1 k a b n (a.length : Int) (b.length : Int) m (m.length : Int) (p : Int)) true := by
  intro i j hi hj
  refine way_ind b a (fun i j => ∀ (p : Nat) (n : Int), m.drop p = wayS b a i j → p ≤ m.length → n = cS b a i j → Ev (fun k => ancepslaw57_ApparatusCost.l1 k a b n (a.length : Int) (b.length : Int) m (m.length : Int) (p : Int)) true) ?_ ?_ ?_ ?_ _ i j rfl hi hj
  · intro hw hc p n hd hp hn
    rw [hw] at hd
    have := List.drop_eq_nil_iff.1 hd
    exact Ev.step (fun k => ancepslaw57_ApparatusCost.l1.eq_2 _ _ _ _ _ _ _ _ _) (Ev.neg (by omega) (Ev.pos (by omega) (Ev.pos rfl (Ev.val (beq_iff_eq.2 rfl)))))
  · intro i j hi hj hc hw ih p n hd hp hn
    rw [hw] at hd
    obtain ⟨hpl, hx, hd2⟩ := drop_cons hd
    have hcr := cS_range b a (i + 1) (j + 1)
    refine Ev.step (fun k => ancepslaw57_ApparatusCost.l1.eq_2 _ _ _ _ _ _ _ _ _) (Ev.pos (by omega) (Ev.pos (by omega) (Ev.pos (by omega) ?_)))
    rw [rdP, hx]
    refine Ev.neg (by show ¬ (i : Int) < 0; omega) (Ev.neg (by show ¬ (j : Int) < 0; omega) (Ev.neg (by show ¬ (i : Int) ≥ _; omega) (Ev.neg (by show ¬ (j : Int) ≥ _; omega) (Ev.pos (by show (0 : Int) ≤ (i : Int); omega) (Ev.pos (by show (i : Int) < _; omega) (Ev.pos (by show (0 : Int) ≤ (j : Int); omega) (Ev.pos (by show (j : Int) < _; omega) ?_)))))))
    rw [w64 (i := (p : Int) + 1) (by omega) (by omega)]
    unfold unl at hc
    refine Ev.cond (fun e => ?_) (fun e => ?_)
    · rw [if_pos e] at hc
      exact ih (p + 1) n hd2 (by omega) (by omega)
    · rw [if_neg e] at hc
      rw [w64 (by omega) (by omega)]
      exact ih (p + 1) (n - 1) hd2 (by omega) (by omega)
  · intro i j hi hj hc hw ih p n hd hp hn
    rw [hw] at hd
    obtain ⟨hpl, hx, hd2⟩ := drop_cons hd
    have hcr := cS_range b a (i + 1) j
    refine Ev.step (fun k => ancepslaw57_ApparatusCost.l1.eq_2 _ _ _ _ _ _ _ _ _) (Ev.pos (by omega) (Ev.pos (by omega) (Ev.pos (by omega) ?_)))
    rw [rdP, hx, w64 (i := (p : Int) + 1) (by omega) (by omega), w64 (i := n - 1) (by omega) (by omega)]
    exact Ev.neg (by show ¬ (i : Int) < 0; omega) (Ev.pos (by show (-1 : Int) < 0; decide) (ih (p + 1) (n - 1) hd2 (by omega) (by omega)))
  · intro i j hi hj hc hw ih p n hd hp hn
    rw [hw] at hd
    obtain ⟨hpl, hx, hd2⟩ := drop_cons hd
    have hcr := cS_range b a i (j + 1)
    refine Ev.step (fun k => ancepslaw57_ApparatusCost.l1.eq_2 _ _ _ _ _ _ _ _ _) (Ev.pos (by omega) (Ev.pos (by omega) (Ev.pos (by omega) ?_)))
    rw [rdP, hx, w64 (i := (p : Int) + 1) (by omega) (by omega), w64 (i := n - 1) (by omega) (by omega)]
    exact Ev.pos (by show (-1 : Int) < 0; decide) (ih (p + 1) (n - 1) hd2 (by omega) (by omega))
theorem ApparatusCost : ancepslaw57_ApparatusCost.Pure := by
  intro x y hx hy
  refine Ev.rounds (g := fun k => ancepslaw57_ApparatusCost.f k x y) ?_
  have hj : Ev (fun k => ancepslaw57_ApparatusCost.j0 k x y true) true := Ev.step (fun k => ancepslaw57_ApparatusCost.j0.eq_2 _ _ _ _) (Ev.pos rfl (Ev.bind awake_ev (Ev.val rfl)))
  have hn : Ev (fun k => ancepslaw57_ApparatusCost.j0 k x y false) true := by
    have h1 := foldedS_len x
    have h2 := foldedS_len y
    refine Ev.step (fun k => ancepslaw57_ApparatusCost.j0.eq_2 _ _ _ _) (Ev.neg Bool.false_ne_true (Ev.bind (rall_ev x (by omega)) (Ev.bind (rall_ev y (by omega)) (Ev.bind (cw_ev x y (by omega) (by omega)) (Ev.bind (cw_ev y x (by omega) (by omega)) ?_)))))
    unfold wordsP
    by_cases e1 : (foldedS x).2 = 0
    · by_cases e2 : (foldedS y).2 = 0
      · rw [if_pos e1, if_pos e2, if_pos e2, if_pos e1]
        have hl := pathS_len _ (foldedS x).1 (foldedS y).1 0 0 rfl
        have hm := pathS_len _ (foldedS y).1 (foldedS x).1 0 0 rfl
        have hcr := cS_range (foldedS x).1 (foldedS y).1 0 0
        have hcc : cS (foldedS x).1 (foldedS y).1 0 0 = cS (foldedS y).1 (foldedS x).1 0 0 := by
          unfold cS
          rw [List.drop_zero, List.drop_zero, cost_comm _ (foldedS x).1 (foldedS y).1 (Nat.le_refl _)]
        refine Ev.pos rfl ?_
        exact first_loop (foldedS x).1 (foldedS y).1 (by omega) (by omega) _ _ (Nat.le_trans hl (by omega)) (cS (foldedS x).1 (foldedS y).1 0 0) (by omega) true (second_loop (foldedS x).1 (foldedS y).1 (by omega) (by omega) _ (Nat.le_trans hm (by omega)) 0 0 (Nat.zero_le _) (Nat.zero_le _) 0 _ rfl (Nat.zero_le _) hcc) 0 0 (Nat.zero_le _) (Nat.zero_le _) 0 0 rfl (Nat.zero_le _) (Int.le_refl _) (by omega)
      · rw [if_pos e1, if_neg e2]
        exact Ev.neg e2 (Ev.val rfl)
    · rw [if_neg e1]
      exact Ev.neg e1 (Ev.val rfl)
  unfold ancepslaw57_ApparatusCost.f
  refine Ev.bind awake_ev (Ev.pos rfl (Ev.cond (fun _ => hj) (fun _ => ?_)))
  by_cases h : (y.size : Int) > 200
  · rw [decide_eq_true h]; exact hj
  · rw [decide_eq_false h]; exact hn
end Go.Proofs.Ytmjigfoldeekmaa.Pure
