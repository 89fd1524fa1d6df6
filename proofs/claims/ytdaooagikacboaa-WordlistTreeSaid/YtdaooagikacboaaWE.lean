-- cut down by this session's prune2.py to what the claims name; Lean checks it
/- Chapter 54: both checks of a tree come to the same answer. -/
import Derived.Test.YtdaooagikacboaaWA
namespace Go.Proofs.Ytdaooagikacboaa.Lem
open Go.RowKit Go.Proofs.Ytdaooagikacboaa.X Go.Proofs.YtdaooagikacboaaW.PrintWords Go.Proofs.YtdaooagikacboaaW.PrintLast
theorem EK_len_le (l : List Lf) {m N : Nat} (h : m ≤ N) : (EK l m).length ≤ (EK l N).length := by
  obtain ⟨R, hR⟩ := EK_pre l m (N - m)
  rw [show N = m + (N - m) by omega, hR, List.length_append]
  omega
theorem KD_len (l : List Lf) (m : Nat) : (KD l (m : Int)).length ≤ (EK l (m + 1)).length := by
  rw [EK_succ, List.length_append]; omega
theorem take_snoc {α : Type} (L : List α) (j : Nat) (h : j < L.length) : L.take (j + 1) = L.take j ++ [L[j]] := by
  rw [List.take_succ_eq_append_getElem h]
/-! the program -/
theorem n0_ev (ws : List ByteArray) (l : List Lf) (hl : l.length ≤ 1000000) (hS : (EK l l.length).length ≤ 1000000) (i : Nat) (hi : i < l.length) (r : Bool) (e : Nat) : ∀ (j : Nat) (last : Int), j + e = (KD l (i : Int)).length →
    (kOK l (i : Int) last ((KD l (i : Int)).drop j) = true → leafOK l (i : Int) = true → Ev (fun k => wordlist_CheckTree.o0 k ws l (cntL l.length (EK l (i + 1))) ((i + 1 : Nat) : Int)) r) →
    (kOK l (i : Int) last ((KD l (i : Int)).drop j) = false ∨ leafOK l (i : Int) = false → r = false) →
    Ev (fun k => wordlist_CheckTree.n0 k ws l (cntL l.length (EK l i ++ (KD l (i : Int)).take j)) (i : Int) last (j : Int)) r := by
  have hKl : (KD l (i : Int)).length ≤ 1000000 := Nat.le_trans (Nat.le_trans (KD_len l i) (EK_len_le l (show i + 1 ≤ l.length by omega))) hS
  have hEl : (EK l i).length ≤ 1000000 := Nat.le_trans (EK_len_le l (show i ≤ l.length by omega)) hS
  induction e with
  | zero =>
    intro j last hj h1 h2
    rw [List.drop_of_length_le (by omega)] at h1 h2
    rw [List.take_of_length_le (by omega), ← EK_succ]
    refine Ev.step (fun k => wordlist_CheckTree.n0.eq_2 _ _ _ _ _ _ _) (Ev.neg (show ¬ (j : Int) < ((KD l (i : Int)).length : Int) by omega) ?_)
    rw [w64 (i := (i : Int) + 1) (by omega) (by omega)]
    unfold leafOK at h1 h2
    refine Ev.cond (fun c1 => Ev.cond (fun c2 => Ev.cond (fun c3 => ?_) (fun c3 => ?_)) (fun c2 => ?_)) (fun c1 => ?_)
    · have c3' : (nd l (i : Int)).f1 = true := c3
      exact h1 rfl (by rw [c3']; simp)
    · have c3' : (nd l (i : Int)).f1 = false := Bool.eq_false_iff.2 c3
      have c2' : (KD l (i : Int)).length = 0 := by have : ((KD l (i : Int)).length : Int) = 0 := c2; omega
      rw [h2 (.inr (by rw [c3', decide_eq_true c1, decide_eq_true c2']; rfl))]
      exact Ev.now _
    · have c2' : ¬ (KD l (i : Int)).length = 0 := fun h => c2 (show ((KD l (i : Int)).length : Int) = 0 by omega)
      exact h1 rfl (by rw [decide_eq_false c2']; simp)
    · exact h1 rfl (by rw [decide_eq_false c1]; simp)
  | succ e ih =>
    intro j last hj h1 h2
    have hlt : j < (KD l (i : Int)).length := by omega
    rw [List.drop_eq_getElem_cons hlt, kOK] at h1 h2
    have hn : rd (rd_T46 l (i : Int)).f2 (j : Int) = (KD l (i : Int))[j] := rd_of _ _ hlt
    have htk := take_snoc (KD l (i : Int)) j hlt
    generalize (KD l (i : Int))[j] = n at hn htk h1 h2
    refine Ev.step (fun k => wordlist_CheckTree.n0.eq_2 _ _ _ _ _ _ _) (Ev.pos (show (j : Int) < ((KD l (i : Int)).length : Int) by omega) (Ev.pos (by omega) ?_))
    rw [hn]
    have bad : (kOK l (i : Int) last (n :: (KD l (i : Int)).drop (j + 1)) = false) → r = false := fun h => h2 (.inl (by rw [kOK] at h; exact h))
    rw [kOK] at bad
    refine Ev.cond (fun c => Ev.val (bad (by rw [decide_eq_false (by omega)]; rfl)).symm) (fun c1 => ?_)
    refine Ev.cond (fun c => Ev.val (bad (by rw [decide_eq_false (by omega)]; rfl)).symm) (fun c2 => ?_)
    have hf : (rd_T46 l n).f0 = (nd l n).f0 := rfl
    rw [hf]
    refine Ev.cond (fun c => Ev.val (bad (by rw [decide_eq_false (p := last < (nd l n).f0 ∧ 0 ≤ (nd l n).f0 ∧ (nd l n).f0 ≤ 255) (by omega)]; simp)).symm) (fun c3 => ?_)
    refine Ev.cond (fun c => Ev.val (bad (by rw [decide_eq_false (p := last < (nd l n).f0 ∧ 0 ≤ (nd l n).f0 ∧ (nd l n).f0 ≤ 255) (by omega)]; simp)).symm) (fun c4 => ?_)
    refine Ev.cond (fun c => Ev.val (bad (by rw [decide_eq_false (p := last < (nd l n).f0 ∧ 0 ≤ (nd l n).f0 ∧ (nd l n).f0 ≤ 255) (by omega)]; simp)).symm) (fun c5 => ?_)
    refine Ev.bind (letter_ev (c := (nd l n).f0) (by omega)) (Ev.cond (fun c6 => ?_) (fun c6 => Ev.val (bad (by rw [Bool.eq_false_iff.2 c6]; simp)).symm))
    obtain ⟨q, rfl⟩ : ∃ q : Nat, n = (q : Int) := ⟨n.toNat, by omega⟩
    have d1 : decide ((i : Int) < (q : Int) ∧ (q : Int) < (l.length : Int)) = true := decide_eq_true (by omega)
    have d2 : decide (last < (nd l (q : Int)).f0 ∧ 0 ≤ (nd l (q : Int)).f0 ∧ (nd l (q : Int)).f0 ≤ 255) = true := decide_eq_true (by omega)
    rw [d1, d2, c6, Bool.true_and, Bool.true_and, Bool.true_and] at h1 h2
    have hc := count_le (EK l i ++ (KD l (i : Int)).take j) (q : Int)
    rw [List.length_append, List.length_take] at hc
    rw [cntL_at _ _ q (by omega), w64 (i := (j : Int) + 1) (by omega) (by omega), w64 (by omega) (by omega), Int.toNat_natCast, cntL_set, List.append_assoc, ← htk]
    exact ih (j + 1) _ (by omega) h1 h2
theorem o0_ev (ws : List ByteArray) (l : List Lf) (hl : l.length ≤ 1000000) (hS : (EK l l.length).length ≤ 1000000) (r : Bool) (d : Nat) : ∀ i : Nat, i + d = l.length →
    ((∀ m : Nat, i ≤ m → m < l.length → pOK l (m : Int) = true) → Ev (fun k => wordlist_CheckTree.p0 k ws l ((cntL l.length (EK l l.length)).drop 1) 0) r) →
    ((∃ m : Nat, i ≤ m ∧ m < l.length ∧ pOK l (m : Int) = false) → r = false) → Ev (fun k => wordlist_CheckTree.o0 k ws l (cntL l.length (EK l i)) (i : Int)) r := by
  induction d with
  | zero =>
    intro i hi h1 _
    obtain rfl : i = l.length := by omega
    exact Ev.step (fun k => wordlist_CheckTree.o0.eq_2 _ _ _ _ _) (Ev.neg (by omega) (h1 (fun m hm hm2 => by omega)))
  | succ d ih =>
    intro i hi h1 h2
    have hlt : i < l.length := by omega
    refine Ev.step (fun k => wordlist_CheckTree.o0.eq_2 _ _ _ _ _) (Ev.pos (by omega) (Ev.pos (by omega) ?_))
    have h := n0_ev ws l hl hS i hlt r (KD l (i : Int)).length 0 (-1) (by omega)
    rw [List.drop_zero, List.take_zero, List.append_nil] at h
    refine h (fun a b => ih (i + 1) (by omega) (fun hm => h1 (fun m hm1 hm2 => ?_)) (fun ⟨m, hm1, hm2, hm3⟩ => h2 ⟨m, by omega, hm2, hm3⟩)) (fun ho => h2 ⟨i, Nat.le_refl _, hlt, ?_⟩)
    · rcases Nat.lt_or_ge i m with h3 | h3
      · exact hm m h3 hm2
      · obtain rfl : m = i := by omega
        unfold pOK; rw [a, b]; rfl
    · unfold pOK
      rcases ho with ho | ho
      · rw [ho, Bool.false_and]
      · rw [ho, Bool.and_false]
theorem p0_ev (ws : List ByteArray) (l : List Lf) (hl : l.length ≤ 1000000) (r : Bool) (h1 : oneT l → Ev (fun k => wordlist_CheckTree.fin k ws l) r) (h2 : ¬ oneT l → r = false) (d : Nat) : ∀ j : Nat, j + d + 1 = l.length → (∀ m : Nat, 1 ≤ m → m ≤ j → (EK l l.length).count (m : Int) = 1) →
    Ev (fun k => wordlist_CheckTree.p0 k ws l ((cntL l.length (EK l l.length)).drop 1) (j : Int)) r := by
  have hD : ((cntL l.length (EK l l.length)).drop 1).length = l.length - 1 := by rw [List.length_drop, cntL_len]
  induction d with
  | zero =>
    intro j hj hm
    exact Ev.step (fun k => wordlist_CheckTree.p0.eq_2 _ _ _ _ _) (Ev.neg (by omega) (h1 (fun m h0 h3 => hm m h0 (by omega))))
  | succ d ih =>
    intro j hj hm
    have hr : rd ((cntL l.length (EK l l.length)).drop 1) (j : Int) = (((EK l l.length).count ((j + 1 : Nat) : Int) : Nat) : Int) := by
      rw [← cntL_at l.length _ (j + 1) (by omega)]
      unfold rd
      rw [Int.toNat_natCast, Int.toNat_natCast, List.getD_eq_getElem?_getD, List.getD_eq_getElem?_getD, List.getElem?_drop, Nat.add_comm]
    refine Ev.step (fun k => wordlist_CheckTree.p0.eq_2 _ _ _ _ _) (Ev.pos (by omega) (Ev.pos (by omega) ?_))
    rw [hr, w64 (i := (j : Int) + 1) (by omega) (by omega)]
    refine Ev.cond (fun c => ih (j + 1) (by omega) (fun m h0 h3 => ?_)) (fun c => Ev.val (h2 (fun ho => c ?_)).symm)
    · rcases Nat.lt_or_ge j m with h4 | h4
      · obtain rfl : m = j + 1 := by omega
        omega
      · exact hm m h0 h4
    · have := ho (j + 1) (by omega) (by omega)
      omega
/-! the reference -/
end Go.Proofs.Ytdaooagikacboaa.Lem
