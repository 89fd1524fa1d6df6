-- cut down by this session's prune2.py to what the claims name; Lean checks it
/- Chapter 54: both checks of a tree, in plain words. -/
import Derived.Test.YtdaooagikacboaaW9
import Derived.Test.YtdaooagikacboaaX0
namespace Go.Proofs.Ytdaooagikacboaa.Lem
open Go.RowKit Go.Proofs.Ytdaooagikacboaa.X Go.Proofs.YtdaooagikacboaaW.PrintWords Go.Proofs.YtdaooagikacboaaW.PrintLast
/-! equal lists of strings -/
/-! counts of parents -/
def cntL (N : Nat) (L : List Int) : List Int := (List.range N).map (fun n : Nat => ((L.count (n : Int) : Nat) : Int))
theorem cntL_len (N : Nat) (L : List Int) : (cntL N L).length = N := by unfold cntL; simp
theorem cntL_at (N : Nat) (L : List Int) (n : Nat) (h : n < N) : rd (cntL N L) (n : Int) = ((L.count (n : Int) : Nat) : Int) := by
  rw [rd_of _ n (by rw [cntL_len]; exact h)]
  unfold cntL
  rw [List.getElem_map, List.getElem_range]
theorem cntL_nil (N : Nat) : cntL N [] = List.replicate N 0 := by
  unfold cntL
  refine List.ext_getElem (by simp) (fun p h1 h2 => ?_)
  simp
theorem cntL_set (N : Nat) (L : List Int) (n : Nat) : (cntL N L).set n (((L.count (n : Int) : Nat) : Int) + 1) = cntL N (L ++ [(n : Int)]) := by
  unfold cntL
  refine List.ext_getElem (by simp) (fun p h1 h2 => ?_)
  rw [List.getElem_set, List.getElem_map, List.getElem_map, List.getElem_range, List.count_append]
  by_cases e : n = p
  · subst e
    rw [if_pos rfl]
    simp
  · rw [if_neg e, List.count_singleton]
    have : ((n : Int) == (p : Int)) = false := beq_eq_false_iff_ne.2 (by omega)
    rw [this]
    simp
theorem count_le (L : List Int) (x : Int) : L.count x ≤ L.length := List.count_le_length
/-! what both ask of a node -/
def kOK (l : List Lf) (i : Int) : Int → List Int → Bool
  | _, [] => true
  | last, n :: r => decide (i < n ∧ n < (l.length : Int)) && (decide (last < (nd l n).f0 ∧ 0 ≤ (nd l n).f0 ∧ (nd l n).f0 ≤ 255) && letB (nd l n).f0 && kOK l i (nd l n).f0 r)
def leafOK (l : List Lf) (i : Int) : Bool := !(decide (i > 0) && decide ((KD l i).length = 0) && !(nd l i).f1)
def pOK (l : List Lf) (i : Int) : Bool := kOK l i (-1) (KD l i) && leafOK l i
def oLt : Option Int → Int → Bool
  | none, _ => true
  | some q, x => decide (q < x)
def rk (l : List Lf) (i : Int) : Option Int → List Int → Bool
  | _, [] => true
  | p, n :: r => decide (i < n ∧ n < (l.length : Int)) && (oLt p (nd l n).f0 && rk l i (some (nd l n).f0) r)
def letOK (l : List Lf) (i : Int) : Bool := decide (0 ≤ (nd l i).f0 ∧ (nd l i).f0 ≤ 255) && letB (nd l i).f0
def rOK (l : List Lf) (i : Int) : Bool := leafOK l i && ((!decide (i > 0) || letOK l i) && rk l i none (KD l i))
theorem kOK_mem (l : List Lf) (i : Int) : ∀ (L : List Int) (last : Int), kOK l i last L = true → ∀ n ∈ L, (i < n ∧ n < (l.length : Int)) ∧ letOK l n = true
  | [], _, _, n, hn => by simp at hn
  | m :: r, last, h, n, hn => by
    rw [kOK] at h
    simp only [Bool.and_eq_true, decide_eq_true_iff] at h
    rcases List.mem_cons.1 hn with rfl | hn
    · refine ⟨h.1, ?_⟩
      unfold letOK
      rw [Bool.and_eq_true, decide_eq_true_iff]
      exact ⟨h.2.1.1.2, h.2.1.2⟩
    · exact kOK_mem l i r _ h.2.2 n hn
def allP (l : List Lf) : Prop := ∀ m : Nat, m < l.length → pOK l (m : Int) = true
def allR (l : List Lf) : Prop := ∀ m : Nat, m < l.length → rOK l (m : Int) = true
def oneT (l : List Lf) : Prop := ∀ m : Nat, 1 ≤ m → m < l.length → (EK l l.length).count (m : Int) = 1
theorem allP_good {l : List Lf} (h : allP l) : GoodT l ∧ LetT l := by
  have hk : ∀ i : Int, 0 ≤ i → i < (l.length : Int) → ∀ n ∈ KD l i, (i < n ∧ n < (l.length : Int)) ∧ letOK l n = true := by
    intro i h0 h1 n hn
    obtain ⟨q, rfl⟩ : ∃ q : Nat, i = (q : Int) := ⟨i.toNat, by omega⟩
    have h2 := h q (by omega)
    unfold pOK at h2
    rw [Bool.and_eq_true] at h2
    exact kOK_mem l _ _ _ h2.1 n hn
  refine ⟨fun i h0 h1 n hn => (hk i h0 h1 n hn).1, fun i h0 h1 n hn => ?_⟩
  have := (hk i h0 h1 n hn).2
  unfold letOK at this
  rw [Bool.and_eq_true, decide_eq_true_iff] at this
  exact this.1
end Go.Proofs.Ytdaooagikacboaa.Lem
