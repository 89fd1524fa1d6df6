/- Chapter 54: both checks of a tree, in plain words. -/
import Derived.Test.YtdaooagikacboaaW9
import Derived.Test.YtdaooagikacboaaX10
import Derived.Test.YtdaooagikacboaaX9
import Derived.Test.YtdaooagikacboaaX8
namespace Go.Proofs.Ytdaooagikacboaa.Lem
open Go.RowKit Go.Proofs.Ytdaooagikacboaa.X Go.Proofs.YtdaooagikacboaaW.PrintWords Go.Proofs.YtdaooagikacboaaW.PrintLast
theorem spell_ev (l : List Lf) (hG : GoodT l) (hL : LetT l) (hk : ∀ i, (KD l i).length ≤ 1000000) : ∀ (d : Nat) (i : Int) (u : List Int), 0 ≤ i → i < (l.length : Int) → (l.length : Int) - i ≤ d → (spl d l i u).length ≤ 1000000 → u.length + d ≤ 1000000 →
    Ev (fun k => ancepsref54_spell.f k l i u) ((spl d l i u).map strOfNums)
  | 0, i, u, h0, h1, h2, _, _ => by omega
  | d + 1, i, u, h0, h1, h2, h3, h4 => by
    have loop : ∀ (e j : Nat) (W1 : List ByteArray), j + e = (KD l i).length → W1.length + ((((KD l i).drop j).map (fun n => spl d l n (u ++ [(nd l n).f0]))).flatten).length ≤ 1000000 →
        Ev (fun k => ancepsref54_spell.l0 k l i u W1 (j : Int)) (W1 ++ ((((KD l i).drop j).map (fun n => spl d l n (u ++ [(nd l n).f0]))).flatten).map strOfNums) := by
      intro e
      induction e with
      | zero =>
        intro j W1 hj _
        rw [List.drop_of_length_le (by omega)]
        exact Ev.step (fun k => ancepsref54_spell.l0.eq_2 _ _ _ _ _ _) (Ev.pos h0 (Ev.pos h1 (Ev.neg (by show ¬ (j : Int) < ((KD l i).length : Int); omega) (Ev.val (by simp)))))
      | succ e ih =>
        intro j W1 hj hW
        have hlt : j < (KD l i).length := by omega
        rw [List.drop_eq_getElem_cons hlt, List.map_cons, List.flatten_cons, List.length_append] at hW
        rw [List.drop_eq_getElem_cons hlt, List.map_cons, List.flatten_cons, List.map_append, ← List.append_assoc]
        have hn : rd (KD l i) (j : Int) = (KD l i)[j] := rd_of _ _ hlt
        have hmem := List.getElem_mem hlt
        generalize (KD l i)[j] = n at hn hmem hW ⊢
        have hr := hG i h0 h1 n hmem
        have hf := hL i h0 h1 n hmem
        have hkk := hk i
        refine Ev.step (fun k => ancepsref54_spell.l0.eq_2 _ _ _ _ _ _) (Ev.pos h0 (Ev.pos h1 (Ev.pos (show (j : Int) < ((KD l i).length : Int) by omega) (Ev.pos (by omega) (Ev.just (Ev.pos (by rw [List.length_nil]; omega) (Ev.just ?_)))))))
        have hn' : rd (rd_T46 l i).f2 (j : Int) = n := hn
        rw [hn', List.nil_append]
        have hmod : (rd_T46 l n).f0 % 256 = (nd l n).f0 := Int.emod_eq_of_lt hf.1 (show (nd l n).f0 < 256 by have := hf.2; omega)
        rw [hmod]
        refine Ev.pos (by omega) (Ev.pos hr.2 (Ev.just (Ev.pos (by rw [List.length_singleton]; omega) (Ev.bind (spell_ev l hG hL hk d n _ (by omega) hr.2 (by omega) (by omega) (by rw [List.length_append, List.length_singleton]; omega)) (Ev.pos (by rw [List.length_map]; omega) ?_)))))
        rw [w64 (i := (j : Int) + 1) (by omega) (by omega)]
        exact ih (j + 1) _ (by omega) (by rw [List.length_append, List.length_map]; omega)
    have hd := loop (KD l i).length 0
    rw [List.drop_zero] at hd
    rw [spl] at h3 ⊢
    refine Ev.step (fun k => ancepsref54_spell.f.eq_2 _ _ _ _) (Ev.pos h0 (Ev.pos h1 ?_))
    by_cases hf : (nd l i).f1 = true
    · rw [if_pos hf, List.length_append, List.length_singleton] at h3
      rw [if_pos hf, List.map_append]
      refine Ev.pos hf (Ev.just (Ev.pos (by simp) (Ev.step (fun k => ancepsref54_spell.j0.eq_2 _ _ _ _ _) ?_)))
      rw [List.nil_append]
      exact hd [strOfNums u] (by omega) (by rw [List.length_singleton]; omega)
    · rw [if_neg hf, List.nil_append] at h3
      rw [if_neg hf, List.nil_append]
      refine Ev.neg hf (Ev.step (fun k => ancepsref54_spell.j0.eq_2 _ _ _ _ _) ?_)
      have := hd [] (by omega) (by rw [List.length_nil]; omega)
      rw [List.nil_append] at this
      exact this
/-! equal lists of strings -/
theorem eqS_loop (a b : List ByteArray) (hab : a.length = b.length) (hl : a.length ≤ 1000000) (d : Nat) : ∀ i : Nat, i + d = a.length → ∃ r, Ev (fun k => slices_Equal_string_string.l0 k a b (a.length : Int) (i : Int)) r ∧ Ev (fun k => ancepsref54_Strings.l0 k a b (i : Int)) r := by
  induction d with
  | zero =>
    intro i hi
    exact ⟨true, Ev.step (fun k => slices_Equal_string_string.l0.eq_2 _ _ _ _ _) (Ev.neg (by omega) (Ev.now _)), Ev.step (fun k => ancepsref54_Strings.l0.eq_2 _ _ _ _) (Ev.neg (by omega) (Ev.now _))⟩
  | succ d ih =>
    intro i hi
    obtain ⟨r, h1, h2⟩ := ih (i + 1) (by omega)
    by_cases h : (rdOf ByteArray.empty a (i : Int)).toList = (rdOf ByteArray.empty b (i : Int)).toList
    · refine ⟨r, Ev.step (fun k => slices_Equal_string_string.l0.eq_2 _ _ _ _ _) (Ev.pos (by omega) (Ev.pos (by omega) (Ev.pos (by omega) (Ev.pos (by omega) (Ev.pos h ?_))))), Ev.step (fun k => ancepsref54_Strings.l0.eq_2 _ _ _ _) (Ev.pos (by omega) (Ev.pos (by omega) (Ev.pos (by omega) (Ev.pos h ?_))))⟩
      · rw [w64 (by omega) (by omega)]; exact h1
      · rw [w64 (by omega) (by omega)]; exact h2
    · exact ⟨false, Ev.step (fun k => slices_Equal_string_string.l0.eq_2 _ _ _ _ _) (Ev.pos (by omega) (Ev.pos (by omega) (Ev.pos (by omega) (Ev.pos (by omega) (Ev.neg h (Ev.now _)))))), Ev.step (fun k => ancepsref54_Strings.l0.eq_2 _ _ _ _) (Ev.pos (by omega) (Ev.pos (by omega) (Ev.pos (by omega) (Ev.neg h (Ev.now _)))))⟩
theorem eqS_ev (a b : List ByteArray) (hl : a.length ≤ 1000000) : ∃ r, Ev (fun k => slices_Equal_string_string.f k a b) r ∧ Ev (fun k => ancepsref54_Strings.f k a b) r := by
  unfold slices_Equal_string_string.f ancepsref54_Strings.f
  by_cases h : a.length = b.length
  · obtain ⟨r, h1, h2⟩ := eqS_loop a b h hl a.length 0 (by omega)
    exact ⟨r, Ev.pos (by omega) h1, Ev.pos (by omega) h2⟩
  · exact ⟨false, Ev.neg (by omega) (Ev.now _), Ev.neg (by omega) (Ev.now _)⟩
/-! counts of parents -/
def cntL (N : Nat) (L : List Int) : List Int := (List.range N).map (fun n : Nat => ((L.count (n : Int) : Nat) : Int))
theorem cntL_len (N : Nat) (L : List Int) : (cntL N L).length = N := by unfold cntL; simp
theorem cntL_at (N : Nat) (L : List Int) (n : Nat) (h : n < N) : rd (cntL N L) (n : Int) = ((L.count (n : Int) : Nat) : Int) := by
  rw [rd_of _ n (by rw [cntL_len]; exact h)]
  unfold cntL
  rw [List.getElem_map, List.getElem_range]
theorem cntL_nil (N : Nat) : cntL N [] = List.replicate N 0 := by
  unfold cntL
  refine List.ext_getElem (by simp) (fun p h1 h2 => ?_)
  simp
theorem cntL_set (N : Nat) (L : List Int) (n : Nat) : (cntL N L).set n (((L.count (n : Int) : Nat) : Int) + 1) = cntL N (L ++ [(n : Int)]) := by
  unfold cntL
  refine List.ext_getElem (by simp) (fun p h1 h2 => ?_)
  rw [List.getElem_set, List.getElem_map, List.getElem_map, List.getElem_range, List.count_append]
  by_cases e : n = p
  · subst e
    rw [if_pos rfl]
    simp
  · rw [if_neg e, List.count_singleton]
    have : ((n : Int) == (p : Int)) = false := beq_eq_false_iff_ne.2 (by omega)
    rw [this]
    simp
theorem count_le (L : List Int) (x : Int) : L.count x ≤ L.length := List.count_le_length
/-! what both ask of a node -/
def kOK (l : List Lf) (i : Int) : Int → List Int → Bool
  | _, [] => true
  | last, n :: r => decide (i < n ∧ n < (l.length : Int)) && (decide (last < (nd l n).f0 ∧ 0 ≤ (nd l n).f0 ∧ (nd l n).f0 ≤ 255) && letB (nd l n).f0 && kOK l i (nd l n).f0 r)
def leafOK (l : List Lf) (i : Int) : Bool := !(decide (i > 0) && decide ((KD l i).length = 0) && !(nd l i).f1)
def pOK (l : List Lf) (i : Int) : Bool := kOK l i (-1) (KD l i) && leafOK l i
def oLt : Option Int → Int → Bool
  | none, _ => true
  | some q, x => decide (q < x)
def rk (l : List Lf) (i : Int) : Option Int → List Int → Bool
  | _, [] => true
  | p, n :: r => decide (i < n ∧ n < (l.length : Int)) && (oLt p (nd l n).f0 && rk l i (some (nd l n).f0) r)
def letOK (l : List Lf) (i : Int) : Bool := decide (0 ≤ (nd l i).f0 ∧ (nd l i).f0 ≤ 255) && letB (nd l i).f0
def rOK (l : List Lf) (i : Int) : Bool := leafOK l i && ((!decide (i > 0) || letOK l i) && rk l i none (KD l i))
theorem rk_kOK (l : List Lf) (i : Int) : ∀ (L : List Int) (p : Option Int) (last : Int), (∀ n ∈ L, letOK l n = true) → (match p with | none => last = -1 | some q => q = last) → (rk l i p L = true ↔ kOK l i last L = true)
  | [], _, _, _, _ => by simp [rk, kOK]
  | n :: r, p, last, h, hp => by
    have hn := h n (List.mem_cons_self ..)
    have ih := rk_kOK l i r (some (nd l n).f0) (nd l n).f0 (fun x hx => h x (List.mem_cons_of_mem _ hx)) rfl
    unfold letOK at hn
    rw [Bool.and_eq_true, decide_eq_true_iff] at hn
    rw [rk, kOK]
    simp only [Bool.and_eq_true, decide_eq_true_iff, ih, hn.2, and_true]
    cases p with
    | none =>
      rw [oLt]
      have : last = -1 := hp
      subst this
      constructor
      · rintro ⟨h1, _, h2⟩; exact ⟨h1, ⟨by omega, hn.1⟩, h2⟩
      · rintro ⟨h1, _, h2⟩; exact ⟨h1, rfl, h2⟩
    | some q =>
      have : q = last := hp
      subst this
      rw [oLt, decide_eq_true_iff]
      constructor
      · rintro ⟨h1, h3, h2⟩; exact ⟨h1, ⟨h3, hn.1⟩, h2⟩
      · rintro ⟨h1, h3, h2⟩; exact ⟨h1, h3.1, h2⟩
theorem kOK_mem (l : List Lf) (i : Int) : ∀ (L : List Int) (last : Int), kOK l i last L = true → ∀ n ∈ L, (i < n ∧ n < (l.length : Int)) ∧ letOK l n = true
  | [], _, _, n, hn => by simp at hn
  | m :: r, last, h, n, hn => by
    rw [kOK] at h
    simp only [Bool.and_eq_true, decide_eq_true_iff] at h
    rcases List.mem_cons.1 hn with rfl | hn
    · refine ⟨h.1, ?_⟩
      unfold letOK
      rw [Bool.and_eq_true, decide_eq_true_iff]
      exact ⟨h.2.1.1.2, h.2.1.2⟩
    · exact kOK_mem l i r _ h.2.2 n hn
theorem rk_mem (l : List Lf) (i : Int) : ∀ (L : List Int) (p : Option Int), rk l i p L = true → ∀ n ∈ L, i < n ∧ n < (l.length : Int)
  | [], _, _, n, hn => by simp at hn
  | m :: r, p, h, n, hn => by
    rw [rk] at h
    simp only [Bool.and_eq_true, decide_eq_true_iff] at h
    rcases List.mem_cons.1 hn with rfl | hn
    · exact h.1
    · exact rk_mem l i r _ h.2.2 n hn
def allP (l : List Lf) : Prop := ∀ m : Nat, m < l.length → pOK l (m : Int) = true
def allR (l : List Lf) : Prop := ∀ m : Nat, m < l.length → rOK l (m : Int) = true
def oneT (l : List Lf) : Prop := ∀ m : Nat, 1 ≤ m → m < l.length → (EK l l.length).count (m : Int) = 1
theorem allR_P {l : List Lf} (h : allR l) : allP l := by
  intro m hm
  have h1 := h m hm
  unfold rOK at h1
  simp only [Bool.and_eq_true, Bool.or_eq_true] at h1
  obtain ⟨h2, h3, h4⟩ := h1
  have hr := rk_mem l _ _ _ h4
  have hlet : ∀ n ∈ KD l (m : Int), letOK l n = true := by
    intro n hn
    have h5 := hr n hn
    obtain ⟨q, rfl⟩ : ∃ q : Nat, n = (q : Int) := ⟨n.toNat, by omega⟩
    have h6 := h q (by omega)
    unfold rOK at h6
    simp only [Bool.and_eq_true, Bool.or_eq_true] at h6
    rcases h6.2.1 with h7 | h7
    · simp only [Bool.not_eq_true', decide_eq_false_iff_not] at h7; omega
    · exact h7
  unfold pOK
  rw [Bool.and_eq_true]
  exact ⟨(rk_kOK l _ _ none (-1) hlet rfl).1 h4, h2⟩
theorem allP_R {l : List Lf} (h : allP l) (ho : oneT l) : allR l := by
  have hk : ∀ m : Nat, m < l.length → ∀ n ∈ KD l (m : Int), ((m : Int) < n ∧ n < (l.length : Int)) ∧ letOK l n = true := by
    intro m hm n hn
    have h1 := h m hm
    unfold pOK at h1
    rw [Bool.and_eq_true] at h1
    exact kOK_mem l _ _ _ h1.1 n hn
  intro m hm
  have h1 := h m hm
  unfold pOK at h1
  rw [Bool.and_eq_true] at h1
  unfold rOK
  simp only [Bool.and_eq_true, Bool.or_eq_true]
  refine ⟨h1.2, ?_, (rk_kOK l _ _ none (-1) (fun n hn => (hk m hm n hn).2) rfl).2 h1.1⟩
  rcases Nat.eq_zero_or_pos m with h0 | h0
  · left; subst h0; rfl
  · right
    have hc := ho m h0 hm
    have hm2 : (m : Int) ∈ EK l l.length := List.count_pos_iff.1 (by omega)
    obtain ⟨i, hi, hx⟩ := (EK_mem l _ _).1 hm2
    exact (hk i hi _ hx).2
theorem allP_good {l : List Lf} (h : allP l) : GoodT l ∧ LetT l := by
  have hk : ∀ i : Int, 0 ≤ i → i < (l.length : Int) → ∀ n ∈ KD l i, (i < n ∧ n < (l.length : Int)) ∧ letOK l n = true := by
    intro i h0 h1 n hn
    obtain ⟨q, rfl⟩ : ∃ q : Nat, i = (q : Int) := ⟨i.toNat, by omega⟩
    have h2 := h q (by omega)
    unfold pOK at h2
    rw [Bool.and_eq_true] at h2
    exact kOK_mem l _ _ _ h2.1 n hn
  refine ⟨fun i h0 h1 n hn => (hk i h0 h1 n hn).1, fun i h0 h1 n hn => ?_⟩
  have := (hk i h0 h1 n hn).2
  unfold letOK at this
  rw [Bool.and_eq_true, decide_eq_true_iff] at this
  exact this.1
end Go.Proofs.Ytdaooagikacboaa.Lem
