/- Chapter 54: trees, in plain words: their kids, the words that they spell, what both checks ask. -/
import Derived.Test.YtdaooagikacboaaW1
import Derived.Test.YtdaooagikacboaaX10
import Derived.Test.YtdaooagikacboaaX6
namespace Go.Proofs.Ytdaooagikacboaa.Lem
open Go.RowKit Go.Proofs.Ytdaooagikacboaa.X Go.Proofs.YtdaooagikacboaaW.PrintWords Go.Proofs.YtdaooagikacboaaW.PrintLast
abbrev Lf := S46
def nd (l : List Lf) (i : Int) : Lf := rd_T46 l i
def KD (l : List Lf) (i : Int) : List Int := (nd l i).f2
def kidR (l : List Lf) (i : Int) : Prop := ∀ n ∈ KD l i, i < n ∧ n < (l.length : Int)
def GoodT (l : List Lf) : Prop := ∀ i : Int, 0 ≤ i → i < (l.length : Int) → kidR l i
def spl : Nat → List Lf → Int → List Int → List (List Int)
  | 0, _, _, _ => []
  | d + 1, l, i, u => (if (nd l i).f1 = true then [u] else []) ++ ((KD l i).map (fun n => spl d l n (u ++ [(nd l n).f0]))).flatten
def vis : Nat → List Lf → Int → Nat
  | 0, _, _ => 0
  | d + 1, l, i => 1 + ((KD l i).map (fun n => vis d l n)).sum
theorem flat_len {α β : Type} (f : α → List β) (g : α → Nat) : ∀ L : List α, (∀ x ∈ L, (f x).length ≤ g x) → ((L.map f).flatten).length ≤ (L.map g).sum
  | [], _ => by simp
  | x :: r, h => by
    have h1 := h x (List.mem_cons_self ..)
    have h2 := flat_len f g r (fun y hy => h y (List.mem_cons_of_mem _ hy))
    simp only [List.map_cons, List.flatten_cons, List.length_append, List.sum_cons]
    omega
theorem spl_len : ∀ (d : Nat) (l : List Lf) (i : Int) (u : List Int), (spl d l i u).length ≤ vis d l i
  | 0, _, _, _ => by simp [spl]
  | d + 1, l, i, u => by
    have h := flat_len (fun n => spl d l n (u ++ [(nd l n).f0])) (fun n => vis d l n) (KD l i) (fun n _ => spl_len d l n _)
    rw [spl, vis, List.length_append]
    split
    · rw [List.length_singleton]; omega
    · rw [List.length_nil]; omega
theorem sum_congr {α : Type} (f g : α → Nat) : ∀ L : List α, (∀ x ∈ L, f x = g x) → (L.map f).sum = (L.map g).sum := fun L h => by rw [List.map_congr_left h]
theorem vis_stable (l : List Lf) (hG : GoodT l) : ∀ (d : Nat) (i : Int), 0 ≤ i → i < (l.length : Int) → (l.length : Int) - i ≤ d → vis (d + 1) l i = vis d l i
  | 0, i, h0, h1, h2 => by omega
  | d + 1, i, h0, h1, h2 => by
    rw [vis, vis]
    congr 1
    exact sum_congr _ _ _ (fun n hn => by
      have := hG i h0 h1 n hn
      exact vis_stable l hG d n (by omega) (by omega) (by omega))
/-- the kids of the first nodes -/
def EK (l : List Lf) (m : Nat) : List Int := ((List.range m).map (fun i : Nat => KD l (i : Int))).flatten
theorem EK_succ (l : List Lf) (m : Nat) : EK l (m + 1) = EK l m ++ KD l (m : Int) := by
  unfold EK
  rw [List.range_succ, List.map_append, List.flatten_append]; simp
theorem EK_pre (l : List Lf) (m : Nat) : ∀ e : Nat, ∃ R, EK l (m + e) = EK l m ++ R
  | 0 => ⟨[], by simp⟩
  | e + 1 => by
    obtain ⟨R, h⟩ := EK_pre l m e
    exact ⟨R ++ KD l ((m + e : Nat) : Int), by rw [← Nat.add_assoc, EK_succ, h, List.append_assoc]⟩
theorem EK_mem (l : List Lf) (m : Nat) (x : Int) : x ∈ EK l m ↔ ∃ i : Nat, i < m ∧ x ∈ KD l (i : Int) := by
  unfold EK
  simp only [List.mem_flatten, List.mem_map, List.mem_range]
  constructor
  · rintro ⟨_, ⟨i, hi, rfl⟩, hx⟩; exact ⟨i, hi, hx⟩
  · rintro ⟨i, hi, hx⟩; exact ⟨_, ⟨i, hi, rfl⟩, hx⟩
def TS (l : List Lf) (m : Nat) (L : List Int) : Nat := (L.map (fun n => if (m : Int) ≤ n then vis l.length l n else 0)).sum
theorem TS_app (l : List Lf) (m : Nat) (L R : List Int) : TS l m (L ++ R) = TS l m L + TS l m R := by unfold TS; rw [List.map_append, List.sum_append]
theorem TS_drop (l : List Lf) (m : Nat) : ∀ L : List Int, TS l m L ≤ TS l (m + 1) L + L.count (m : Int) * vis l.length l (m : Int)
  | [] => by simp [TS]
  | n :: r => by
    have ih := TS_drop l m r
    unfold TS at ih ⊢
    rw [List.map_cons, List.map_cons, List.sum_cons, List.sum_cons, List.count_cons]
    by_cases h : n = (m : Int)
    · subst h
      rw [if_pos (Int.le_refl _), if_neg (by omega)]
      simp only [beq_self_eq_true, ↓reduceIte, Nat.add_mul, Nat.one_mul]
      omega
    · have hb : (n == (m : Int)) = false := beq_eq_false_iff_ne.2 h
      rw [hb]
      simp only [Bool.false_eq_true, ↓reduceIte, Nat.add_zero]
      by_cases h1 : (m : Int) ≤ n
      · rw [if_pos h1, if_pos (by omega)]; omega
      · rw [if_neg h1, if_neg (by omega)]; omega
theorem TS_le (l : List Lf) (hG : GoodT l) (hc : ∀ m : Nat, 1 ≤ m → m < l.length → (EK l l.length).count (m : Int) ≤ 1) : ∀ (e m : Nat), 1 ≤ m → m + e = l.length → TS l m (EK l m) ≤ e
  | 0, m, h1, he => by
    obtain rfl : m = l.length := by omega
    have hz : ∀ L : List Int, (∀ n ∈ L, n < (l.length : Int)) → TS l l.length L = 0 := by
      intro L
      induction L with
      | nil => intro _; rfl
      | cons n r ih =>
        intro h
        have h2 := h n (List.mem_cons_self ..)
        have h3 := ih (fun x hx => h x (List.mem_cons_of_mem _ hx))
        unfold TS at h3 ⊢
        rw [List.map_cons, List.sum_cons, if_neg (by omega), h3]
    rw [hz _ (fun n hn => by
      obtain ⟨i, hi, hx⟩ := (EK_mem l _ n).1 hn
      exact (hG (i : Int) (by omega) (by omega) n hx).2)]
    exact Nat.le_refl _
  | e + 1, m, h1, he => by
    have ih := TS_le l hG hc e (m + 1) (by omega) (by omega)
    rw [EK_succ, TS_app] at ih
    have hd := TS_drop l m (EK l m)
    have hcm : (EK l m).count (m : Int) ≤ 1 := by
      obtain ⟨R, hR⟩ := EK_pre l m (e + 1)
      have h2 := hc m h1 (by omega)
      rw [← he, hR, List.count_append] at h2
      omega
    have hv : vis l.length l (m : Int) = 1 + TS l (m + 1) (KD l (m : Int)) := by
      rw [← vis_stable l hG l.length (m : Int) (by omega) (by omega) (by omega), vis]
      congr 1
      unfold TS
      exact sum_congr _ _ _ (fun n hn => by
        have := (hG (m : Int) (by omega) (by omega) n hn).1
        rw [if_pos (by omega)])
    have hm : (EK l m).count (m : Int) * vis l.length l (m : Int) ≤ vis l.length l (m : Int) := by
      rcases Nat.le_one_iff_eq_zero_or_eq_one.1 hcm with h | h
      · rw [h, Nat.zero_mul]; exact Nat.zero_le _
      · rw [h, Nat.one_mul]; exact Nat.le_refl _
    omega
theorem vis_root (l : List Lf) (hl : 0 < l.length) (hG : GoodT l) (hc : ∀ m : Nat, 1 ≤ m → m < l.length → (EK l l.length).count (m : Int) ≤ 1) : vis l.length l 0 ≤ l.length := by
  have h := TS_le l hG hc (l.length - 1) 1 (by omega) (by omega)
  rw [EK_succ, show EK l 0 = [] from rfl, List.nil_append] at h
  have hv : vis l.length l 0 = 1 + TS l 1 (KD l ((0 : Nat) : Int)) := by
    rw [← vis_stable l hG l.length 0 (by omega) (by omega) (by omega), vis]
    congr 1
    unfold TS
    exact sum_congr _ _ _ (fun n hn => by
      have := (hG 0 (by omega) (by omega) n hn).1
      rw [if_pos (by omega)])
  omega
/-! the words that a tree spells, as the program walks -/
theorem str_app (u v : List Int) : strOfNums u ++ strOfNums v = strOfNums (u ++ v) := by
  unfold strOfNums
  rw [List.map_append]
  apply ByteArray.ext
  rw [ByteArray.data_append]
  simp
theorem str_size (u : List Int) : (strOfNums u).size = u.length := by unfold strOfNums; simp [ByteArray.size]
def LetT (l : List Lf) : Prop := ∀ i : Int, 0 ≤ i → i < (l.length : Int) → ∀ n ∈ KD l i, 0 ≤ (nd l n).f0 ∧ (nd l n).f0 ≤ 255
theorem rd_of (L : List Int) (j : Nat) (h : j < L.length) : rd L (j : Int) = L[j] := by
  unfold rd; rw [Int.toNat_natCast, List.getD_eq_getElem?_getD, List.getElem?_eq_getElem h]; rfl
theorem walk_ev (l : List Lf) (hG : GoodT l) (hL : LetT l) (hk : ∀ i, (KD l i).length ≤ 1000000) : ∀ (d : Nat) (i : Int) (u : List Int) (W : List ByteArray), 0 ≤ i → i < (l.length : Int) → (l.length : Int) - i ≤ d → W.length + (spl d l i u).length ≤ 1000000 → u.length + d ≤ 1000000 →
    Ev (fun k => wordlist_CheckTree.w0 k l i (strOfNums u) W) (W ++ (spl d l i u).map strOfNums)
  | 0, i, u, W, h0, h1, h2, _, _ => by omega
  | d + 1, i, u, W, h0, h1, h2, h3, h4 => by
    have loop : ∀ (e j : Nat) (W1 : List ByteArray), j + e = (KD l i).length → W1.length + ((((KD l i).drop j).map (fun n => spl d l n (u ++ [(nd l n).f0]))).flatten).length ≤ 1000000 →
        Ev (fun k => wordlist_CheckTree.w1 k l i (strOfNums u) W1 (j : Int)) (W1 ++ ((((KD l i).drop j).map (fun n => spl d l n (u ++ [(nd l n).f0]))).flatten).map strOfNums) := by
      intro e
      induction e with
      | zero =>
        intro j W1 hj _
        rw [List.drop_of_length_le (by omega)]
        refine Ev.step (fun k => wordlist_CheckTree.w1.eq_2 _ _ _ _ _ _) (Ev.neg (by show ¬ (j : Int) < ((KD l i).length : Int); omega) (Ev.val (by simp)))
      | succ e ih =>
        intro j W1 hj hW
        have hlt : j < (KD l i).length := by omega
        rw [List.drop_eq_getElem_cons hlt, List.map_cons, List.flatten_cons, List.length_append] at hW
        rw [List.drop_eq_getElem_cons hlt, List.map_cons, List.flatten_cons, List.map_append, ← List.append_assoc]
        have hn : rd (KD l i) (j : Int) = (KD l i)[j] := rd_of _ _ hlt
        have hmem := List.getElem_mem hlt
        generalize (KD l i)[j] = n at hn hmem hW ⊢
        have hr := hG i h0 h1 n hmem
        have hf := hL i h0 h1 n hmem
        have hkk := hk i
        have hs := str_size u
        refine Ev.step (fun k => wordlist_CheckTree.w1.eq_2 _ _ _ _ _ _) (Ev.pos (show (j : Int) < ((KD l i).length : Int) by omega) ?_)
        show Ev (fun k => if (0 ≤ (j : Int) ∧ (KD l i).length ≤ 1000000) ∧ (0 ≤ rd (KD l i) (j : Int) ∧ rd (KD l i) (j : Int) < (l.length : Int)) ∧ (strOfNums u).size ≤ 1000000 ∧ (0 ≤ (nd l (rd (KD l i) (j : Int))).f0 ∧ (nd l (rd (KD l i) (j : Int))).f0 ≤ 255) then ((wordlist_CheckTree.w0 k l (rd (KD l i) (j : Int)) (strOfNums u ++ strOfNums [(nd l (rd (KD l i) (j : Int))).f0]) W1).bind fun W2 => wordlist_CheckTree.w1 k l i (strOfNums u) W2 (wrap64 ((j : Int) + 1))) else none) _
        rw [hn, str_app, w64 (i := (j : Int) + 1) (by omega) (by omega)]
        refine Ev.pos ⟨⟨by omega, hkk⟩, ⟨by omega, hr.2⟩, by omega, hf⟩ (Ev.bind (walk_ev l hG hL hk d n _ W1 (by omega) hr.2 (by omega) (by omega) (by rw [List.length_append, List.length_singleton]; omega)) ?_)
        exact ih (j + 1) _ (by omega) (by rw [List.length_append, List.length_map]; omega)
    have hd := loop (KD l i).length 0
    rw [List.drop_zero] at hd
    rw [spl] at h3 ⊢
    refine Ev.step (fun k => wordlist_CheckTree.w0.eq_2 _ _ _ _ _) (Ev.pos ⟨h0, h1⟩ ?_)
    by_cases hf : (nd l i).f1 = true
    · rw [if_pos hf, List.length_append, List.length_singleton] at h3
      rw [if_pos hf, List.map_append, ← List.append_assoc]
      exact Ev.pos hf (Ev.pos (by omega) (hd (W ++ [strOfNums u]) (by omega) (by rw [List.length_append, List.length_singleton]; omega)))
    · rw [if_neg hf, List.nil_append] at h3
      rw [if_neg hf, List.nil_append]
      exact Ev.neg hf (hd W (by omega) h3)
end Go.Proofs.Ytdaooagikacboaa.Lem
