/- Plain lemmas of lines, for the seat of cards: folding, words, Same; what a line's words are. -/
import Derived.Test.YteokimhjojppcaaDoorLem
import Derived.Test.YteokimhjojppcaaDoorX2
import Derived.Test.YteokimhjojppcaaDoorX3
import Derived.Test.YteokimhjojppcaaDoorX9
namespace Go.Proofs.YteokimhjojppcaaDoor.Lem
open Go.RowKit Go.Proofs.YteokimhjojppcaaDoor.X Go.Proofs.YteokimhjojppcaaDoorW.PrintWords Go.Proofs.YteokimhjojppcaaDoorW.PrintLast
/-! lists -/
theorem set_mid {α : Type} (A : List α) (b c : α) (C : List α) (i : Nat) (h : i = A.length) : (A ++ b :: C).set i c = A ++ c :: C := by
  subst h; rw [List.set_append_right _ _ (Nat.le_refl _), Nat.sub_self]; rfl
theorem rd_mid (A : List Int) (b : Int) (C : List Int) (i : Nat) (h : i = A.length) : rd (A ++ b :: C) (i : Int) = b := by
  subst h; unfold rd; rw [Int.toNat_natCast, List.getD_eq_getElem?_getD, List.getElem?_append_right (Nat.le_refl _), Nat.sub_self]; rfl
/-! Fold -/
def foldB (c : Int) : Int := if 65 ≤ c ∧ c ≤ 90 then c + 32 else c
def foldS (s : ByteArray) : ByteArray := strOfNums ((bytesOf s).map foldB)
theorem foldB_range {c : Int} (h : 0 ≤ c ∧ c ≤ 255) : 0 ≤ foldB c ∧ foldB c ≤ 255 := by unfold foldB; split <;> omega
theorem foldB_foldB (c : Int) : foldB (foldB c) = foldB c := by
  unfold foldB
  (repeat' split) <;> omega
theorem bytesOf_fold (s : ByteArray) : bytesOf (foldS s) = (bytesOf s).map foldB := bytesOf_str _ (by
  intro c hc
  obtain ⟨b, hb, rfl⟩ := List.mem_map.1 hc
  exact foldB_range (bytesOf_range s b hb))
theorem foldS_foldS (s : ByteArray) : foldS (foldS s) = foldS s := by
  show strOfNums ((bytesOf (foldS s)).map foldB) = strOfNums ((bytesOf s).map foldB)
  rw [bytesOf_fold, List.map_map]
  congr 1
  exact List.map_congr_left fun c _ => foldB_foldB c
theorem foldS_size (s : ByteArray) : (foldS s).size = s.size := by
  have h := congrArg List.length (bytesOf_fold s)
  simpa [bytesOf_length] using h
theorem fold_step {c : Int} (h : 0 ≤ c ∧ c ≤ 255) (h1 : c ≥ 65) (h2 : c ≤ 90) : ((((c) - 65) % 256) + 97) % 256 = foldB c := by unfold foldB; rw [if_pos ⟨h1, h2⟩]; omega
def midF (L : List Int) (i : Nat) : List Int := (L.take i).map foldB ++ L.drop i
theorem midF_at (L : List Int) (i : Nat) (h : i < L.length) : midF L i = (L.take i).map foldB ++ L[i] :: L.drop (i + 1) := by unfold midF; rw [List.drop_eq_getElem_cons h]
theorem midF_next (L : List Int) (i : Nat) (h : i < L.length) : midF L (i + 1) = (L.take i).map foldB ++ foldB L[i] :: L.drop (i + 1) := by
  unfold midF; rw [List.take_succ_eq_append_getElem h, List.map_append, List.append_assoc]; rfl
theorem fold_loop (L : List Int) (hr : ∀ c ∈ L, 0 ≤ c ∧ c ≤ 255) (hl : L.length ≤ 140737488355328) (d : Nat) : ∀ i : Nat, i + d = L.length → Ev (fun k => text_Fold.l0 k (midF L i) (L.length : Int) (i : Int)) (strOfNums (L.map foldB)) := by
  induction d with
  | zero =>
    intro i hi
    obtain rfl : i = L.length := by omega
    refine Ev.step (fun k => rfl) (Ev.neg (by omega) (Ev.val ?_))
    rw [midF, List.take_length, List.drop_length, List.append_nil]
  | succ d ih =>
    intro i hi
    have hlt : i < L.length := by omega
    have hm : (midF L i).length = L.length := by unfold midF; simp; omega
    refine Ev.step (fun k => rfl) (Ev.pos (by omega) (Ev.pos (by omega) (Ev.pos (by rw [hm]; omega) ?_)))
    have hti : i = ((L.take i).map foldB).length := by simp; omega
    have hc := hr L[i] (List.getElem_mem hlt)
    rw [midF_at L i hlt, rd_mid _ _ _ _ hti]
    have ih1 := ih (i + 1) (by omega)
    rw [midF_next L i hlt] at ih1
    rw [w64 (by omega) (by omega), Int.toNat_natCast]
    by_cases h1 : L[i] ≥ 65
    · refine Ev.pos h1 ?_
      by_cases h2 : L[i] ≤ 90
      · refine Ev.pos h2 ?_
        rw [set_mid _ _ _ _ _ hti, fold_step hc h1 h2]
        exact ih1
      · refine Ev.neg h2 ?_
        rw [show foldB L[i] = L[i] by unfold foldB; rw [if_neg (by omega)]] at ih1
        exact ih1
    · refine Ev.neg h1 ?_
      rw [show foldB L[i] = L[i] by unfold foldB; rw [if_neg (by omega)]] at ih1
      exact ih1
theorem fold_ev (s : ByteArray) (hs : s.size ≤ 140737488355328) : Ev (fun k => text_Fold.f k s) (foldS s) := by
  unfold text_Fold.f
  refine Ev.pos hs (Ev.just ?_)
  have := fold_loop (bytesOf s) (bytesOf_range s) (by rw [bytesOf_length]; exact hs) (bytesOf s).length 0 (by omega)
  exact this
/-! letters -/
def puncts : List Int := [32, 46, 44, 59, 58, 33, 63, 34, 45, 91, 93, 60, 62, 123, 125]
def letterB (c : Int) : Bool := decide (32 ≤ c) && decide (c ≤ 126) && !puncts.contains c
theorem letter_all : ∀ n : Fin 256, text_letter.f ((n.val : Nat) : Int) = some (letterB ((n.val : Nat) : Int)) := by decide +kernel
theorem rletter_all : ∀ n : Fin 256, ancepsref01_Letter.f 20 ((n.val : Nat) : Int) = some (letterB ((n.val : Nat) : Int)) := by decide +kernel
theorem letter_f {c : Int} (h : 0 ≤ c ∧ c ≤ 255) : text_letter.f c = some (letterB c) := by obtain ⟨n, rfl⟩ := byte_fin h; exact letter_all n
theorem rletter_ev {c : Int} (h : 0 ≤ c ∧ c ≤ 255) : Ev (fun k => ancepsref01_Letter.f k c) (letterB c) := by obtain ⟨n, rfl⟩ := byte_fin h; exact Ev.of (fun k => ancepsref01_Letter.mono _ k) (rletter_all n)
/-! words: the spans of the first i bytes -/
def grow1 (L : List Int) (acc : List S46) (i : Nat) : List S46 :=
  if letterB (rd L (i : Int)) then
    if 0 < i ∧ letterB (rd L ((i - 1 : Nat) : Int)) then acc.set (acc.length - 1) ⟨(acc.getD (acc.length - 1) z46).f0, (i : Int) + 1⟩ else acc ++ [⟨(i : Int), (i : Int) + 1⟩]
  else acc
def spans (L : List Int) : Nat → List S46
  | 0 => []
  | i + 1 => grow1 L (spans L i) i
/-- In the first i bytes: ascending, apart, and the last one ends at i just where a letter stands before i. -/
structure Good (L : List Int) (i : Nat) (l : List S46) : Prop where
  len : l.length ≤ i
  each : ∀ s ∈ l, 0 ≤ s.f0 ∧ s.f0 < s.f1 ∧ s.f1 ≤ (i : Int)
  sep : ∀ j, j + 1 < l.length → (l.getD j z46).f1 < (l.getD (j + 1) z46).f0
  last : (0 < i ∧ letterB (rd L ((i - 1 : Nat) : Int)) = true) ↔ (0 < l.length ∧ (l.getD (l.length - 1) z46).f1 = (i : Int))
theorem getD_mem {l : List S46} {j : Nat} (h : j < l.length) : l.getD j z46 ∈ l := by
  rw [List.getD_eq_getElem?_getD, List.getElem?_eq_getElem h]; exact List.getElem_mem h
theorem getD_set {l : List S46} {i j : Nat} {x : S46} (h : i < l.length) : (l.set i x).getD j z46 = if i = j then x else l.getD j z46 := by
  simp only [List.getD_eq_getElem?_getD, List.getElem?_set]
  split
  · rfl
  · rfl
theorem getD_app {l : List S46} {j : Nat} {x : S46} : (l ++ [x]).getD j z46 = if j = l.length then x else l.getD j z46 := by
  simp only [List.getD_eq_getElem?_getD]
  split
  · rename_i e; subst e; simp
  · rename_i e
    rcases Nat.lt_or_ge j l.length with h | h
    · rw [List.getElem?_append_left h]
    · rw [List.getElem?_append_right h, List.getElem?_eq_none (show l.length ≤ j from h), List.getElem?_eq_none (by simp; omega)]
theorem good (L : List Int) : ∀ i, Good L i (spans L i)
  | 0 => ⟨Nat.le_refl _, (fun s hs => by cases hs), (fun j hj => by simp [spans] at hj), (by simp [spans])⟩
  | i + 1 => by
    have g := good L i
    show Good L (i + 1) (grow1 L (spans L i) i)
    generalize spans L i = l at g
    unfold grow1
    by_cases h : letterB (rd L (i : Int)) = true
    · rw [if_pos h]
      by_cases h2 : 0 < i ∧ letterB (rd L ((i - 1 : Nat) : Int)) = true
      · rw [if_pos h2]
        obtain ⟨hl, hlast⟩ := g.last.1 h2
        have hm := g.each _ (getD_mem (show l.length - 1 < l.length by omega))
        refine ⟨by rw [List.length_set]; have := g.len; omega, ?_, ?_, ?_⟩
        · intro s hs
          rcases List.mem_or_eq_of_mem_set hs with hs | rfl
          · have := g.each s hs; omega
          · simp only; omega
        · intro j hj
          rw [List.length_set] at hj
          have := g.sep j hj
          rw [getD_set (by omega), getD_set (by omega), if_neg (by omega)]
          split
          · rename_i e; rw [e]; exact this
          · exact this
        · rw [List.length_set, getD_set (by omega), if_pos rfl]
          simp only [Nat.add_sub_cancel, h, and_true]
          constructor
          · intro _; exact ⟨hl, by omega⟩
          · intro _; omega
      · rw [if_neg h2]
        have hne : ¬ (0 < l.length ∧ (l.getD (l.length - 1) z46).f1 = (i : Int)) := fun e => h2 (g.last.2 e)
        refine ⟨by rw [List.length_append]; have := g.len; simp; omega, ?_, ?_, ?_⟩
        · intro s hs
          rcases List.mem_append.1 hs with hs | hs
          · have := g.each s hs; omega
          · obtain rfl := List.mem_singleton.1 hs; simp only; omega
        · intro j hj
          rw [List.length_append, List.length_singleton] at hj
          rw [getD_app, getD_app, if_neg (by omega)]
          split
          · rename_i e
            have h3 := g.each _ (getD_mem (show j < l.length by omega))
            have h4 : (l.getD j z46).f1 ≠ (i : Int) := fun e2 => hne ⟨by omega, by rw [show l.length - 1 = j by omega]; exact e2⟩
            simp only; omega
          · exact g.sep j (by omega)
        · rw [List.length_append, List.length_singleton, getD_app, if_pos (by omega)]
          simp only [Nat.add_sub_cancel, h, and_true]
          constructor <;> intro _ <;> omega
    · rw [if_neg h]
      refine ⟨by have := g.len; omega, fun s hs => by have := g.each s hs; omega, g.sep, ?_⟩
      rw [Nat.add_sub_cancel]
      constructor
      · rintro ⟨_, e⟩; exact absurd e h
      · rintro ⟨hl, e⟩
        have := g.each _ (getD_mem (show l.length - 1 < l.length by omega))
        omega
theorem rd_last (l : List S46) (h : 0 < l.length) : rd_T46 l ((l.length : Int) - 1) = l.getD (l.length - 1) z46 := by
  unfold rd_T46; rw [show ((l.length : Int) - 1).toNat = l.length - 1 by omega]
theorem words_loop (L : List Int) (hr : ∀ c ∈ L, 0 ≤ c ∧ c ≤ 255) (hl : L.length ≤ 1000) (d : Nat) : ∀ i : Nat, i + d = L.length → Ev (fun k => text_Words.l0 k (spans L i) L (L.length : Int) (i : Int)) (spans L L.length, 0) := by
  induction d with
  | zero =>
    intro i hi
    obtain rfl : i = L.length := by omega
    exact Ev.step (fun k => rfl) (Ev.neg (by omega) (Ev.val rfl))
  | succ d ih =>
    intro i hi
    have hlt : i < L.length := by omega
    have g := good L i
    have ih1 := ih (i + 1) (by omega)
    refine Ev.step (fun k => rfl) (Ev.pos (by omega) (Ev.pos (by omega) (Ev.pos (by omega) ?_)))
    have hc : 0 ≤ rd L (i : Int) ∧ rd L (i : Int) ≤ 255 := hr _ (by unfold rd; rw [Int.toNat_natCast, List.getD_eq_getElem?_getD, List.getElem?_eq_getElem hlt]; exact List.getElem_mem hlt)
    simp only [letter_f hc, Option.bind_some]
    rw [w64 (i := (i : Int) + 1) (by omega) (by omega)]
    change Ev (fun k => text_Words.l0 k (grow1 L (spans L i) i) L (L.length : Int) ((i : Int) + 1)) _ at ih1
    unfold grow1 at ih1
    have gl := g.len
    by_cases h : letterB (rd L (i : Int)) = true
    · rw [if_pos h] at ih1
      refine Ev.pos h ?_
      by_cases hz : 0 < (spans L i).length
      · have hm := g.each _ (getD_mem (show (spans L i).length - 1 < (spans L i).length by omega))
        refine Ev.pos (by omega) ?_
        rw [w64 (i := ((spans L i).length : Int) - 1) (by omega) (by omega), rd_last _ hz]
        refine Ev.pos (by omega) (Ev.pos (by omega) ?_)
        by_cases hb : ((spans L i).getD ((spans L i).length - 1) z46).f1 = (i : Int)
        · refine Ev.pos hb ?_
          rw [if_pos (g.last.2 ⟨hz, hb⟩)] at ih1
          rw [hb, w64 (i := (i : Int) + 1) (by omega) (by omega), show (((spans L i).length : Int) - 1).toNat = (spans L i).length - 1 by omega]
          exact ih1
        · refine Ev.neg hb (Ev.pos (by omega) ?_)
          rw [if_neg (fun e => hb (g.last.1 e).2)] at ih1
          exact ih1
      · refine Ev.neg (by omega) (Ev.pos (by omega) ?_)
        rw [if_neg (fun e => hz (g.last.1 e).1)] at ih1
        exact ih1
    · rw [if_neg h] at ih1
      exact Ev.neg h ih1
def wordsS (s : ByteArray) : List S46 × Int := if validS s = 0 then (spans (bytesOf s) s.size, 0) else ([], validS s)
theorem validS_size {s : ByteArray} (h : validS s = 0) : s.size ≤ 120 := by
  unfold validS at h
  by_cases h1 : (s.size : Int) > 120
  · rw [if_pos h1] at h; omega
  · omega
theorem words_ev (s : ByteArray) (hs : s.size ≤ 140737488355328) : Ev (fun k => text_Words.f k s) (wordsS s) := by
  unfold text_Words.f wordsS
  refine Ev.bind (valid_ev s hs) ?_
  by_cases h : validS s = 0
  · have hz := validS_size h
    refine Ev.pos h (Ev.pos hs (Ev.just ?_))
    rw [if_pos h]
    have := words_loop (bytesOf s) (bytesOf_range s) (by rw [bytesOf_length]; omega) (bytesOf s).length 0 (by omega)
    rw [bytesOf_length] at this ⊢
    exact this
  · exact Ev.neg h (Ev.val (by rw [if_neg h]))
/-! spans compared -/
theorem rd_T31_nat (l : List S46) (i : Nat) : rd_T46 l (i : Int) = l.getD i z46 := by unfold rd_T46; rw [Int.toNat_natCast]
theorem wordsS_len (s : ByteArray) : (wordsS s).1.length ≤ 120 := by
  unfold wordsS
  split
  · rename_i h; have := (good (bytesOf s) s.size).len; have := validS_size h; simp only; omega
  · simp
theorem wordsS_each (s : ByteArray) : ∀ x ∈ (wordsS s).1, 0 ≤ x.f0 ∧ x.f0 < x.f1 ∧ x.f1 ≤ (s.size : Int) := by
  unfold wordsS
  split
  · exact (good (bytesOf s) s.size).each
  · intro x hx; cases hx
theorem wordsS_sep (s : ByteArray) : ∀ j, j + 1 < (wordsS s).1.length → ((wordsS s).1.getD j z46).f1 < ((wordsS s).1.getD (j + 1) z46).f0 := by
  unfold wordsS
  split
  · exact (good (bytesOf s) s.size).sep
  · intro j hj; simp at hj
def pieceS (s : ByteArray) (x : S46) : ByteArray := foldS (s.extract x.f0.toNat x.f1.toNat)
def foldedS (s : ByteArray) : List ByteArray × Int := ((wordsS s).1.map (pieceS s), (wordsS s).2)
theorem piece_size (s : ByteArray) (x : S46) (h : s.size ≤ 140737488355328) : (s.extract x.f0.toNat x.f1.toNat).size ≤ 140737488355328 := by
  rw [ByteArray.size_extract]; omega
theorem wordsS_at (s : ByteArray) (i : Nat) (h : i < (wordsS s).1.length) : 0 ≤ (rd_T46 (wordsS s).1 (i : Int)).f0 ∧ (rd_T46 (wordsS s).1 (i : Int)).f0 ≤ (rd_T46 (wordsS s).1 (i : Int)).f1 ∧ (rd_T46 (wordsS s).1 (i : Int)).f1 ≤ (s.size : Int) := by
  rw [rd_T31_nat]
  have := wordsS_each s _ (getD_mem h)
  omega
theorem map_take_succ (l : List S46) (f : S46 → ByteArray) (i : Nat) (h : i < l.length) : (l.map f).take (i + 1) = (l.map f).take i ++ [f (l.getD i z46)] := by
  rw [List.take_succ_eq_append_getElem (by rw [List.length_map]; exact h), List.getElem_map, List.getD_eq_getElem?_getD, List.getElem?_eq_getElem h]; rfl
theorem folded_loop (s : ByteArray) (hs : s.size ≤ 140737488355328) (e : Int) (d : Nat) : ∀ i : Nat, i + d = (wordsS s).1.length → Ev (fun k => text_folded.l0 k s e (((wordsS s).1.map (pieceS s)).take i) (wordsS s).1 ((wordsS s).1.length : Int) (i : Int)) ((wordsS s).1.map (pieceS s), e) := by
  have hl := wordsS_len s
  induction d with
  | zero =>
    intro i hi
    refine Ev.step (fun k => rfl) (Ev.neg (by omega) (Ev.val ?_))
    rw [List.take_of_length_le (by rw [List.length_map]; omega)]
  | succ d ih =>
    intro i hi
    have hlt : i < (wordsS s).1.length := by omega
    obtain ⟨h1, h2, h3⟩ := wordsS_at s i hlt
    have ih1 := ih (i + 1) (by omega)
    refine Ev.step (fun k => rfl) (Ev.pos (by omega) (Ev.pos (by omega) (Ev.pos (by omega) (Ev.pos h1 (Ev.pos h2 (Ev.pos h3 (Ev.bind (fold_ev _ (piece_size s _ hs)) (Ev.pos ?_ ?_))))))))
    · rw [List.length_take, List.length_map]; omega
    · rw [w64 (by omega) (by omega)]
      rw [map_take_succ _ _ i hlt, ← rd_T31_nat] at ih1
      exact ih1
theorem folded_ev (s : ByteArray) (hs : s.size ≤ 140737488355328) : Ev (fun k => text_folded.f k s) (foldedS s) := by
  unfold text_folded.f
  exact Ev.bind (words_ev s hs) (folded_loop s hs _ (wordsS s).1.length 0 (by omega))
theorem wordsS_bad {s : ByteArray} (h : (wordsS s).2 ≠ 0) : (wordsS s).1 = [] := by
  unfold wordsS at h ⊢
  split
  · rename_i e; rw [if_pos e] at h; exact absurd rfl h
  · rfl
/-! Same -/
theorem rdOf_nat (l : List ByteArray) (i : Nat) (h : i < l.length) : rdOf ByteArray.empty l (i : Int) = l[i] := by
  unfold rdOf; rw [Int.toNat_natCast, List.getD_eq_getElem?_getD, List.getElem?_eq_getElem h]; rfl
theorem strsEq_loop (a b : List ByteArray) (h : a.length = b.length) (hl : a.length ≤ 1000000) (d : Nat) : ∀ i : Nat, i + d = a.length → Ev (fun k => slices_Equal_string_string.l0 k a b (a.length : Int) (i : Int)) (decide (a.drop i = b.drop i)) := by
  induction d with
  | zero =>
    intro i hi
    refine Ev.step (fun k => rfl) (Ev.neg (by omega) (Ev.val ?_))
    rw [List.drop_eq_nil_of_le (by omega), List.drop_eq_nil_of_le (by omega)]; rfl
  | succ d ih =>
    intro i hi
    have h1 : i < a.length := by omega
    have h2 : i < b.length := by omega
    have ih1 := ih (i + 1) (by omega)
    refine Ev.step (fun k => rfl) (Ev.pos (by omega) (Ev.pos (by omega) (Ev.pos (by omega) (Ev.pos (by omega) ?_))))
    rw [rdOf_nat a i h1, rdOf_nat b i h2, w64 (by omega) (by omega), List.drop_eq_getElem_cons h1, List.drop_eq_getElem_cons h2]
    by_cases e : a[i] = b[i]
    · refine Ev.pos (bytes_ext.2 e) ?_
      simp only [e, List.cons.injEq, true_and]
      exact ih1
    · exact Ev.neg (fun x => e (bytes_ext.1 x)) (Ev.val (decide_eq_false (fun x => e (List.cons.inj x).1)).symm)
theorem strsEq_ev (a b : List ByteArray) (hl : a.length ≤ 1000000) : Ev (fun k => slices_Equal_string_string.f k a b) (decide (a = b)) := by
  unfold slices_Equal_string_string.f
  by_cases h : a.length = b.length
  · exact Ev.pos (by omega) (strsEq_loop a b h hl a.length 0 (by omega))
  · refine Ev.neg (by omega) (Ev.val ?_)
    rw [decide_eq_false (fun e => h (by rw [e]))]
def sameS (a b : ByteArray) : Bool := decide ((wordsS a).2 = 0) && (decide ((wordsS b).2 = 0) && decide ((foldedS a).1 = (foldedS b).1))
theorem foldedS_len (s : ByteArray) : (foldedS s).1.length ≤ 120 := by unfold foldedS; rw [List.length_map]; exact wordsS_len s
theorem same_ev (a b : ByteArray) (ha : a.size ≤ 140737488355328) (hb : b.size ≤ 140737488355328) : Ev (fun k => text_Same.f k a b) (sameS a b) := by
  unfold text_Same.f sameS
  refine Ev.bind (folded_ev a ha) (Ev.bind (folded_ev b hb) ?_)
  by_cases h1 : (wordsS a).2 = 0
  · refine Ev.pos h1 ?_
    by_cases h2 : (wordsS b).2 = 0
    · refine Ev.pos h2 (Ev.bind (strsEq_ev _ _ (by have := foldedS_len a; omega)) (Ev.val ?_))
      simp [h1, h2]
    · exact Ev.neg h2 (Ev.val (by simp [h2]))
  · exact Ev.neg h1 (Ev.val (by simp [h1]))
theorem wordsS_err (s : ByteArray) : (wordsS s).2 = validS s := by
  unfold wordsS
  split
  · rename_i h; rw [h]
  · rfl
end Go.Proofs.YteokimhjojppcaaDoor.Lem
