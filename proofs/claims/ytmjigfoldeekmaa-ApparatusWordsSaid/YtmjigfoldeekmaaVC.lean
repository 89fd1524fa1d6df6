/- Plain lemmas over the printed functions of chapter 57: letters, words. -/
import Derived.Test.YtmjigfoldeekmaaVB
import Derived.Test.YtmjigfoldeekmaaX3
import Derived.Test.YtmjigfoldeekmaaX12
namespace Go.Proofs.Ytmjigfoldeekmaa.Lem
open Go.RowKit Go.Proofs.Ytmjigfoldeekmaa.X Go.Proofs.YtmjigfoldeekmaaW.PrintWords Go.Proofs.YtmjigfoldeekmaaW.PrintLast
/-! letters -/
def puncts : List Int := [32, 46, 44, 59, 58, 33, 63, 34, 45, 91, 93, 60, 62, 123, 125]
def letterB (c : Int) : Bool := decide (32 ≤ c) && decide (c ≤ 126) && !puncts.contains c
theorem letter_all : ∀ n : Fin 256, text_letter.f ((n.val : Nat) : Int) = some (letterB ((n.val : Nat) : Int)) := by decide +kernel
theorem rletter_all : ∀ n : Fin 256, ancepsref01_Letter.f 20 ((n.val : Nat) : Int) = some (letterB ((n.val : Nat) : Int)) := by decide +kernel
theorem letter_f {c : Int} (h : 0 ≤ c ∧ c ≤ 255) : text_letter.f c = some (letterB c) := by obtain ⟨n, rfl⟩ := byte_fin h; exact letter_all n
theorem rletter_ev {c : Int} (h : 0 ≤ c ∧ c ≤ 255) : Ev (fun k => ancepsref01_Letter.f k c) (letterB c) := by obtain ⟨n, rfl⟩ := byte_fin h; exact Ev.of (fun k => ancepsref01_Letter.mono _ k) (rletter_all n)
/-! words: the spans of the first i bytes -/
def grow1 (L : List Int) (acc : List S74) (i : Nat) : List S74 :=
  if letterB (rd L (i : Int)) then
    if 0 < i ∧ letterB (rd L ((i - 1 : Nat) : Int)) then acc.set (acc.length - 1) ⟨(acc.getD (acc.length - 1) z74).f0, (i : Int) + 1⟩ else acc ++ [⟨(i : Int), (i : Int) + 1⟩]
  else acc
def spans (L : List Int) : Nat → List S74
  | 0 => []
  | i + 1 => grow1 L (spans L i) i
/-- In the first i bytes: ascending, apart, and the last one ends at i just where a letter stands before i. -/
structure Good (L : List Int) (i : Nat) (l : List S74) : Prop where
  len : l.length ≤ i
  each : ∀ s ∈ l, 0 ≤ s.f0 ∧ s.f0 < s.f1 ∧ s.f1 ≤ (i : Int)
  sep : ∀ j, j + 1 < l.length → (l.getD j z74).f1 < (l.getD (j + 1) z74).f0
  last : (0 < i ∧ letterB (rd L ((i - 1 : Nat) : Int)) = true) ↔ (0 < l.length ∧ (l.getD (l.length - 1) z74).f1 = (i : Int))
theorem getD_mem {l : List S74} {j : Nat} (h : j < l.length) : l.getD j z74 ∈ l := by
  rw [List.getD_eq_getElem?_getD, List.getElem?_eq_getElem h]; exact List.getElem_mem h
theorem getD_set {l : List S74} {i j : Nat} {x : S74} (h : i < l.length) : (l.set i x).getD j z74 = if i = j then x else l.getD j z74 := by
  simp only [List.getD_eq_getElem?_getD, List.getElem?_set]
  split
  · rfl
  · rfl
theorem getD_app {l : List S74} {j : Nat} {x : S74} : (l ++ [x]).getD j z74 = if j = l.length then x else l.getD j z74 := by
  simp only [List.getD_eq_getElem?_getD]
  split
  · rename_i e; subst e; simp
  · rename_i e
    rcases Nat.lt_or_ge j l.length with h | h
    · rw [List.getElem?_append_left h]
    · rw [List.getElem?_append_right h, List.getElem?_eq_none (show l.length ≤ j from h), List.getElem?_eq_none (by simp; omega)]
theorem good (L : List Int) : ∀ i, Good L i (spans L i)
  | 0 => ⟨Nat.le_refl _, (fun s hs => by cases hs), (fun j hj => by simp [spans] at hj), (by simp [spans])⟩
  | i + 1 => by
    have g := good L i
    show Good L (i + 1) (grow1 L (spans L i) i)
    generalize spans L i = l at g
    unfold grow1
    by_cases h : letterB (rd L (i : Int)) = true
    · rw [if_pos h]
      by_cases h2 : 0 < i ∧ letterB (rd L ((i - 1 : Nat) : Int)) = true
      · rw [if_pos h2]
        obtain ⟨hl, hlast⟩ := g.last.1 h2
        have hm := g.each _ (getD_mem (show l.length - 1 < l.length by omega))
        refine ⟨by rw [List.length_set]; have := g.len; omega, ?_, ?_, ?_⟩
        · intro s hs
          rcases List.mem_or_eq_of_mem_set hs with hs | rfl
          · have := g.each s hs; omega
          · simp only; omega
        · intro j hj
          rw [List.length_set] at hj
          have := g.sep j hj
          rw [getD_set (by omega), getD_set (by omega), if_neg (by omega)]
          split
          · rename_i e; rw [e]; exact this
          · exact this
        · rw [List.length_set, getD_set (by omega), if_pos rfl]
          simp only [Nat.add_sub_cancel, h, and_true]
          constructor
          · intro _; exact ⟨hl, by omega⟩
          · intro _; omega
      · rw [if_neg h2]
        have hne : ¬ (0 < l.length ∧ (l.getD (l.length - 1) z74).f1 = (i : Int)) := fun e => h2 (g.last.2 e)
        refine ⟨by rw [List.length_append]; have := g.len; simp; omega, ?_, ?_, ?_⟩
        · intro s hs
          rcases List.mem_append.1 hs with hs | hs
          · have := g.each s hs; omega
          · obtain rfl := List.mem_singleton.1 hs; simp only; omega
        · intro j hj
          rw [List.length_append, List.length_singleton] at hj
          rw [getD_app, getD_app, if_neg (by omega)]
          split
          · rename_i e
            have h3 := g.each _ (getD_mem (show j < l.length by omega))
            have h4 : (l.getD j z74).f1 ≠ (i : Int) := fun e2 => hne ⟨by omega, by rw [show l.length - 1 = j by omega]; exact e2⟩
            simp only; omega
          · exact g.sep j (by omega)
        · rw [List.length_append, List.length_singleton, getD_app, if_pos (by omega)]
          simp only [Nat.add_sub_cancel, h, and_true]
          constructor <;> intro _ <;> omega
    · rw [if_neg h]
      refine ⟨by have := g.len; omega, fun s hs => by have := g.each s hs; omega, g.sep, ?_⟩
      rw [Nat.add_sub_cancel]
      constructor
      · rintro ⟨_, e⟩; exact absurd e h
      · rintro ⟨hl, e⟩
        have := g.each _ (getD_mem (show l.length - 1 < l.length by omega))
        omega
theorem rd_last (l : List S74) (h : 0 < l.length) : rd_T74 l ((l.length : Int) - 1) = l.getD (l.length - 1) z74 := by
  unfold rd_T74; rw [show ((l.length : Int) - 1).toNat = l.length - 1 by omega]
theorem words_loop (L : List Int) (hr : ∀ c ∈ L, 0 ≤ c ∧ c ≤ 255) (hl : L.length ≤ 1000) (d : Nat) : ∀ i : Nat, i + d = L.length → Ev (fun k => text_Words.l0 k (spans L i) L (L.length : Int) (i : Int)) (spans L L.length, 0) := by
  induction d with
  | zero =>
    intro i hi
    obtain rfl : i = L.length := by omega
    exact Ev.step (fun k => rfl) (Ev.neg (by omega) (Ev.val rfl))
  | succ d ih =>
    intro i hi
    have hlt : i < L.length := by omega
    have g := good L i
    have ih1 := ih (i + 1) (by omega)
    refine Ev.step (fun k => rfl) (Ev.pos (by omega) (Ev.pos (by omega) (Ev.pos (by omega) ?_)))
    have hc : 0 ≤ rd L (i : Int) ∧ rd L (i : Int) ≤ 255 := hr _ (by unfold rd; rw [Int.toNat_natCast, List.getD_eq_getElem?_getD, List.getElem?_eq_getElem hlt]; exact List.getElem_mem hlt)
    simp only [letter_f hc, Option.bind_some]
    rw [w64 (i := (i : Int) + 1) (by omega) (by omega)]
    change Ev (fun k => text_Words.l0 k (grow1 L (spans L i) i) L (L.length : Int) ((i : Int) + 1)) _ at ih1
    unfold grow1 at ih1
    have gl := g.len
    by_cases h : letterB (rd L (i : Int)) = true
    · rw [if_pos h] at ih1
      refine Ev.pos h ?_
      by_cases hz : 0 < (spans L i).length
      · have hm := g.each _ (getD_mem (show (spans L i).length - 1 < (spans L i).length by omega))
        refine Ev.pos (by omega) ?_
        rw [w64 (i := ((spans L i).length : Int) - 1) (by omega) (by omega), rd_last _ hz]
        refine Ev.pos (by omega) (Ev.pos (by omega) ?_)
        by_cases hb : ((spans L i).getD ((spans L i).length - 1) z74).f1 = (i : Int)
        · refine Ev.pos hb ?_
          rw [if_pos (g.last.2 ⟨hz, hb⟩)] at ih1
          rw [hb, w64 (i := (i : Int) + 1) (by omega) (by omega), show (((spans L i).length : Int) - 1).toNat = (spans L i).length - 1 by omega]
          exact ih1
        · refine Ev.neg hb (Ev.pos (by omega) ?_)
          rw [if_neg (fun e => hb (g.last.1 e).2)] at ih1
          exact ih1
      · refine Ev.neg (by omega) (Ev.pos (by omega) ?_)
        rw [if_neg (fun e => hz (g.last.1 e).1)] at ih1
        exact ih1
    · rw [if_neg h] at ih1
      exact Ev.neg h ih1
def wordsS (s : ByteArray) : List S74 × Int := if validS s = 0 then (spans (bytesOf s) s.size, 0) else ([], validS s)
theorem validS_size {s : ByteArray} (h : validS s = 0) : s.size ≤ 120 := by
  unfold validS at h
  by_cases h1 : (s.size : Int) > 120
  · rw [if_pos h1] at h; omega
  · omega
theorem words_ev (s : ByteArray) (hs : s.size ≤ 140737488355328) : Ev (fun k => text_Words.f k s) (wordsS s) := by
  unfold text_Words.f wordsS
  refine Ev.bind (valid_ev s hs) ?_
  by_cases h : validS s = 0
  · have hz := validS_size h
    refine Ev.pos h (Ev.pos hs (Ev.just ?_))
    rw [if_pos h]
    have := words_loop (bytesOf s) (bytesOf_range s) (by rw [bytesOf_length]; omega) (bytesOf s).length 0 (by omega)
    rw [bytesOf_length] at this ⊢
    exact this
  · exact Ev.neg h (Ev.val (by rw [if_neg h]))
theorem rwords_loop (s : ByteArray) (hs : s.size ≤ 1000) (d : Nat) : ∀ i : Nat, i + d = s.size → Ev (fun k => ancepsref01_Words.l0 k s (spans (bytesOf s) i) (i : Int)) (spans (bytesOf s) s.size, 0) := by
  induction d with
  | zero =>
    intro i hi
    obtain rfl : i = s.size := by omega
    exact Ev.step (fun k => rfl) (Ev.neg (by omega) (Ev.val rfl))
  | succ d ih =>
    intro i hi
    have hlt : i < s.size := by omega
    have g := good (bytesOf s) i
    have ih1 := ih (i + 1) (by omega)
    refine Ev.step (fun k => rfl) (Ev.pos (by omega) (Ev.pos (by omega) (Ev.bind (rletter_ev (bt_range s i)) ?_)))
    rw [w64 (i := (i : Int) + 1) (by omega) (by omega)]
    change Ev (fun k => ancepsref01_Words.l0 k s (grow1 (bytesOf s) (spans (bytesOf s) i) i) ((i : Int) + 1)) _ at ih1
    unfold grow1 at ih1
    simp only [rd_bytesOf] at ih1
    have gl := g.len
    have gb := g.last
    simp only [rd_bytesOf] at gb
    by_cases h : letterB (bt s (i : Int)) = true
    · rw [if_pos h] at ih1
      refine Ev.pos h ?_
      by_cases hz : 0 < i
      · refine Ev.pos (by omega) ?_
        rw [w64 (i := (i : Int) - 1) (by omega) (by omega), show (i : Int) - 1 = ((i - 1 : Nat) : Int) by omega]
        refine Ev.pos (by omega) (Ev.pos (by omega) (Ev.bind (rletter_ev (bt_range s _)) ?_))
        by_cases hb : letterB (bt s ((i - 1 : Nat) : Int)) = true
        · refine Ev.pos hb ?_
          rw [if_pos ⟨hz, hb⟩] at ih1
          obtain ⟨hp, _⟩ := gb.1 ⟨hz, hb⟩
          rw [w64 (i := ((spans (bytesOf s) i).length : Int) - 1) (by omega) (by omega), rd_last _ hp, show (((spans (bytesOf s) i).length : Int) - 1).toNat = (spans (bytesOf s) i).length - 1 by omega]
          exact Ev.pos (by omega) (Ev.pos (by omega) ih1)
        · rw [if_neg (fun e => hb e.2)] at ih1
          exact Ev.neg hb (Ev.pos (by omega) ih1)
      · rw [if_neg (fun e => hz e.1)] at ih1
        exact Ev.neg (by omega) (Ev.pos (by omega) ih1)
    · rw [if_neg h] at ih1
      exact Ev.neg h ih1
theorem rwords_ev (s : ByteArray) (hs : s.size ≤ 140737488355328) : Ev (fun k => ancepsref01_Words.f k s) (wordsS s) := by
  unfold ancepsref01_Words.f wordsS
  refine Ev.bind (rvalid_ev s hs) ?_
  by_cases h : validS s = 0
  · have hz := validS_size h
    refine Ev.pos h ?_
    rw [if_pos h]
    exact rwords_loop s (by omega) s.size 0 (by omega)
  · exact Ev.neg h (Ev.val (by rw [if_neg h]))
/-! spans compared -/
theorem rd_T31_nat (l : List S74) (i : Nat) : rd_T74 l (i : Int) = l.getD i z74 := by unfold rd_T74; rw [Int.toNat_natCast]
theorem wordsS_len (s : ByteArray) : (wordsS s).1.length ≤ 120 := by
  unfold wordsS
  split
  · rename_i h; have := (good (bytesOf s) s.size).len; have := validS_size h; simp only; omega
  · simp
theorem wordsS_each (s : ByteArray) : ∀ x ∈ (wordsS s).1, 0 ≤ x.f0 ∧ x.f0 < x.f1 ∧ x.f1 ≤ (s.size : Int) := by
  unfold wordsS
  split
  · exact (good (bytesOf s) s.size).each
  · intro x hx; cases hx
theorem wordsS_sep (s : ByteArray) : ∀ j, j + 1 < (wordsS s).1.length → ((wordsS s).1.getD j z74).f1 < ((wordsS s).1.getD (j + 1) z74).f0 := by
  unfold wordsS
  split
  · exact (good (bytesOf s) s.size).sep
  · intro j hj; simp at hj
end Go.Proofs.Ytmjigfoldeekmaa.Lem
