/- Plain lemmas of chapter 4: Meet and Join of lists of signs. -/
import Derived.Test.YtbecdafbkdchkaaP1
namespace Go.Proofs.Ytbecdafbkdchkaa.Lem
open Go.RowKit Go.Proofs.Ytbecdafbkdchkaa.X Go.Proofs.YtbecdafbkdchkaaW.PrintWords Go.Proofs.YtbecdafbkdchkaaW.PrintLast
theorem join1_comm (a b : Int) : join1 a b = join1 b a := by unfold join1; by_cases h : a = b <;> simp [h, eq_comm]
theorem join1_assoc (a b c : Int) : join1 (join1 a b) c = join1 a (join1 b c) := by
  unfold join1
  by_cases h1 : a = b <;> by_cases h2 : b = c <;> by_cases h3 : a = 120 <;> by_cases h4 : c = 120 <;> simp_all <;> omega
theorem joinL_comm : ∀ p q : List Int, p.length = q.length → joinL p q = joinL q p
  | [], [], _ => rfl
  | [], _ :: _, h => by simp at h
  | _ :: _, [], h => by simp at h
  | a :: p, b :: q, h => by
    rw [joinL, joinL, join1_comm, joinL_comm p q (by simpa using h)]
theorem joinL_len : ∀ p q : List Int, p.length = q.length → (joinL p q).length = p.length
  | [], _, _ => rfl
  | _ :: _, [], h => by simp at h
  | a :: p, b :: q, h => by rw [joinL, List.length_cons, joinL_len p q (by simpa using h), List.length_cons]
theorem joinL_assoc : ∀ p q r : List Int, p.length = q.length → q.length = r.length → joinL (joinL p q) r = joinL p (joinL q r)
  | [], _, _, _, _ => rfl
  | _ :: _, [], _, h, _ => by simp at h
  | _ :: _, _ :: _, [], _, h => by simp at h
  | a :: p, b :: q, c :: r, h, h' => by
    rw [joinL, joinL, joinL, joinL, join1_assoc, joinL_assoc p q r (by simpa using h) (by simpa using h')]
theorem meet_join1 (a b : Int) : meet1 a (join1 a b) = some a := by
  unfold meet1 join1
  by_cases h1 : a = 120
  · rw [if_pos h1]; by_cases h2 : a = b <;> simp [h1] ; all_goals (first | omega | simp_all)
  · rw [if_neg h1]
    by_cases h2 : a = b
    · rw [if_pos h2, if_neg h1, if_pos rfl]
    · rw [if_neg h2, if_pos rfl]
theorem meet_joinL : ∀ p q : List Int, p.length = q.length → meetL p (joinL p q) = some p
  | [], _, _ => rfl
  | _ :: _, [], h => by simp at h
  | a :: p, b :: q, h => by rw [joinL, meetL, meet_join1, meet_joinL p q (by simpa using h)]
theorem meet1_comm (a b : Int) : meet1 a b = meet1 b a := by
  unfold meet1
  by_cases h1 : a = 120
  · by_cases h2 : b = 120
    · rw [if_pos h1, if_pos h2, h1, h2]
    · rw [if_pos h1, if_neg h2, if_pos h1]
  · by_cases h2 : b = 120
    · rw [if_neg h1, if_pos h2, if_pos h2]
    · rw [if_neg h1, if_neg h2, if_neg h2, if_neg h1]
      by_cases h3 : b = a
      · rw [if_pos h3, if_pos h3.symm, h3]
      · rw [if_neg h3, if_neg (fun e => h3 e.symm)]
theorem meetL_comm : ∀ p q : List Int, p.length = q.length → meetL p q = meetL q p
  | [], [], _ => rfl
  | [], _ :: _, h => by simp at h
  | _ :: _, [], h => by simp at h
  | a :: p, b :: q, h => by rw [meetL, meetL, meet1_comm, meetL_comm p q (by simpa using h)]
theorem join_meet1 (a b c : Int) (h : meet1 a b = some c) : join1 a c = a := by
  unfold meet1 at h
  unfold join1
  by_cases h1 : a = 120
  · by_cases h2 : a = c
    · rw [if_pos h2]
    · rw [if_neg h2, h1]
  · rw [if_neg h1] at h
    by_cases h2 : b = 120
    · rw [if_pos h2] at h; rw [if_pos (Option.some.inj h)]
    · rw [if_neg h2] at h
      by_cases h3 : b = a
      · rw [if_pos h3] at h; rw [if_pos (Option.some.inj h)]
      · rw [if_neg h3] at h; exact absurd h (by simp)
theorem meetL_cons {a b : Int} {p q r : List Int} (h : meetL (a :: p) (b :: q) = some r) : ∃ c s, meet1 a b = some c ∧ meetL p q = some s ∧ r = c :: s := by
  rw [meetL] at h
  cases h1 : meet1 a b with
  | none => rw [h1] at h; exact absurd h (by simp)
  | some c =>
    rw [h1] at h
    cases h2 : meetL p q with
    | none => rw [h2] at h; exact absurd h (by simp)
    | some s => rw [h2] at h; exact ⟨c, s, rfl, rfl, (Option.some.inj h).symm⟩
theorem join_meetL : ∀ p q r : List Int, p.length = q.length → meetL p q = some r → joinL p r = p
  | [], _, _, _, _ => rfl
  | _ :: _, [], _, h, _ => by simp at h
  | a :: p, b :: q, r, h, hm => by
    obtain ⟨c, s, h1, h2, rfl⟩ := meetL_cons hm
    rw [joinL, join_meet1 a b c h1, join_meetL p q s (by simpa using h) h2]
theorem meetL_len : ∀ p q r : List Int, p.length = q.length → meetL p q = some r → r.length = p.length
  | [], _, r, _, h => by rw [meetL] at h; rw [← Option.some.inj h]
  | _ :: _, [], _, h, _ => by simp at h
  | a :: p, b :: q, r, h, hm => by
    obtain ⟨c, s, h1, h2, rfl⟩ := meetL_cons hm
    rw [List.length_cons, meetL_len p q s (by simpa using h) h2, List.length_cons]
theorem join1_sign (a b : Int) (ha : isS a = true) : isS (join1 a b) = true := by
  unfold join1; split
  · exact ha
  · rfl
theorem meet1_sign (a b c : Int) (ha : isS a = true) (hb : isS b = true) (h : meet1 a b = some c) : isS c = true := by
  unfold meet1 at h
  by_cases h1 : a = 120
  · rw [if_pos h1] at h; rw [← Option.some.inj h]; exact hb
  · rw [if_neg h1] at h
    by_cases h2 : b = 120
    · rw [if_pos h2] at h; rw [← Option.some.inj h]; exact ha
    · rw [if_neg h2] at h
      by_cases h3 : b = a
      · rw [if_pos h3] at h; rw [← Option.some.inj h]; exact ha
      · rw [if_neg h3] at h; exact absurd h (by simp)
theorem joinL_sign : ∀ p q : List Int, p.all isS = true → (joinL p q).all isS = true
  | [], _, _ => rfl
  | _ :: _, [], _ => rfl
  | a :: p, b :: q, h => by
    rw [List.all_cons, Bool.and_eq_true] at h
    rw [joinL, List.all_cons, join1_sign a b h.1, joinL_sign p q h.2]; rfl
theorem meetL_sign : ∀ p q r : List Int, p.all isS = true → q.all isS = true → meetL p q = some r → r.all isS = true
  | [], _, r, _, _, h => by rw [meetL] at h; rw [← Option.some.inj h]; rfl
  | _ :: _, [], r, _, _, h => by rw [meetL] at h; rw [← Option.some.inj h]; rfl
  | a :: p, b :: q, r, hp, hq, hm => by
    obtain ⟨c, s, h1, h2, rfl⟩ := meetL_cons hm
    rw [List.all_cons, Bool.and_eq_true] at hp hq ⊢
    exact ⟨meet1_sign a b c hp.1 hq.1 h1, meetL_sign p q s hp.2 hq.2 h2⟩
theorem sign_range {l : List Int} (h : l.all isS = true) : ∀ c ∈ l, 0 ≤ c ∧ c ≤ 255 := fun c hc => by
  have := List.all_eq_true.1 h c hc
  unfold isS at this
  simp only [Bool.or_eq_true, decide_eq_true_iff] at this
  omega
/-- lists of signs as strings -/
theorem str_valid {l : List Int} (h : l.all isS = true) (hl : l.length ≤ 60) : validS (strOfNums l) = 0 ∧ bytesOf (strOfNums l) = l ∧ (strOfNums l).size = l.length := by
  have hb := bytesOf_str l (sign_range h)
  exact ⟨valid_of (by rw [strOfNums_size]; exact hl) (by rw [hb]; exact h), hb, strOfNums_size l⟩
theorem joinS_of {p q : ByteArray} (h : bothS p q = 0) : joinS p q = (strOfNums (joinL (bytesOf p) (bytesOf q)), 0) := if_pos h
theorem meetS_of {p q : ByteArray} (h : bothS p q = 0) : meetS p q = finM [] (meetL (bytesOf p) (bytesOf q)) := if_pos h
theorem len_eq {p q : ByteArray} (h : p.size = q.size) : (bytesOf p).length = (bytesOf q).length := by rw [bytesOf_length, bytesOf_length, h]
end Go.Proofs.Ytbecdafbkdchkaa.Lem
