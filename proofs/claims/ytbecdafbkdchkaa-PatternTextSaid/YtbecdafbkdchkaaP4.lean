/- Plain lemmas over the printed functions of chapter 4: Compare. -/
import Derived.Test.YtbecdafbkdchkaaP2
import Derived.Test.YtbecdafbkdchkaaX12
namespace Go.Proofs.Ytbecdafbkdchkaa.Lem
open Go.RowKit Go.Proofs.Ytbecdafbkdchkaa.X Go.Proofs.YtbecdafbkdchkaaW.PrintWords Go.Proofs.YtbecdafbkdchkaaW.PrintLast
def rankS (c : Int) : Int := if c = 117 then 0 else if c = 45 then 1 else if c = 120 then 2 else 3 + c
theorem rank_all : ∀ n : Fin 256, pattern_rank.f ((n.val : Nat) : Int) = some (rankS ((n.val : Nat) : Int)) := by decide +kernel
theorem rank_f {c : Int} (h : 0 ≤ c ∧ c ≤ 255) : pattern_rank.f c = some (rankS c) := by obtain ⟨n, rfl⟩ := byte_fin h; exact rank_all n
theorem rank_inj {a b : Int} (ha : 0 ≤ a) (hb : 0 ≤ b) (h : rankS a = rankS b) : a = b := by
  unfold rankS at h
  (repeat' split at h) <;> omega
def cmpI (a b : Int) : Int := if a < b then -1 else if b < a then 1 else 0
theorem cmp_f (a b : Int) : cmp_Compare_int.f a b = some (cmpI a b) := by
  unfold cmp_Compare_int.f cmp_isNaN_int.f cmpI
  rw [show (a != a) = false by simp, show (b != b) = false by simp]
  simp only [Option.bind_some, Bool.false_eq_true, if_false]
  by_cases h : a < b
  · rw [if_pos h, if_pos h]
  · rw [if_neg h, if_neg h]
    by_cases h2 : b < a
    · rw [if_pos h2, if_pos h2]
    · rw [if_neg h2, if_neg h2]
def cmpL : List Int → List Int → Int
  | [], _ => 0
  | _ :: _, [] => 0
  | a :: p, b :: q => if cmpI (rankS a) (rankS b) = 0 then cmpL p q else cmpI (rankS a) (rankS b)
def cmpS (p q : ByteArray) : Int := if cmpI p.size q.size = 0 then cmpL (bytesOf p) (bytesOf q) else cmpI p.size q.size
theorem cmp_loop (p q : ByteArray) (hs : p.size = q.size) (hp : p.size ≤ 1000000) (d : Nat) : ∀ i : Nat, i + d = p.size → Ev (fun k => pattern_Compare.l0 k p q (p.size : Int) (i : Int)) (cmpL ((bytesOf p).drop i) ((bytesOf q).drop i)) := by
  induction d with
  | zero =>
    intro i hi
    rw [drop_ge p i (by omega)]
    exact Ev.step (fun k => rfl) (Ev.neg (by omega) (Ev.now _))
  | succ d ih =>
    intro i hi
    refine Ev.step (fun k => rfl) (Ev.pos (by omega) (Ev.pos (by omega) (Ev.pos (by omega) ?_)))
    rw [rank_f (bt_range p i), rank_f (bt_range q i), drop_lt p i (by omega), drop_lt q i (by omega), cmpL]
    refine Ev.just (Ev.pos (by omega) (Ev.just ?_))
    rw [cmp_f]
    refine Ev.just (Ev.cond (fun h => ?_) (fun h => Ev.val (if_neg h).symm))
    rw [if_pos h, w64 (by omega) (by omega)]
    exact ih (i + 1) (by omega)
theorem cmp0 {a b : Int} (h : cmpI a b = 0) : a = b := by unfold cmpI at h; (repeat' split at h) <;> omega
theorem cmp_ev (p q : ByteArray) (hp : p.size ≤ 1000000) : Ev (fun k => pattern_Compare.f k p q) (cmpS p q) := by
  unfold pattern_Compare.f cmpS
  rw [cmp_f]
  refine Ev.just (Ev.cond (fun h => ?_) (fun h => Ev.val (if_neg h).symm))
  rw [if_pos h]
  have := cmp_loop p q (by have := cmp0 h; omega) hp p.size 0 (by omega)
  rw [List.drop_zero, List.drop_zero] at this
  exact this
theorem cmpI_self (a : Int) : cmpI a a = 0 := by unfold cmpI; rw [if_neg (by omega), if_neg (by omega)]
theorem cmpI_neg (a b : Int) : cmpI b a = -cmpI a b := by unfold cmpI; (repeat' split) <;> omega
theorem cmpI_range (a b : Int) : -1 ≤ cmpI a b ∧ cmpI a b ≤ 1 := by unfold cmpI; (repeat' split) <;> omega
theorem cmpL_neg : ∀ p q : List Int, p.length = q.length → cmpL q p = -cmpL p q
  | [], [], _ => rfl
  | [], _ :: _, h => by simp at h
  | _ :: _, [], h => by simp at h
  | a :: p, b :: q, h => by
    rw [cmpL, cmpL, cmpI_neg (rankS a), cmpL_neg p q (by simpa using h)]
    by_cases h1 : cmpI (rankS a) (rankS b) = 0
    · rw [if_pos h1, if_pos (by omega)]
    · rw [if_neg h1, if_neg (by omega)]
theorem cmpL_range : ∀ p q : List Int, -1 ≤ cmpL p q ∧ cmpL p q ≤ 1
  | [], _ => by rw [cmpL]; omega
  | _ :: _, [] => by rw [cmpL]; omega
  | a :: p, b :: q => by
    have h1 := cmpL_range p q
    have h2 := cmpI_range (rankS a) (rankS b)
    rw [cmpL]; split <;> assumption
theorem cmpS_neg (p q : ByteArray) : cmpS q p = -cmpS p q := by
  unfold cmpS
  rw [cmpI_neg (p.size : Int)]
  by_cases h1 : cmpI (p.size : Int) q.size = 0
  · rw [if_pos h1, if_pos (by omega), cmpL_neg _ _ (by rw [bytesOf_length, bytesOf_length]; have := cmp0 h1; omega)]
  · rw [if_neg h1, if_neg (by omega)]
theorem cmpS_range (p q : ByteArray) : -1 ≤ cmpS p q ∧ cmpS p q ≤ 1 := by
  unfold cmpS; split
  · exact cmpL_range _ _
  · exact cmpI_range _ _
theorem cmpL_zero : ∀ p q : List Int, p.length = q.length → (∀ c ∈ p, 0 ≤ c) → (∀ c ∈ q, 0 ≤ c) → (cmpL p q = 0 ↔ p = q)
  | [], [], _, _, _ => ⟨fun _ => rfl, fun _ => rfl⟩
  | [], _ :: _, h, _, _ => by simp at h
  | _ :: _, [], h, _, _ => by simp at h
  | a :: p, b :: q, h, hp, hq => by
    have ih := cmpL_zero p q (by simpa using h) (fun c hc => hp c (List.mem_cons_of_mem _ hc)) (fun c hc => hq c (List.mem_cons_of_mem _ hc))
    rw [cmpL]
    by_cases h1 : cmpI (rankS a) (rankS b) = 0
    · rw [if_pos h1, ih, rank_inj (hp a List.mem_cons_self) (hq b List.mem_cons_self) (cmp0 h1)]
      exact ⟨fun e => by rw [e], fun e => (List.cons.inj e).2⟩
    · rw [if_neg h1]
      exact ⟨fun e => absurd e h1, fun e => absurd (by rw [(List.cons.inj e).1]; exact cmpI_self _) h1⟩
theorem cmpS_zero (p q : ByteArray) : cmpS p q = 0 ↔ p = q := by
  unfold cmpS
  by_cases h1 : cmpI (p.size : Int) q.size = 0
  · rw [if_pos h1, cmpL_zero _ _ (by rw [bytesOf_length, bytesOf_length]; have := cmp0 h1; omega) (fun c hc => (bytesOf_range p c hc).1) (fun c hc => (bytesOf_range q c hc).1)]
    exact ⟨bytesOf_inj, fun e => by rw [e]⟩
  · rw [if_neg h1]
    exact ⟨fun e => absurd e h1, fun e => absurd (by rw [e]; exact cmpI_self _) h1⟩
theorem cmpI_trans {a b c : Int} (h1 : cmpI a b ≤ 0) (h2 : cmpI b c ≤ 0) : cmpI a c ≤ 0 ∧ (cmpI a c = 0 → cmpI a b = 0 ∧ cmpI b c = 0) := by
  unfold cmpI at *
  (repeat' split) <;> (repeat' split at h1) <;> (repeat' split at h2) <;> omega
theorem cmpL_trans : ∀ p q r : List Int, p.length = q.length → q.length = r.length → cmpL p q ≤ 0 → cmpL q r ≤ 0 → cmpL p r ≤ 0
  | [], _, _, _, _, _, _ => by rw [cmpL]; exact Int.le_refl _
  | _ :: _, [], _, h, _, _, _ => by simp at h
  | _ :: _, _ :: _, [], _, h, _, _ => by simp at h
  | a :: p, b :: q, c :: r, hl, hl', h1, h2 => by
    rw [cmpL] at h1 h2 ⊢
    by_cases e1 : cmpI (rankS a) (rankS b) = 0
    · rw [if_pos e1] at h1
      rw [cmp0 e1]
      by_cases e2 : cmpI (rankS b) (rankS c) = 0
      · rw [if_pos e2] at h2 ⊢
        exact cmpL_trans p q r (by simpa using hl) (by simpa using hl') h1 h2
      · rw [if_neg e2] at h2 ⊢; exact h2
    · rw [if_neg e1] at h1
      by_cases e2 : cmpI (rankS b) (rankS c) = 0
      · rw [← cmp0 e2, if_neg e1]; exact h1
      · rw [if_neg e2] at h2
        have := cmpI_trans h1 h2
        rw [if_neg (fun e => e1 (this.2 e).1)]; exact this.1
theorem cmpS_trans (p q r : ByteArray) (h1 : cmpS p q ≤ 0) (h2 : cmpS q r ≤ 0) : cmpS p r ≤ 0 := by
  unfold cmpS at *
  by_cases e1 : cmpI (p.size : Int) q.size = 0
  · rw [if_pos e1] at h1
    have s1 := cmp0 e1
    rw [s1]
    by_cases e2 : cmpI (q.size : Int) r.size = 0
    · rw [if_pos e2] at h2 ⊢
      have s2 := cmp0 e2
      exact cmpL_trans _ _ _ (by rw [bytesOf_length, bytesOf_length]; omega) (by rw [bytesOf_length, bytesOf_length]; omega) h1 h2
    · rw [if_neg e2] at h2 ⊢; exact h2
  · rw [if_neg e1] at h1
    by_cases e2 : cmpI (q.size : Int) r.size = 0
    · rw [← cmp0 e2, if_neg e1]; exact h1
    · rw [if_neg e2] at h2
      have := cmpI_trans h1 h2
      rw [if_neg (fun e => e1 (this.2 e).1)]; exact this.1
end Go.Proofs.Ytbecdafbkdchkaa.Lem
