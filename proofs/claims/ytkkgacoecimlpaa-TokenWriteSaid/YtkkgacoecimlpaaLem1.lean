/- Plain lemmas over the printed functions of chapter 5: letters, digits, names, numbers. -/
import Derived.Test.YtkkgacoecimlpaaBase
import Derived.Test.YtkkgacoecimlpaaX2
import Derived.Test.YtkkgacoecimlpaaX5
namespace Go.Proofs.Ytkkgacoecimlpaa.Lem
open Go.RowKit Go.Proofs.Ytkkgacoecimlpaa.X Go.Proofs.YtkkgacoecimlpaaW.PrintWords Go.Proofs.YtkkgacoecimlpaaW.PrintLast
theorem Ev.eq {α : Type} {g : Nat → Option α} {a b : α} (h : a = b) (k : Ev g a) : Ev g b := h ▸ k
def small (c : Int) : Bool := decide (97 ≤ c) && decide (c ≤ 122)
def digit (c : Int) : Bool := decide (48 ≤ c) && decide (c ≤ 57)
def alnum (c : Int) : Bool := small c || digit c
theorem small_f (c : Int) : token_small.f c = some (small c) := by
  unfold token_small.f small
  by_cases h : c ≥ 97
  · rw [if_pos h, decide_eq_true (by omega : 97 ≤ c), Bool.true_and]
  · rw [if_neg h, decide_eq_false (by omega : ¬ 97 ≤ c), Bool.false_and]
theorem digit_f (c : Int) : token_digit.f c = some (digit c) := by
  unfold token_digit.f digit
  by_cases h : c ≥ 48
  · rw [if_pos h, decide_eq_true (by omega : 48 ≤ c), Bool.true_and]
  · rw [if_neg h, decide_eq_false (by omega : ¬ 48 ≤ c), Bool.false_and]
theorem rsmall_f (c : Int) : ancepsref05_small.f c = some (small c) := small_f c
theorem rdigit_f (c : Int) : ancepsref05_digit.f c = some (digit c) := digit_f c
def digitsL : List Int → Nat
  | [] => 0
  | c :: r => if digit c then digitsL r + 1 else 0
theorem digits_loop (s : ByteArray) (hs : s.size ≤ 140737488355328) (d : Nat) : ∀ i : Nat, i + d = s.size → Ev (fun k => token_digits.l0 k s (i : Int)) ((i + digitsL ((bytesOf s).drop i) : Nat) : Int) := by
  induction d with
  | zero =>
    intro i hi
    exact Ev.step (fun k => rfl) (Ev.neg (by omega) (Ev.val (by rw [drop_ge s i (by omega)]; rfl)))
  | succ d ih =>
    intro i hi
    refine Ev.step (fun k => rfl) (Ev.pos (by omega) (Ev.pos (by omega) ?_))
    rw [digit_f, drop_lt s i (by omega), digitsL]
    refine Ev.just (Ev.cond (fun h => ?_) (fun h => ?_))
    · rw [w64 (by omega) (by omega), if_pos h]
      exact Ev.eq (by omega) (ih (i + 1) (by omega))
    · rw [if_neg h]
      exact Ev.val rfl
theorem digits_ev (s : ByteArray) (hs : s.size ≤ 140737488355328) : Ev (fun k => token_digits.f k s) ((digitsL (bytesOf s) : Nat) : Int) :=
  Ev.eq (by rw [List.drop_zero, Nat.zero_add]) (digits_loop s hs s.size 0 (by omega))
theorem rdigits_same (s : ByteArray) (k : Nat) : ∀ i, ancepsref05_digits.l0 k s i = token_digits.l0 k s i := by
  induction k with
  | zero => intro i; rfl
  | succ k ih => intro i; simp only [ancepsref05_digits.l0, token_digits.l0, rdigit_f, digit_f, ih]
theorem rdigits_ev (s : ByteArray) (hs : s.size ≤ 140737488355328) : Ev (fun k => ancepsref05_digits.f k s) ((digitsL (bytesOf s) : Nat) : Int) :=
  Ev.congr (fun k => rdigits_same s k 0) (digits_ev s hs)
/-! names -/
def tailL : List Int → Nat
  | [] => 0
  | [c] => if alnum c then 1 else 0
  | c :: d :: r => if alnum c then tailL (d :: r) + 1 else if c = 45 ∧ alnum d = true then tailL r + 2 else 0
def nameL : List Int → Nat
  | [] => 0
  | c :: r => if small c then tailL r + 1 else 0
theorem tail_al {c : Int} (r : List Int) (h : alnum c = true) : tailL (c :: r) = tailL r + 1 := by
  cases r with
  | nil => simp only [tailL, if_pos h]
  | cons d r => rw [tailL, if_pos h]
theorem tail_no {c : Int} (r : List Int) (h : alnum c = false) (h' : c ≠ 45) : tailL (c :: r) = 0 := by
  cases r with
  | nil => rw [tailL, h]; rfl
  | cons d r => rw [tailL, if_neg (by rw [h]; decide), if_neg (fun e => h' e.1)]
theorem name_loop (s : ByteArray) (hs : s.size ≤ 140737488355328) (d : Nat) : ∀ i : Nat, s.size - i ≤ d → i ≤ s.size → Ev (fun k => token_name.l0 k s (i : Int)) ((i + tailL ((bytesOf s).drop i) : Nat) : Int) := by
  induction d with
  | zero =>
    intro i hi hn
    exact Ev.step (fun k => token_name.l0.eq_2 _ _ _) (Ev.neg (by omega) (Ev.val (by rw [drop_ge s i (by omega)]; rfl)))
  | succ d ih =>
    intro i hi hn
    by_cases hlt : i < s.size
    · refine Ev.step (fun k => token_name.l0.eq_2 _ _ _) (Ev.pos (by omega) (Ev.pos (by omega) ?_))
      rw [small_f, drop_lt s i hlt]
      have hal : alnum (bt s i) = true → Ev (fun k => token_name.j2 k s i (bt s i) true) ((i + tailL (bt s i :: (bytesOf s).drop (i + 1)) : Nat) : Int) := fun h => by
        refine Ev.step (fun k => token_name.j2.eq_2 _ _ _ _ _) (Ev.pos rfl ?_)
        rw [w64 (by omega) (by omega), tail_al _ h]
        exact Ev.eq (by omega) (ih (i + 1) (by omega) (by omega))
      refine Ev.just (Ev.cond (fun h => hal (by unfold alnum; rw [h]; rfl)) (fun h => ?_))
      rw [digit_f]
      refine Ev.just ?_
      by_cases h2 : digit (bt s i) = true
      · rw [h2]; exact hal (by unfold alnum; rw [h2, Bool.or_true])
      · have hno : alnum (bt s i) = false := by unfold alnum; rw [Bool.eq_false_iff.2 h, Bool.eq_false_iff.2 h2]; rfl
        rw [Bool.eq_false_iff.2 h2]
        refine Ev.step (fun k => token_name.j2.eq_2 _ _ _ _ _) (Ev.neg (by decide) (Ev.cond (fun h3 => ?_) (fun h3 => Ev.val (by rw [tail_no _ hno h3]; rfl))))
        rw [w64 (by omega) (by omega)]
        refine Ev.cond (fun h4 => Ev.pos (by omega) ?_) (fun h4 => Ev.val ?_)
        · have e1 : ((i : Int) + 1) = ((i + 1 : Nat) : Int) := by omega
          rw [e1, small_f, drop_lt s (i + 1) (by omega), tailL, if_neg (by rw [hno]; decide)]
          have hgo : alnum (bt s (i + 1 : Nat)) = true → Ev (fun k => token_name.l0 k s (wrap64 ((i : Int) + 2))) ((i + (if bt s i = 45 ∧ alnum (bt s (i + 1 : Nat)) = true then tailL ((bytesOf s).drop (i + 1 + 1)) + 2 else 0) : Nat) : Int) := fun h => by
            rw [if_pos ⟨h3, h⟩, w64 (by omega) (by omega)]
            exact Ev.eq (by rw [show i + 1 + 1 = i + 2 from rfl]; omega) (ih (i + 2) (by omega) (by omega))
          refine Ev.just (Ev.cond (fun h => hgo (by unfold alnum; rw [h]; rfl)) (fun h => ?_))
          rw [digit_f]
          refine Ev.just (Ev.cond (fun h5 => hgo (by unfold alnum; rw [h5, Bool.or_true])) (fun h5 => Ev.val ?_))
          rw [if_neg]; · rfl
          unfold alnum; rw [Bool.eq_false_iff.2 h, Bool.eq_false_iff.2 h5]; exact fun e => by simp at e
        · rw [drop_ge s (i + 1) (by omega), tailL, hno]; rfl
    · exact Ev.step (fun k => token_name.l0.eq_2 _ _ _) (Ev.neg (by omega) (Ev.val (by rw [drop_ge s i (by omega)]; rfl)))
theorem name_ev (s : ByteArray) (hs : s.size ≤ 140737488355328) : Ev (fun k => token_name.f k s) ((nameL (bytesOf s) : Nat) : Int) := by
  unfold token_name.f
  refine Ev.cond (fun h => Ev.step (fun k => token_name.j0.eq_2 _ _ _) (Ev.pos rfl (Ev.val ?_))) (fun h => ?_)
  · rw [bytesOf_nil.2 (list_nil.1 h)]; rfl
  · rw [list_nil] at h
    have hd := drop_lt s 0 (by omega)
    rw [List.drop_zero] at hd
    refine Ev.pos (by omega) ?_
    rw [small_f, hd, nameL, show ((0 : Nat) : Int) = 0 from rfl]
    refine Ev.just ?_
    cases hc : small (bt s 0) with
    | false =>
      refine Ev.step (fun k => token_name.j0.eq_2 _ _ _) (Ev.pos rfl (Ev.val ?_))
      rfl
    | true =>
      refine Ev.step (fun k => token_name.j0.eq_2 _ _ _) (Ev.neg (by decide) ?_)
      rw [if_pos rfl]
      exact Ev.eq (by rw [show 0 + 1 = 1 from rfl]; omega) (name_loop s hs s.size 1 (by omega) (by omega))
theorem rname_loop (s : ByteArray) (hs : s.size ≤ 140737488355328) (d : Nat) : ∀ i : Nat, s.size - i ≤ d → i ≤ s.size → Ev (fun k => ancepsref05_name.l0 k s (i : Int)) ((i + tailL ((bytesOf s).drop i) : Nat) : Int) := by
  induction d with
  | zero =>
    intro i hi hn
    exact Ev.step (fun k => ancepsref05_name.l0.eq_2 _ _ _) (Ev.neg (by omega) (Ev.val (by rw [drop_ge s i (by omega)]; rfl)))
  | succ d ih =>
    intro i hi hn
    by_cases hlt : i < s.size
    · refine Ev.step (fun k => ancepsref05_name.l0.eq_2 _ _ _) (Ev.pos (by omega) (Ev.pos (by omega) ?_))
      rw [rsmall_f, drop_lt s i hlt]
      have hal : alnum (bt s i) = true → Ev (fun k => ancepsref05_name.j2 k s i true) ((i + tailL (bt s i :: (bytesOf s).drop (i + 1)) : Nat) : Int) := fun h => by
        refine Ev.step (fun k => ancepsref05_name.j2.eq_2 _ _ _ _) (Ev.pos rfl ?_)
        rw [w64 (by omega) (by omega), tail_al _ h]
        exact Ev.eq (by omega) (ih (i + 1) (by omega) (by omega))
      refine Ev.just (Ev.cond (fun h => hal (by unfold alnum; rw [h]; rfl)) (fun h => ?_))
      rw [rdigit_f]
      refine Ev.just ?_
      by_cases h2 : digit (bt s i) = true
      · rw [h2]; exact hal (by unfold alnum; rw [h2, Bool.or_true])
      · have hno : alnum (bt s i) = false := by unfold alnum; rw [Bool.eq_false_iff.2 h, Bool.eq_false_iff.2 h2]; rfl
        rw [Bool.eq_false_iff.2 h2]
        refine Ev.step (fun k => ancepsref05_name.j2.eq_2 _ _ _ _) (Ev.neg (by decide) (Ev.pos (by omega) (Ev.pos (by omega) (Ev.cond (fun h3 => ?_) (fun h3 => Ev.val (by rw [tail_no _ hno h3]; rfl))))))
        rw [w64 (by omega) (by omega)]
        refine Ev.cond (fun h4 => Ev.val ?_) (fun h4 => Ev.pos (by omega) (Ev.pos (by omega) ?_))
        rotate_left
        · have e1 : ((i : Int) + 1) = ((i + 1 : Nat) : Int) := by omega
          rw [e1, rsmall_f, drop_lt s (i + 1) (by omega), tailL, if_neg (by rw [hno]; decide)]
          have hgo : alnum (bt s (i + 1 : Nat)) = true → Ev (fun k => ancepsref05_name.l0 k s (wrap64 ((i : Int) + 2))) ((i + (if bt s i = 45 ∧ alnum (bt s (i + 1 : Nat)) = true then tailL ((bytesOf s).drop (i + 1 + 1)) + 2 else 0) : Nat) : Int) := fun h => by
            rw [if_pos ⟨h3, h⟩, w64 (by omega) (by omega)]
            exact Ev.eq (by rw [show i + 1 + 1 = i + 2 from rfl]; omega) (ih (i + 2) (by omega) (by omega))
          refine Ev.just (Ev.cond (fun h => hgo (by unfold alnum; rw [h]; rfl)) (fun h => ?_))
          rw [rdigit_f]
          refine Ev.just (Ev.cond (fun h5 => hgo (by unfold alnum; rw [h5, Bool.or_true])) (fun h5 => Ev.val ?_))
          rw [if_neg]; · rfl
          unfold alnum; rw [Bool.eq_false_iff.2 h, Bool.eq_false_iff.2 h5]; exact fun e => by simp at e
        · rw [drop_ge s (i + 1) (by omega), tailL, hno]; rfl
    · exact Ev.step (fun k => ancepsref05_name.l0.eq_2 _ _ _) (Ev.neg (by omega) (Ev.val (by rw [drop_ge s i (by omega)]; rfl)))
theorem rname_ev (s : ByteArray) (hs : s.size ≤ 140737488355328) : Ev (fun k => ancepsref05_name.f k s) ((nameL (bytesOf s) : Nat) : Int) := by
  unfold ancepsref05_name.f
  refine Ev.cond (fun h => Ev.step (fun k => ancepsref05_name.j0.eq_2 _ _ _) (Ev.pos rfl (Ev.val ?_))) (fun h => ?_)
  · rw [bytesOf_nil.2 (list_nil.1 h)]; rfl
  · rw [list_nil] at h
    have hd := drop_lt s 0 (by omega)
    rw [List.drop_zero] at hd
    refine Ev.pos (by omega) ?_
    rw [rsmall_f, hd, nameL, show ((0 : Nat) : Int) = 0 from rfl]
    refine Ev.just ?_
    cases hc : small (bt s 0) with
    | false =>
      refine Ev.step (fun k => ancepsref05_name.j0.eq_2 _ _ _) (Ev.pos rfl (Ev.val ?_))
      rfl
    | true =>
      refine Ev.step (fun k => ancepsref05_name.j0.eq_2 _ _ _) (Ev.neg (by decide) ?_)
      rw [if_pos rfl]
      exact Ev.eq (by rw [show 0 + 1 = 1 from rfl]; omega) (rname_loop s hs s.size 1 (by omega) (by omega))
end Go.Proofs.Ytkkgacoecimlpaa.Lem
