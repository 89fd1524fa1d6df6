/- Plain lemmas of chapter 57: the errors of lines and of names. -/
import Derived.Test.YtmjigfoldeekmaaBase
import Derived.Test.YtmjigfoldeekmaaX3
import Derived.Test.YtmjigfoldeekmaaX13
import Derived.Test.YtmjigfoldeekmaaX5
import Derived.Test.YtmjigfoldeekmaaX12
namespace Go.Proofs.Ytmjigfoldeekmaa.Lem
open Go.RowKit Go.Proofs.Ytmjigfoldeekmaa.X Go.Proofs.YtmjigfoldeekmaaW.PrintWords Go.Proofs.YtmjigfoldeekmaaW.PrintLast
/-! numbers, rounds -/
theorem bt_nat (s : ByteArray) (i : Nat) (h : i < s.size) : bt s (i : Int) = ((s.data.toList[i]'(by simpa using h)).toNat : Int) := by
  unfold bt; rw [dif_pos (by simpa using h)]; rfl
theorem bt_range (s : ByteArray) (i : Int) : 0 ≤ bt s i ∧ bt s i ≤ 255 := by
  unfold bt; split
  · have := UInt8.toNat_lt (s[i.toNat]); omega
  · omega
/-! Valid -/
def okB (c : Int) : Bool := decide (32 ≤ c ∧ c ≤ 126)
def validS (s : ByteArray) : Int := if (s.size : Int) > 120 then 3 else if (bytesOf s).all okB then 0 else 2
def allFrom (s : ByteArray) (i : Nat) : Int := if ((bytesOf s).drop i).all okB then 0 else 2
theorem allFrom_end (s : ByteArray) : allFrom s s.size = 0 := by unfold allFrom; rw [List.drop_eq_nil_of_le (by rw [bytesOf_length]; exact Nat.le_refl _)]; rfl
theorem allFrom_step (s : ByteArray) (i : Nat) (h : i < s.size) : allFrom s i = if okB (bt s i) then allFrom s (i + 1) else 2 := by
  unfold allFrom
  rw [List.drop_eq_getElem_cons (by rw [bytesOf_length]; exact h), List.all_cons, bytesOf_get s i h]
  cases okB (bt s ↑i) <;> simp
theorem valid_loop (s : ByteArray) (hs : s.size ≤ 140737488355328) (d : Nat) : ∀ i : Nat, i + d = s.size → Ev (fun k => text_Valid.l0 k (bytesOf s) ((bytesOf s).length : Int) (i : Int)) (allFrom s i) := by
  induction d with
  | zero =>
    intro i hi
    obtain rfl : i = s.size := by omega
    refine Ev.step (fun k => rfl) (Ev.neg (by rw [bytesOf_length]; omega) ?_)
    exact Ev.val (allFrom_end s).symm
  | succ d ih =>
    intro i hi
    refine Ev.step (fun k => rfl) (Ev.pos (by rw [bytesOf_length]; omega) (Ev.pos (by omega) (Ev.pos (by rw [bytesOf_length]; omega) ?_)))
    rw [rd_bytesOf, allFrom_step s i (by omega)]
    have := ih (i + 1) (by omega)
    by_cases h1 : bt s i < 32
    · exact Ev.pos h1 (Ev.val (by rw [if_neg]; simp [okB]; omega))
    · refine Ev.neg h1 ?_
      by_cases h2 : bt s i > 126
      · exact Ev.pos h2 (Ev.val (by rw [if_neg]; simp [okB]; omega))
      · refine Ev.neg h2 ?_
        rw [w64 (by omega) (by omega), if_pos (by simp [okB]; omega)]
        exact this
theorem valid_ev (s : ByteArray) (hs : s.size ≤ 140737488355328) : Ev (fun k => text_Valid.f k s) (validS s) := by
  unfold validS text_Valid.f
  by_cases h : (s.size : Int) > 120
  · exact Ev.pos h (Ev.val (by rw [if_pos h]))
  · refine Ev.neg h (Ev.pos hs (Ev.just ?_))
    rw [if_neg h]
    exact valid_loop s hs s.size 0 (by omega)
theorem rvalid_loop (s : ByteArray) (hs : s.size ≤ 140737488355328) (d : Nat) : ∀ i : Nat, i + d = s.size → Ev (fun k => ancepsref01_Valid.l0 k s (i : Int)) (allFrom s i) := by
  induction d with
  | zero =>
    intro i hi
    obtain rfl : i = s.size := by omega
    exact Ev.step (fun k => rfl) (Ev.neg (by omega) (Ev.val (allFrom_end s).symm))
  | succ d ih =>
    intro i hi
    refine Ev.step (fun k => rfl) (Ev.pos (by omega) (Ev.pos (by omega) ?_))
    rw [allFrom_step s i (by omega)]
    have := ih (i + 1) (by omega)
    by_cases h1 : bt s i < 32
    · exact Ev.pos h1 (Ev.val (by rw [if_neg]; simp [okB]; omega))
    · refine Ev.neg h1 ?_
      by_cases h2 : bt s i > 126
      · exact Ev.pos h2 (Ev.val (by rw [if_neg]; simp [okB]; omega))
      · refine Ev.neg h2 ?_
        rw [w64 (by omega) (by omega), if_pos (by simp [okB]; omega)]
        exact this
theorem rvalid_ev (s : ByteArray) (hs : s.size ≤ 140737488355328) : Ev (fun k => ancepsref01_Valid.f k s) (validS s) := by
  unfold validS ancepsref01_Valid.f
  by_cases h : (s.size : Int) > 120
  · exact Ev.pos h (Ev.val (by rw [if_pos h]))
  · refine Ev.neg h ?_
    rw [if_neg h]
    exact rvalid_loop s hs s.size 0 (by omega)
theorem Ev.eq {α : Type} {g : Nat → Option α} {a b : α} (h : a = b) (k : Ev g a) : Ev g b := h ▸ k
def small (c : Int) : Bool := decide (97 ≤ c) && decide (c ≤ 122)
def digit (c : Int) : Bool := decide (48 ≤ c) && decide (c ≤ 57)
def alnum (c : Int) : Bool := small c || digit c
theorem small_f (c : Int) : token_small.f c = some (small c) := by
  unfold token_small.f small
  by_cases h : c ≥ 97
  · rw [if_pos h, decide_eq_true (by omega : 97 ≤ c), Bool.true_and]
  · rw [if_neg h, decide_eq_false (by omega : ¬ 97 ≤ c), Bool.false_and]
theorem digit_f (c : Int) : token_digit.f c = some (digit c) := by
  unfold token_digit.f digit
  by_cases h : c ≥ 48
  · rw [if_pos h, decide_eq_true (by omega : 48 ≤ c), Bool.true_and]
  · rw [if_neg h, decide_eq_false (by omega : ¬ 48 ≤ c), Bool.false_and]
theorem rsmall_f (c : Int) : ancepsref05_small.f c = some (small c) := small_f c
theorem rdigit_f (c : Int) : ancepsref05_digit.f c = some (digit c) := digit_f c
def tailL : List Int → Nat
  | [] => 0
  | [c] => if alnum c then 1 else 0
  | c :: d :: r => if alnum c then tailL (d :: r) + 1 else if c = 45 ∧ alnum d = true then tailL r + 2 else 0
def nameL : List Int → Nat
  | [] => 0
  | c :: r => if small c then tailL r + 1 else 0
theorem tail_al {c : Int} (r : List Int) (h : alnum c = true) : tailL (c :: r) = tailL r + 1 := by
  cases r with
  | nil => simp only [tailL, if_pos h]
  | cons d r => rw [tailL, if_pos h]
theorem tail_no {c : Int} (r : List Int) (h : alnum c = false) (h' : c ≠ 45) : tailL (c :: r) = 0 := by
  cases r with
  | nil => rw [tailL, h]; rfl
  | cons d r => rw [tailL, if_neg (by rw [h]; decide), if_neg (fun e => h' e.1)]
theorem name_loop (s : ByteArray) (hs : s.size ≤ 140737488355328) (d : Nat) : ∀ i : Nat, s.size - i ≤ d → i ≤ s.size → Ev (fun k => token_name.l0 k s (i : Int)) ((i + tailL ((bytesOf s).drop i) : Nat) : Int) := by
  induction d with
  | zero =>
    intro i hi hn
    exact Ev.step (fun k => token_name.l0.eq_2 _ _ _) (Ev.neg (by omega) (Ev.val (by rw [drop_ge s i (by omega)]; rfl)))
  | succ d ih =>
    intro i hi hn
    by_cases hlt : i < s.size
    · refine Ev.step (fun k => token_name.l0.eq_2 _ _ _) (Ev.pos (by omega) (Ev.pos (by omega) ?_))
      rw [small_f, drop_lt s i hlt]
      have hal : alnum (bt s i) = true → Ev (fun k => token_name.j2 k s i (bt s i) true) ((i + tailL (bt s i :: (bytesOf s).drop (i + 1)) : Nat) : Int) := fun h => by
        refine Ev.step (fun k => token_name.j2.eq_2 _ _ _ _ _) (Ev.pos rfl ?_)
        rw [w64 (by omega) (by omega), tail_al _ h]
        exact Ev.eq (by omega) (ih (i + 1) (by omega) (by omega))
      refine Ev.just (Ev.cond (fun h => hal (by unfold alnum; rw [h]; rfl)) (fun h => ?_))
      rw [digit_f]
      refine Ev.just ?_
      by_cases h2 : digit (bt s i) = true
      · rw [h2]; exact hal (by unfold alnum; rw [h2, Bool.or_true])
      · have hno : alnum (bt s i) = false := by unfold alnum; rw [Bool.eq_false_iff.2 h, Bool.eq_false_iff.2 h2]; rfl
        rw [Bool.eq_false_iff.2 h2]
        refine Ev.step (fun k => token_name.j2.eq_2 _ _ _ _ _) (Ev.neg (by decide) (Ev.cond (fun h3 => ?_) (fun h3 => Ev.val (by rw [tail_no _ hno h3]; rfl))))
        rw [w64 (by omega) (by omega)]
        refine Ev.cond (fun h4 => Ev.pos (by omega) ?_) (fun h4 => Ev.val ?_)
        · have e1 : ((i : Int) + 1) = ((i + 1 : Nat) : Int) := by omega
          rw [e1, small_f, drop_lt s (i + 1) (by omega), tailL, if_neg (by rw [hno]; decide)]
          have hgo : alnum (bt s (i + 1 : Nat)) = true → Ev (fun k => token_name.l0 k s (wrap64 ((i : Int) + 2))) ((i + (if bt s i = 45 ∧ alnum (bt s (i + 1 : Nat)) = true then tailL ((bytesOf s).drop (i + 1 + 1)) + 2 else 0) : Nat) : Int) := fun h => by
            rw [if_pos ⟨h3, h⟩, w64 (by omega) (by omega)]
            exact Ev.eq (by rw [show i + 1 + 1 = i + 2 from rfl]; omega) (ih (i + 2) (by omega) (by omega))
          refine Ev.just (Ev.cond (fun h => hgo (by unfold alnum; rw [h]; rfl)) (fun h => ?_))
          rw [digit_f]
          refine Ev.just (Ev.cond (fun h5 => hgo (by unfold alnum; rw [h5, Bool.or_true])) (fun h5 => Ev.val ?_))
          rw [if_neg]; · rfl
          unfold alnum; rw [Bool.eq_false_iff.2 h, Bool.eq_false_iff.2 h5]; exact fun e => by simp at e
        · rw [drop_ge s (i + 1) (by omega), tailL, hno]; rfl
    · exact Ev.step (fun k => token_name.l0.eq_2 _ _ _) (Ev.neg (by omega) (Ev.val (by rw [drop_ge s i (by omega)]; rfl)))
theorem name_ev (s : ByteArray) (hs : s.size ≤ 140737488355328) : Ev (fun k => token_name.f k s) ((nameL (bytesOf s) : Nat) : Int) := by
  unfold token_name.f
  refine Ev.cond (fun h => Ev.step (fun k => token_name.j0.eq_2 _ _ _) (Ev.pos rfl (Ev.val ?_))) (fun h => ?_)
  · rw [bytesOf_nil.2 (list_nil.1 h)]; rfl
  · rw [list_nil] at h
    have hd := drop_lt s 0 (by omega)
    rw [List.drop_zero] at hd
    refine Ev.pos (by omega) ?_
    rw [small_f, hd, nameL, show ((0 : Nat) : Int) = 0 from rfl]
    refine Ev.just ?_
    cases hc : small (bt s 0) with
    | false =>
      refine Ev.step (fun k => token_name.j0.eq_2 _ _ _) (Ev.pos rfl (Ev.val ?_))
      rfl
    | true =>
      refine Ev.step (fun k => token_name.j0.eq_2 _ _ _) (Ev.neg (by decide) ?_)
      rw [if_pos rfl]
      exact Ev.eq (by rw [show 0 + 1 = 1 from rfl]; omega) (name_loop s hs s.size 1 (by omega) (by omega))
theorem rname_loop (s : ByteArray) (hs : s.size ≤ 140737488355328) (d : Nat) : ∀ i : Nat, s.size - i ≤ d → i ≤ s.size → Ev (fun k => ancepsref05_name.l0 k s (i : Int)) ((i + tailL ((bytesOf s).drop i) : Nat) : Int) := by
  induction d with
  | zero =>
    intro i hi hn
    exact Ev.step (fun k => ancepsref05_name.l0.eq_2 _ _ _) (Ev.neg (by omega) (Ev.val (by rw [drop_ge s i (by omega)]; rfl)))
  | succ d ih =>
    intro i hi hn
    by_cases hlt : i < s.size
    · refine Ev.step (fun k => ancepsref05_name.l0.eq_2 _ _ _) (Ev.pos (by omega) (Ev.pos (by omega) ?_))
      rw [rsmall_f, drop_lt s i hlt]
      have hal : alnum (bt s i) = true → Ev (fun k => ancepsref05_name.j2 k s i true) ((i + tailL (bt s i :: (bytesOf s).drop (i + 1)) : Nat) : Int) := fun h => by
        refine Ev.step (fun k => ancepsref05_name.j2.eq_2 _ _ _ _) (Ev.pos rfl ?_)
        rw [w64 (by omega) (by omega), tail_al _ h]
        exact Ev.eq (by omega) (ih (i + 1) (by omega) (by omega))
      refine Ev.just (Ev.cond (fun h => hal (by unfold alnum; rw [h]; rfl)) (fun h => ?_))
      rw [rdigit_f]
      refine Ev.just ?_
      by_cases h2 : digit (bt s i) = true
      · rw [h2]; exact hal (by unfold alnum; rw [h2, Bool.or_true])
      · have hno : alnum (bt s i) = false := by unfold alnum; rw [Bool.eq_false_iff.2 h, Bool.eq_false_iff.2 h2]; rfl
        rw [Bool.eq_false_iff.2 h2]
        refine Ev.step (fun k => ancepsref05_name.j2.eq_2 _ _ _ _) (Ev.neg (by decide) (Ev.pos (by omega) (Ev.pos (by omega) (Ev.cond (fun h3 => ?_) (fun h3 => Ev.val (by rw [tail_no _ hno h3]; rfl))))))
        rw [w64 (by omega) (by omega)]
        refine Ev.cond (fun h4 => Ev.val ?_) (fun h4 => Ev.pos (by omega) (Ev.pos (by omega) ?_))
        rotate_left
        · have e1 : ((i : Int) + 1) = ((i + 1 : Nat) : Int) := by omega
          rw [e1, rsmall_f, drop_lt s (i + 1) (by omega), tailL, if_neg (by rw [hno]; decide)]
          have hgo : alnum (bt s (i + 1 : Nat)) = true → Ev (fun k => ancepsref05_name.l0 k s (wrap64 ((i : Int) + 2))) ((i + (if bt s i = 45 ∧ alnum (bt s (i + 1 : Nat)) = true then tailL ((bytesOf s).drop (i + 1 + 1)) + 2 else 0) : Nat) : Int) := fun h => by
            rw [if_pos ⟨h3, h⟩, w64 (by omega) (by omega)]
            exact Ev.eq (by rw [show i + 1 + 1 = i + 2 from rfl]; omega) (ih (i + 2) (by omega) (by omega))
          refine Ev.just (Ev.cond (fun h => hgo (by unfold alnum; rw [h]; rfl)) (fun h => ?_))
          rw [rdigit_f]
          refine Ev.just (Ev.cond (fun h5 => hgo (by unfold alnum; rw [h5, Bool.or_true])) (fun h5 => Ev.val ?_))
          rw [if_neg]; · rfl
          unfold alnum; rw [Bool.eq_false_iff.2 h, Bool.eq_false_iff.2 h5]; exact fun e => by simp at e
        · rw [drop_ge s (i + 1) (by omega), tailL, hno]; rfl
    · exact Ev.step (fun k => ancepsref05_name.l0.eq_2 _ _ _) (Ev.neg (by omega) (Ev.val (by rw [drop_ge s i (by omega)]; rfl)))
theorem rname_ev (s : ByteArray) (hs : s.size ≤ 140737488355328) : Ev (fun k => ancepsref05_name.f k s) ((nameL (bytesOf s) : Nat) : Int) := by
  unfold ancepsref05_name.f
  refine Ev.cond (fun h => Ev.step (fun k => ancepsref05_name.j0.eq_2 _ _ _) (Ev.pos rfl (Ev.val ?_))) (fun h => ?_)
  · rw [bytesOf_nil.2 (list_nil.1 h)]; rfl
  · rw [list_nil] at h
    have hd := drop_lt s 0 (by omega)
    rw [List.drop_zero] at hd
    refine Ev.pos (by omega) ?_
    rw [rsmall_f, hd, nameL, show ((0 : Nat) : Int) = 0 from rfl]
    refine Ev.just ?_
    cases hc : small (bt s 0) with
    | false =>
      refine Ev.step (fun k => ancepsref05_name.j0.eq_2 _ _ _) (Ev.pos rfl (Ev.val ?_))
      rfl
    | true =>
      refine Ev.step (fun k => ancepsref05_name.j0.eq_2 _ _ _) (Ev.neg (by decide) ?_)
      rw [if_pos rfl]
      exact Ev.eq (by rw [show 0 + 1 = 1 from rfl]; omega) (rname_loop s hs s.size 1 (by omega) (by omega))
def isName (s : ByteArray) : Bool := decide (0 < s.size) && (decide (s.size ≤ 20) && decide (nameL (bytesOf s) = s.size))
theorem isName_ev (s : ByteArray) (hs : s.size ≤ 140737488355328) : Ev (fun k => token_IsName.f k s) (isName s) := by
  unfold token_IsName.f isName
  refine Ev.cond (fun h => Ev.val ?_) (fun h => ?_)
  · rw [decide_eq_false (by rw [list_nil.1 h]; omega), Bool.false_and]
  rw [list_nil] at h
  rw [decide_eq_true (by omega : 0 < s.size), Bool.true_and]
  refine Ev.cond (fun h1 => Ev.bind (name_ev s hs) (Ev.val ?_)) (fun h1 => Ev.val ?_)
  · rw [decide_eq_true (by omega : s.size ≤ 20), Bool.true_and, Bool.eq_iff_iff, beq_iff_eq, decide_eq_true_iff]; omega
  · rw [decide_eq_false (by omega), Bool.false_and]
theorem risName_ev (s : ByteArray) (hs : s.size ≤ 140737488355328) : Ev (fun k => ancepsref05_IsName.f k s) (isName s) := by
  unfold ancepsref05_IsName.f isName
  refine Ev.cond (fun h => Ev.val ?_) (fun h => ?_)
  · rw [decide_eq_false (by rw [list_nil.1 h]; omega), Bool.false_and]
  rw [list_nil] at h
  rw [decide_eq_true (by omega : 0 < s.size), Bool.true_and]
  refine Ev.cond (fun h1 => Ev.bind (rname_ev s hs) (Ev.val ?_)) (fun h1 => Ev.val ?_)
  · rw [decide_eq_true (by omega : s.size ≤ 20), Bool.true_and, Bool.eq_iff_iff, beq_iff_eq, decide_eq_true_iff]; omega
  · rw [decide_eq_false (by omega), Bool.false_and]
end Go.Proofs.Ytmjigfoldeekmaa.Lem
