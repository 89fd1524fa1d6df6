/- Plain lemmas of chapter 57: names, rows, an apparatus, what a witness has. -/
import Derived.Test.YtmjigfoldeekmaaBase
import Derived.Test.YtmjigfoldeekmaaX3
import Derived.Test.YtmjigfoldeekmaaX15
import Derived.Test.YtmjigfoldeekmaaX5
import Derived.Test.YtmjigfoldeekmaaX8
import Derived.Test.YtmjigfoldeekmaaX13
namespace Go.Proofs.Ytmjigfoldeekmaa.Lem
open Go.RowKit Go.Proofs.Ytmjigfoldeekmaa.X Go.Proofs.YtmjigfoldeekmaaW.PrintWords Go.Proofs.YtmjigfoldeekmaaW.PrintLast
theorem Ev.eq {α : Type} {g : Nat → Option α} {a b : α} (h : a = b) (k : Ev g a) : Ev g b := h ▸ k
/-! numbers, rounds -/
theorem bt_nat (s : ByteArray) (i : Nat) (h : i < s.size) : bt s (i : Int) = ((s.data.toList[i]'(by simpa using h)).toNat : Int) := by
  unfold bt; rw [dif_pos (by simpa using h)]; rfl
theorem bt_range (s : ByteArray) (i : Int) : 0 ≤ bt s i ∧ bt s i ≤ 255 := by
  unfold bt; split
  · have := UInt8.toNat_lt (s[i.toNat]); omega
  · omega
/-! Valid -/
def okB (c : Int) : Bool := decide (32 ≤ c ∧ c ≤ 126)
def validS (s : ByteArray) : Int := if (s.size : Int) > 120 then 3 else if (bytesOf s).all okB then 0 else 2
def allFrom (s : ByteArray) (i : Nat) : Int := if ((bytesOf s).drop i).all okB then 0 else 2
theorem allFrom_end (s : ByteArray) : allFrom s s.size = 0 := by unfold allFrom; rw [List.drop_eq_nil_of_le (by rw [bytesOf_length]; exact Nat.le_refl _)]; rfl
theorem allFrom_step (s : ByteArray) (i : Nat) (h : i < s.size) : allFrom s i = if okB (bt s i) then allFrom s (i + 1) else 2 := by
  unfold allFrom
  rw [List.drop_eq_getElem_cons (by rw [bytesOf_length]; exact h), List.all_cons, bytesOf_get s i h]
  cases okB (bt s ↑i) <;> simp
theorem valid_loop (s : ByteArray) (hs : s.size ≤ 140737488355328) (d : Nat) : ∀ i : Nat, i + d = s.size → Ev (fun k => text_Valid.l0 k (bytesOf s) ((bytesOf s).length : Int) (i : Int)) (allFrom s i) := by
  induction d with
  | zero =>
    intro i hi
    obtain rfl : i = s.size := by omega
    refine Ev.step (fun k => rfl) (Ev.neg (by rw [bytesOf_length]; omega) ?_)
    exact Ev.val (allFrom_end s).symm
  | succ d ih =>
    intro i hi
    refine Ev.step (fun k => rfl) (Ev.pos (by rw [bytesOf_length]; omega) (Ev.pos (by omega) (Ev.pos (by rw [bytesOf_length]; omega) ?_)))
    rw [rd_bytesOf, allFrom_step s i (by omega)]
    have := ih (i + 1) (by omega)
    by_cases h1 : bt s i < 32
    · exact Ev.pos h1 (Ev.val (by rw [if_neg]; simp [okB]; omega))
    · refine Ev.neg h1 ?_
      by_cases h2 : bt s i > 126
      · exact Ev.pos h2 (Ev.val (by rw [if_neg]; simp [okB]; omega))
      · refine Ev.neg h2 ?_
        rw [w64 (by omega) (by omega), if_pos (by simp [okB]; omega)]
        exact this
theorem valid_ev (s : ByteArray) (hs : s.size ≤ 140737488355328) : Ev (fun k => text_Valid.f k s) (validS s) := by
  unfold validS text_Valid.f
  by_cases h : (s.size : Int) > 120
  · exact Ev.pos h (Ev.val (by rw [if_pos h]))
  · refine Ev.neg h (Ev.pos hs (Ev.just ?_))
    rw [if_neg h]
    exact valid_loop s hs s.size 0 (by omega)
theorem rvalid_loop (s : ByteArray) (hs : s.size ≤ 140737488355328) (d : Nat) : ∀ i : Nat, i + d = s.size → Ev (fun k => ancepsref01_Valid.l0 k s (i : Int)) (allFrom s i) := by
  induction d with
  | zero =>
    intro i hi
    obtain rfl : i = s.size := by omega
    exact Ev.step (fun k => rfl) (Ev.neg (by omega) (Ev.val (allFrom_end s).symm))
  | succ d ih =>
    intro i hi
    refine Ev.step (fun k => rfl) (Ev.pos (by omega) (Ev.pos (by omega) ?_))
    rw [allFrom_step s i (by omega)]
    have := ih (i + 1) (by omega)
    by_cases h1 : bt s i < 32
    · exact Ev.pos h1 (Ev.val (by rw [if_neg]; simp [okB]; omega))
    · refine Ev.neg h1 ?_
      by_cases h2 : bt s i > 126
      · exact Ev.pos h2 (Ev.val (by rw [if_neg]; simp [okB]; omega))
      · refine Ev.neg h2 ?_
        rw [w64 (by omega) (by omega), if_pos (by simp [okB]; omega)]
        exact this
theorem rvalid_ev (s : ByteArray) (hs : s.size ≤ 140737488355328) : Ev (fun k => ancepsref01_Valid.f k s) (validS s) := by
  unfold validS ancepsref01_Valid.f
  by_cases h : (s.size : Int) > 120
  · exact Ev.pos h (Ev.val (by rw [if_pos h]))
  · refine Ev.neg h ?_
    rw [if_neg h]
    exact rvalid_loop s hs s.size 0 (by omega)
end Go.Proofs.Ytmjigfoldeekmaa.Lem
namespace Go.Proofs.Ytmjigfoldeekmaa.Lem
open Go.RowKit Go.Proofs.Ytmjigfoldeekmaa.X Go.Proofs.YtmjigfoldeekmaaW.PrintWords Go.Proofs.YtmjigfoldeekmaaW.PrintLast
def small (c : Int) : Bool := decide (97 ≤ c) && decide (c ≤ 122)
def digit (c : Int) : Bool := decide (48 ≤ c) && decide (c ≤ 57)
def alnum (c : Int) : Bool := small c || digit c
theorem small_f (c : Int) : token_small.f c = some (small c) := by
  unfold token_small.f small
  by_cases h : c ≥ 97
  · rw [if_pos h, decide_eq_true (by omega : 97 ≤ c), Bool.true_and]
  · rw [if_neg h, decide_eq_false (by omega : ¬ 97 ≤ c), Bool.false_and]
theorem digit_f (c : Int) : token_digit.f c = some (digit c) := by
  unfold token_digit.f digit
  by_cases h : c ≥ 48
  · rw [if_pos h, decide_eq_true (by omega : 48 ≤ c), Bool.true_and]
  · rw [if_neg h, decide_eq_false (by omega : ¬ 48 ≤ c), Bool.false_and]
theorem rsmall_f (c : Int) : ancepsref05_small.f c = some (small c) := small_f c
theorem rdigit_f (c : Int) : ancepsref05_digit.f c = some (digit c) := digit_f c
def tailL : List Int → Nat
  | [] => 0
  | [c] => if alnum c then 1 else 0
  | c :: d :: r => if alnum c then tailL (d :: r) + 1 else if c = 45 ∧ alnum d = true then tailL r + 2 else 0
def nameL : List Int → Nat
  | [] => 0
  | c :: r => if small c then tailL r + 1 else 0
theorem tail_al {c : Int} (r : List Int) (h : alnum c = true) : tailL (c :: r) = tailL r + 1 := by
  cases r with
  | nil => simp only [tailL, if_pos h]
  | cons d r => rw [tailL, if_pos h]
theorem tail_no {c : Int} (r : List Int) (h : alnum c = false) (h' : c ≠ 45) : tailL (c :: r) = 0 := by
  cases r with
  | nil => rw [tailL, h]; rfl
  | cons d r => rw [tailL, if_neg (by rw [h]; decide), if_neg (fun e => h' e.1)]
theorem name_loop (s : ByteArray) (hs : s.size ≤ 140737488355328) (d : Nat) : ∀ i : Nat, s.size - i ≤ d → i ≤ s.size → Ev (fun k => token_name.l0 k s (i : Int)) ((i + tailL ((bytesOf s).drop i) : Nat) : Int) := by
  induction d with
  | zero =>
    intro i hi hn
    exact Ev.step (fun k => token_name.l0.eq_2 _ _ _) (Ev.neg (by omega) (Ev.val (by rw [drop_ge s i (by omega)]; rfl)))
  | succ d ih =>
    intro i hi hn
    by_cases hlt : i < s.size
    · refine Ev.step (fun k => token_name.l0.eq_2 _ _ _) (Ev.pos (by omega) (Ev.pos (by omega) ?_))
      rw [small_f, drop_lt s i hlt]
      have hal : alnum (bt s i) = true → Ev (fun k => token_name.j2 k s i (bt s i) true) ((i + tailL (bt s i :: (bytesOf s).drop (i + 1)) : Nat) : Int) := fun h => by
        refine Ev.step (fun k => token_name.j2.eq_2 _ _ _ _ _) (Ev.pos rfl ?_)
        rw [w64 (by omega) (by omega), tail_al _ h]
        exact Ev.eq (by omega) (ih (i + 1) (by omega) (by omega))
      refine Ev.just (Ev.cond (fun h => hal (by unfold alnum; rw [h]; rfl)) (fun h => ?_))
      rw [digit_f]
      refine Ev.just ?_
      by_cases h2 : digit (bt s i) = true
      · rw [h2]; exact hal (by unfold alnum; rw [h2, Bool.or_true])
      · have hno : alnum (bt s i) = false := by unfold alnum; rw [Bool.eq_false_iff.2 h, Bool.eq_false_iff.2 h2]; rfl
        rw [Bool.eq_false_iff.2 h2]
        refine Ev.step (fun k => token_name.j2.eq_2 _ _ _ _ _) (Ev.neg (by decide) (Ev.cond (fun h3 => ?_) (fun h3 => Ev.val (by rw [tail_no _ hno h3]; rfl))))
        rw [w64 (by omega) (by omega)]
        refine Ev.cond (fun h4 => Ev.pos (by omega) ?_) (fun h4 => Ev.val ?_)
        · have e1 : ((i : Int) + 1) = ((i + 1 : Nat) : Int) := by omega
          rw [e1, small_f, drop_lt s (i + 1) (by omega), tailL, if_neg (by rw [hno]; decide)]
          have hgo : alnum (bt s (i + 1 : Nat)) = true → Ev (fun k => token_name.l0 k s (wrap64 ((i : Int) + 2))) ((i + (if bt s i = 45 ∧ alnum (bt s (i + 1 : Nat)) = true then tailL ((bytesOf s).drop (i + 1 + 1)) + 2 else 0) : Nat) : Int) := fun h => by
            rw [if_pos ⟨h3, h⟩, w64 (by omega) (by omega)]
            exact Ev.eq (by rw [show i + 1 + 1 = i + 2 from rfl]; omega) (ih (i + 2) (by omega) (by omega))
          refine Ev.just (Ev.cond (fun h => hgo (by unfold alnum; rw [h]; rfl)) (fun h => ?_))
          rw [digit_f]
          refine Ev.just (Ev.cond (fun h5 => hgo (by unfold alnum; rw [h5, Bool.or_true])) (fun h5 => Ev.val ?_))
          rw [if_neg]; · rfl
          unfold alnum; rw [Bool.eq_false_iff.2 h, Bool.eq_false_iff.2 h5]; exact fun e => by simp at e
        · rw [drop_ge s (i + 1) (by omega), tailL, hno]; rfl
    · exact Ev.step (fun k => token_name.l0.eq_2 _ _ _) (Ev.neg (by omega) (Ev.val (by rw [drop_ge s i (by omega)]; rfl)))
theorem name_ev (s : ByteArray) (hs : s.size ≤ 140737488355328) : Ev (fun k => token_name.f k s) ((nameL (bytesOf s) : Nat) : Int) := by
  unfold token_name.f
  refine Ev.cond (fun h => Ev.step (fun k => token_name.j0.eq_2 _ _ _) (Ev.pos rfl (Ev.val ?_))) (fun h => ?_)
  · rw [bytesOf_nil.2 (list_nil.1 h)]; rfl
  · rw [list_nil] at h
    have hd := drop_lt s 0 (by omega)
    rw [List.drop_zero] at hd
    refine Ev.pos (by omega) ?_
    rw [small_f, hd, nameL, show ((0 : Nat) : Int) = 0 from rfl]
    refine Ev.just ?_
    cases hc : small (bt s 0) with
    | false =>
      refine Ev.step (fun k => token_name.j0.eq_2 _ _ _) (Ev.pos rfl (Ev.val ?_))
      rfl
    | true =>
      refine Ev.step (fun k => token_name.j0.eq_2 _ _ _) (Ev.neg (by decide) ?_)
      rw [if_pos rfl]
      exact Ev.eq (by rw [show 0 + 1 = 1 from rfl]; omega) (name_loop s hs s.size 1 (by omega) (by omega))
theorem rname_loop (s : ByteArray) (hs : s.size ≤ 140737488355328) (d : Nat) : ∀ i : Nat, s.size - i ≤ d → i ≤ s.size → Ev (fun k => ancepsref05_name.l0 k s (i : Int)) ((i + tailL ((bytesOf s).drop i) : Nat) : Int) := by
  induction d with
  | zero =>
    intro i hi hn
    exact Ev.step (fun k => ancepsref05_name.l0.eq_2 _ _ _) (Ev.neg (by omega) (Ev.val (by rw [drop_ge s i (by omega)]; rfl)))
  | succ d ih =>
    intro i hi hn
    by_cases hlt : i < s.size
    · refine Ev.step (fun k => ancepsref05_name.l0.eq_2 _ _ _) (Ev.pos (by omega) (Ev.pos (by omega) ?_))
      rw [rsmall_f, drop_lt s i hlt]
      have hal : alnum (bt s i) = true → Ev (fun k => ancepsref05_name.j2 k s i true) ((i + tailL (bt s i :: (bytesOf s).drop (i + 1)) : Nat) : Int) := fun h => by
        refine Ev.step (fun k => ancepsref05_name.j2.eq_2 _ _ _ _) (Ev.pos rfl ?_)
        rw [w64 (by omega) (by omega), tail_al _ h]
        exact Ev.eq (by omega) (ih (i + 1) (by omega) (by omega))
      refine Ev.just (Ev.cond (fun h => hal (by unfold alnum; rw [h]; rfl)) (fun h => ?_))
      rw [rdigit_f]
      refine Ev.just ?_
      by_cases h2 : digit (bt s i) = true
      · rw [h2]; exact hal (by unfold alnum; rw [h2, Bool.or_true])
      · have hno : alnum (bt s i) = false := by unfold alnum; rw [Bool.eq_false_iff.2 h, Bool.eq_false_iff.2 h2]; rfl
        rw [Bool.eq_false_iff.2 h2]
        refine Ev.step (fun k => ancepsref05_name.j2.eq_2 _ _ _ _) (Ev.neg (by decide) (Ev.pos (by omega) (Ev.pos (by omega) (Ev.cond (fun h3 => ?_) (fun h3 => Ev.val (by rw [tail_no _ hno h3]; rfl))))))
        rw [w64 (by omega) (by omega)]
        refine Ev.cond (fun h4 => Ev.val ?_) (fun h4 => Ev.pos (by omega) (Ev.pos (by omega) ?_))
        rotate_left
        · have e1 : ((i : Int) + 1) = ((i + 1 : Nat) : Int) := by omega
          rw [e1, rsmall_f, drop_lt s (i + 1) (by omega), tailL, if_neg (by rw [hno]; decide)]
          have hgo : alnum (bt s (i + 1 : Nat)) = true → Ev (fun k => ancepsref05_name.l0 k s (wrap64 ((i : Int) + 2))) ((i + (if bt s i = 45 ∧ alnum (bt s (i + 1 : Nat)) = true then tailL ((bytesOf s).drop (i + 1 + 1)) + 2 else 0) : Nat) : Int) := fun h => by
            rw [if_pos ⟨h3, h⟩, w64 (by omega) (by omega)]
            exact Ev.eq (by rw [show i + 1 + 1 = i + 2 from rfl]; omega) (ih (i + 2) (by omega) (by omega))
          refine Ev.just (Ev.cond (fun h => hgo (by unfold alnum; rw [h]; rfl)) (fun h => ?_))
          rw [rdigit_f]
          refine Ev.just (Ev.cond (fun h5 => hgo (by unfold alnum; rw [h5, Bool.or_true])) (fun h5 => Ev.val ?_))
          rw [if_neg]; · rfl
          unfold alnum; rw [Bool.eq_false_iff.2 h, Bool.eq_false_iff.2 h5]; exact fun e => by simp at e
        · rw [drop_ge s (i + 1) (by omega), tailL, hno]; rfl
    · exact Ev.step (fun k => ancepsref05_name.l0.eq_2 _ _ _) (Ev.neg (by omega) (Ev.val (by rw [drop_ge s i (by omega)]; rfl)))
theorem rname_ev (s : ByteArray) (hs : s.size ≤ 140737488355328) : Ev (fun k => ancepsref05_name.f k s) ((nameL (bytesOf s) : Nat) : Int) := by
  unfold ancepsref05_name.f
  refine Ev.cond (fun h => Ev.step (fun k => ancepsref05_name.j0.eq_2 _ _ _) (Ev.pos rfl (Ev.val ?_))) (fun h => ?_)
  · rw [bytesOf_nil.2 (list_nil.1 h)]; rfl
  · rw [list_nil] at h
    have hd := drop_lt s 0 (by omega)
    rw [List.drop_zero] at hd
    refine Ev.pos (by omega) ?_
    rw [rsmall_f, hd, nameL, show ((0 : Nat) : Int) = 0 from rfl]
    refine Ev.just ?_
    cases hc : small (bt s 0) with
    | false =>
      refine Ev.step (fun k => ancepsref05_name.j0.eq_2 _ _ _) (Ev.pos rfl (Ev.val ?_))
      rfl
    | true =>
      refine Ev.step (fun k => ancepsref05_name.j0.eq_2 _ _ _) (Ev.neg (by decide) ?_)
      rw [if_pos rfl]
      exact Ev.eq (by rw [show 0 + 1 = 1 from rfl]; omega) (rname_loop s hs s.size 1 (by omega) (by omega))
def isName (s : ByteArray) : Bool := decide (0 < s.size) && (decide (s.size ≤ 20) && decide (nameL (bytesOf s) = s.size))
theorem isName_ev (s : ByteArray) (hs : s.size ≤ 140737488355328) : Ev (fun k => token_IsName.f k s) (isName s) := by
  unfold token_IsName.f isName
  refine Ev.cond (fun h => Ev.val ?_) (fun h => ?_)
  · rw [decide_eq_false (by rw [list_nil.1 h]; omega), Bool.false_and]
  rw [list_nil] at h
  rw [decide_eq_true (by omega : 0 < s.size), Bool.true_and]
  refine Ev.cond (fun h1 => Ev.bind (name_ev s hs) (Ev.val ?_)) (fun h1 => Ev.val ?_)
  · rw [decide_eq_true (by omega : s.size ≤ 20), Bool.true_and, Bool.eq_iff_iff, beq_iff_eq, decide_eq_true_iff]; omega
  · rw [decide_eq_false (by omega), Bool.false_and]
theorem risName_ev (s : ByteArray) (hs : s.size ≤ 140737488355328) : Ev (fun k => ancepsref05_IsName.f k s) (isName s) := by
  unfold ancepsref05_IsName.f isName
  refine Ev.cond (fun h => Ev.val ?_) (fun h => ?_)
  · rw [decide_eq_false (by rw [list_nil.1 h]; omega), Bool.false_and]
  rw [list_nil] at h
  rw [decide_eq_true (by omega : 0 < s.size), Bool.true_and]
  refine Ev.cond (fun h1 => Ev.bind (rname_ev s hs) (Ev.val ?_)) (fun h1 => Ev.val ?_)
  · rw [decide_eq_true (by omega : s.size ≤ 20), Bool.true_and, Bool.eq_iff_iff, beq_iff_eq, decide_eq_true_iff]; omega
  · rw [decide_eq_false (by omega), Bool.false_and]
end Go.Proofs.Ytmjigfoldeekmaa.Lem
namespace Go.Proofs.Ytmjigfoldeekmaa.Lem
open Go.RowKit Go.Proofs.Ytmjigfoldeekmaa.X Go.Proofs.YtmjigfoldeekmaaW.PrintWords Go.Proofs.YtmjigfoldeekmaaW.PrintLast
theorem rdOf_getD (l : List ByteArray) (i : Nat) : rdOf ByteArray.empty l (i : Int) = l.getD i ByteArray.empty := by unfold rdOf; rw [Int.toNat_natCast]
theorem rdV (l : List S67) (i : Nat) : rd_T67 l (i : Int) = l.getD i z67 := by unfold rd_T67; rw [Int.toNat_natCast]
theorem rdR (l : List S65) (i : Nat) : rd_T65 l (i : Int) = l.getD i z65 := by unfold rd_T65; rw [Int.toNat_natCast]
theorem getD_lt {α : Type} (l : List α) (z : α) {i : Nat} (h : i < l.length) : l.getD i z = l[i] := by rw [List.getD_eq_getElem?_getD, List.getElem?_eq_getElem h]; rfl
theorem getD_in {α : Type} (l : List α) (z : α) {i : Nat} (h : i < l.length) : l.getD i z ∈ l := by rw [getD_lt l z h]; exact List.getElem_mem h
theorem drop_getD {α : Type} (l : List α) (z : α) {i : Nat} (h : i < l.length) : l.drop i = l.getD i z :: l.drop (i + 1) := by rw [getD_lt l z h, List.drop_eq_getElem_cons h]
/-! the index of a string -/
def idxF (s : ByteArray) : List ByteArray → Nat → Int
  | [], _ => -1
  | x :: l, i => if x = s then (i : Int) else idxF s l (i + 1)
theorem idxF_range (s : ByteArray) : ∀ (l : List ByteArray) (i : Nat), idxF s l i = -1 ∨ ((i : Int) ≤ idxF s l i ∧ idxF s l i < i + l.length)
  | [], i => .inl rfl
  | x :: l, i => by
    rw [idxF]
    split
    · right; simp only [List.length_cons]; omega
    · rcases idxF_range s l (i + 1) with h | h
      · exact .inl h
      · right; simp only [List.length_cons]; omega
theorem idxF_mem (s : ByteArray) : ∀ (l : List ByteArray) (i : Nat), 0 ≤ idxF s l i ↔ s ∈ l
  | [], i => by simp [idxF]
  | x :: l, i => by
    rw [idxF]
    by_cases h : x = s
    · rw [if_pos h]; simp [h]
    · rw [if_neg h, idxF_mem s l (i + 1), List.mem_cons]
      exact ⟨.inr, fun e => e.elim (fun e => absurd e.symm h) id⟩
theorem index_loop (l : List ByteArray) (s : ByteArray) (hl : l.length ≤ 1000000000) (d : Nat) : ∀ i : Nat, i + d = l.length → Ev (fun k => slices_Index_string_string.l0 k l s (l.length : Int) (i : Int)) (idxF s (l.drop i) i) := by
  induction d with
  | zero =>
    intro i hi
    rw [List.drop_of_length_le (by omega)]
    exact Ev.step (fun k => rfl) (Ev.neg (by omega) (Ev.val rfl))
  | succ d ih =>
    intro i hi
    rw [drop_getD l ByteArray.empty (by omega), idxF]
    refine Ev.step (fun k => rfl) (Ev.pos (by omega) (Ev.pos (by omega) (Ev.pos (by omega) ?_)))
    rw [rdOf_getD, w64 (by omega) (by omega)]
    refine Ev.cond (fun h => Ev.val ?_) (fun h => ?_)
    · rw [if_pos (bytes_ext.1 h).symm]
    · rw [if_neg (fun e => h (by rw [e]))]
      exact ih (i + 1) (by omega)
theorem index_ev (l : List ByteArray) (s : ByteArray) (hl : l.length ≤ 1000000000) : Ev (fun k => slices_Index_string_string.f k l s) (idxF s l 0) := index_loop l s hl l.length 0 (by omega)
theorem find_loop (l : List ByteArray) (s : ByteArray) (hl : l.length ≤ 1000000000) (d : Nat) : ∀ i : Nat, i + d = l.length → Ev (fun k => ancepsref57_find.l0 k l s (i : Int)) (idxF s (l.drop i) i) := by
  induction d with
  | zero =>
    intro i hi
    rw [List.drop_of_length_le (by omega)]
    exact Ev.step (fun k => rfl) (Ev.neg (by omega) (Ev.val rfl))
  | succ d ih =>
    intro i hi
    rw [drop_getD l ByteArray.empty (by omega), idxF]
    refine Ev.step (fun k => rfl) (Ev.pos (by omega) (Ev.pos (by omega) ?_))
    rw [rdOf_getD, w64 (by omega) (by omega)]
    refine Ev.cond (fun h => Ev.val ?_) (fun h => ?_)
    · rw [if_pos (bytes_ext.1 h)]
    · rw [if_neg (fun e => h (by rw [e]))]
      exact ih (i + 1) (by omega)
theorem find_ev (l : List ByteArray) (s : ByteArray) (hl : l.length ≤ 1000000000) : Ev (fun k => ancepsref57_find.f k l s) (idxF s l 0) := find_loop l s hl l.length 0 (by omega)
/-! the names of witnesses -/
def namesF (l : List ByteArray) : Nat → Nat → Int
  | 0, _ => 0
  | d + 1, i => if isName (l.getD i ByteArray.empty) = true then (if 0 ≤ idxF (l.getD i ByteArray.empty) (l.take i) 0 then 5 else namesF l d (i + 1)) else 2
def namesS (l : List ByteArray) : Int := if l.length = 0 then 7 else if 8 < l.length then 3 else namesF l l.length 0
def Small (l : List ByteArray) : Prop := ∀ x ∈ l, x.size ≤ 140737488355328
theorem Small.at_ {l : List ByteArray} (h : Small l) {i : Nat} (hi : i < l.length) : (l.getD i ByteArray.empty).size ≤ 140737488355328 := h _ (getD_in l _ hi)
theorem contains_ev (l : List ByteArray) (s : ByteArray) (hl : l.length ≤ 1000000000) : Ev (fun k => slices_Contains_string_string.f k l s) (decide (idxF s l 0 ≥ 0)) := by
  unfold slices_Contains_string_string.f
  exact Ev.bind (index_ev l s hl) (Ev.val rfl)
theorem names_loop (l : List ByteArray) (hs : Small l) (hl : l.length ≤ 1000000) (d : Nat) : ∀ i : Nat, i + d = l.length → Ev (fun k => apparatus_names.l0 k l l (l.length : Int) (i : Int)) (namesF l d i) := by
  induction d with
  | zero =>
    intro i hi
    exact Ev.step (fun k => rfl) (Ev.neg (by omega) (Ev.val rfl))
  | succ d ih =>
    intro i hi
    refine Ev.step (fun k => rfl) (Ev.pos (by omega) (Ev.pos (by omega) (Ev.pos (by omega) ?_)))
    rw [rdOf_getD, namesF, w64 (by omega) (by omega), Int.toNat_natCast]
    refine Ev.bind (isName_ev _ (hs.at_ (by omega))) (Ev.cond (fun h => ?_) (fun h => Ev.val (by rw [if_neg h])))
    rw [if_pos h]
    refine Ev.pos (by omega) (Ev.bind (contains_ev (l.take i) _ (by rw [List.length_take]; omega)) (Ev.cond (fun h1 => Ev.val ?_) (fun h1 => ?_)))
    · rw [if_pos (of_decide_eq_true h1)]
    · rw [if_neg (fun e => h1 (decide_eq_true e))]
      exact ih (i + 1) (by omega)
theorem names_ev (l : List ByteArray) (hs : Small l) (hl : l.length ≤ 1000000) : Ev (fun k => apparatus_names.f k l) (namesS l) := by
  unfold apparatus_names.f namesS
  refine Ev.cond (fun h => Ev.val (by rw [if_pos (by omega)])) (fun h => ?_)
  rw [if_neg (by omega)]
  refine Ev.cond (fun h => Ev.val (by rw [if_pos (by omega)])) (fun h => ?_)
  rw [if_neg (by omega)]
  exact names_loop l hs hl l.length 0 (by omega)
theorem rnames_loop (l : List ByteArray) (hs : Small l) (hl : l.length ≤ 1000000) (d : Nat) : ∀ i : Nat, i + d = l.length → Ev (fun k => ancepsref57_names.l0 k l (i : Int)) (namesF l d i) := by
  induction d with
  | zero =>
    intro i hi
    exact Ev.step (fun k => rfl) (Ev.neg (by omega) (Ev.val rfl))
  | succ d ih =>
    intro i hi
    refine Ev.step (fun k => rfl) (Ev.pos (by omega) (Ev.pos (by omega) ?_))
    rw [rdOf_getD, namesF, w64 (by omega) (by omega), Int.toNat_natCast]
    refine Ev.bind (risName_ev _ (hs.at_ (by omega))) (Ev.cond (fun h => ?_) (fun h => Ev.val (by rw [if_neg h])))
    rw [if_pos h]
    refine Ev.pos (by omega) (Ev.bind (find_ev (l.take i) _ (by rw [List.length_take]; omega)) (Ev.cond (fun h1 => Ev.val (by rw [if_pos h1])) (fun h1 => ?_)))
    rw [if_neg h1]
    exact ih (i + 1) (by omega)
theorem rnames_ev (l : List ByteArray) (hs : Small l) (hl : l.length ≤ 1000000) : Ev (fun k => ancepsref57_names.f k l) (namesS l) := by
  unfold ancepsref57_names.f namesS
  refine Ev.cond (fun h => Ev.val (by rw [if_pos (by omega)])) (fun h => ?_)
  rw [if_neg (by omega)]
  refine Ev.cond (fun h => Ev.val (by rw [if_pos (by omega)])) (fun h => ?_)
  rw [if_neg (by omega)]
  exact rnames_loop l hs hl l.length 0 (by omega)
/-! rows -/
def SmallV (l : List S67) : Prop := ∀ x ∈ l, x.f0.size ≤ 140737488355328
theorem SmallV.at_ {l : List S67} (h : SmallV l) {i : Nat} (hi : i < l.length) : (l.getD i z67).f0.size ≤ 140737488355328 := h _ (getD_in l _ hi)
def rowF (t : ByteArray) (l : List S67) (n : Nat) : Nat → Nat → Int → Int
  | 0, _, _ => 0
  | d + 1, i, taken => if validS (l.getD i z67).f0 = 0 then (if (l.getD i z67).f0 = t then 5 else if 0 ≤ idxF (l.getD i z67).f0 ((l.take i).map (·.f0)) 0 then 5 else if (l.getD i z67).f1 < 0 ∨ (l.getD i z67).f1 ≥ 2 ^ n then 6 else if Go.bits .and .i64 (l.getD i z67).f1 taken = 0 then rowF t l n d (i + 1) (Go.bits .or .i64 taken (l.getD i z67).f1) else 12) else validS (l.getD i z67).f0
def rowS (t : ByteArray) (l : List S67) (n : Nat) : Int := if validS t = 0 then (if 8 < l.length then 3 else rowF t l n l.length 0 0) else validS t
theorem rowi_loop (l : List S67) (s : ByteArray) (hl : l.length ≤ 1000000) (d : Nat) : ∀ i : Nat, i + d = l.length → Ev (fun k => apparatus_row.i0 k l s (i : Int)) (idxF s ((l.drop i).map (·.f0)) i) := by
  induction d with
  | zero =>
    intro i hi
    rw [List.drop_of_length_le (by omega)]
    exact Ev.step (fun k => rfl) (Ev.neg (by omega) (Ev.val rfl))
  | succ d ih =>
    intro i hi
    rw [drop_getD l z67 (by omega), List.map_cons, idxF]
    refine Ev.step (fun k => rfl) (Ev.pos (by omega) (Ev.pos (by omega) ?_))
    rw [rdV, w64 (by omega) (by omega)]
    refine Ev.cond (fun h => Ev.val ?_) (fun h => ?_)
    · rw [if_pos (bytes_ext.1 h)]
    · rw [if_neg (fun e => h (by rw [e]))]
      exact ih (i + 1) (by omega)
theorem pow_div (x : Int) (n : Nat) (h : 0 ≤ x) : x / 2 ^ n = 0 ↔ x < 2 ^ n := by
  have hp : (0 : Int) < 2 ^ n := Int.pow_pos (by decide)
  constructor
  · intro h1
    have := Int.lt_mul_ediv_self_add (x := x) hp
    rw [h1] at this
    omega
  · exact fun h1 => Int.ediv_eq_zero_of_lt h h1
theorem shl_one (n : Nat) (h : n ≤ 62) : shl .i64 1 (n : Int) = 2 ^ n := by
  have h2 : (2 : Int) ^ n ≤ 2 ^ 62 := by
    have : (2 : Nat) ^ n ≤ 2 ^ 62 := Nat.pow_le_pow_right (by decide) h
    exact_mod_cast this
  have h3 : (0 : Int) < 2 ^ n := Int.pow_pos (by decide)
  obtain ⟨sh, hsh⟩ : ∃ sh : Int, shl .i64 1 (n : Int) = sh := ⟨_, rfl⟩
  have hz := shl_small hsh (by show (n : Int) ≤ 64; omega)
  rw [Int.one_mul, Int.toNat_natCast, i64_w] at hz
  rw [hsh, ← hz]
  generalize (2 : Int) ^ n = p at h2 h3
  exact w64 (by omega) (by omega)
theorem row_loop (t : ByteArray) (l : List S67) (n : Nat) (hs : SmallV l) (hl : l.length ≤ 1000000) (d : Nat) : ∀ (i : Nat) (taken : Int), i + d = l.length → Ev (fun k => apparatus_row.l0 k t l (n : Int) taken (i : Int)) (rowF t l n d i taken) := by
  induction d with
  | zero =>
    intro i taken hi
    exact Ev.step (fun k => rfl) (Ev.neg (by omega) (Ev.val rfl))
  | succ d ih =>
    intro i taken hi
    refine Ev.step (fun k => rfl) (Ev.pos (by omega) (Ev.pos (by omega) ?_))
    rw [rdV, rowF, w64 (by omega) (by omega), Int.toNat_natCast, Int.toNat_natCast]
    refine Ev.bind (valid_ev _ (hs.at_ (by omega))) (Ev.cond (fun h => ?_) (fun h => Ev.val (by rw [if_neg h])))
    rw [if_pos h]
    refine Ev.cond (fun h1 => Ev.val (by rw [if_pos (bytes_ext.1 h1)])) (fun h1 => ?_)
    rw [if_neg (fun e => h1 (by rw [e]))]
    have hi0 := rowi_loop (l.take i) (l.getD i z67).f0 (by rw [List.length_take]; omega) (l.take i).length 0 (by omega)
    rw [List.drop_zero] at hi0
    refine Ev.bind hi0 (Ev.cond (fun h2 => Ev.val (by rw [if_pos h2])) (fun h2 => ?_))
    rw [if_neg h2]
    refine Ev.cond (fun h3 => Ev.val (by rw [if_pos (.inl h3)])) (fun h3 => ?_)
    have hpd := pow_div (l.getD i z67).f1 n (by omega)
    refine Ev.cond (fun h4 => ?_) (fun h4 => Ev.val ?_)
    · rw [if_neg (fun e => e.elim h3 (fun e => by have := hpd.1 h4; omega))]
      exact Ev.cond (fun h5 => by rw [if_pos h5]; exact ih (i + 1) _ (by omega)) (fun h5 => Ev.val (by rw [if_neg h5]))
    · rw [if_pos (.inr (by have := fun e => h4 (hpd.2 e); omega))]
theorem row_ev (t : ByteArray) (l : List S67) (n : Nat) (hn : n ≤ 62) (ht : t.size ≤ 140737488355328) (hs : SmallV l) (hl : l.length ≤ 1000000) : Ev (fun k => apparatus_row.f k t l (n : Int)) (rowS t l n) := by
  unfold apparatus_row.f rowS
  refine Ev.bind (valid_ev t ht) (Ev.cond (fun h => ?_) (fun h => Ev.val (by rw [if_neg h])))
  rw [if_pos h]
  refine Ev.cond (fun h1 => Ev.val (by rw [if_pos (by omega)])) (fun h1 => ?_)
  rw [if_neg (by omega)]
  exact Ev.pos (by omega) (row_loop t l n hs hl l.length 0 0 (by omega))
/-! an apparatus -/
def SmallR (l : List S65) : Prop := l.length ≤ 1000000 ∧ ∀ x ∈ l, x.f0.size ≤ 140737488355328 ∧ SmallV x.f1 ∧ x.f1.length ≤ 1000000
theorem SmallR.at_ {l : List S65} (h : SmallR l) {i : Nat} (hi : i < l.length) : (l.getD i z65).f0.size ≤ 140737488355328 ∧ SmallV (l.getD i z65).f1 ∧ (l.getD i z65).f1.length ≤ 1000000 := h.2 _ (getD_in l _ hi)
def rowsF (l : List S65) (n : Nat) : Nat → Nat → Int
  | 0, _ => 0
  | d + 1, i => if rowS (l.getD i z65).f0 (l.getD i z65).f1 n = 0 then rowsF l n d (i + 1) else rowS (l.getD i z65).f0 (l.getD i z65).f1 n
def appS (ws : List ByteArray) (l : List S65) : Int := if namesS ws = 0 then (if 200 < l.length then 3 else rowsF l ws.length l.length 0) else namesS ws
theorem namesS_len {l : List ByteArray} (h : namesS l = 0) : 0 < l.length ∧ l.length ≤ 8 := by
  unfold namesS at h
  by_cases h1 : l.length = 0
  · rw [if_pos h1] at h; cases h
  · rw [if_neg h1] at h
    by_cases h2 : 8 < l.length
    · rw [if_pos h2] at h; cases h
    · omega
theorem appV_loop (ws : List ByteArray) (hw : ws.length ≤ 62) (l : List S65) (hs : SmallR l) (d : Nat) : ∀ i : Nat, i + d = l.length → Ev (fun k => apparatus_Valid.l0 k l (l.length : Int) (i : Int) ws l) (rowsF l ws.length d i) := by
  have hl := hs.1
  induction d with
  | zero =>
    intro i hi
    exact Ev.step (fun k => rfl) (Ev.neg (by omega) (Ev.val rfl))
  | succ d ih =>
    intro i hi
    obtain ⟨h1, h2, h3⟩ := hs.at_ (show i < l.length by omega)
    refine Ev.step (fun k => rfl) (Ev.pos (by omega) (Ev.pos (by omega) (Ev.pos (by omega) ?_)))
    rw [rdR, rowsF, w64 (by omega) (by omega)]
    refine Ev.bind (row_ev _ _ ws.length hw h1 h2 h3) (Ev.cond (fun h => ?_) (fun h => Ev.val (by rw [if_neg h])))
    rw [if_pos h]
    exact ih (i + 1) (by omega)
theorem appV_ev (ws : List ByteArray) (l : List S65) (hw : Small ws) (hwl : ws.length ≤ 1000000) (hs : SmallR l) : Ev (fun k => apparatus_Valid.f k ws l) (appS ws l) := by
  unfold apparatus_Valid.f appS
  refine Ev.bind (names_ev ws hw hwl) (Ev.cond (fun h => ?_) (fun h => Ev.val (by rw [if_neg h])))
  rw [if_pos h]
  have := namesS_len h
  refine Ev.cond (fun h1 => Ev.val (by rw [if_pos (by omega)])) (fun h1 => ?_)
  rw [if_neg (by omega)]
  exact appV_loop ws (by omega) l hs l.length 0 (by omega)
theorem appS_ok {ws : List ByteArray} {l : List S65} (h : appS ws l = 0) : namesS ws = 0 ∧ l.length ≤ 200 := by
  unfold appS at h
  by_cases h1 : namesS ws = 0
  · rw [if_pos h1] at h
    by_cases h2 : 200 < l.length
    · rw [if_pos h2] at h; cases h
    · exact ⟨h1, by omega⟩
  · rw [if_neg h1] at h; exact absurd h h1
/-! what a witness has -/
def hasF (t : ByteArray) (w : Int) : List S67 → ByteArray
  | [] => t
  | v :: l => if Go.bits .and .i64 (shr .i64 v.f1 w) 1 = 1 then v.f0 else hasF t w l
def hasS (r : S65) (w : Int) : ByteArray := hasF r.f0 w r.f1
theorem has_loop (t : ByteArray) (w : Int) (hw : 0 ≤ w) (l : List S67) (hl : l.length ≤ 1000000) (d : Nat) : ∀ i : Nat, i + d = l.length → Ev (fun k => apparatus_has.l0 k w l (l.length : Int) (i : Int) t l) (hasF t w (l.drop i)) := by
  induction d with
  | zero =>
    intro i hi
    rw [List.drop_of_length_le (by omega)]
    exact Ev.step (fun k => rfl) (Ev.neg (by omega) (Ev.val rfl))
  | succ d ih =>
    intro i hi
    rw [drop_getD l z67 (by omega), hasF]
    refine Ev.step (fun k => rfl) (Ev.pos (by omega) (Ev.pos (by omega) (Ev.pos (by omega) (Ev.pos hw ?_))))
    rw [rdV, w64 (by omega) (by omega)]
    refine Ev.cond (fun h => Ev.val (by rw [if_pos h])) (fun h => ?_)
    rw [if_neg h]
    exact ih (i + 1) (by omega)
theorem has_ev (r : S65) (w : Int) (hw : 0 ≤ w) (hl : r.f1.length ≤ 1000000) : Ev (fun k => apparatus_has.f k r.f0 r.f1 w) (hasS r w) := has_loop r.f0 w hw r.f1 hl r.f1.length 0 (by omega)
/-! how often two agree -/
def agreeF (x y : Int) : List S65 → Nat
  | [] => 0
  | r :: l => (if hasS r x = hasS r y then 1 else 0) + agreeF x y l
theorem agreeF_le (x y : Int) : ∀ l : List S65, agreeF x y l ≤ l.length
  | [] => Nat.le_refl _
  | r :: l => by have := agreeF_le x y l; rw [agreeF, List.length_cons]; split <;> omega
theorem agreeF_comm (x y : Int) : ∀ l : List S65, agreeF x y l = agreeF y x l
  | [] => rfl
  | r :: l => by
    rw [agreeF, agreeF, agreeF_comm x y l]
    by_cases h : hasS r x = hasS r y
    · rw [if_pos h, if_pos h.symm]
    · rw [if_neg h, if_neg (fun e => h e.symm)]
theorem agreeF_all (x y : Int) : ∀ l : List S65, agreeF x y l = l.length ↔ ∀ r ∈ l, hasS r x = hasS r y
  | [] => by simp [agreeF]
  | r :: l => by
    have h1 := agreeF_le x y l
    have h2 := agreeF_all x y l
    rw [agreeF, List.length_cons]
    constructor
    · intro h r' hr'
      by_cases e : hasS r x = hasS r y
      · rw [if_pos e] at h
        rcases List.mem_cons.1 hr' with rfl | hr'
        · exact e
        · exact h2.1 (by omega) r' hr'
      · rw [if_neg e] at h; omega
    · intro h
      rw [if_pos (h r (List.mem_cons_self ..)), h2.2 (fun r' hr' => h r' (List.mem_cons_of_mem _ hr'))]
      omega
/-! the index of a witness -/
def witS (ws : List ByteArray) (l : List S65) (s : ByteArray) : Int × Int := if appS ws l = 0 then (if idxF s ws 0 < 0 then (0, 4) else (idxF s ws 0, 0)) else (0, appS ws l)
theorem wit_ev (ws : List ByteArray) (l : List S65) (s : ByteArray) (hw : Small ws) (hwl : ws.length ≤ 1000000) (hs : SmallR l) : Ev (fun k => apparatus_witness.f k ws l s) (witS ws l s) := by
  unfold apparatus_witness.f witS
  refine Ev.bind (appV_ev ws l hw hwl hs) (Ev.cond (fun h => ?_) (fun h => Ev.val (by rw [if_neg h])))
  rw [if_pos h]
  exact Ev.bind (index_ev ws s (by omega)) (Ev.cond (fun h1 => Ev.val (by rw [if_pos h1])) (fun h1 => Ev.val (by rw [if_neg h1])))

/-! names that differ -/
theorem namesF_dis (l : List ByteArray) (d : Nat) : ∀ i, namesF l d i = 0 → ∀ j, i ≤ j → j < i + d → idxF (l.getD j ByteArray.empty) (l.take j) 0 < 0 := by
  induction d with
  | zero => intro i _ j h1 h2; omega
  | succ d ih =>
    intro i h j h1 h2
    rw [namesF] at h
    split at h
    · split at h
      · cases h
      · rename_i h3
        by_cases e : j = i
        · subst e; omega
        · exact ih (i + 1) h j (by omega) (by omega)
    · cases h
theorem names_ne {l : List ByteArray} (h : namesS l = 0) {u j : Nat} (hu : u < j) (hj : j < l.length) : l.getD u ByteArray.empty ≠ l.getD j ByteArray.empty := by
  have hl := namesS_len h
  unfold namesS at h
  rw [if_neg (by omega), if_neg (by omega)] at h
  have h1 := namesF_dis l l.length 0 h j (by omega) (by omega)
  intro e
  have h2 := (idxF_mem (l.getD j ByteArray.empty) (l.take j) 0).2 (by
    rw [← e, getD_lt l _ (by omega : u < l.length), List.mem_take_iff_getElem]
    exact ⟨u, by omega, rfl⟩)
  omega
theorem idxF_at (s : ByteArray) : ∀ (l : List ByteArray) (i j : Nat), j < l.length → l.getD j ByteArray.empty = s → (∀ u, u < j → l.getD u ByteArray.empty ≠ s) → idxF s l i = ((i + j : Nat) : Int)
  | [], i, j, h, _, _ => absurd h (Nat.not_lt_zero _)
  | x :: l, i, 0, _, h, _ => by
    have : x = s := h
    rw [idxF, if_pos this]; rfl
  | x :: l, i, j + 1, hj, h, hu => by
    have h0 : ¬ x = s := hu 0 (by omega)
    rw [idxF, if_neg h0, idxF_at s l (i + 1) j (by rw [List.length_cons] at hj; omega) h (fun u hlt => hu (u + 1) (by omega))]
    congr 1; omega
theorem idxF_name {l : List ByteArray} (h : namesS l = 0) {j : Nat} (hj : j < l.length) : idxF (l.getD j ByteArray.empty) l 0 = (j : Int) := by
  have := idxF_at (l.getD j ByteArray.empty) l 0 j hj rfl (fun u hu => names_ne h hu hj)
  rw [Nat.zero_add] at this
  exact this
end Go.Proofs.Ytmjigfoldeekmaa.Lem
namespace Go.Proofs.Ytmjigfoldeekmaa.Lem
open Go.RowKit Go.Proofs.Ytmjigfoldeekmaa.X Go.Proofs.YtmjigfoldeekmaaW.PrintWords Go.Proofs.YtmjigfoldeekmaaW.PrintLast Go.Proofs.YtmjigfoldeekmaaW.PrintMore
/-! bits of natural numbers -/
theorem ofInt_nat (a : Nat) (ha : a < 2 ^ 64) : (BitVec.ofInt 64 (a : Int)).toNat = a := by rw [BitVec.ofInt_natCast, BitVec.toNat_ofNat, Nat.mod_eq_of_lt ha]
theorem wrap_nat (a : Nat) (ha : a < 2 ^ 62) : IntKind.i64.wrap (a : Int) = a := by
  rw [i64_w]
  exact w64 (by omega) (by omega)
theorem bits_or (a b : Nat) (ha : a < 2 ^ 62) (hb : b < 2 ^ 62) : Go.bits .or .i64 (a : Int) (b : Int) = ((a ||| b : Nat) : Int) := by
  show IntKind.i64.wrap ((BitVec.ofInt 64 (a : Int) ||| BitVec.ofInt 64 (b : Int)).toNat : Int) = _
  rw [BitVec.toNat_or, ofInt_nat a (by omega), ofInt_nat b (by omega)]
  exact wrap_nat _ (Nat.or_lt_two_pow ha hb)
theorem bits_and (a b : Nat) (ha : a < 2 ^ 62) (hb : b < 2 ^ 62) : Go.bits .and .i64 (a : Int) (b : Int) = ((a &&& b : Nat) : Int) := by
  show IntKind.i64.wrap ((BitVec.ofInt 64 (a : Int) &&& BitVec.ofInt 64 (b : Int)).toNat : Int) = _
  rw [BitVec.toNat_and, ofInt_nat a (by omega), ofInt_nat b (by omega)]
  exact wrap_nat _ (Nat.and_lt_two_pow _ hb)
theorem shr_nat (m w : Nat) (hw : w ≤ 62) : shr .i64 (m : Int) (w : Int) = ((m / 2 ^ w : Nat) : Int) := by
  unfold shr
  have e : min (w : Int).toNat IntKind.i64.bits = w := by
    rw [Int.toNat_natCast]
    exact Nat.min_eq_left (by show w ≤ 64; omega)
  rw [e]
  norm_cast
theorem bit_iff (m w : Nat) (hm : m < 2 ^ 62) (hw : w ≤ 62) : Go.bits .and .i64 (shr .i64 (m : Int) (w : Int)) 1 = 1 ↔ m.testBit w = true := by
  rw [shr_nat m w hw]
  have h := bits_and (m / 2 ^ w) 1 (Nat.lt_of_le_of_lt (Nat.div_le_self ..) hm) (by decide)
  rw [show ((1 : Nat) : Int) = 1 from rfl] at h
  rw [h, Nat.and_one_is_mod, Nat.testBit_eq_decide_div_mod_eq, decide_eq_true_iff]
  omega
end Go.Proofs.Ytmjigfoldeekmaa.Lem
