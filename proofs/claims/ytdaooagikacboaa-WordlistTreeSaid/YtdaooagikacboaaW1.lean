/- Chapter 54: letters, words, lists and masks, in plain words. -/
import Derived.Test.YtdaooagikacboaaBase
import Derived.Test.YtdaooagikacboaaX2
import Derived.Test.YtdaooagikacboaaX7
import Derived.Test.YtdaooagikacboaaX0
namespace Go.Proofs.Ytdaooagikacboaa.Lem
open Go.RowKit Go.Proofs.Ytdaooagikacboaa.X Go.Proofs.YtdaooagikacboaaW.PrintWords Go.Proofs.YtdaooagikacboaaW.PrintLast
theorem Ev.eq {α : Type} {g : Nat → Option α} {a b : α} (h : a = b) (k : Ev g a) : Ev g b := h ▸ k
theorem bt_range (s : ByteArray) (i : Int) : 0 ≤ bt s i ∧ bt s i ≤ 255 := by
  unfold bt; split
  · have := UInt8.toNat_lt (s[i.toNat]); omega
  · omega
theorem rdOf_at (l : List ByteArray) (i : Nat) (h : i < l.length) : rdOf ByteArray.empty l (i : Int) = l[i] := by
  unfold rdOf; rw [Int.toNat_natCast, List.getD_eq_getElem?_getD, List.getElem?_eq_getElem h]; rfl
theorem str_bytes (s : ByteArray) : strOfNums (bytesOf s) = s := bytesOf_inj (bytesOf_str _ (fun c hc => bytesOf_range s c hc))
/-! letters -/
def puncts : List Int := [32, 46, 44, 59, 58, 33, 63, 34, 45, 91, 93, 60, 62, 123, 125]
def letB (c : Int) : Bool := decide (32 ≤ c) && decide (c ≤ 126) && !puncts.contains c
def smallB (c : Int) : Bool := letB c && !(decide (65 ≤ c) && decide (c ≤ 90))
theorem letter_all : ∀ n : Fin 256, wordlist_letter.f 10 ((n.val : Nat) : Int) = some (letB ((n.val : Nat) : Int)) := by decide +kernel
theorem rletter_all : ∀ n : Fin 256, ancepsref01_Letter.f 20 ((n.val : Nat) : Int) = some (letB ((n.val : Nat) : Int)) := by decide +kernel
theorem letter_ev {c : Int} (h : 0 ≤ c ∧ c ≤ 255) : Ev (fun k => wordlist_letter.f k c) (letB c) := by obtain ⟨n, rfl⟩ := byte_fin h; exact Ev.of (fun k => wordlist_letter.mono _ k) (letter_all n)
theorem rletter_ev {c : Int} (h : 0 ≤ c ∧ c ≤ 255) : Ev (fun k => ancepsref01_Letter.f k c) (letB c) := by obtain ⟨n, rfl⟩ := byte_fin h; exact Ev.of (fun k => ancepsref01_Letter.mono _ k) (rletter_all n)
theorem smallB_of (c : Int) : smallB c = if letB c = true then (if c < 65 then true else decide (c > 90)) else false := by
  unfold smallB
  by_cases h : letB c = true
  · rw [if_pos h, h, Bool.true_and]
    by_cases h1 : c < 65
    · rw [if_pos h1, decide_eq_false (by omega)]; rfl
    · rw [if_neg h1, decide_eq_true (by omega), Bool.true_and]
      by_cases h2 : c ≤ 90
      · rw [decide_eq_true h2, decide_eq_false (by omega)]; rfl
      · rw [decide_eq_false h2, decide_eq_true (by omega)]; rfl
  · rw [if_neg h, Bool.eq_false_iff.2 h]; rfl
theorem small_ev {c : Int} (h : 0 ≤ c ∧ c ≤ 255) : Ev (fun k => wordlist_small.f k c) (smallB c) := by
  unfold wordlist_small.f
  refine Ev.bind (letter_ev h) ?_
  rw [smallB_of]
  refine Ev.cond (fun h1 => ?_) (fun h1 => Ev.val (by rw [if_neg h1]))
  rw [if_pos h1]
  exact Ev.cond (fun h2 => Ev.val (by rw [if_pos h2])) (fun h2 => Ev.val (by rw [if_neg h2]))
theorem rsmall_ev {c : Int} (h : 0 ≤ c ∧ c ≤ 255) : Ev (fun k => ancepsref54_letter.f k c) (smallB c) := by
  unfold ancepsref54_letter.f
  refine Ev.bind (rletter_ev h) ?_
  rw [smallB_of]
  refine Ev.cond (fun h1 => ?_) (fun h1 => Ev.val (by rw [if_neg h1]))
  rw [if_pos h1]
  exact Ev.cond (fun h2 => Ev.val (by rw [if_pos h2])) (fun h2 => Ev.val (by rw [if_neg h2]))
theorem small_let {c : Int} (h : smallB c = true) : letB c = true := by
  unfold smallB at h
  cases hl : letB c with
  | true => rfl
  | false => rw [hl] at h; cases h
theorem let_not63 {c : Int} (h : letB c = true) : c ≠ 63 := by rintro rfl; revert h; decide
/-! a row of bytes, asked for one that is not so -/
theorem wrong1_ev {c : Int} (h : 0 ≤ c ∧ c ≤ 255) : Ev (fun k => wordlist_wrong_1.f k c) (!smallB c) := by
  unfold wordlist_wrong_1.f
  exact Ev.bind (small_ev h) (Ev.val rfl)
theorem wrongs_loop (s : ByteArray) (hs : s.size ≤ 1000000) (d : Nat) : ∀ i : Nat, i + d = s.size → ∃ t : Int, Ev (fun k => slices_IndexFunc_byte_byte_wordlist_wrong_1.l0 k (bytesOf s) ((bytesOf s).length : Int) (i : Int)) t ∧ (t ≥ 0 ↔ ((bytesOf s).drop i).all smallB = false) := by
  induction d with
  | zero =>
    intro i hi
    refine ⟨-1, Ev.step (fun k => rfl) (Ev.neg (by rw [bytesOf_length]; omega) (Ev.val rfl)), ?_⟩
    rw [drop_ge s i (by omega)]
    exact ⟨fun h => absurd h (by decide), fun h => absurd h (by decide)⟩
  | succ d ih =>
    intro i hi
    obtain ⟨t, ht, hh⟩ := ih (i + 1) (by omega)
    rw [drop_lt s i (by omega), List.all_cons]
    cases hin : smallB (bt s i) with
    | false =>
      refine ⟨(i : Int), Ev.step (fun k => rfl) (Ev.pos (by rw [bytesOf_length]; omega) (Ev.pos (by omega) (Ev.pos (by rw [bytesOf_length]; omega) ?_))), ⟨fun _ => rfl, fun _ => by omega⟩⟩
      rw [rd_bytesOf]
      refine Ev.bind (wrong1_ev (bt_range s i)) ?_
      rw [hin]
      exact Ev.pos rfl (Ev.val rfl)
    | true =>
      refine ⟨t, Ev.step (fun k => rfl) (Ev.pos (by rw [bytesOf_length]; omega) (Ev.pos (by omega) (Ev.pos (by rw [bytesOf_length]; omega) ?_))), by rw [Bool.true_and]; exact hh⟩
      rw [rd_bytesOf]
      refine Ev.bind (wrong1_ev (bt_range s i)) ?_
      rw [hin, w64 (by omega) (by omega)]
      exact Ev.neg Bool.false_ne_true ht
theorem wrongs_ev (s : ByteArray) (hs : s.size ≤ 1000000) : Ev (fun k => slices_ContainsFunc_byte_byte_wordlist_wrong_1.f k (bytesOf s)) (!(bytesOf s).all smallB) := by
  obtain ⟨t, ht, hh⟩ := wrongs_loop s hs s.size 0 (by omega)
  unfold slices_ContainsFunc_byte_byte_wordlist_wrong_1.f slices_IndexFunc_byte_byte_wordlist_wrong_1.f
  refine Ev.bind ht (Ev.val ?_)
  rw [List.drop_zero] at hh
  by_cases h : t ≥ 0
  · rw [decide_eq_true h, hh.1 h]; rfl
  · rw [decide_eq_false h]
    cases ha : (bytesOf s).all smallB with
    | true => rfl
    | false => exact absurd (hh.2 ha) h
/-! words -/
def wrongS (s : ByteArray) : Int := if s.size = 0 then 7 else if 16 < s.size then 3 else if (bytesOf s).all smallB = true then 0 else 2
theorem wrong_ev (s : ByteArray) : Ev (fun k => wordlist_wrong.f k s) (wrongS s) := by
  unfold wordlist_wrong.f wrongS
  refine Ev.cond (fun h => Ev.val (by rw [if_pos (list_nil.1 h)])) (fun h => ?_)
  rw [if_neg (fun h2 => h (list_nil.2 h2))]
  refine Ev.cond (fun h2 => Ev.val (by rw [if_pos (by omega)])) (fun h2 => ?_)
  rw [if_neg (by omega)]
  refine Ev.pos (by omega) (Ev.bind (wrongs_ev s (by omega)) ?_)
  cases (bytesOf s).all smallB with
  | true => exact Ev.neg (by decide) (Ev.val rfl)
  | false => exact Ev.pos rfl (Ev.val rfl)
theorem word_loop (s : ByteArray) (hs : s.size ≤ 1000000) (d : Nat) : ∀ i : Nat, i + d = s.size → Ev (fun k => ancepsref54_Word.l0 k s (i : Int)) (if ((bytesOf s).drop i).all smallB = true then 0 else 2) := by
  induction d with
  | zero =>
    intro i hi
    rw [drop_ge s i (by omega)]
    exact Ev.step (fun k => rfl) (Ev.neg (by omega) (Ev.val rfl))
  | succ d ih =>
    intro i hi
    rw [drop_lt s i (by omega), List.all_cons]
    refine Ev.step (fun k => rfl) (Ev.pos (by omega) (Ev.pos (by omega) (Ev.bind (rsmall_ev (bt_range s i)) ?_)))
    cases smallB (bt s i) with
    | true => rw [w64 (by omega) (by omega), Bool.true_and]; exact Ev.pos rfl (ih (i + 1) (by omega))
    | false => exact Ev.neg Bool.false_ne_true (Ev.val rfl)
theorem word_ev (s : ByteArray) : Ev (fun k => ancepsref54_Word.f k s) (wrongS s) := by
  unfold ancepsref54_Word.f wrongS
  refine Ev.cond (fun h => Ev.val (by rw [if_pos (list_nil.1 h)])) (fun h => ?_)
  rw [if_neg (fun h2 => h (list_nil.2 h2))]
  refine Ev.cond (fun h2 => Ev.val (by rw [if_pos (by omega)])) (fun h2 => ?_)
  rw [if_neg (by omega)]
  exact word_loop s (by omega) s.size 0 (by omega)
theorem wrongS_ok {s : ByteArray} (h : wrongS s = 0) : 0 < s.size ∧ s.size ≤ 16 ∧ (bytesOf s).all smallB = true := by
  unfold wrongS at h
  by_cases h1 : s.size = 0
  · rw [if_pos h1] at h; cases h
  · rw [if_neg h1] at h
    by_cases h2 : 16 < s.size
    · rw [if_pos h2] at h; cases h
    · rw [if_neg h2] at h
      by_cases h3 : (bytesOf s).all smallB = true
      · exact ⟨by omega, by omega, h3⟩
      · rw [if_neg h3] at h; cases h
/-! lists -/
def less (x y : ByteArray) : Bool := Op.bytesLess x.toList y.toList
def entS (l : List ByteArray) (i : Nat) : Int := if wrongS (l.getD i ByteArray.empty) = 0 then (if 0 < i then (if less (l.getD (i - 1) ByteArray.empty) (l.getD i ByteArray.empty) = true then 0 else 18) else 0) else wrongS (l.getD i ByteArray.empty)
theorem rdOf_getD (l : List ByteArray) (i : Nat) : rdOf ByteArray.empty l (i : Int) = l.getD i ByteArray.empty := by unfold rdOf; rw [Int.toNat_natCast]
theorem entry_ev (l : List ByteArray) (i : Nat) (h : i < l.length) (hl : l.length ≤ 1000000000) : Ev (fun k => wordlist_entry.f k l (i : Int)) (entS l i) := by
  unfold wordlist_entry.f entS
  refine Ev.pos (by omega) (Ev.pos (by omega) ?_)
  rw [rdOf_getD]
  refine Ev.bind (wrong_ev _) (Ev.cond (fun h0 => ?_) (fun h0 => Ev.val (by rw [if_neg h0])))
  rw [if_pos h0]
  refine Ev.cond (fun h1 => ?_) (fun h1 => Ev.val (by rw [if_neg (by omega)]))
  rw [if_pos (show 0 < i by omega), w64 (by omega) (by omega), show (i : Int) - 1 = ((i - 1 : Nat) : Int) by omega, rdOf_getD]
  refine Ev.pos (by omega) (Ev.pos (by omega) ?_)
  exact Ev.cond (fun h2 => Ev.val (by rw [if_pos (show less _ _ = true from h2)])) (fun h2 => Ev.val (by rw [if_neg (show ¬ less _ _ = true from h2)]))
def errI (l : List ByteArray) : Nat → Nat → Int × Int
  | 0, _ => (-1, 0)
  | d + 1, i => if entS l i = 0 then errI l d (i + 1) else ((i : Int), entS l i)
def checkS (l : List ByteArray) : Int × Int := if 400 < l.length then (-1, 3) else errI l l.length 0
def validS (l : List ByteArray) : Int := (checkS l).2
theorem valid_loop (l : List ByteArray) (hl : l.length ≤ 1000000000) (d : Nat) : ∀ i : Nat, i + d = l.length → Ev (fun k => wordlist_Valid.l0 k (l.length : Int) (i : Int) l) (errI l d i).2 := by
  induction d with
  | zero =>
    intro i hi
    exact Ev.step (fun k => rfl) (Ev.neg (by omega) (Ev.val rfl))
  | succ d ih =>
    intro i hi
    refine Ev.step (fun k => rfl) (Ev.pos (by omega) (Ev.bind (entry_ev l i (by omega) hl) ?_))
    rw [errI, w64 (by omega) (by omega)]
    exact Ev.cond (fun h => by rw [if_pos h]; exact ih (i + 1) (by omega)) (fun h => by rw [if_neg h]; exact Ev.val rfl)
theorem valid_ev (l : List ByteArray) (hl : l.length ≤ 1000000000) : Ev (fun k => wordlist_Valid.f k l) (validS l) := by
  unfold wordlist_Valid.f validS checkS
  refine Ev.cond (fun h => Ev.val (by rw [if_pos (by omega)])) (fun h => ?_)
  rw [if_neg (by omega)]
  exact valid_loop l hl l.length 0 (by omega)
theorem check_loop (l : List ByteArray) (hl : l.length ≤ 1000000000) (d : Nat) : ∀ i : Nat, i + d = l.length → Ev (fun k => ancepsref54_check.l0 k (i : Int) l) (errI l d i) := by
  induction d with
  | zero =>
    intro i hi
    exact Ev.step (fun k => rfl) (Ev.neg (by omega) (Ev.val rfl))
  | succ d ih =>
    intro i hi
    refine Ev.step (fun k => rfl) (Ev.pos (by omega) (Ev.pos (by omega) ?_))
    rw [rdOf_getD, errI, w64 (by omega) (by omega), w64 (by omega) (by omega)]
    have hn := ih (i + 1) (by omega)
    unfold entS
    refine Ev.bind (word_ev _) (Ev.cond (fun h0 => ?_) (fun h0 => Ev.val (by rw [if_neg h0, if_neg h0])))
    rw [if_pos h0]
    refine Ev.cond (fun h1 => ?_) (fun h1 => by rw [if_neg (show ¬ 0 < i by omega), if_pos rfl]; exact hn)
    rw [if_pos (show 0 < i by omega), show (i : Int) - 1 = ((i - 1 : Nat) : Int) by omega, rdOf_getD]
    refine Ev.pos (by omega) (Ev.pos (by omega) ?_)
    refine Ev.cond (fun h2 => ?_) (fun h2 => Ev.val ?_)
    · rw [if_pos (show less _ _ = true from h2), if_pos rfl]; exact hn
    · rw [if_neg (show ¬ less _ _ = true from h2), if_neg (by decide)]
theorem check_ev (l : List ByteArray) (hl : l.length ≤ 1000000000) : Ev (fun k => ancepsref54_check.f k l) (checkS l) := by
  unfold ancepsref54_check.f checkS
  refine Ev.cond (fun h => Ev.val (by rw [if_pos (by omega)])) (fun h => ?_)
  rw [if_neg (by omega)]
  exact check_loop l hl l.length 0 (by omega)
theorem rvalid_ev (l : List ByteArray) (hl : l.length ≤ 1000000000) : Ev (fun k => ancepsref54_Valid.f k l) (validS l) := by
  unfold ancepsref54_Valid.f
  exact Ev.bind (check_ev l hl) (Ev.val rfl)
theorem errI_ok (l : List ByteArray) : ∀ d i, (errI l d i).2 = 0 → ∀ j, i ≤ j → j < i + d → entS l j = 0
  | 0, i, _, j, h1, h2 => by omega
  | d + 1, i, h, j, h1, h2 => by
    rw [errI] at h
    by_cases h0 : entS l i = 0
    · rw [if_pos h0] at h
      by_cases hj : j = i
      · rw [hj]; exact h0
      · exact errI_ok l d (i + 1) h j (by omega) (by omega)
    · rw [if_neg h0] at h; exact absurd h h0
theorem errI_of (l : List ByteArray) : ∀ d i, (∀ j, i ≤ j → j < i + d → entS l j = 0) → errI l d i = (-1, 0)
  | 0, _, _ => rfl
  | d + 1, i, h => by rw [errI, if_pos (h i (by omega) (by omega))]; exact errI_of l d (i + 1) (fun j h1 h2 => h j (by omega) (by omega))
theorem validS_ok {l : List ByteArray} (h : validS l = 0) : l.length ≤ 400 ∧ ∀ j, j < l.length → entS l j = 0 := by
  unfold validS checkS at h
  by_cases h1 : 400 < l.length
  · rw [if_pos h1] at h; cases h
  · rw [if_neg h1] at h
    exact ⟨by omega, fun j hj => errI_ok l _ 0 h j (by omega) (by omega)⟩
theorem validS_of {l : List ByteArray} (h0 : l.length ≤ 400) (h : ∀ j, j < l.length → entS l j = 0) : validS l = 0 := by
  unfold validS checkS
  rw [if_neg (by omega), errI_of l _ 0 (fun j _ h2 => h j (by omega))]
theorem entS_ok {l : List ByteArray} {j : Nat} (h : entS l j = 0) : wrongS (l.getD j ByteArray.empty) = 0 ∧ (0 < j → less (l.getD (j - 1) ByteArray.empty) (l.getD j ByteArray.empty) = true) := by
  unfold entS at h
  by_cases h0 : wrongS (l.getD j ByteArray.empty) = 0
  · rw [if_pos h0] at h
    refine ⟨h0, fun hj => ?_⟩
    rw [if_pos hj] at h
    by_cases h2 : less (l.getD (j - 1) ByteArray.empty) (l.getD j ByteArray.empty) = true
    · exact h2
    · rw [if_neg h2] at h; cases h
  · rw [if_neg h0] at h; exact absurd h h0
theorem entS_of {l : List ByteArray} {j : Nat} (h0 : wrongS (l.getD j ByteArray.empty) = 0) (h : 0 < j → less (l.getD (j - 1) ByteArray.empty) (l.getD j ByteArray.empty) = true) : entS l j = 0 := by
  unfold entS
  rw [if_pos h0]
  by_cases hj : 0 < j
  · rw [if_pos hj, if_pos (h hj)]
  · rw [if_neg hj]
theorem getD_at (l : List ByteArray) (i : Nat) (h : i < l.length) : l.getD i ByteArray.empty = l[i] := by rw [List.getD_eq_getElem?_getD, List.getElem?_eq_getElem h]; rfl
theorem valid_word {l : List ByteArray} (h : validS l = 0) : ∀ s ∈ l, wrongS s = 0 := by
  intro s hs
  obtain ⟨i, hi, rfl⟩ := List.getElem_of_mem hs
  have := (entS_ok ((validS_ok h).2 i hi)).1
  rwa [getD_at l i hi] at this
/-! the order of strings -/
theorem less_lt (x y : ByteArray) : less x y = true ↔ x.toList < y.toList := by
  unfold less
  rw [bl_eq]
  exact decide_eq_true_iff
theorem less_irrefl (x : ByteArray) : less x x = false := by
  cases h : less x x with
  | false => rfl
  | true => exact absurd ((less_lt x x).1 h) (List.lt_irrefl _)
theorem less_trans {x y z : ByteArray} (h1 : less x y = true) (h2 : less y z = true) : less x z = true := (less_lt x z).2 (List.lt_trans ((less_lt x y).1 h1) ((less_lt y z).1 h2))
theorem less_asymm {x y : ByteArray} (h1 : less x y = true) : less y x = false := by
  cases h : less y x with
  | false => rfl
  | true => have := less_trans h1 h; rw [less_irrefl] at this; cases this
theorem less_total {x y : ByteArray} (h1 : less x y = false) (h2 : less y x = false) : x = y := by
  rw [← bytes_ext]
  have h3 : ¬ x.toList < y.toList := fun h => by rw [(less_lt x y).2 h] at h1; cases h1
  have h4 : ¬ y.toList < x.toList := fun h => by rw [(less_lt y x).2 h] at h2; cases h2
  exact List.le_antisymm (List.not_lt.1 h4) (List.not_lt.1 h3)
theorem sorted_lt {l : List ByteArray} (h : validS l = 0) : ∀ d i : Nat, i + (d + 1) < l.length → less (l.getD i ByteArray.empty) (l.getD (i + (d + 1)) ByteArray.empty) = true
  | 0, i, hi => by
    have := (entS_ok ((validS_ok h).2 (i + 1) hi)).2 (by omega)
    rwa [show i + 1 - 1 = i by omega] at this
  | d + 1, i, hi => by
    have h1 := sorted_lt h d i (by omega)
    have h2 := (entS_ok ((validS_ok h).2 (i + (d + 1 + 1)) hi)).2 (by omega)
    rw [show i + (d + 1 + 1) - 1 = i + (d + 1) by omega] at h2
    exact less_trans h1 h2
theorem sorted_at {l : List ByteArray} (h : validS l = 0) {i j : Nat} (hij : i < j) (hj : j < l.length) : less (l.getD i ByteArray.empty) (l.getD j ByteArray.empty) = true := by
  have := sorted_lt h (j - i - 1) i (by omega)
  rwa [show i + (j - i - 1 + 1) = j by omega] at this
end Go.Proofs.Ytdaooagikacboaa.Lem
