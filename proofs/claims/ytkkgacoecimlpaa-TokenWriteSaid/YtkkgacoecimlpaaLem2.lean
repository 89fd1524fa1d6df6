/- Plain lemmas over the printed functions of chapter 5: numbers, names, quotes, the next token. -/
import Derived.Test.YtkkgacoecimlpaaLem1
import Derived.Test.YtkkgacoecimlpaaX2
import Derived.Test.YtkkgacoecimlpaaX7
import Derived.Test.YtkkgacoecimlpaaX6
import Derived.Test.YtkkgacoecimlpaaX3
import Derived.Test.YtkkgacoecimlpaaX10
namespace Go.Proofs.Ytkkgacoecimlpaa.Lem
open Go.RowKit Go.Proofs.Ytkkgacoecimlpaa.X Go.Proofs.YtkkgacoecimlpaaW.PrintWords Go.Proofs.YtkkgacoecimlpaaW.PrintLast
/-! numbers -/
def numW (n : Int) : List Int → Int
  | [] => n
  | c :: r => numW (wrap64 (wrap64 (10 * n) + ((c - 48) % 256))) r
def numOk (s : ByteArray) : Bool := decide (0 < s.size) && (decide (s.size ≤ 6) && (decide (digitsL (bytesOf s) = s.size) && !(decide (s.size > 1) && decide (bt s 0 = 48))))
def numS (s : ByteArray) : Int × Bool := if numOk s then (numW 0 (bytesOf s), true) else (0, false)
theorem rd_bytes (s : ByteArray) (i : Nat) : rd (bytesOf s) (i : Int) = bt s (i : Int) := rd_bytesOf s (i : Int)
theorem num_loop (s : ByteArray) (hs : s.size ≤ 140737488355328) (d : Nat) : ∀ (i : Nat) (n : Int), i + d = s.size → Ev (fun k => token_Number.l0 k n (bytesOf s) ((bytesOf s).length : Int) (i : Int)) (numW n ((bytesOf s).drop i), true) := by
  induction d with
  | zero =>
    intro i n hi
    exact Ev.step (fun k => token_Number.l0.eq_2 _ _ _ _ _) (Ev.neg (by rw [bytesOf_length]; omega) (Ev.val (by rw [drop_ge s i (by omega)]; rfl)))
  | succ d ih =>
    intro i n hi
    refine Ev.step (fun k => token_Number.l0.eq_2 _ _ _ _ _) (Ev.pos (by rw [bytesOf_length]; omega) (Ev.pos (by omega) (Ev.pos (by rw [bytesOf_length]; omega) ?_)))
    rw [rd_bytes, drop_lt s i (by omega), numW, w64 (i := (i : Int) + 1) (by omega) (by omega)]
    exact ih (i + 1) _ (by omega)
theorem rnum_loop (s : ByteArray) (hs : s.size ≤ 140737488355328) (d : Nat) : ∀ (i : Nat) (n : Int), i + d = s.size → Ev (fun k => ancepsref05_Number.l0 k s n (i : Int)) (numW n ((bytesOf s).drop i), true) := by
  induction d with
  | zero =>
    intro i n hi
    exact Ev.step (fun k => ancepsref05_Number.l0.eq_2 _ _ _ _) (Ev.neg (by omega) (Ev.val (by rw [drop_ge s i (by omega)]; rfl)))
  | succ d ih =>
    intro i n hi
    refine Ev.step (fun k => ancepsref05_Number.l0.eq_2 _ _ _ _) (Ev.pos (by omega) (Ev.pos (by omega) ?_))
    rw [drop_lt s i (by omega), numW, w64 (i := (i : Int) + 1) (by omega) (by omega)]
    exact ih (i + 1) _ (by omega)
theorem num_j0 (s : ByteArray) (hs : s.size ≤ 140737488355328) (b : Bool) : Ev (fun k => token_Number.j0 k s b) (if b then (0, false) else (numW 0 (bytesOf s), true)) := by
  cases b with
  | true => exact Ev.step (fun k => token_Number.j0.eq_2 _ _ _) (Ev.pos rfl (Ev.val rfl))
  | false => exact Ev.step (fun k => token_Number.j0.eq_2 _ _ _) (Ev.neg (by decide) (Ev.pos hs (Ev.just (num_loop s hs s.size 0 0 (by omega)))))
theorem rnum_j0 (s : ByteArray) (hs : s.size ≤ 140737488355328) (b : Bool) : Ev (fun k => ancepsref05_Number.j0 k s b) (if b then (0, false) else (numW 0 (bytesOf s), true)) := by
  cases b with
  | true => exact Ev.step (fun k => ancepsref05_Number.j0.eq_2 _ _ _) (Ev.pos rfl (Ev.val rfl))
  | false => exact Ev.step (fun k => ancepsref05_Number.j0.eq_2 _ _ _) (Ev.neg (by decide) (rnum_loop s hs s.size 0 0 (by omega)))
theorem number_ev (s : ByteArray) (hs : s.size ≤ 140737488355328) : Ev (fun k => token_Number.f k s) (numS s) := by
  unfold token_Number.f numS numOk
  refine Ev.cond (fun h => Ev.eq ?_ (num_j0 s hs true)) (fun h => ?_)
  · rw [decide_eq_false (by rw [list_nil.1 h]; omega), Bool.false_and]; rfl
  rw [list_nil] at h
  rw [decide_eq_true (by omega : 0 < s.size), Bool.true_and]
  refine Ev.cond (fun h => Ev.eq ?_ (num_j0 s hs true)) (fun h1 => ?_)
  · rw [decide_eq_false (by omega), Bool.false_and]; rfl
  rw [decide_eq_true (by omega : s.size ≤ 6), Bool.true_and]
  refine Ev.bind (digits_ev s hs) (Ev.cond (fun h2 => ?_) (fun h2 => Ev.eq ?_ (num_j0 s hs true)))
  rotate_left
  · rw [decide_eq_false (by omega), Bool.false_and]; rfl
  rw [decide_eq_true (by omega : digitsL (bytesOf s) = s.size), Bool.true_and]
  refine Ev.cond (fun h3 => Ev.pos (by omega) (Ev.eq ?_ (num_j0 s hs _))) (fun h3 => Ev.eq ?_ (num_j0 s hs false))
  · rw [decide_eq_true (by omega : s.size > 1), Bool.true_and]
    by_cases h4 : bt s 0 = 48
    · rw [h4]; rfl
    · rw [if_neg (by simpa using h4), decide_eq_false h4]; rfl
  · rw [decide_eq_false (by omega), Bool.false_and]; rfl
theorem rnumber_ev (s : ByteArray) (hs : s.size ≤ 140737488355328) : Ev (fun k => ancepsref05_Number.f k s) (numS s) := by
  unfold ancepsref05_Number.f numS numOk
  refine Ev.cond (fun h => Ev.eq ?_ (rnum_j0 s hs true)) (fun h => ?_)
  · rw [decide_eq_false (by rw [list_nil.1 h]; omega), Bool.false_and]; rfl
  rw [list_nil] at h
  rw [decide_eq_true (by omega : 0 < s.size), Bool.true_and]
  refine Ev.cond (fun h => Ev.eq ?_ (rnum_j0 s hs true)) (fun h1 => ?_)
  · rw [decide_eq_false (by omega), Bool.false_and]; rfl
  rw [decide_eq_true (by omega : s.size ≤ 6), Bool.true_and]
  refine Ev.bind (rdigits_ev s hs) (Ev.cond (fun h2 => ?_) (fun h2 => Ev.eq ?_ (rnum_j0 s hs true)))
  rotate_left
  · rw [decide_eq_false (by omega), Bool.false_and]; rfl
  rw [decide_eq_true (by omega : digitsL (bytesOf s) = s.size), Bool.true_and]
  refine Ev.pos (by omega) (Ev.cond (fun h4 => Ev.eq ?_ (rnum_j0 s hs _)) (fun h4 => Ev.eq ?_ (rnum_j0 s hs false)))
  · rw [h4]
    by_cases h3 : s.size > 1
    · rw [if_pos (by simp; omega), decide_eq_true h3]; rfl
    · rw [if_neg (by simp; omega), decide_eq_false h3]; rfl
  · rw [decide_eq_false h4, Bool.and_false]; rfl
/-! names -/
def isName (s : ByteArray) : Bool := decide (0 < s.size) && (decide (s.size ≤ 20) && decide (nameL (bytesOf s) = s.size))
theorem isName_ev (s : ByteArray) (hs : s.size ≤ 140737488355328) : Ev (fun k => token_IsName.f k s) (isName s) := by
  unfold token_IsName.f isName
  refine Ev.cond (fun h => Ev.val ?_) (fun h => ?_)
  · rw [decide_eq_false (by rw [list_nil.1 h]; omega), Bool.false_and]
  rw [list_nil] at h
  rw [decide_eq_true (by omega : 0 < s.size), Bool.true_and]
  refine Ev.cond (fun h1 => Ev.bind (name_ev s hs) (Ev.val ?_)) (fun h1 => Ev.val ?_)
  · rw [decide_eq_true (by omega : s.size ≤ 20), Bool.true_and, Bool.eq_iff_iff, beq_iff_eq, decide_eq_true_iff]; omega
  · rw [decide_eq_false (by omega), Bool.false_and]
theorem risName_ev (s : ByteArray) (hs : s.size ≤ 140737488355328) : Ev (fun k => ancepsref05_IsName.f k s) (isName s) := by
  unfold ancepsref05_IsName.f isName
  refine Ev.cond (fun h => Ev.val ?_) (fun h => ?_)
  · rw [decide_eq_false (by rw [list_nil.1 h]; omega), Bool.false_and]
  rw [list_nil] at h
  rw [decide_eq_true (by omega : 0 < s.size), Bool.true_and]
  refine Ev.cond (fun h1 => Ev.bind (rname_ev s hs) (Ev.val ?_)) (fun h1 => Ev.val ?_)
  · rw [decide_eq_true (by omega : s.size ≤ 20), Bool.true_and, Bool.eq_iff_iff, beq_iff_eq, decide_eq_true_iff]; omega
  · rw [decide_eq_false (by omega), Bool.false_and]
/-! quotes -/
def inside (c : Int) : Bool := decide (32 ≤ c) && (decide (c ≤ 126) && decide (c ≠ 34))
theorem inside_f (c : Int) : token_inside.f c = some (inside c) := by
  unfold token_inside.f inside
  by_cases h : c ≥ 32
  · rw [if_pos h, decide_eq_true (by omega : 32 ≤ c), Bool.true_and]
    by_cases h1 : c ≤ 126
    · rw [if_pos h1, decide_eq_true h1, Bool.true_and]
      congr 1; by_cases h2 : c = 34 <;> simp [h2]
    · rw [if_neg h1, decide_eq_false h1, Bool.false_and]
  · rw [if_neg h, decide_eq_false (by omega : ¬ 32 ≤ c), Bool.false_and]
theorem rquoted_f (c : Int) : ancepsref05_quoted.f c = some (inside c) := inside_f c
def insideL : List Int → Nat
  | [] => 0
  | c :: r => if inside c then insideL r + 1 else 0
theorem insideL_le : ∀ l : List Int, insideL l ≤ l.length
  | [] => Nat.le_refl _
  | c :: r => by
    rw [insideL, List.length_cons]; have := insideL_le r
    split <;> omega
theorem digitsL_le : ∀ l : List Int, digitsL l ≤ l.length
  | [] => Nat.le_refl _
  | c :: r => by
    rw [digitsL, List.length_cons]; have := digitsL_le r
    split <;> omega
theorem tailL_le : ∀ l : List Int, tailL l ≤ l.length
  | [] => Nat.le_refl _
  | [c] => by rw [tailL, List.length_cons]; split <;> omega
  | c :: d :: r => by
    have h1 := tailL_le (d :: r); have h2 := tailL_le r
    rw [tailL, List.length_cons]; rw [List.length_cons] at h1 ⊢
    split
    · omega
    · split <;> omega
theorem nameL_le : ∀ l : List Int, nameL l ≤ l.length
  | [] => Nat.le_refl _
  | c :: r => by
    rw [nameL, List.length_cons]; have := tailL_le r
    split <;> omega
/-- a string in quotes: the error -/
def quoteE (r : List Int) : Int :=
  match r.drop (insideL r) with
  | [] => 2
  | c :: _ => if c = 34 then (if insideL r > 60 then 3 else 0) else 2
theorem quoted_loop (s : ByteArray) (hs : s.size ≤ 140737488355328) (d : Nat) : ∀ i : Nat, i + d = s.size → ∀ r, Ev (fun k => token_quoted.j1 k s ((i + insideL ((bytesOf s).drop i) : Nat) : Int)) r → Ev (fun k => token_quoted.l0 k s (i : Int)) r := by
  induction d with
  | zero =>
    intro i hi r hr
    refine Ev.step (fun k => token_quoted.l0.eq_2 _ _ _) (Ev.neg (by omega) ?_)
    rw [drop_ge s i (by omega)] at hr; exact hr
  | succ d ih =>
    intro i hi r hr
    refine Ev.step (fun k => token_quoted.l0.eq_2 _ _ _) (Ev.pos (by omega) (Ev.pos (by omega) ?_))
    rw [drop_lt s i (by omega), insideL] at hr
    rw [inside_f]
    refine Ev.just (Ev.cond (fun h => ?_) (fun h => ?_))
    · rw [w64 (by omega) (by omega)]
      rw [if_pos h] at hr
      exact ih (i + 1) (by omega) r (by rw [show i + 1 + insideL ((bytesOf s).drop (i + 1)) = i + (insideL ((bytesOf s).drop (i + 1)) + 1) by omega]; exact hr)
    · rw [if_neg h] at hr; exact hr
theorem rquoted_loop (s : ByteArray) (hs : s.size ≤ 140737488355328) (d : Nat) : ∀ i : Nat, i + d = s.size → ∀ r, Ev (fun k => ancepsref05_inQuotes.j1 k s ((i + insideL ((bytesOf s).drop i) : Nat) : Int)) r → Ev (fun k => ancepsref05_inQuotes.l0 k s (i : Int)) r := by
  induction d with
  | zero =>
    intro i hi r hr
    refine Ev.step (fun k => ancepsref05_inQuotes.l0.eq_2 _ _ _) (Ev.neg (by omega) ?_)
    rw [drop_ge s i (by omega)] at hr; exact hr
  | succ d ih =>
    intro i hi r hr
    refine Ev.step (fun k => ancepsref05_inQuotes.l0.eq_2 _ _ _) (Ev.pos (by omega) (Ev.pos (by omega) ?_))
    rw [drop_lt s i (by omega), insideL] at hr
    rw [rquoted_f]
    refine Ev.just (Ev.cond (fun h => ?_) (fun h => ?_))
    · rw [w64 (by omega) (by omega)]
      rw [if_pos h] at hr
      exact ih (i + 1) (by omega) r (by rw [show i + 1 + insideL ((bytesOf s).drop (i + 1)) = i + (insideL ((bytesOf s).drop (i + 1)) + 1) by omega]; exact hr)
    · rw [if_neg h] at hr; exact hr
theorem quoteE_at (s : ByteArray) (hp : 0 < s.size) : quoteE ((bytesOf s).drop 1) = if 1 + insideL ((bytesOf s).drop 1) = s.size then 2 else if bt s ((1 + insideL ((bytesOf s).drop 1) : Nat) : Int) = 34 then (if insideL ((bytesOf s).drop 1) > 60 then 3 else 0) else 2 := by
  unfold quoteE
  have hle := insideL_le ((bytesOf s).drop 1)
  rw [drop_len] at hle
  rw [List.drop_drop]
  by_cases h : 1 + insideL ((bytesOf s).drop 1) = s.size
  · rw [if_pos h, drop_ge s _ (by omega)]
  · rw [if_neg h, drop_lt s (1 + insideL ((bytesOf s).drop 1)) (by omega)]
theorem extract_str (s : ByteArray) (a b : Nat) : s.extract a b = strOfNums (((bytesOf s).take b).drop a) := by
  apply bytesOf_inj
  rw [bytesOf_extract, bytesOf_str]
  exact fun c hc => bytesOf_range s c (List.mem_of_mem_take (List.mem_of_mem_drop hc))
theorem quoted_ev (s : ByteArray) (hs : s.size ≤ 140737488355328) (hp : 0 < s.size) : Ev (fun k => token_quoted.f k s) (if quoteE ((bytesOf s).drop 1) = 0 then strOfNums (((bytesOf s).drop 1).take (insideL ((bytesOf s).drop 1))) else ⟨#[]⟩, quoteE ((bytesOf s).drop 1)) := by
  unfold token_quoted.f
  refine quoted_loop s hs (s.size - 1) 1 (by omega) _ ?_
  have hle := insideL_le ((bytesOf s).drop 1)
  rw [drop_len] at hle
  rw [quoteE_at s hp]
  have two : Ev (fun k => token_quoted.j2 k s ((1 + insideL ((bytesOf s).drop 1) : Nat) : Int) true) ((⟨#[]⟩, 2) : ByteArray × Int) := Ev.step (fun k => token_quoted.j2.eq_2 _ _ _ _) (Ev.pos rfl (Ev.val rfl))
  refine Ev.step (fun k => token_quoted.j1.eq_2 _ _ _) (Ev.cond (fun h => ?_) (fun h => Ev.pos (by omega) (Ev.pos (by omega) ?_)))
  · rw [if_pos (c := 1 + insideL ((bytesOf s).drop 1) = s.size) (by omega)]; exact two
  · rw [if_neg (c := 1 + insideL ((bytesOf s).drop 1) = s.size) (by omega)]
    by_cases h2 : bt s ((1 + insideL ((bytesOf s).drop 1) : Nat) : Int) = 34
    · rw [if_pos h2, h2]
      refine Ev.step (fun k => token_quoted.j2.eq_2 _ _ _ _) (Ev.neg (by decide) ?_)
      rw [w64 (by omega) (by omega)]
      refine Ev.cond (fun h3 => ?_) (fun h3 => Ev.pos (by omega) (Ev.pos (by omega) ?_))
      · rw [if_pos (c := insideL ((bytesOf s).drop 1) > 60) (by omega)]; exact Ev.val rfl
      · rw [if_neg (c := insideL ((bytesOf s).drop 1) > 60) (by omega)]
        refine Ev.val ?_
        rw [extract_str, Int.toNat_natCast, if_pos rfl, List.drop_take, Nat.add_sub_cancel_left]
    · rw [if_neg h2, show (bt s ((1 + insideL ((bytesOf s).drop 1) : Nat) : Int) != 34) = true by simpa using h2]
      exact two
theorem rinQuotes_ev (s : ByteArray) (hs : s.size ≤ 140737488355328) (hp : 0 < s.size) : Ev (fun k => ancepsref05_inQuotes.f k s) (if quoteE ((bytesOf s).drop 1) = 0 then (3, strOfNums (((bytesOf s).drop 1).take (insideL ((bytesOf s).drop 1))), 0, ((insideL ((bytesOf s).drop 1) + 2 : Nat) : Int), 0) else (0, ⟨#[]⟩, 0, 0, quoteE ((bytesOf s).drop 1))) := by
  unfold ancepsref05_inQuotes.f
  refine rquoted_loop s hs (s.size - 1) 1 (by omega) _ ?_
  have hle := insideL_le ((bytesOf s).drop 1)
  rw [drop_len] at hle
  rw [quoteE_at s hp]
  have two : Ev (fun k => ancepsref05_inQuotes.j2 k s ((1 + insideL ((bytesOf s).drop 1) : Nat) : Int) true) ((0, ⟨#[]⟩, 0, 0, 2) : Int × ByteArray × Int × Int × Int) := Ev.step (fun k => ancepsref05_inQuotes.j2.eq_2 _ _ _ _) (Ev.pos rfl (Ev.val rfl))
  refine Ev.step (fun k => ancepsref05_inQuotes.j1.eq_2 _ _ _) (Ev.cond (fun h => ?_) (fun h => Ev.pos (by omega) (Ev.pos (by omega) ?_)))
  · rw [if_pos (c := 1 + insideL ((bytesOf s).drop 1) = s.size) (by omega)]; exact two
  · rw [if_neg (c := 1 + insideL ((bytesOf s).drop 1) = s.size) (by omega)]
    by_cases h2 : bt s ((1 + insideL ((bytesOf s).drop 1) : Nat) : Int) = 34
    · rw [if_pos h2, h2]
      refine Ev.step (fun k => ancepsref05_inQuotes.j2.eq_2 _ _ _ _) (Ev.neg (by decide) ?_)
      rw [w64 (by omega) (by omega), w64 (by omega) (by omega)]
      refine Ev.cond (fun h3 => ?_) (fun h3 => Ev.pos (by omega) (Ev.pos (by omega) ?_))
      · rw [if_pos (c := insideL ((bytesOf s).drop 1) > 60) (by omega)]; exact Ev.val rfl
      · rw [if_neg (c := insideL ((bytesOf s).drop 1) > 60) (by omega)]
        refine Ev.val ?_
        rw [extract_str, Int.toNat_natCast, if_pos rfl, List.drop_take, Nat.add_sub_cancel_left, show ((1 + insideL ((bytesOf s).drop 1) : Nat) : Int) + 1 = ((insideL ((bytesOf s).drop 1) + 2 : Nat) : Int) by omega]
    · rw [if_neg h2, show (bt s ((1 + insideL ((bytesOf s).drop 1) : Nat) : Int) != 34) = true by simpa using h2]
      exact two
/-! signs -/
def signs : List Int := [123, 125, 40, 41, 91, 93, 47, 59, 58, 126, 64, 61, 94, 44, 46, 124, 43, 42, 60, 62, 45]
def sign (c : Int) : Bool := signs.contains c
theorem sign_all : ∀ n : Fin 256, strings_IndexByte.f (⟨#[123, 125, 40, 41, 91, 93, 47, 59, 58, 126, 64, 61, 94, 44, 46, 124, 43, 42, 60, 62, 45]⟩ : ByteArray) ((n.val : Nat) : Int) = some (if sign ((n.val : Nat) : Int) then (signs.idxOf ((n.val : Nat) : Int) : Int) else -1) := by decide +kernel
theorem rsign_all : ∀ n : Fin 256, ancepsref05_sign.f 30 ((n.val : Nat) : Int) = some (sign ((n.val : Nat) : Int)) := by decide +kernel
theorem rsign_ev {c : Int} (h : 0 ≤ c ∧ c ≤ 255) : Ev (fun k => ancepsref05_sign.f k c) (sign c) := by obtain ⟨n, rfl⟩ := byte_fin h; exact Ev.of (fun k => ancepsref05_sign.mono _ k) (rsign_all n)
theorem sign_f {c : Int} (h : 0 ≤ c ∧ c ≤ 255) : ∃ t : Int, strings_IndexByte.f (⟨#[123, 125, 40, 41, 91, 93, 47, 59, 58, 126, 64, 61, 94, 44, 46, 124, 43, 42, 60, 62, 45]⟩ : ByteArray) c = some t ∧ (t ≥ 0 ↔ sign c = true) := by
  obtain ⟨n, rfl⟩ := byte_fin h
  refine ⟨_, sign_all n, ?_⟩
  split
  · next h => exact ⟨fun _ => h, fun _ => Int.natCast_nonneg _⟩
  · next h => exact ⟨fun e => absurd e (by decide), fun e => absurd e h⟩
/-! the next token: kind, text, bytes, error -/
structure Nx where
  kind : Int
  text : List Int
  n : Nat
  err : Int
def nextL : List Int → Nx
  | [] => ⟨0, [], 0, 2⟩
  | c :: r =>
    if small c then (if nameL (c :: r) > 20 then ⟨0, [], 0, 3⟩ else ⟨1, (c :: r).take (nameL (c :: r)), nameL (c :: r), 0⟩)
    else if digit c then (if digitsL (c :: r) > 6 then ⟨0, [], 0, 3⟩ else if c = 48 ∧ digitsL (c :: r) > 1 then ⟨0, [], 0, 2⟩ else ⟨2, (c :: r).take (digitsL (c :: r)), digitsL (c :: r), 0⟩)
    else if c = 34 then (if quoteE r = 0 then ⟨3, r.take (insideL r), insideL r + 2, 0⟩ else ⟨0, [], 0, quoteE r⟩)
    else if sign c then ⟨4, [c], 1, 0⟩ else ⟨0, [], 0, 2⟩
def Agrees (r : Int × ByteArray × Int × Int × Int) (q : Nx) : Prop := r.2.2.2.2 = q.err ∧ (q.err = 0 → r = (q.kind, strOfNums q.text, 0, (q.n : Int), 0))
theorem if_f {α : Sort _} {a b : α} : (if false = true then a else b) = b := if_neg (by decide)
theorem if_t {α : Sort _} {a b : α} : (if true = true then a else b) = a := if_pos rfl
theorem take_str (s : ByteArray) (n : Nat) : s.extract 0 n = strOfNums ((bytesOf s).take n) := by rw [extract_str, List.drop_zero]
theorem digitsL_take : ∀ (l : List Int), digitsL (l.take (digitsL l)) = digitsL l
  | [] => rfl
  | c :: r => by
    rw [digitsL]
    by_cases h : digit c = true
    · rw [if_pos h, List.take_succ_cons, digitsL, if_pos h, digitsL_take r]
    · rw [if_neg h]; rfl
theorem next_ev (s : ByteArray) (hs : s.size ≤ 140737488355328) (hp : 0 < s.size) : ∃ r, Ev (fun k => token_next.f k s) r ∧ Agrees r (nextL (bytesOf s)) := by
  have hd := drop_lt s 0 hp
  rw [List.drop_zero, show ((0 : Nat) : Int) = 0 from rfl] at hd
  have hnm := nameL_le (bytesOf s)
  have hdg := digitsL_le (bytesOf s)
  rw [bytesOf_length] at hnm hdg
  have hr := bytesOf_range s (bt s 0) (by rw [hd]; exact List.mem_cons_self)
  rw [show nextL (bytesOf s) = nextL (bt s 0 :: (bytesOf s).drop 1) from congrArg nextL hd, nextL]
  have hd1 : bt s 0 :: (bytesOf s).drop 1 = bytesOf s := hd.symm
  rw [hd1]
  cases hsm : small (bt s 0) with
  | true =>
    rw [if_t]
    by_cases h20 : nameL (bytesOf s) > 20
    · rw [if_pos h20]
      refine ⟨(0, ⟨#[]⟩, 0, 0, 3), Ev.congr (fun k => token_next.f.eq_1 k s) (Ev.pos (by omega) ?_), rfl, fun h => absurd h (by decide)⟩
      rw [small_f, hsm]
      exact Ev.just (Ev.pos rfl (Ev.bind (name_ev s hs) (Ev.pos (by omega) (Ev.val rfl))))
    · rw [if_neg h20]
      refine ⟨_, Ev.congr (fun k => token_next.f.eq_1 k s) (Ev.pos (by omega) ?_), rfl, fun _ => rfl⟩
      rw [small_f, hsm]
      refine Ev.just (Ev.pos rfl (Ev.bind (name_ev s hs) (Ev.neg (by omega) (Ev.pos (by omega) (Ev.pos (by omega) (Ev.val ?_))))))
      rw [Int.toNat_natCast, take_str]
  | false =>
    rw [if_f]
    cases hdi : digit (bt s 0) with
    | true =>
      rw [if_t]
      by_cases h6 : digitsL (bytesOf s) > 6
      · rw [if_pos h6]
        refine ⟨(0, ⟨#[]⟩, 0, 0, 3), Ev.congr (fun k => token_next.f.eq_1 k s) (Ev.pos (by omega) ?_), rfl, fun h => absurd h (by decide)⟩
        rw [small_f, hsm]
        refine Ev.just (Ev.neg (by decide) ?_)
        rw [digit_f, hdi]
        exact Ev.just (Ev.pos rfl (Ev.bind (digits_ev s hs) (Ev.pos (by omega) (Ev.val rfl))))
      · rw [if_neg h6]
        have hsz : (s.extract 0 (digitsL (bytesOf s))).size = digitsL (bytesOf s) := by rw [ByteArray.size_extract]; omega
        have hb : bytesOf (s.extract 0 (digitsL (bytesOf s))) = (bytesOf s).take (digitsL (bytesOf s)) := by rw [bytesOf_extract, List.drop_zero]
        have hpos : 0 < digitsL (bytesOf s) := by rw [hd, digitsL, if_pos hdi]; omega
        have hb0 : bt (s.extract 0 (digitsL (bytesOf s))) 0 = bt s 0 := by
          have := drop_lt (s.extract 0 (digitsL (bytesOf s))) 0 (by omega)
          rw [List.drop_zero, hb] at this
          rw [show (bytesOf s).take (digitsL (bytesOf s)) = bt s 0 :: ((bytesOf s).drop 1).take (digitsL (bytesOf s) - 1) by
            obtain ⟨m, hm⟩ : ∃ m, digitsL (bytesOf s) = m + 1 := ⟨_, (Nat.succ_pred_eq_of_pos hpos).symm⟩
            rw [hm, Nat.add_sub_cancel]
            rw [show List.take (m + 1) (bytesOf s) = List.take (m + 1) (bt s 0 :: (bytesOf s).drop 1) from congrArg _ hd, List.take_succ_cons]] at this
          exact (List.cons.inj this).1.symm
        have hok : numOk (s.extract 0 (digitsL (bytesOf s))) = !(decide (bt s 0 = 48) && decide (digitsL (bytesOf s) > 1)) := by
          unfold numOk
          rw [hsz, hb, hb0, digitsL_take, decide_eq_true hpos, decide_eq_true (by omega : digitsL (bytesOf s) ≤ 6), decide_eq_true rfl, Bool.true_and, Bool.true_and, Bool.true_and, Bool.and_comm]
        have go : ∀ r, (if numOk (s.extract 0 (digitsL (bytesOf s))) = true then r = ((2, s.extract 0 (digitsL (bytesOf s)), 0, (digitsL (bytesOf s) : Int), 0) : Int × ByteArray × Int × Int × Int) else r = (0, ⟨#[]⟩, 0, 0, 2)) → Ev (fun k => token_next.f k s) r := fun r hr' => by
          unfold token_next.f
          refine Ev.pos (by omega) ?_
          rw [small_f, hsm]
          refine Ev.just (Ev.neg (by decide) ?_)
          rw [digit_f, hdi]
          refine Ev.just (Ev.pos rfl (Ev.bind (digits_ev s hs) (Ev.neg (by omega) (Ev.pos (by omega) (Ev.pos (by omega) (Ev.bind (number_ev _ (by rw [Int.toNat_natCast, hsz]; omega)) ?_))))))
          rw [Int.toNat_natCast]
          cases hn : numOk (s.extract 0 (digitsL (bytesOf s))) with
          | true =>
            rw [show numS (s.extract 0 (digitsL (bytesOf s))) = (numW 0 (bytesOf (s.extract 0 (digitsL (bytesOf s)))), true) by unfold numS; rw [hn]; rfl]
            rw [hn] at hr'; exact Ev.pos rfl (Ev.val hr'.symm)
          | false =>
            rw [show numS (s.extract 0 (digitsL (bytesOf s))) = (0, false) by unfold numS; rw [hn]; rfl]
            rw [hn] at hr'; exact Ev.neg (by decide) (Ev.val hr'.symm)
        by_cases hz : bt s 0 = 48 ∧ digitsL (bytesOf s) > 1
        · rw [if_pos hz]
          refine ⟨(0, ⟨#[]⟩, 0, 0, 2), go _ ?_, rfl, fun h => absurd h (by decide)⟩
          rw [hok, decide_eq_true hz.1, decide_eq_true hz.2]; rfl
        · rw [if_neg hz]
          refine ⟨_, go (2, s.extract 0 (digitsL (bytesOf s)), 0, (digitsL (bytesOf s) : Int), 0) ?_, rfl, fun _ => by rw [take_str]⟩
          rw [if_pos]
          rw [hok, Bool.not_eq_true', Bool.and_eq_false_iff]
          by_cases h48 : bt s 0 = 48
          · exact Or.inr (decide_eq_false (fun h => hz ⟨h48, h⟩))
          · exact Or.inl (decide_eq_false h48)
    | false =>
      rw [if_f]
      by_cases hq : bt s 0 = 34
      · rw [if_pos hq]
        have hev : ∀ r, Ev (fun k => (token_quoted.f k s).bind fun b => some ((3, b.1, 0, wrap64 ((b.1.size : Int) + 2), b.2) : Int × ByteArray × Int × Int × Int)) r → Ev (fun k => token_next.f k s) r := fun r hr' => by
          unfold token_next.f
          refine Ev.pos (by omega) ?_
          rw [small_f, hsm]
          refine Ev.just (Ev.neg (by decide) ?_)
          rw [digit_f, hdi]
          exact Ev.just (Ev.neg (by decide) (Ev.pos hq hr'))
        refine ⟨_, hev _ (Ev.bind (quoted_ev s hs hp) (Ev.now _)), ?_⟩
        by_cases he : quoteE ((bytesOf s).drop 1) = 0
        · rw [if_pos he, if_pos he]
          refine ⟨he, fun _ => ?_⟩
          have hle := insideL_le ((bytesOf s).drop 1)
          rw [drop_len] at hle
          rw [he, strOfNums_size, List.length_take, drop_len, Nat.min_eq_left hle, w64 (by omega) (by omega)]
          rfl
        · rw [if_neg he, if_neg he]
          exact ⟨rfl, fun h => absurd h he⟩
      · rw [if_neg hq]
        obtain ⟨t, ht, hts⟩ := sign_f hr
        have hev : ∀ r, Ev (fun _ => if t ≥ 0 then some ((4, s.extract 0 1, 0, 1, 0) : Int × ByteArray × Int × Int × Int) else some (0, ⟨#[]⟩, 0, 0, 2)) r → Ev (fun k => token_next.f k s) r := fun r hr' => by
          unfold token_next.f
          refine Ev.pos (by omega) ?_
          rw [small_f, hsm]
          refine Ev.just (Ev.neg (by decide) ?_)
          rw [digit_f, hdi]
          refine Ev.just (Ev.neg (by decide) (Ev.neg hq ?_))
          rw [ht]
          refine Ev.just ?_
          rw [if_pos (by decide : 0 ≤ 1), if_pos (by omega : 1 ≤ (s.size : Int))]
          exact hr'
        cases hsg : sign (bt s 0) with
        | true =>
          rw [if_t]
          refine ⟨_, hev _ (Ev.pos (hts.2 hsg) (Ev.now _)), rfl, fun _ => ?_⟩
          rw [take_str, show List.take 1 (bytesOf s) = List.take 1 (bt s 0 :: (bytesOf s).drop 1) from congrArg _ hd]
          rfl
        | false =>
          rw [if_f]
          refine ⟨_, hev _ (Ev.neg (fun h => by have := hts.1 h; rw [hsg] at this; exact absurd this (by decide)) (Ev.now _)), rfl, fun h => absurd h (by decide)⟩
theorem rnext_ev (s : ByteArray) (hs : s.size ≤ 140737488355328) (hp : 0 < s.size) : ∃ r, Ev (fun k => ancepsref05_next.f k s) r ∧ Agrees r (nextL (bytesOf s)) := by
  have hd := drop_lt s 0 hp
  rw [List.drop_zero, show ((0 : Nat) : Int) = 0 from rfl] at hd
  have hnm := nameL_le (bytesOf s)
  have hdg := digitsL_le (bytesOf s)
  rw [bytesOf_length] at hnm hdg
  have hr := bytesOf_range s (bt s 0) (by rw [hd]; exact List.mem_cons_self)
  unfold ancepsref05_next.f
  rw [show nextL (bytesOf s) = nextL (bt s 0 :: (bytesOf s).drop 1) from congrArg nextL hd, nextL]
  have hd1 : bt s 0 :: (bytesOf s).drop 1 = bytesOf s := hd.symm
  rw [hd1]
  cases hsm : small (bt s 0) with
  | true =>
    have hpos : 0 < nameL (bytesOf s) := by rw [hd, nameL, if_pos hsm]; omega
    rw [if_t]
    by_cases h20 : nameL (bytesOf s) > 20
    · rw [if_pos h20]
      exact ⟨(0, ⟨#[]⟩, 0, 0, 3), Ev.bind (rname_ev s hs) (Ev.pos (by omega) (Ev.pos (by omega) (Ev.val rfl))), rfl, fun h => absurd h (by decide)⟩
    · rw [if_neg h20]
      refine ⟨_, Ev.bind (rname_ev s hs) (Ev.pos (by omega) (Ev.neg (by omega) (Ev.pos (by omega) (Ev.pos (by omega) (Ev.val ?_))))), rfl, fun _ => rfl⟩
      rw [Int.toNat_natCast, take_str]
  | false =>
    have hz0 : nameL (bytesOf s) = 0 := by rw [hd, nameL, if_neg (by rw [hsm]; decide)]
    rw [if_f]
    cases hdi : digit (bt s 0) with
    | true =>
      have hpos : 0 < digitsL (bytesOf s) := by rw [hd, digitsL, if_pos hdi]; omega
      rw [if_t]
      by_cases h6 : digitsL (bytesOf s) > 6
      · rw [if_pos h6]
        exact ⟨(0, ⟨#[]⟩, 0, 0, 3), Ev.bind (rname_ev s hs) (Ev.neg (by omega) (Ev.bind (rdigits_ev s hs) (Ev.pos (by omega) (Ev.pos (by omega) (Ev.val rfl))))), rfl, fun h => absurd h (by decide)⟩
      · rw [if_neg h6]
        by_cases hz : bt s 0 = 48 ∧ digitsL (bytesOf s) > 1
        · rw [if_pos hz]
          exact ⟨(0, ⟨#[]⟩, 0, 0, 2), Ev.bind (rname_ev s hs) (Ev.neg (by omega) (Ev.bind (rdigits_ev s hs) (Ev.pos (by omega) (Ev.neg (by omega) (Ev.pos (by omega) (Ev.pos hz.1 (Ev.pos (by omega) (Ev.val rfl)))))))), rfl, fun h => absurd h (by decide)⟩
        · rw [if_neg hz]
          refine ⟨(2, strOfNums ((bytesOf s).take (digitsL (bytesOf s))), 0, (digitsL (bytesOf s) : Int), 0), Ev.bind (rname_ev s hs) (Ev.neg (by omega) (Ev.bind (rdigits_ev s hs) (Ev.pos (by omega) (Ev.neg (by omega) (Ev.pos (by omega) (Ev.cond (fun h48 => Ev.neg (fun h => hz ⟨h48, by omega⟩) (Ev.pos (by omega) (Ev.pos (by omega) (Ev.val ?_)))) (fun _ => Ev.pos (by omega) (Ev.pos (by omega) (Ev.val ?_))))))))), rfl, fun _ => rfl⟩
          · rw [Int.toNat_natCast, take_str]
          · rw [Int.toNat_natCast, take_str]
    | false =>
      have hd0 : digitsL (bytesOf s) = 0 := by rw [hd, digitsL, if_neg (by rw [hdi]; decide)]
      rw [if_f]
      by_cases hq : bt s 0 = 34
      · rw [if_pos hq]
        refine ⟨_, Ev.bind (rname_ev s hs) (Ev.neg (by omega) (Ev.bind (rdigits_ev s hs) (Ev.neg (by omega) (Ev.pos (by omega) (Ev.pos hq (Ev.bind (rinQuotes_ev s hs hp) (Ev.now _))))))), ?_⟩
        by_cases he : quoteE ((bytesOf s).drop 1) = 0
        · rw [if_pos he, if_pos he]
          exact ⟨rfl, fun _ => rfl⟩
        · rw [if_neg he, if_neg he]
          exact ⟨rfl, fun h => absurd h he⟩
      · rw [if_neg hq]
        cases hsg : sign (bt s 0) with
        | true =>
          rw [if_t]
          refine ⟨_, Ev.bind (rname_ev s hs) (Ev.neg (by omega) (Ev.bind (rdigits_ev s hs) (Ev.neg (by omega) (Ev.pos (by omega) (Ev.neg hq (Ev.bind (rsign_ev hr) (Ev.pos hsg (Ev.pos (by omega) (Ev.pos (by omega) (Ev.now _)))))))))), rfl, fun _ => ?_⟩
          rw [take_str, show List.take 1 (bytesOf s) = List.take 1 (bt s 0 :: (bytesOf s).drop 1) from congrArg _ hd]
          rfl
        | false =>
          rw [if_f]
          exact ⟨_, Ev.bind (rname_ev s hs) (Ev.neg (by omega) (Ev.bind (rdigits_ev s hs) (Ev.neg (by omega) (Ev.pos (by omega) (Ev.neg hq (Ev.bind (rsign_ev hr) (Ev.neg (by rw [hsg]; decide) (Ev.now _)))))))), rfl, fun h => absurd h (by decide)⟩
end Go.Proofs.Ytkkgacoecimlpaa.Lem
