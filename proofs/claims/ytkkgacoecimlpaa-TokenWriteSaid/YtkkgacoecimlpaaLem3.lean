/- Plain lemmas over the printed functions of chapter 5: all tokens of a text, by the program and by the reference. -/
import Derived.Test.YtkkgacoecimlpaaLem2
import Derived.Test.YtkkgacoecimlpaaX10
import Derived.Test.YtkkgacoecimlpaaX4
namespace Go.Proofs.Ytkkgacoecimlpaa.Lem
open Go.RowKit Go.Proofs.Ytkkgacoecimlpaa.X Go.Proofs.YtkkgacoecimlpaaW.PrintWords Go.Proofs.YtkkgacoecimlpaaW.PrintLast
def white (c : Int) : Bool := decide (c = 32) || (decide (c = 9) || decide (c = 13))
def tok (q : Nx) (line : Int) : S31 := ⟨q.kind, strOfNums q.text, line⟩
/-- the tokens of a list of bytes; in a comment where m is true; f bounds the steps -/
def lexL : Nat → Bool → List Int → Int → List S31 → List S31 × Int × Int
  | 0, _, _, line, _ => ([], line, 2)
  | _ + 1, _, [], _, acc => (acc, 0, 0)
  | f + 1, true, c :: r, line, acc => if c = 10 then lexL f false r (line + 1) acc else lexL f true r line acc
  | f + 1, false, c :: r, line, acc =>
    if c = 10 then lexL f false r (line + 1) acc
    else if white c then lexL f false r line acc
    else if c = 35 then lexL f true r line acc
    else if (nextL (c :: r)).err = 0 then lexL f false ((c :: r).drop (nextL (c :: r)).n) line (acc ++ [tok (nextL (c :: r)) line]) else ([], line, (nextL (c :: r)).err)
theorem nextL_len (l : List Int) (h : (nextL l).err = 0) : 1 ≤ (nextL l).n ∧ (nextL l).n ≤ l.length := by
  cases l with
  | nil => exact absurd h (by decide)
  | cons c r =>
    have h1 := nameL_le (c :: r)
    have h2 := digitsL_le (c :: r)
    have h3 := insideL_le r
    rw [nextL] at h ⊢
    rw [List.length_cons] at *
    cases hs : small c with
    | true =>
      rw [hs, if_t] at h; rw [if_t]
      have : 1 ≤ nameL (c :: r) := by rw [nameL, if_pos hs]; omega
      by_cases h20 : nameL (c :: r) > 20
      · rw [if_pos h20] at h; exact absurd h (by decide)
      · rw [if_neg h20]; exact ⟨this, h1⟩
    | false =>
      rw [hs, if_f] at h; rw [if_f]
      cases hd : digit c with
      | true =>
        rw [hd, if_t] at h; rw [if_t]
        have : 1 ≤ digitsL (c :: r) := by rw [digitsL, if_pos hd]; omega
        by_cases h6 : digitsL (c :: r) > 6
        · rw [if_pos h6] at h; exact absurd h (by decide)
        · rw [if_neg h6] at h ⊢
          by_cases hz : c = 48 ∧ digitsL (c :: r) > 1
          · rw [if_pos hz] at h; exact absurd h (by decide)
          · rw [if_neg hz]; exact ⟨this, h2⟩
      | false =>
        rw [hd, if_f] at h; rw [if_f]
        by_cases hq : c = 34
        · rw [if_pos hq] at h ⊢
          by_cases he : quoteE r = 0
          · rw [if_pos he]
            refine ⟨by simp only; omega, ?_⟩
            simp only
            unfold quoteE at he
            by_cases hn : r.drop (insideL r) = []
            · rw [hn] at he; exact absurd (show (2 : Int) = 0 from he) (by decide)
            · have := List.length_pos_iff.2 hn
              rw [List.length_drop] at this; omega
          · rw [if_neg he] at h; exact absurd h he
        · rw [if_neg hq] at h ⊢
          cases hg : sign c with
          | true => rw [if_t]; exact ⟨Nat.le_refl _, by simp only; omega⟩
          | false => rw [hg, if_f] at h; exact absurd h (by decide)
theorem tok_eq {r : Int × ByteArray × Int × Int × Int} {q : Nx} (h : Agrees r q) (he : q.err = 0) (line : Int) : (⟨r.1, r.2.1, line⟩ : S31) = tok q line := by
  rw [h.2 he]; rfl
theorem tokens_loop (s : ByteArray) (hs : s.size ≤ 20000) (d : Nat) : ∀ (i : Nat) (line : Int) (acc : List S31) (f : Nat), s.size - i ≤ d → i ≤ s.size → 1 ≤ line → line ≤ i + 1 → acc.length ≤ i → s.size - i < f →
    Ev (fun k => token_Tokens.l0 k s acc line (i : Int)) (lexL f false ((bytesOf s).drop i) line acc) ∧ Ev (fun k => token_Tokens.l1 k s acc line (i : Int)) (lexL f true ((bytesOf s).drop i) line acc) := by
  induction d with
  | zero =>
    intro i line acc f hd hi h1 h2 ha hf
    obtain ⟨f, rfl⟩ : ∃ g, f = g + 1 := ⟨f - 1, by omega⟩
    rw [drop_ge s i (by omega)]
    have e0 : Ev (fun k => token_Tokens.l0 k s acc line (i : Int)) (acc, 0, 0) := Ev.step (fun k => token_Tokens.l0.eq_2 _ _ _ _ _) (Ev.neg (by omega) (Ev.val rfl))
    exact ⟨e0, Ev.step (fun k => token_Tokens.l1.eq_2 _ _ _ _ _) (Ev.neg (by omega) e0)⟩
  | succ d ih =>
    intro i line acc f hd hi h1 h2 ha hf
    by_cases hlt : i < s.size
    rotate_left
    · obtain ⟨f, rfl⟩ : ∃ g, f = g + 1 := ⟨f - 1, by omega⟩
      rw [drop_ge s i (by omega)]
      have e0 : Ev (fun k => token_Tokens.l0 k s acc line (i : Int)) (acc, 0, 0) := Ev.step (fun k => token_Tokens.l0.eq_2 _ _ _ _ _) (Ev.neg (by omega) (Ev.val rfl))
      exact ⟨e0, Ev.step (fun k => token_Tokens.l1.eq_2 _ _ _ _ _) (Ev.neg (by omega) e0)⟩
    obtain ⟨f, rfl⟩ : ∃ g, f = g + 1 := ⟨f - 1, by omega⟩
    have nl : bt s i = 10 → Ev (fun k => token_Tokens.l0 k s acc line (i : Int)) (lexL f false ((bytesOf s).drop (i + 1)) (line + 1) acc) := fun h => by
      refine Ev.step (fun k => token_Tokens.l0.eq_2 _ _ _ _ _) (Ev.pos (by omega) (Ev.pos (by omega) (Ev.pos h ?_)))
      rw [w64 (i := line + 1) (by omega) (by omega), w64 (by omega) (by omega)]
      exact (ih (i + 1) (line + 1) acc f (by omega) (by omega) (by omega) (by omega) (by omega) (by omega)).1
    have nx := fun line' => ih (i + 1) line' acc f (by omega) (by omega)
    constructor
    · rw [drop_lt s i hlt, lexL]
      by_cases h10 : bt s i = 10
      · rw [if_pos h10]; exact nl h10
      rw [if_neg h10]
      have sp : white (bt s i) = true → Ev (fun k => token_Tokens.j1 k s acc line i (bt s i) true) (lexL f false ((bytesOf s).drop (i + 1)) line acc) := fun _ => by
        refine Ev.step (fun k => token_Tokens.j1.eq_2 _ _ _ _ _ _ _) (Ev.pos rfl ?_)
        rw [w64 (by omega) (by omega)]
        exact (ih (i + 1) line acc f (by omega) (by omega) (by omega) (by omega) (by omega) (by omega)).1
      refine Ev.step (fun k => token_Tokens.l0.eq_2 _ _ _ _ _) (Ev.pos (by omega) (Ev.pos (by omega) (Ev.neg h10 ?_)))
      refine Ev.cond (fun h => ?_) (fun h32 => Ev.cond (fun h => ?_) (fun h9 => ?_))
      · have hw : white (bt s i) = true := by unfold white; rw [h]; rfl
        rw [if_pos hw, show (bt s i == 32) = true by rw [h]; rfl]; exact sp hw
      · have hw : white (bt s i) = true := by unfold white; rw [h]; rfl
        rw [if_pos hw, show (bt s i == 9) = true by rw [h]; rfl]; exact sp hw
      · by_cases h13 : bt s i = 13
        · have hw : white (bt s i) = true := by unfold white; rw [h13]; rfl
          rw [if_pos hw, show (bt s i == 13) = true by rw [h13]; rfl]; exact sp hw
        · have hw : white (bt s i) = false := by unfold white; rw [decide_eq_false h32, decide_eq_false h9, decide_eq_false h13]; rfl
          rw [hw, if_f, show (bt s i == 13) = false by simpa using h13]
          refine Ev.step (fun k => token_Tokens.j1.eq_2 _ _ _ _ _ _ _) (Ev.neg (by decide) ?_)
          refine Ev.cond (fun h => ?_) (fun h35 => ?_)
          · rw [if_pos h]
            refine Ev.step (fun k => token_Tokens.l1.eq_2 _ _ _ _ _) (Ev.pos (by omega) (Ev.pos (by omega) (Ev.neg h10 ?_)))
            rw [w64 (by omega) (by omega)]
            exact (ih (i + 1) line acc f (by omega) (by omega) (by omega) (by omega) (by omega) (by omega)).2
          · rw [if_neg h35]
            refine Ev.pos (by omega) (Ev.pos (by omega) ?_)
            rw [Int.toNat_natCast]
            obtain ⟨r, hr, hag⟩ := next_ev (s.extract i s.size) (by rw [ByteArray.size_extract]; omega) (by rw [ByteArray.size_extract]; omega)
            have hb := bytesOf_tail s i
            rw [drop_lt s i hlt] at hb
            rw [hb] at hag
            refine Ev.bind hr ?_
            have hl := nextL_len (bt s i :: (bytesOf s).drop (i + 1))
            have hle : (bt s i :: (bytesOf s).drop (i + 1)).length = s.size - i := by rw [← drop_lt s i hlt, drop_len]
            rw [hle] at hl
            refine Ev.cond (fun h => ?_) (fun h => ?_)
            · have he : (nextL (bt s i :: (bytesOf s).drop (i + 1))).err = 0 := hag.1.symm.trans h
              rw [if_pos he, tok_eq hag he, hag.2 he]
              have hl := hl he
              refine Ev.pos (by omega) ?_
              simp only
              rw [w64 (by omega) (by omega), ← drop_lt s i hlt, List.drop_drop, show (i : Int) + ((nextL ((bytesOf s).drop i)).n : Nat) = ((i + (nextL ((bytesOf s).drop i)).n : Nat) : Int) by omega]
              rw [← drop_lt s i hlt] at hl
              exact (ih _ line _ f (by omega) (by omega) (by omega) (by omega) (by rw [List.length_append, List.length_singleton]; omega) (by omega)).1
            · rw [if_neg (fun e => h (hag.1.trans e)), hag.1]
              exact Ev.val rfl
    · rw [drop_lt s i hlt, lexL]
      refine Ev.step (fun k => token_Tokens.l1.eq_2 _ _ _ _ _) (Ev.pos (by omega) (Ev.pos (by omega) ?_))
      refine Ev.cond (fun h10 => ?_) (fun h10 => ?_)
      · rw [if_pos h10]; exact nl h10
      · rw [if_neg h10, w64 (by omega) (by omega)]
        exact (ih (i + 1) line acc f (by omega) (by omega) (by omega) (by omega) (by omega) (by omega)).2
def tokensS (s : ByteArray) : List S31 × Int × Int := if s.size > 20000 then ([], 0, 3) else lexL (s.size + 1) false (bytesOf s) 1 []
theorem tokens_ev (s : ByteArray) : Ev (fun k => token_Tokens.f k s) (tokensS s) := by
  unfold token_Tokens.f tokensS
  refine Ev.cond (fun h => ?_) (fun h => ?_)
  · rw [if_pos (c := s.size > 20000) (by omega)]; exact Ev.val rfl
  · rw [if_neg (c := s.size > 20000) (by omega)]
    exact (tokens_loop s (by omega) s.size 0 1 [] _ (by omega) (by omega) (by omega) (by omega) (by simp) (by omega)).1
/-! the reference -/
def spaceM : Bool → List Int → Nat
  | _, [] => 0
  | true, c :: r => if c = 10 then spaceM false r + 1 else spaceM true r + 1
  | false, c :: r => if c = 10 then spaceM false r + 1 else if white c then spaceM false r + 1 else if c = 35 then spaceM true r + 1 else 0
theorem spaceM_le : ∀ (l : List Int) (m : Bool), spaceM m l ≤ l.length
  | [], _ => by rw [spaceM]; exact Nat.le_refl _
  | c :: r, true => by
    have h1 := spaceM_le r false; have h2 := spaceM_le r true
    rw [spaceM, List.length_cons]; split <;> omega
  | c :: r, false => by
    have h1 := spaceM_le r false; have h2 := spaceM_le r true
    rw [spaceM, List.length_cons]; (repeat' split) <;> omega
def feedsL : List Int → Nat
  | [] => 0
  | c :: r => if c = 10 then feedsL r + 1 else feedsL r
theorem feedsL_le : ∀ l : List Int, feedsL l ≤ l.length
  | [] => Nat.le_refl _
  | c :: r => by have := feedsL_le r; rw [feedsL, List.length_cons]; split <;> omega
theorem lexL_space : ∀ (l : List Int) (m : Bool) (f : Nat) (line : Int) (acc : List S31), l.length < f → lexL f m l line acc = lexL (f - spaceM m l) false (l.drop (spaceM m l)) (line + (feedsL (l.take (spaceM m l)) : Int)) acc
  | [], m, f, line, acc, hf => by
    obtain ⟨f, rfl⟩ : ∃ g, f = g + 1 := ⟨f - 1, by omega⟩
    cases m <;> rfl
  | c :: r, true, f, line, acc, hf => by
    obtain ⟨f, rfl⟩ : ∃ g, f = g + 1 := ⟨f - 1, by omega⟩
    rw [List.length_cons] at hf
    rw [lexL, spaceM]
    by_cases h : c = 10
    · rw [if_pos h, if_pos h, List.drop_succ_cons, List.take_succ_cons, feedsL, if_pos h, Nat.add_sub_add_right, lexL_space r false f _ acc (by omega)]
      congr 1; omega
    · rw [if_neg h, if_neg h, List.drop_succ_cons, List.take_succ_cons, feedsL, if_neg h, Nat.add_sub_add_right, lexL_space r true f _ acc (by omega)]
  | c :: r, false, f, line, acc, hf => by
    rw [List.length_cons] at hf
    rw [spaceM]
    by_cases h : c = 10
    · obtain ⟨f, rfl⟩ : ∃ g, f = g + 1 := ⟨f - 1, by omega⟩
      rw [lexL, if_pos h, if_pos h, List.drop_succ_cons, List.take_succ_cons, feedsL, if_pos h, Nat.add_sub_add_right, lexL_space r false f _ acc (by omega)]
      congr 1; omega
    by_cases hw : white c = true
    · obtain ⟨f, rfl⟩ : ∃ g, f = g + 1 := ⟨f - 1, by omega⟩
      rw [lexL, if_neg h, if_neg h, if_pos hw, if_pos hw, List.drop_succ_cons, List.take_succ_cons, feedsL, if_neg h, Nat.add_sub_add_right, lexL_space r false f _ acc (by omega)]
    by_cases h35 : c = 35
    · obtain ⟨f, rfl⟩ : ∃ g, f = g + 1 := ⟨f - 1, by omega⟩
      rw [lexL, if_neg h, if_neg h, if_neg hw, if_neg hw, if_pos h35, if_pos h35, List.drop_succ_cons, List.take_succ_cons, feedsL, if_neg h, Nat.add_sub_add_right, lexL_space r true f _ acc (by omega)]
    rw [if_neg h, if_neg hw, if_neg h35, List.drop_zero, Nat.sub_zero, List.take_zero, feedsL]
    congr 1; omega
/-- what stands after the space is the end, or begins a token -/
theorem space_next : ∀ (l : List Int) (m : Bool), l.drop (spaceM m l) = [] ∨ ∃ c r, l.drop (spaceM m l) = c :: r ∧ c ≠ 10 ∧ white c = false ∧ c ≠ 35
  | [], m => by cases m <;> exact Or.inl rfl
  | c :: r, true => by
    rw [spaceM]
    by_cases h : c = 10
    · rw [if_pos h, List.drop_succ_cons]; exact space_next r false
    · rw [if_neg h, List.drop_succ_cons]; exact space_next r true
  | c :: r, false => by
    rw [spaceM]
    by_cases h : c = 10
    · rw [if_pos h, List.drop_succ_cons]; exact space_next r false
    by_cases hw : white c = true
    · rw [if_neg h, if_pos hw, List.drop_succ_cons]; exact space_next r false
    by_cases h35 : c = 35
    · rw [if_neg h, if_neg hw, if_pos h35, List.drop_succ_cons]; exact space_next r true
    · rw [if_neg h, if_neg hw, if_neg h35, List.drop_zero]
      exact Or.inr ⟨c, r, rfl, h, Bool.eq_false_iff.2 hw, h35⟩
theorem space_loop (s : ByteArray) (hs : s.size ≤ 20000) (d : Nat) : ∀ (i : Nat), s.size - i ≤ d → i ≤ s.size →
    Ev (fun k => ancepsref05_space.l0 k s (i : Int)) ((i + spaceM false ((bytesOf s).drop i) : Nat) : Int) ∧ Ev (fun k => ancepsref05_space.l1 k s (i : Int)) ((i + spaceM true ((bytesOf s).drop i) : Nat) : Int) := by
  induction d with
  | zero =>
    intro i hd hi
    rw [drop_ge s i (by omega)]
    have e0 : Ev (fun k => ancepsref05_space.l0 k s (i : Int)) (i : Int) := Ev.step (fun k => ancepsref05_space.l0.eq_2 _ _ _) (Ev.neg (by omega) (Ev.val rfl))
    exact ⟨e0, Ev.step (fun k => ancepsref05_space.l1.eq_2 _ _ _) (Ev.neg (by omega) e0)⟩
  | succ d ih =>
    intro i hd hi
    by_cases hlt : i < s.size
    rotate_left
    · rw [drop_ge s i (by omega)]
      have e0 : Ev (fun k => ancepsref05_space.l0 k s (i : Int)) (i : Int) := Ev.step (fun k => ancepsref05_space.l0.eq_2 _ _ _) (Ev.neg (by omega) (Ev.val rfl))
      exact ⟨e0, Ev.step (fun k => ancepsref05_space.l1.eq_2 _ _ _) (Ev.neg (by omega) e0)⟩
    have sp : Ev (fun k => ancepsref05_space.j1 k s i (bt s i) true) ((i + (spaceM false ((bytesOf s).drop (i + 1)) + 1) : Nat) : Int) := by
      refine Ev.step (fun k => ancepsref05_space.j1.eq_2 _ _ _ _ _) (Ev.pos rfl ?_)
      rw [w64 (by omega) (by omega)]
      exact Ev.eq (by omega) (ih (i + 1) (by omega) (by omega)).1
    have z : Ev (fun k => ancepsref05_space.l0 k s (i : Int)) ((i + spaceM false (bt s i :: (bytesOf s).drop (i + 1)) : Nat) : Int) := by
      rw [spaceM]
      refine Ev.step (fun k => ancepsref05_space.l0.eq_2 _ _ _) (Ev.pos (by omega) (Ev.pos (by omega) ?_))
      refine Ev.cond (fun h => ?_) (fun h32 => Ev.cond (fun h => ?_) (fun h9 => Ev.cond (fun h => ?_) (fun h10 => ?_)))
      · rw [if_neg (by omega), if_pos (by unfold white; rw [h]; rfl), show (bt s i == 32) = true by rw [h]; rfl]; exact sp
      · rw [if_neg (by omega), if_pos (by unfold white; rw [h]; rfl), show (bt s i == 9) = true by rw [h]; rfl]; exact sp
      · rw [if_pos h, show (bt s i == 10) = true by rw [h]; rfl]; exact sp
      · by_cases h13 : bt s i = 13
        · rw [if_neg (by omega), if_pos (by unfold white; rw [h13]; rfl), show (bt s i == 13) = true by rw [h13]; rfl]; exact sp
        · have hw : white (bt s i) = false := by unfold white; rw [decide_eq_false h32, decide_eq_false h9, decide_eq_false h13]; rfl
          rw [if_neg h10, hw, if_f, show (bt s i == 13) = false by simpa using h13]
          refine Ev.step (fun k => ancepsref05_space.j1.eq_2 _ _ _ _ _) (Ev.neg (by decide) ?_)
          refine Ev.cond (fun h => ?_) (fun h35 => ?_)
          · rw [if_pos h]
            refine Ev.step (fun k => ancepsref05_space.l1.eq_2 _ _ _) (Ev.pos (by omega) (Ev.pos (by omega) (Ev.neg h10 ?_)))
            rw [w64 (by omega) (by omega)]
            exact Ev.eq (by omega) (ih (i + 1) (by omega) (by omega)).2
          · rw [if_neg h35]; exact Ev.val rfl
    rw [drop_lt s i hlt]
    refine ⟨z, ?_⟩
    rw [spaceM]
    refine Ev.step (fun k => ancepsref05_space.l1.eq_2 _ _ _) (Ev.pos (by omega) (Ev.pos (by omega) ?_))
    refine Ev.cond (fun h10 => ?_) (fun h10 => ?_)
    · rw [if_pos h10]; rw [spaceM, if_pos h10] at z; exact z
    · rw [if_neg h10, w64 (by omega) (by omega)]
      exact Ev.eq (by omega) (ih (i + 1) (by omega) (by omega)).2
theorem space_ev (s : ByteArray) (hs : s.size ≤ 20000) : Ev (fun k => ancepsref05_space.f k s) ((spaceM false (bytesOf s) : Nat) : Int) :=
  Ev.eq (by rw [List.drop_zero, Nat.zero_add]) (space_loop s hs s.size 0 (by omega) (by omega)).1
theorem feeds_loop (s : ByteArray) (hs : s.size ≤ 20000) (d : Nat) : ∀ (i n : Nat), i + d = s.size → n ≤ i → Ev (fun k => ancepsref05_feeds.l0 k s (n : Int) (i : Int)) ((n + feedsL ((bytesOf s).drop i) : Nat) : Int) := by
  induction d with
  | zero =>
    intro i n hi hn
    exact Ev.step (fun k => rfl) (Ev.neg (by omega) (Ev.val (by rw [drop_ge s i (by omega)]; rfl)))
  | succ d ih =>
    intro i n hi hn
    refine Ev.step (fun k => rfl) (Ev.pos (by omega) (Ev.pos (by omega) ?_))
    rw [drop_lt s i (by omega), feedsL, w64 (i := (i : Int) + 1) (by omega) (by omega), w64 (by omega) (by omega)]
    refine Ev.cond (fun h => ?_) (fun h => ?_)
    · rw [if_pos h]; exact Ev.eq (by omega) (ih (i + 1) (n + 1) (by omega) (by omega))
    · rw [if_neg h]; exact ih (i + 1) n (by omega) (by omega)
theorem feeds_ev (s : ByteArray) (hs : s.size ≤ 20000) : Ev (fun k => ancepsref05_feeds.f k s) ((feedsL (bytesOf s) : Nat) : Int) :=
  Ev.eq (by rw [List.drop_zero, Nat.zero_add]) (feeds_loop s hs s.size 0 0 (by omega) (by omega))
theorem rtokens_loop (s : ByteArray) (hs : s.size ≤ 20000) (d : Nat) : ∀ (i : Nat) (line : Int) (acc : List S31) (f : Nat), s.size - i ≤ d → i ≤ s.size → 1 ≤ line → line ≤ i + 1 → acc.length ≤ i → s.size - i < f →
    Ev (fun k => ancepsref05_Tokens.l0 k s acc line (i : Int)) (lexL f false ((bytesOf s).drop i) line acc) := by
  induction d using Nat.strongRecOn with
  | _ d ih =>
    intro i line acc f hd hi h1 h2 ha hf
    have hsp := spaceM_le ((bytesOf s).drop i) false
    have hln := drop_len s i
    rw [lexL_space _ _ _ _ _ (by omega)]
    refine Ev.step (fun k => rfl) (Ev.pos (by omega) (Ev.pos (by omega) ?_))
    rw [Int.toNat_natCast]
    have hsz : (s.extract i s.size).size = s.size - i := by rw [ByteArray.size_extract]; omega
    have e1 := space_ev (s.extract i s.size) (by omega)
    rw [bytesOf_tail] at e1
    refine Ev.bind e1 ?_
    have hfl := feedsL_le (((bytesOf s).drop i).take (spaceM false ((bytesOf s).drop i)))
    rw [List.length_take] at hfl
    rw [w64 (by omega) (by omega), show (i : Int) + (spaceM false ((bytesOf s).drop i) : Nat) = ((i + spaceM false ((bytesOf s).drop i) : Nat) : Int) by omega]
    refine Ev.pos (by omega) (Ev.pos (by omega) ?_)
    rw [Int.toNat_natCast]
    have e2 := feeds_ev (s.extract i (i + spaceM false ((bytesOf s).drop i))) (by rw [ByteArray.size_extract]; omega)
    rw [bytesOf_extract, List.drop_take, Nat.add_sub_cancel_left] at e2
    refine Ev.bind e2 ?_
    rw [w64 (by omega) (by omega), List.drop_drop]
    generalize hN : spaceM false ((bytesOf s).drop i) = N at *
    generalize hL : line + (feedsL (((bytesOf s).drop i).take N) : Nat) = L at *
    have hnx := space_next ((bytesOf s).drop i) false
    rw [hN, List.drop_drop] at hnx
    obtain ⟨g, hg⟩ : ∃ g, f - N = g + 1 := ⟨f - N - 1, by omega⟩
    rw [hg]
    by_cases hend : i + N = s.size
    · rw [drop_ge s (i + N) (by omega)]
      exact Ev.pos (by omega) (Ev.val rfl)
    · refine Ev.neg (by omega) (Ev.pos (by omega) ?_)
      obtain ⟨r, hr, hag⟩ := rnext_ev (s.extract (i + N) s.size) (by rw [ByteArray.size_extract]; omega) (by rw [ByteArray.size_extract]; omega)
      refine Ev.bind hr ?_
      have hb := bytesOf_tail s (i + N)
      rcases hnx with hn | ⟨c, t, hn, hc1, hc2, hc3⟩
      · have := drop_len s (i + N)
        rw [hn] at this
        exact absurd this (by rw [List.length_nil]; omega)
      rw [hb, hn] at hag
      have hlen := drop_len s (i + N)
      rw [hn] at hlen
      have hl := nextL_len (c :: t)
      rw [hlen] at hl
      rw [hn, lexL, if_neg hc1, hc2, if_f, if_neg hc3]
      refine Ev.cond (fun h => ?_) (fun h => ?_)
      · have he : (nextL (c :: t)).err = 0 := hag.1.symm.trans h
        have hl := hl he
        rw [if_pos he, tok_eq hag he, hag.2 he]
        refine Ev.pos (by omega) ?_
        simp only
        rw [w64 (by omega) (by omega), show ((i + N : Nat) : Int) + ((nextL (c :: t)).n : Nat) = ((i + N + (nextL (c :: t)).n : Nat) : Int) by omega, ← hn, List.drop_drop, hn]
        exact ih (s.size - (i + N + (nextL (c :: t)).n)) (by omega) _ L _ g (by omega) (by omega) (by omega) (by omega) (by rw [List.length_append, List.length_singleton]; omega) (by omega)
      · rw [if_neg (fun e => h (hag.1.trans e)), hag.1]
        exact Ev.val rfl
theorem rtokens_ev (s : ByteArray) : Ev (fun k => ancepsref05_Tokens.f k s) (tokensS s) := by
  unfold ancepsref05_Tokens.f tokensS
  refine Ev.cond (fun h => ?_) (fun h => ?_)
  · rw [if_pos (c := s.size > 20000) (by omega)]; exact Ev.val rfl
  · rw [if_neg (c := s.size > 20000) (by omega)]
    exact rtokens_loop s (by omega) s.size 0 1 [] _ (by omega) (by omega) (by omega) (by omega) (by simp) (by omega)
theorem lexL_len : ∀ (f : Nat) (m : Bool) (l : List Int) (line : Int) (acc : List S31), (lexL f m l line acc).1.length ≤ acc.length + l.length
  | 0, _, _, _, _ => by rw [lexL]; exact Nat.zero_le _
  | f + 1, m, [], _, acc => by cases m <;> exact Nat.le_refl _
  | f + 1, true, c :: r, line, acc => by
    have h1 := lexL_len f false r (line + 1) acc
    have h2 := lexL_len f true r line acc
    rw [lexL, List.length_cons]; split <;> omega
  | f + 1, false, c :: r, line, acc => by
    have h1 := lexL_len f false r (line + 1) acc
    have h2 := lexL_len f true r line acc
    have h3 := lexL_len f false r line acc
    have h4 := lexL_len f false ((c :: r).drop (nextL (c :: r)).n) line (acc ++ [tok (nextL (c :: r)) line])
    have h5 := nextL_len (c :: r)
    rw [List.length_append, List.length_singleton, List.length_drop, List.length_cons] at h4
    rw [List.length_cons] at h5
    rw [lexL, List.length_cons]
    split
    · omega
    split
    · omega
    split
    · omega
    split
    · next he => have := h5 he; omega
    · exact Nat.zero_le _
theorem tokensS_len (s : ByteArray) : (tokensS s).1.length ≤ 20000 := by
  unfold tokensS
  by_cases h : s.size > 20000
  · rw [if_pos h]; exact Nat.zero_le _
  · rw [if_neg h]
    have := lexL_len (s.size + 1) false (bytesOf s) 1 []
    rw [bytesOf_length, List.length_nil] at this; omega
theorem awake_ev : Ev (fun k => ancepslaw05_awake.f k) true := Ev.of (fun k => ancepslaw05_awake.mono k) (k := 60) (by kernel_rfl)
end Go.Proofs.Ytkkgacoecimlpaa.Lem
