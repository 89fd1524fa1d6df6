/- Plain lemmas of chapter 5: tokens that are written are read again. -/
import Derived.Test.YtkkgacoecimlpaaLem3
namespace Go.Proofs.Ytkkgacoecimlpaa.Lem
open Go.RowKit Go.Proofs.Ytkkgacoecimlpaa.X Go.Proofs.YtkkgacoecimlpaaW.PrintWords Go.Proofs.YtkkgacoecimlpaaW.PrintLast
def wrL (t : S31) : List Int := if t.f0 = 3 then 34 :: (bytesOf t.f1 ++ [34]) else bytesOf t.f1
def rightT (t : S31) : Bool :=
  if t.f0 = 1 then isName t.f1
  else if t.f0 = 2 then numOk t.f1
  else if t.f0 = 3 then decide (t.f1.size ≤ 60) && (bytesOf t.f1).all inside
  else if t.f0 = 4 then decide (t.f1.size = 1) && sign (bt t.f1 0)
  else false
def Sep (rest : List Int) : Prop := rest = [] ∨ ∃ c r, rest = c :: r ∧ alnum c = false ∧ c ≠ 45
theorem sep_digit {c : Int} (h : alnum c = false) : digit c = false := by unfold alnum at h; exact (Bool.or_eq_false_iff.1 h).2
theorem digits_app : ∀ (l rest : List Int), digitsL l = l.length → Sep rest → digitsL (l ++ rest) = l.length
  | [], rest, _, hs => by
    rcases hs with rfl | ⟨c, r, rfl, h, _⟩
    · rfl
    · rw [List.nil_append, digitsL, sep_digit h]; rfl
  | c :: l, rest, h, hs => by
    rw [digitsL] at h
    by_cases hd : digit c = true
    · rw [if_pos hd, List.length_cons] at h
      rw [List.cons_append, digitsL, if_pos hd, digits_app l rest (by omega) hs, List.length_cons]
    · rw [if_neg hd, List.length_cons] at h; omega
theorem tail_app : ∀ (l rest : List Int), tailL l = l.length → Sep rest → tailL (l ++ rest) = l.length
  | [], rest, _, hs => by
    rcases hs with rfl | ⟨c, r, rfl, h, h'⟩
    · rfl
    · exact tail_no r h h'
  | [c], rest, h, hs => by
    by_cases ha : alnum c = true
    · rw [List.cons_append, tail_al _ ha, tail_app [] rest rfl hs]; rfl
    · rw [tailL, if_neg ha] at h; exact absurd h (by simp)
  | c :: d :: l, rest, h, hs => by
    by_cases ha : alnum c = true
    · rw [tail_al _ ha, List.length_cons] at h
      rw [List.cons_append, tail_al _ ha, tail_app (d :: l) rest (by omega) hs]; rfl
    · rw [tailL, if_neg ha] at h
      by_cases hd : c = 45 ∧ alnum d = true
      · rw [if_pos hd, List.length_cons, List.length_cons] at h
        rw [List.cons_append, List.cons_append, tailL, if_neg ha, if_pos hd, tail_app l rest (by omega) hs, List.length_cons, List.length_cons]
      · rw [if_neg hd, List.length_cons] at h; omega
theorem name_app (l rest : List Int) (h : nameL l = l.length) (h0 : l ≠ []) (hs : Sep rest) : nameL (l ++ rest) = l.length := by
  cases l with
  | nil => exact absurd rfl h0
  | cons c r =>
    rw [nameL] at h
    by_cases hc : small c = true
    · rw [if_pos hc, List.length_cons] at h
      rw [List.cons_append, nameL, if_pos hc, tail_app r rest (by omega) hs, List.length_cons]
    · rw [if_neg hc, List.length_cons] at h; omega
theorem inside_app : ∀ (l rest : List Int), l.all inside = true → insideL (l ++ 34 :: rest) = l.length
  | [], rest, _ => by rw [List.nil_append, insideL]; rfl
  | c :: l, rest, h => by
    rw [List.all_cons, Bool.and_eq_true] at h
    rw [List.cons_append, insideL, if_pos h.1, inside_app l rest h.2, List.length_cons]
theorem str_bytes (s : ByteArray) : strOfNums (bytesOf s) = s := bytesOf_inj (bytesOf_str _ (fun c hc => bytesOf_range s c hc))
theorem take_app {l r : List Int} {n : Nat} (h : n = l.length) : (l ++ r).take n = l := by subst h; exact List.take_left' rfl
theorem drop_app {l r : List Int} {n : Nat} (h : n = l.length) : (l ++ r).drop n = r := by subst h; exact List.drop_left' rfl
theorem digit_not_small {c : Int} (h : digit c = true) : small c = false := by
  unfold digit at h; unfold small
  rw [Bool.and_eq_true, decide_eq_true_iff, decide_eq_true_iff] at h
  rw [decide_eq_false (by omega), Bool.false_and]
theorem cons_of {s : ByteArray} (h : 0 < s.size) : bytesOf s = bt s 0 :: (bytesOf s).drop 1 := by
  have := drop_lt s 0 h
  rw [List.drop_zero] at this; exact this
/-- a right token, written, is the next token -/
theorem next_wr (t : S31) (rest : List Int) (h : rightT t = true) (hs : Sep rest) : nextL (wrL t ++ rest) = ⟨t.f0, bytesOf t.f1, (wrL t).length, 0⟩ := by
  unfold rightT at h
  by_cases h1 : t.f0 = 1
  · rw [if_pos h1] at h
    unfold isName at h
    rw [Bool.and_eq_true, Bool.and_eq_true, decide_eq_true_iff, decide_eq_true_iff, decide_eq_true_iff] at h
    obtain ⟨p1, p2, p3⟩ := h
    have hw : wrL t = bytesOf t.f1 := by unfold wrL; rw [if_neg (by omega)]
    have hn : nameL (bytesOf t.f1 ++ rest) = (bytesOf t.f1).length := name_app _ _ (by rw [bytesOf_length]; exact p3) (fun e => by rw [bytesOf_nil] at e; omega) hs
    rw [hw]
    have hsm : small (bt t.f1 0) = true := by
      rw [cons_of p1, nameL] at p3
      cases hc : small (bt t.f1 0) with
      | true => rfl
      | false => rw [hc, if_f] at p3; omega
    have hc := cons_of p1
    generalize hL : bytesOf t.f1 = L at *
    generalize (L.drop 1) = r at *
    subst hc
    rw [List.cons_append] at hn ⊢
    rw [nextL, if_pos hsm, hn, if_neg, h1, ← List.cons_append, take_app rfl]
    rw [← hL, bytesOf_length]; omega
  rw [if_neg h1] at h
  by_cases h2 : t.f0 = 2
  · rw [if_pos h2] at h
    unfold numOk at h
    rw [Bool.and_eq_true, Bool.and_eq_true, Bool.and_eq_true, decide_eq_true_iff, decide_eq_true_iff, decide_eq_true_iff, Bool.not_eq_true'] at h
    obtain ⟨p1, p2, p3, p4⟩ := h
    have hw : wrL t = bytesOf t.f1 := by unfold wrL; rw [if_neg (by omega)]
    have hn : digitsL (bytesOf t.f1 ++ rest) = (bytesOf t.f1).length := digits_app _ _ (by rw [bytesOf_length]; exact p3) hs
    rw [hw]
    have hdi : digit (bt t.f1 0) = true := by
      rw [cons_of p1, digitsL] at p3
      cases hc : digit (bt t.f1 0) with
      | true => rfl
      | false => rw [hc, if_f] at p3; omega
    have hc := cons_of p1
    have hlen := bytesOf_length t.f1
    have p4' : ¬ (bt t.f1 0 = 48 ∧ t.f1.size > 1) := fun e => by
      rw [decide_eq_true e.1, decide_eq_true e.2] at p4; exact absurd p4 (by decide)
    generalize hL : bytesOf t.f1 = L at *
    generalize (L.drop 1) = r at *
    subst hc
    rw [List.cons_append] at hn ⊢
    rw [nextL, digit_not_small hdi, if_f, if_pos hdi, hn, if_neg (by omega), if_neg (by rw [hlen]; exact p4'), h2, ← List.cons_append, take_app rfl]
  rw [if_neg h2] at h
  by_cases h3 : t.f0 = 3
  · rw [if_pos h3, Bool.and_eq_true, decide_eq_true_iff] at h
    have hw : wrL t = 34 :: (bytesOf t.f1 ++ [34]) := by unfold wrL; rw [if_pos h3]
    have hn : insideL (bytesOf t.f1 ++ 34 :: rest) = (bytesOf t.f1).length := inside_app _ _ h.2
    have e1 : wrL t ++ rest = 34 :: (bytesOf t.f1 ++ 34 :: rest) := by rw [hw, List.cons_append, List.append_assoc]; rfl
    have hq : quoteE (bytesOf t.f1 ++ 34 :: rest) = 0 := by
      unfold quoteE
      rw [hn, drop_app rfl]
      simp only [if_pos]
      rw [if_neg (by rw [bytesOf_length]; omega)]
    rw [e1, nextL, show small 34 = false by decide, if_f, show digit 34 = false by decide, if_f, if_pos rfl, if_pos hq, hn, take_app rfl, h3, hw, List.length_cons, List.length_append]
    rfl
  rw [if_neg h3] at h
  by_cases h4 : t.f0 = 4
  · rw [if_pos h4, Bool.and_eq_true, decide_eq_true_iff] at h
    have hw : wrL t = bytesOf t.f1 := by unfold wrL; rw [if_neg h3]
    have hc : bytesOf t.f1 = [bt t.f1 0] := by
      rw [cons_of (by omega : 0 < t.f1.size), drop_ge _ _ (by omega)]
    have hr := bytesOf_range t.f1 (bt t.f1 0) (by rw [hc]; exact List.mem_cons_self)
    have key : ∀ n : Fin 256, sign ((n.val : Nat) : Int) = true → small ((n.val : Nat) : Int) = false ∧ digit ((n.val : Nat) : Int) = false ∧ ((n.val : Nat) : Int) ≠ 34 := by decide +kernel
    obtain ⟨n, hn⟩ := byte_fin hr
    have hk := key n (by rw [← hn]; exact h.2)
    rw [← hn] at hk
    rw [hw, hc, List.cons_append, List.nil_append, nextL, hk.1, if_f, hk.2.1, if_f, if_neg hk.2.2, if_pos h.2, h4]
    rfl
  · rw [if_neg h4] at h; exact absurd h (by decide)
/-- a token begins with no space -/
theorem next_head (l : List Int) (h : (nextL l).err = 0) : ∃ c r, l = c :: r ∧ c ≠ 10 ∧ white c = false ∧ c ≠ 35 := by
  cases l with
  | nil => exact absurd h (by decide)
  | cons c r =>
    refine ⟨c, r, rfl, ?_⟩
    have out : ∀ x : Int, small x = false → digit x = false → x ≠ 34 → sign x = false → c ≠ x := fun x h1 h2 h3 h4 e => by
      subst e
      rw [nextL, h1, if_f, h2, if_f, if_neg h3, h4, if_f] at h
      exact absurd h (by decide)
    have h10 := out 10 (by decide) (by decide) (by decide) (by decide)
    have h32 := out 32 (by decide) (by decide) (by decide) (by decide)
    have h9 := out 9 (by decide) (by decide) (by decide) (by decide)
    have h13 := out 13 (by decide) (by decide) (by decide) (by decide)
    have h35 := out 35 (by decide) (by decide) (by decide) (by decide)
    exact ⟨h10, by unfold white; rw [decide_eq_false h32, decide_eq_false h9, decide_eq_false h13]; rfl, h35⟩
theorem lex_tok (f : Nat) (l : List Int) (line : Int) (acc : List S31) (h : (nextL l).err = 0) : lexL (f + 1) false l line acc = lexL f false (l.drop (nextL l).n) line (acc ++ [tok (nextL l) line]) := by
  obtain ⟨c, r, rfl, h1, h2, h3⟩ := next_head l h
  rw [lexL, if_neg h1, h2, if_f, if_neg h3, if_pos h]
def at1 (line : Int) (t : S31) : S31 := ⟨t.f0, t.f1, line⟩
/-- one right token is read -/
theorem lex_wr (f : Nat) (t : S31) (rest : List Int) (line : Int) (acc : List S31) (h : rightT t = true) (hs : Sep rest) : lexL (f + 1) false (wrL t ++ rest) line acc = lexL f false rest line (acc ++ [at1 line t]) := by
  have hn := next_wr t rest h hs
  rw [lex_tok f _ line acc (by rw [hn]), hn, drop_app rfl]
  unfold tok at1
  rw [str_bytes]
theorem lex_end (f : Nat) (line : Int) (acc : List S31) : lexL (f + 1) false [] line acc = (acc, 0, 0) := rfl
def joinL : List S31 → List Int
  | [] => []
  | [t] => wrL t
  | t :: u :: r => wrL t ++ 32 :: joinL (u :: r)
theorem wr_pos (t : S31) (h : rightT t = true) : 1 ≤ (wrL t).length := by
  have h1 := nextL_len (wrL t)
  have := next_wr t [] h (Or.inl rfl)
  rw [List.append_nil] at this
  rw [this] at h1
  exact (h1 rfl).1
theorem lex_join : ∀ (ts : List S31), (∀ t ∈ ts, rightT t = true) → ∀ (f : Nat) (line : Int) (acc : List S31), (joinL ts).length < f → lexL f false (joinL ts) line acc = (acc ++ ts.map (at1 line), 0, 0)
  | [], _, f, line, acc, hf => by
    obtain ⟨f, rfl⟩ : ∃ g, f = g + 1 := ⟨f - 1, by omega⟩
    rw [joinL, lex_end, List.map_nil, List.append_nil]
  | [t], h, f, line, acc, hf => by
    have hp := wr_pos t (h t List.mem_cons_self)
    rw [joinL] at hf ⊢
    obtain ⟨f, rfl⟩ : ∃ g, f = g + 1 + 1 := ⟨f - 2, by omega⟩
    have := lex_wr (f + 1) t [] line acc (h t List.mem_cons_self) (Or.inl rfl)
    rw [List.append_nil] at this
    rw [this, lex_end]; rfl
  | t :: u :: r, h, f, line, acc, hf => by
    have hp := wr_pos t (h t List.mem_cons_self)
    rw [joinL, List.length_append, List.length_cons] at hf
    obtain ⟨f, rfl⟩ : ∃ g, f = g + 1 + 1 := ⟨f - 2, by omega⟩
    rw [joinL, lex_wr (f + 1) t _ line acc (h t List.mem_cons_self) (Or.inr ⟨32, _, rfl, by decide, by decide⟩), lexL, if_neg (by decide), if_pos (by decide),
      lex_join (u :: r) (fun x hx => h x (List.mem_cons_of_mem _ hx)) f line _ (by omega), List.append_assoc]
    rfl
/-! what Tokens gives is right -/
theorem tail_take : ∀ l : List Int, tailL (l.take (tailL l)) = tailL l
  | [] => rfl
  | [c] => by
    by_cases h : alnum c = true
    · rw [tail_al _ h]; exact tail_al _ h
    · rw [show tailL [c] = 0 by rw [tailL, if_neg h]]; rfl
  | c :: d :: r => by
    by_cases h : alnum c = true
    · rw [tail_al _ h, List.take_succ_cons, tail_al _ h, tail_take (d :: r)]
    · rw [tailL, if_neg h]
      by_cases h2 : c = 45 ∧ alnum d = true
      · rw [if_pos h2, List.take_succ_cons, List.take_succ_cons, tailL, if_neg h, if_pos h2, tail_take r]
      · rw [if_neg h2]; rfl
theorem name_take (l : List Int) : nameL (l.take (nameL l)) = nameL l := by
  cases l with
  | nil => rfl
  | cons c r =>
    by_cases h : small c = true
    · rw [nameL, if_pos h, List.take_succ_cons, nameL, if_pos h, tail_take r]
    · rw [nameL, if_neg h]; rfl
theorem inside_take : ∀ l : List Int, (l.take (insideL l)).all inside = true
  | [] => rfl
  | c :: r => by
    rw [insideL]
    by_cases h : inside c = true
    · rw [if_pos h, List.take_succ_cons, List.all_cons, h, inside_take r]; rfl
    · rw [if_neg h]; rfl
theorem mem_take_range {l : List Int} (h : ∀ c ∈ l, 0 ≤ c ∧ c ≤ 255) (n : Nat) : ∀ c ∈ l.take n, 0 ≤ c ∧ c ≤ 255 := fun c hc => h c (List.mem_of_mem_take hc)
theorem tok_right (l : List Int) (hr : ∀ c ∈ l, 0 ≤ c ∧ c ≤ 255) (line : Int) (h : (nextL l).err = 0) : rightT (tok (nextL l) line) = true ∧ wrL (tok (nextL l) line) = l.take (nextL l).n := by
  cases l with
  | nil => exact absurd h (by decide)
  | cons c r =>
    have h1 := nameL_le (c :: r)
    have h2 := digitsL_le (c :: r)
    have h3 := insideL_le r
    rw [List.length_cons] at h1 h2
    rw [nextL] at h ⊢
    cases hs : small c with
    | true =>
      rw [hs, if_t] at h; rw [if_t]
      have : 1 ≤ nameL (c :: r) := by rw [nameL, if_pos hs]; omega
      by_cases h20 : nameL (c :: r) > 20
      · rw [if_pos h20] at h; exact absurd h (by decide)
      · rw [if_neg h20]
        have hb := bytesOf_str _ (mem_take_range hr (nameL (c :: r)))
        have hsz : (strOfNums ((c :: r).take (nameL (c :: r)))).size = nameL (c :: r) := by rw [strOfNums_size, List.length_take, List.length_cons]; omega
        constructor
        · unfold rightT tok isName
          simp only
          rw [if_pos trivial, hb, hsz, name_take, decide_eq_true (by omega), decide_eq_true (by omega), decide_eq_true rfl]; rfl
        · unfold wrL tok
          simp only
          rw [if_neg (by decide), hb]
    | false =>
      rw [hs, if_f] at h; rw [if_f]
      cases hd : digit c with
      | true =>
        rw [hd, if_t] at h; rw [if_t]
        have hp : 1 ≤ digitsL (c :: r) := by rw [digitsL, if_pos hd]; omega
        by_cases h6 : digitsL (c :: r) > 6
        · rw [if_pos h6] at h; exact absurd h (by decide)
        · rw [if_neg h6] at h ⊢
          by_cases hz : c = 48 ∧ digitsL (c :: r) > 1
          · rw [if_pos hz] at h; exact absurd h (by decide)
          · rw [if_neg hz]
            have hb := bytesOf_str _ (mem_take_range hr (digitsL (c :: r)))
            have hsz : (strOfNums ((c :: r).take (digitsL (c :: r)))).size = digitsL (c :: r) := by rw [strOfNums_size, List.length_take, List.length_cons]; omega
            have hb0 : bt (strOfNums ((c :: r).take (digitsL (c :: r)))) 0 = c := by
              have := cons_of (s := strOfNums ((c :: r).take (digitsL (c :: r)))) (by omega)
              rw [hb] at this
              obtain ⟨m, hm⟩ : ∃ m, digitsL (c :: r) = m + 1 := ⟨digitsL (c :: r) - 1, by omega⟩
              rw [hm, List.take_succ_cons] at this
              rw [hm, List.take_succ_cons]
              exact (List.cons.inj this).1.symm
            constructor
            · unfold rightT tok numOk
              simp only
              rw [if_neg (by decide), if_pos trivial, hb, hsz, digitsL_take, hb0, decide_eq_true (by omega), decide_eq_true (by omega), decide_eq_true rfl]
              rw [Bool.true_and, Bool.true_and, Bool.true_and, Bool.not_eq_true', Bool.and_eq_false_iff]
              by_cases h48 : c = 48
              · exact Or.inl (decide_eq_false (fun h => hz ⟨h48, h⟩))
              · exact Or.inr (decide_eq_false h48)
            · unfold wrL tok
              simp only
              rw [if_neg (by decide), hb]
      | false =>
        rw [hd, if_f] at h; rw [if_f]
        by_cases hq : c = 34
        · rw [if_pos hq] at h ⊢
          by_cases he : quoteE r = 0
          · rw [if_pos he]
            have hrr : ∀ x ∈ r, 0 ≤ x ∧ x ≤ 255 := fun x hx => hr x (List.mem_cons_of_mem _ hx)
            have hb := bytesOf_str _ (mem_take_range hrr (insideL r))
            have hsz : (strOfNums (r.take (insideL r))).size = insideL r := by rw [strOfNums_size, List.length_take]; omega
            unfold quoteE at he
            cases hdr : r.drop (insideL r) with
            | nil => rw [hdr] at he; exact absurd (show (2 : Int) = 0 from he) (by decide)
            | cons x t =>
              rw [hdr] at he
              by_cases hx : x = 34
              · simp only at he
                rw [if_pos hx] at he
                by_cases h60 : insideL r > 60
                · rw [if_pos h60] at he; exact absurd he (by decide)
                · constructor
                  · unfold rightT tok
                    simp only
                    rw [if_neg (by decide), if_neg (by decide), if_pos trivial, hb, hsz, inside_take, decide_eq_true (by omega)]; rfl
                  · unfold wrL tok
                    simp only
                    rw [if_pos trivial, hb, hq, List.take_succ_cons, List.take_add_one, ← List.head?_drop, hdr, hx]; rfl
              · simp only at he
                rw [if_neg hx] at he; exact absurd he (by decide)
          · rw [if_neg he] at h; exact absurd h he
        · rw [if_neg hq] at h ⊢
          cases hg : sign c with
          | true =>
            rw [if_t]
            have hb := bytesOf_str [c] (fun x hx => hr x (by rw [List.mem_singleton.1 hx]; exact List.mem_cons_self))
            have hsz : (strOfNums [c]).size = 1 := strOfNums_size _
            constructor
            · unfold rightT tok
              simp only
              rw [if_neg (by decide), if_neg (by decide), if_neg (by decide), if_pos trivial, hsz, decide_eq_true rfl]
              have := cons_of (s := strOfNums [c]) (by omega)
              rw [hb] at this
              rw [← (List.cons.inj this).1, hg]; rfl
            · unfold wrL tok
              simp only
              rw [if_neg (by decide), hb]; rfl
          | false => rw [hg, if_f] at h; exact absurd h (by decide)
/-- Tokens gives right tokens, and what they write is no longer than the text -/
def weight (ts : List S31) : Nat := (ts.map fun t => (wrL t).length).sum
theorem lex_right : ∀ (f : Nat) (m : Bool) (l : List Int) (line : Int) (acc : List S31), (∀ c ∈ l, 0 ≤ c ∧ c ≤ 255) → (∀ t ∈ acc, rightT t = true) → (∀ t ∈ (lexL f m l line acc).1, rightT t = true) ∧ weight (lexL f m l line acc).1 ≤ weight acc + l.length := by
  intro f
  induction f with
  | zero => intro m l line acc _ _; rw [lexL]; exact ⟨fun t ht => by simp at ht, by simp [weight]⟩
  | succ f ih =>
    intro m l line acc hr ha
    cases l with
    | nil => rw [show lexL (f + 1) m [] line acc = (acc, 0, 0) by cases m <;> rfl]; exact ⟨ha, by simp⟩
    | cons c r =>
      have hrr : ∀ x ∈ r, 0 ≤ x ∧ x ≤ 255 := fun x hx => hr x (List.mem_cons_of_mem _ hx)
      have up : ∀ {x : List S31 × Int × Int}, ((∀ t ∈ x.1, rightT t = true) ∧ weight x.1 ≤ weight acc + r.length) → ((∀ t ∈ x.1, rightT t = true) ∧ weight x.1 ≤ weight acc + (c :: r).length) := fun h => ⟨h.1, by rw [List.length_cons]; have := h.2; omega⟩
      cases m with
      | true =>
        rw [lexL]; split
        · exact up (ih _ _ _ _ hrr ha)
        · exact up (ih _ _ _ _ hrr ha)
      | false =>
        rw [lexL]; split
        · exact up (ih _ _ _ _ hrr ha)
        split
        · exact up (ih _ _ _ _ hrr ha)
        split
        · exact up (ih _ _ _ _ hrr ha)
        split
        · next he =>
          have hk := tok_right (c :: r) hr line he
          have hl := nextL_len (c :: r) he
          have := ih false ((c :: r).drop (nextL (c :: r)).n) line (acc ++ [tok (nextL (c :: r)) line]) (fun x hx => hr x (List.mem_of_mem_drop hx)) (fun t ht => by
            rcases List.mem_append.1 ht with h | h
            · exact ha t h
            · rw [List.mem_singleton.1 h]; exact hk.1)
          refine ⟨this.1, ?_⟩
          have hw := this.2
          have e1 : weight (acc ++ [tok (nextL (c :: r)) line]) = weight acc + (nextL (c :: r)).n := by
            unfold weight
            rw [List.map_append, List.sum_append, List.map_singleton, List.sum_singleton, hk.2, List.length_take, Nat.min_eq_left hl.2]
          rw [e1, List.length_drop] at hw
          omega
        · exact ⟨fun t ht => by simp at ht, by simp [weight]⟩
theorem join_len : ∀ ts : List S31, (joinL ts).length ≤ weight ts + ts.length
  | [] => Nat.zero_le _
  | [t] => by rw [joinL]; simp [weight]
  | t :: u :: r => by
    have := join_len (u :: r)
    rw [joinL, List.length_append, List.length_cons]
    have e : weight (t :: u :: r) = (wrL t).length + weight (u :: r) := by unfold weight; rw [List.map_cons, List.sum_cons]
    rw [e, List.length_cons]; omega
theorem wr_range (t : S31) : ∀ c ∈ wrL t, 0 ≤ c ∧ c ≤ 255 := fun c hc => by
  unfold wrL at hc
  split at hc
  · rcases List.mem_cons.1 hc with rfl | h
    · decide
    · rcases List.mem_append.1 h with h | h
      · exact bytesOf_range _ c h
      · rw [List.mem_singleton.1 h]; decide
  · exact bytesOf_range _ c hc
theorem join_range : ∀ ts : List S31, ∀ c ∈ joinL ts, 0 ≤ c ∧ c ≤ 255
  | [], c, hc => by rw [joinL] at hc; simp at hc
  | [t], c, hc => by rw [joinL] at hc; exact wr_range t c hc
  | t :: u :: r, c, hc => by
    rw [joinL] at hc
    rcases List.mem_append.1 hc with h | h
    · exact wr_range t c h
    · rcases List.mem_cons.1 h with rfl | h
      · decide
      · exact join_range (u :: r) c h
theorem wr_at1 (line : Int) (t : S31) : wrL (at1 line t) = wrL t := rfl
theorem right_at1 (line : Int) (t : S31) : rightT (at1 line t) = rightT t := rfl
theorem join_at1 (line : Int) : ∀ ts : List S31, joinL (ts.map (at1 line)) = joinL ts
  | [] => rfl
  | [t] => rfl
  | t :: u :: r => by
    rw [List.map_cons, List.map_cons, joinL, joinL, wr_at1, ← List.map_cons, join_at1 line (u :: r)]
/-- what is written is read -/
theorem tokens_join (ts : List S31) (h : ∀ t ∈ ts, rightT t = true) (hl : (joinL ts).length ≤ 20000) : tokensS (strOfNums (joinL ts)) = (ts.map (at1 1), 0, 0) := by
  unfold tokensS
  rw [strOfNums_size, if_neg (by omega), bytesOf_str _ (join_range ts), lex_join ts h _ 1 [] (by omega)]
  rfl
theorem lex_err : ∀ (f : Nat) (m : Bool) (l : List Int) (line : Int) (acc : List S31), (lexL f m l line acc).2.2 ≠ 0 → (lexL f m l line acc).1 = [] := by
  intro f
  induction f with
  | zero => intros; rfl
  | succ f ih =>
    intro m l line acc
    cases l with
    | nil => cases m <;> exact fun h => absurd rfl h
    | cons c r =>
      cases m with
      | true => rw [lexL]; split <;> exact ih _ _ _ _
      | false =>
        rw [lexL]; split
        · exact ih _ _ _ _
        split
        · exact ih _ _ _ _
        split
        · exact ih _ _ _ _
        split
        · exact ih _ _ _ _
        · exact fun _ => rfl
theorem tokensS_err (s : ByteArray) (h : (tokensS s).2.2 ≠ 0) : (tokensS s).1 = [] := by
  unfold tokensS at h ⊢
  by_cases h1 : s.size > 20000
  · rw [if_pos h1]
  · rw [if_neg h1] at h ⊢; exact lex_err _ _ _ _ _ h
theorem tokensS_right (s : ByteArray) : (∀ t ∈ (tokensS s).1, rightT t = true) ∧ weight (tokensS s).1 ≤ s.size ∧ (tokensS s).1.length ≤ s.size := by
  unfold tokensS
  by_cases h1 : s.size > 20000
  · rw [if_pos h1]; exact ⟨fun t ht => by simp at ht, Nat.zero_le _, Nat.zero_le _⟩
  · rw [if_neg h1]
    have h := lex_right (s.size + 1) false (bytesOf s) 1 [] (bytesOf_range s) (fun t ht => by simp at ht)
    have hl := lexL_len (s.size + 1) false (bytesOf s) 1 []
    rw [bytesOf_length] at h hl
    refine ⟨h.1, ?_, ?_⟩
    · have := h.2; simp only [weight, List.map_nil, List.sum_nil] at this ⊢; omega
    · rw [List.length_nil] at hl; omega
theorem tok_size (t : S31) : t.f1.size ≤ (wrL t).length := by
  unfold wrL
  split
  · rw [List.length_cons, List.length_append, bytesOf_length]; omega
  · rw [bytesOf_length]; exact Nat.le_refl _
theorem weight_mem : ∀ {ts : List S31} {t : S31}, t ∈ ts → (wrL t).length ≤ weight ts
  | [], t, h => by simp at h
  | u :: r, t, h => by
    have e : weight (u :: r) = (wrL u).length + weight r := by unfold weight; rw [List.map_cons, List.sum_cons]
    rcases List.mem_cons.1 h with rfl | h
    · omega
    · have := weight_mem h; omega
theorem rd_T31_nat (l : List S31) (i : Nat) : rd_T31 l (i : Int) = l.getD i z31 := by unfold rd_T31; rw [Int.toNat_natCast]
theorem getD_lt (l : List S31) (i : Nat) (h : i < l.length) : l.getD i z31 = l[i] := by rw [List.getD_eq_getElem?_getD, List.getElem?_eq_getElem h]; rfl
theorem numS_ok (s : ByteArray) : (numS s).2 = numOk s := by unfold numS; cases numOk s <;> rfl
end Go.Proofs.Ytkkgacoecimlpaa.Lem
