/- Chapter 54: Add and Remove. -/
import Derived.Test.YtdaooagikacboaaW4
import Derived.Test.YtdaooagikacboaaX23
import Derived.Test.YtdaooagikacboaaX24
namespace Go.Proofs.Ytdaooagikacboaa.Lem
open Go.RowKit Go.Proofs.Ytdaooagikacboaa.X Go.Proofs.YtdaooagikacboaaW.PrintWords Go.Proofs.YtdaooagikacboaaW.PrintLast
theorem insN_less (w : ByteArray) : ∀ (l : List ByteArray) (j : Nat), j < insN w l → less (l.getD j ByteArray.empty) w = true
  | [], j, h => absurd h (Nat.not_lt_zero _)
  | s :: r, j, h => by
    rw [insN] at h
    by_cases hs : less s w = true
    · rw [if_pos hs] at h
      cases j with
      | zero => exact hs
      | succ j => exact insN_less w r j (by omega)
    · rw [if_neg hs] at h; exact absurd h (Nat.not_lt_zero _)
theorem insN_stop (w : ByteArray) : ∀ l : List ByteArray, insN w l < l.length → less (l.getD (insN w l) ByteArray.empty) w = false
  | [], h => absurd h (Nat.not_lt_zero _)
  | s :: r, h => by
    rw [insN] at h ⊢
    by_cases hs : less s w = true
    · rw [if_pos hs] at h ⊢
      exact insN_stop w r (by simpa using h)
    · rw [if_neg hs]; exact Bool.eq_false_iff.2 hs
theorem insN_is {w : ByteArray} {l : List ByteArray} {n : Nat} (hn : n < l.length) (h1 : ∀ j, j < n → less (l.getD j ByteArray.empty) w = true) (h2 : less (l.getD n ByteArray.empty) w = false) : insN w l = n := by
  rcases Nat.lt_trichotomy (insN w l) n with h | h | h
  · have := insN_stop w l (by omega)
    rw [h1 _ h] at this; cases this
  · exact h
  · have := insN_less w l n h
    rw [h2] at this; cases this
/-- behind the place none is less -/
theorem insN_ge {w : ByteArray} {l : List ByteArray} (hv : validS l = 0) {j : Nat} (h : insN w l ≤ j) (hj : j < l.length) : less (l.getD j ByteArray.empty) w = false := by
  have h0 := insN_stop w l (by omega)
  by_cases he : insN w l = j
  · rw [← he]; exact h0
  · cases hh : less (l.getD j ByteArray.empty) w with
    | false => rfl
    | true =>
      have := less_trans (sorted_at hv (show insN w l < j by omega) hj) hh
      rw [h0] at this; cases this
theorem mem_at {w : ByteArray} {l : List ByteArray} (hv : validS l = 0) : w ∈ l ↔ insN w l < l.length ∧ l.getD (insN w l) ByteArray.empty = w := by
  constructor
  · intro hm
    obtain ⟨j, hj, rfl⟩ := List.getElem_of_mem hm
    have hg := getD_at l j hj
    have h1 : ∀ i, i < j → less (l.getD i ByteArray.empty) l[j] = true := fun i hi => by rw [← hg]; exact sorted_at hv hi hj
    have h2 : less (l.getD j ByteArray.empty) l[j] = false := by rw [hg]; exact less_irrefl _
    rw [insN_is hj h1 h2]
    exact ⟨hj, hg⟩
  · rintro ⟨h1, h2⟩
    rw [← h2, getD_at l _ h1]
    exact List.getElem_mem h1
theorem lessF (x y : ByteArray) : cmp_Less_string.f x y = some (less x y) := by
  unfold cmp_Less_string.f cmp_isNaN_string.f
  rw [Option.bind_some, if_neg (by simp)]; rfl
theorem mid (lo hi : Nat) (h : lo + hi ≤ 1000000) : wrap64 ((IntKind.u64.wrap (wrap64 ((lo : Int) + (hi : Int)))) / 2) = (((lo + hi) / 2 : Nat) : Int) := by
  rw [w64 (i := (lo : Int) + (hi : Int)) (by omega) (by omega)]
  have : IntKind.u64.wrap ((lo : Int) + (hi : Int)) = (lo : Int) + (hi : Int) := by
    rw [IntKind.wrap_u64]; omega
  rw [this, w64 (by omega) (by omega)]
  omega
theorem search_loop (l : List ByteArray) (w : ByteArray) (hv : validS l = 0) (d : Nat) : ∀ lo hi : Nat, hi - lo ≤ d → lo ≤ insN w l → insN w l ≤ hi → hi ≤ l.length → Ev (fun k => slices_BinarySearch_string_string.l0 k l w (l.length : Int) (lo : Int) (hi : Int)) ((insN w l : Int), decide (w ∈ l)) := by
  have hl := (validS_ok hv).1
  induction d with
  | zero =>
    intro lo hi hd h1 h2 h3
    obtain rfl : lo = insN w l := by omega
    refine Ev.step (fun k => rfl) (Ev.neg (by omega) ?_)
    refine Ev.cond (fun h => ?_) (fun h => Ev.val ?_)
    · refine Ev.pos (by omega) (Ev.pos (by omega) ?_)
      rw [rdOf_getD]
      refine Ev.cond (fun h4 => Ev.val ?_) (fun h4 => ?_)
      · rw [decide_eq_true ((mem_at hv).2 ⟨by omega, bytes_ext.1 h4⟩)]
      · unfold slices_isNaN_string.f
        refine Ev.just (Ev.neg (by simp) (Ev.val ?_))
        rw [decide_eq_false (fun hm => h4 (by rw [((mem_at hv).1 hm).2]))]
    · rw [decide_eq_false (fun hm => h (by have := ((mem_at hv).1 hm).1; omega))]
  | succ d ih =>
    intro lo hi hd h1 h2 h3
    by_cases hlt : lo < hi
    · refine Ev.step (fun k => rfl) (Ev.pos (by omega) ?_)
      rw [mid lo hi (by omega)]
      refine Ev.pos (by omega) (Ev.pos (by omega) ?_)
      rw [rdOf_getD, lessF]
      refine Ev.just (Ev.cond (fun h4 => ?_) (fun h4 => ?_))
      · rw [w64 (by omega) (by omega)]
        have h5 : (lo + hi) / 2 < insN w l := by
          rcases Nat.lt_or_ge ((lo + hi) / 2) (insN w l) with h | h
          · exact h
          · have := insN_ge hv h (by omega)
            rw [h4] at this; cases this
        exact ih ((lo + hi) / 2 + 1) hi (by omega) (by omega) h2 h3
      · have h5 : insN w l ≤ (lo + hi) / 2 := by
          rcases Nat.lt_or_ge ((lo + hi) / 2) (insN w l) with h | h
          · exact absurd (insN_less w l _ h) h4
          · exact h
        exact ih lo ((lo + hi) / 2) (by omega) h1 h5 (by omega)
    · obtain rfl : lo = hi := by omega
      exact ih lo lo (by omega) h1 h2 h3
theorem search_ev (l : List ByteArray) (w : ByteArray) (hv : validS l = 0) : Ev (fun k => slices_BinarySearch_string_string.f k l w) ((insN w l : Int), decide (w ∈ l)) := by
  unfold slices_BinarySearch_string_string.f
  exact search_loop l w hv l.length 0 l.length (by omega) (Nat.zero_le _) (insN_le w l) (Nat.le_refl _)
theorem given_ev (l : List ByteArray) (w : ByteArray) (hl : l.length ≤ 1000000000) : Ev (fun k => wordlist_given.f k l w) (givenS l w) := by
  unfold wordlist_given.f givenS
  refine Ev.bind (valid_ev l hl) (Ev.cond (fun h => ?_) (fun h => Ev.val (by rw [if_neg h])))
  rw [if_pos h]
  exact Ev.bind (wrong_ev w) (Ev.val rfl)
theorem add_ev (l : List ByteArray) (w : ByteArray) (hl : l.length ≤ 1000000) : Ev (fun k => wordlist_Add.f k l w) (addS l w) := by
  unfold wordlist_Add.f addS
  refine Ev.bind (given_ev l w (by omega)) (Ev.cond (fun h => ?_) (fun h => Ev.val (by rw [if_neg h])))
  rw [if_pos h]
  refine Ev.bind (search_ev l w (given_ok h).1) (Ev.cond (fun h2 => Ev.val ?_) (fun h2 => ?_))
  · rw [if_pos (of_decide_eq_true h2)]
  · rw [if_neg (fun hm => h2 (decide_eq_true hm))]
    refine Ev.cond (fun h3 => Ev.val (by rw [if_pos (by omega)])) (fun h3 => ?_)
    rw [if_neg (show ¬ l.length = 400 by omega)]
    have := insN_le w l
    exact Ev.pos ⟨by show (0 : Int) ≤ (insN w l : Int); omega, by show (insN w l : Int) ≤ _; omega, hl⟩ (Ev.val rfl)
def remS (l : List ByteArray) (w : ByteArray) : List ByteArray × Int := if givenS l w = 0 then (if w ∈ l then (l.take (insN w l) ++ l.drop (insN w l + 1), 0) else ([], 4)) else ([], givenS l w)
theorem remS_len (l : List ByteArray) (w : ByteArray) : (remS l w).1.length ≤ l.length := by
  unfold remS
  split
  · split
    · simp only [List.length_append, List.length_take, List.length_drop]; omega
    · exact Nat.zero_le _
  · exact Nat.zero_le _
theorem rem_ev (l : List ByteArray) (w : ByteArray) (hl : l.length ≤ 1000000) : Ev (fun k => wordlist_Remove.f k l w) (remS l w) := by
  unfold wordlist_Remove.f remS
  refine Ev.bind (given_ev l w (by omega)) (Ev.cond (fun h => ?_) (fun h => Ev.val (by rw [if_neg h])))
  rw [if_pos h]
  refine Ev.bind (search_ev l w (given_ok h).1) (Ev.cond (fun h2 => ?_) (fun h2 => Ev.val ?_))
  · have hm := of_decide_eq_true h2
    rw [if_pos hm]
    have := ((mem_at (given_ok h).1).1 hm).1
    exact Ev.pos ⟨by show (0 : Int) ≤ (insN w l : Int); omega, by show (insN w l : Int) < _; omega, hl⟩ (Ev.val rfl)
  · rw [if_neg (fun hm => h2 (decide_eq_true hm))]
def without (w : ByteArray) : List ByteArray → List ByteArray
  | [] => []
  | s :: r => if s = w then without w r else s :: without w r
theorem without_id {w : ByteArray} : ∀ {l : List ByteArray}, (∀ s ∈ l, s ≠ w) → without w l = l
  | [], _ => rfl
  | s :: r, h => by rw [without, if_neg (h s List.mem_cons_self), without_id (fun x hx => h x (List.mem_cons_of_mem _ hx))]
theorem without_app (w : ByteArray) : ∀ a b : List ByteArray, without w (a ++ b) = without w a ++ without w b
  | [], b => rfl
  | s :: r, b => by
    rw [List.cons_append, without, without, without_app w r b]
    split <;> rfl
theorem without_at {w : ByteArray} {l : List ByteArray} (hv : validS l = 0) (hm : w ∈ l) : without w l = l.take (insN w l) ++ l.drop (insN w l + 1) := by
  obtain ⟨hi, he⟩ := (mem_at hv).1 hm
  have h0 : l = l.take (insN w l) ++ l[insN w l] :: l.drop (insN w l + 1) := by rw [List.getElem_cons_drop, List.take_append_drop]
  rw [getD_at l _ hi] at he
  rw [he] at h0
  have ha : ∀ s ∈ l.take (insN w l), s ≠ w := by
    intro s hs
    obtain ⟨j, hj, rfl⟩ := List.getElem_of_mem hs
    rw [List.length_take] at hj
    have := insN_less w l j (by omega)
    rw [getD_at l j (by omega)] at this
    rw [List.getElem_take]
    rintro h
    rw [h, less_irrefl] at this; cases this
  have hb : ∀ s ∈ l.drop (insN w l + 1), s ≠ w := by
    intro s hs
    obtain ⟨j, hj, rfl⟩ := List.getElem_of_mem hs
    rw [List.length_drop] at hj
    have := sorted_at hv (show insN w l < insN w l + 1 + j by omega) (by omega)
    rw [getD_at l _ hi, he, getD_at l _ (by omega)] at this
    rw [List.getElem_drop]
    rintro h
    rw [h, less_irrefl] at this; cases this
  conv => lhs; rw [h0]
  rw [without_app, without_id ha, without, if_pos rfl, without_id hb]
theorem rrem_loop (l : List ByteArray) (w : ByteArray) (hl : l.length ≤ 1000000) (d : Nat) : ∀ (i : Nat) (acc : List ByteArray), i + d = l.length → acc.length ≤ i → Ev (fun k => ancepsref54_Remove.l0 k w (i : Int) l acc) (acc ++ without w (l.drop i), 0) := by
  induction d with
  | zero =>
    intro i acc hi ha
    rw [List.drop_eq_nil_of_le (by omega), without, List.append_nil]
    exact Ev.step (fun k => rfl) (Ev.neg (by omega) (Ev.val rfl))
  | succ d ih =>
    intro i acc hi ha
    rw [List.drop_eq_getElem_cons (show i < l.length by omega), without]
    refine Ev.step (fun k => rfl) (Ev.pos (by omega) (Ev.pos (by omega) ?_))
    rw [rdOf_at l i (by omega), w64 (by omega) (by omega)]
    refine Ev.cond (fun h => ?_) (fun h => ?_)
    · rw [if_pos (bytes_ext.1 h)]
      exact ih (i + 1) acc (by omega) (by omega)
    · rw [if_neg (fun e => h (by rw [e]))]
      have := ih (i + 1) (acc ++ [l[i]]) (by omega) (by simp; omega)
      rw [List.append_assoc] at this
      exact Ev.pos (by omega) this
theorem rrem_ev (l : List ByteArray) (w : ByteArray) (hl : l.length ≤ 1000000) : Ev (fun k => ancepsref54_Remove.f k l w) (remS l w) := by
  unfold ancepsref54_Remove.f remS
  refine Ev.bind (rgiven_ev l w (by omega)) (Ev.cond (fun h => ?_) (fun h => Ev.val (by rw [if_neg h])))
  rw [if_pos h]
  refine Ev.bind (has_ev l w (by omega)) (Ev.cond (fun h2 => ?_) (fun h2 => Ev.val (by rw [if_neg (fun hm => h2 (decide_eq_true hm))])))
  have hm := of_decide_eq_true h2
  rw [if_pos hm, ← without_at (given_ok h).1 hm]
  have := rrem_loop l w hl l.length 0 [] (by omega) (Nat.le_refl _)
  rw [List.drop_zero, List.nil_append] at this
  exact this
/-! Has -/
theorem phas_loop (l : List ByteArray) (w : ByteArray) (hl : l.length ≤ 1000000) (d : Nat) : ∀ i : Nat, i + d = l.length → ∃ t : Int, Ev (fun k => slices_Index_string_string.l0 k l w (l.length : Int) (i : Int)) t ∧ (t ≥ 0 ↔ w ∈ l.drop i) := by
  induction d with
  | zero =>
    intro i hi
    rw [List.drop_eq_nil_of_le (by omega)]
    exact ⟨-1, Ev.step (fun k => rfl) (Ev.neg (by omega) (Ev.val rfl)), fun h => absurd h (by decide), fun h => absurd h List.not_mem_nil⟩
  | succ d ih =>
    intro i hi
    obtain ⟨t, ht, hh⟩ := ih (i + 1) (by omega)
    rw [List.drop_eq_getElem_cons (show i < l.length by omega)]
    by_cases h : w = l[i]
    · refine ⟨(i : Int), Ev.step (fun k => rfl) (Ev.pos (by omega) (Ev.pos (by omega) (Ev.pos (by omega) ?_))), fun _ => by rw [h]; exact List.mem_cons_self, fun _ => by omega⟩
      rw [rdOf_at l i (by omega)]
      exact Ev.pos (by rw [h]) (Ev.val rfl)
    · refine ⟨t, Ev.step (fun k => rfl) (Ev.pos (by omega) (Ev.pos (by omega) (Ev.pos (by omega) ?_))), fun h2 => List.mem_cons_of_mem _ (hh.1 h2), fun h2 => hh.2 ((List.mem_cons.1 h2).resolve_left h)⟩
      rw [rdOf_at l i (by omega), w64 (by omega) (by omega)]
      exact Ev.neg (fun e => h (bytes_ext.1 e)) ht
theorem phas_ev (l : List ByteArray) (w : ByteArray) (hl : l.length ≤ 1000000) : Ev (fun k => wordlist_Has.f k l w) (decide (w ∈ l)) := by
  obtain ⟨t, ht, hh⟩ := phas_loop l w hl l.length 0 (by omega)
  rw [List.drop_zero] at hh
  unfold wordlist_Has.f slices_Contains_string_string.f slices_Index_string_string.f
  exact Ev.bind (Ev.bind ht (Ev.val (decide_eq_decide.2 hh))) (Ev.val rfl)
/-! Remove undoes Add -/
theorem getD_app (a b : List ByteArray) (j : Nat) : (a ++ b).getD j ByteArray.empty = if j < a.length then a.getD j ByteArray.empty else b.getD (j - a.length) ByteArray.empty := by
  simp only [List.getD_eq_getElem?_getD, List.getElem?_append]
  split <;> rfl
theorem insL_at {w : ByteArray} {l : List ByteArray} (j : Nat) (_hj : j < l.length + 1) : (insL w l).getD j ByteArray.empty = if j < insN w l then l.getD j ByteArray.empty else if j = insN w l then w else l.getD (j - 1) ByteArray.empty := by
  have hn := insN_le w l
  have ht : (l.take (insN w l)).length = insN w l := by rw [List.length_take]; omega
  unfold insL
  rw [List.append_assoc, getD_app, ht]
  by_cases h1 : j < insN w l
  · rw [if_pos h1, if_pos h1, List.getD_eq_getElem?_getD, List.getElem?_take_of_lt h1, ← List.getD_eq_getElem?_getD]
  · rw [if_neg h1, if_neg h1, getD_app]
    by_cases h2 : j = insN w l
    · rw [if_pos h2, h2, Nat.sub_self]; rfl
    · rw [if_neg h2, if_neg (by show ¬ j - insN w l < 1; omega)]
      show (l.drop (insN w l)).getD (j - insN w l - 1) ByteArray.empty = _
      rw [List.getD_eq_getElem?_getD, List.getElem?_drop, show insN w l + (j - insN w l - 1) = j - 1 by omega, ← List.getD_eq_getElem?_getD]
theorem insL_valid {w : ByteArray} {l : List ByteArray} (hv : validS l = 0) (hw : wrongS w = 0) (hm : ¬ w ∈ l) (hl : l.length < 400) : validS (insL w l) = 0 := by
  have hn := insN_le w l
  refine validS_of (by rw [insL_len]; omega) (fun j hj => ?_)
  rw [insL_len] at hj
  have hbehind : ∀ i, insN w l ≤ i → i < l.length → less w (l.getD i ByteArray.empty) = true := by
    intro i h1 h2
    cases hh : less w (l.getD i ByteArray.empty) with
    | true => rfl
    | false =>
      refine absurd ?_ hm
      rw [less_total hh (insN_ge hv h1 h2), getD_at l i h2]
      exact List.getElem_mem h2
  refine entS_of ?_ (fun h0 => ?_)
  · rw [insL_at j hj]
    by_cases h1 : j < insN w l
    · rw [if_pos h1, getD_at l j (by omega)]; exact valid_word hv _ (List.getElem_mem _)
    · rw [if_neg h1]
      by_cases h2 : j = insN w l
      · rw [if_pos h2]; exact hw
      · rw [if_neg h2, getD_at l (j - 1) (by omega)]; exact valid_word hv _ (List.getElem_mem _)
  · rw [insL_at j hj, insL_at (j - 1) (by omega)]
    by_cases h1 : j < insN w l
    · rw [if_pos h1, if_pos (by omega)]; exact sorted_at hv (by omega) (by omega)
    · rw [if_neg h1]
      by_cases h2 : j = insN w l
      · rw [if_pos h2, if_pos (by omega)]; exact insN_less w l _ (by omega)
      · rw [if_neg h2, if_neg (by omega)]
        by_cases h3 : j - 1 = insN w l
        · rw [if_pos h3]; exact hbehind _ (by omega) (by omega)
        · rw [if_neg h3]; exact sorted_at hv (by omega) (by omega)
theorem insL_mem (w : ByteArray) (l : List ByteArray) : w ∈ insL w l := by
  unfold insL
  exact List.mem_append.2 (.inl (List.mem_append.2 (.inr List.mem_cons_self)))
theorem insL_insN {w : ByteArray} {l : List ByteArray} : insN w (insL w l) = insN w l := by
  have hn := insN_le w l
  refine insN_is (by rw [insL_len]; omega) (fun j hj => ?_) ?_
  · rw [insL_at j (by omega), if_pos hj]; exact insN_less w l j hj
  · rw [insL_at _ (by omega), if_neg (by omega), if_pos rfl]; exact less_irrefl _
theorem rem_ins {w : ByteArray} {l : List ByteArray} (hv : validS l = 0) (hw : wrongS w = 0) (hm : ¬ w ∈ l) (hl : l.length < 400) : remS (insL w l) w = (l, 0) := by
  have hn := insN_le w l
  have ht : (l.take (insN w l)).length = insN w l := by rw [List.length_take]; omega
  have hg : givenS (insL w l) w = 0 := by unfold givenS; rw [if_pos (insL_valid hv hw hm hl)]; exact hw
  unfold remS
  rw [if_pos hg, if_pos (insL_mem w l), insL_insN]
  congr 1
  unfold insL
  rw [List.append_assoc, List.take_left' ht, show l.take (insN w l) ++ ([w] ++ l.drop (insN w l)) = (l.take (insN w l) ++ [w]) ++ l.drop (insN w l) by rw [List.append_assoc], List.drop_left' (by rw [List.length_append, ht]; rfl), List.take_append_drop]
theorem eqs_loop (a : List ByteArray) (hl : a.length ≤ 1000000) (d : Nat) : ∀ i : Nat, i + d = a.length → Ev (fun k => slices_Equal_string_string.l0 k a a (a.length : Int) (i : Int)) true := by
  induction d with
  | zero => intro i hi; exact Ev.step (fun k => rfl) (Ev.neg (by omega) (Ev.val rfl))
  | succ d ih =>
    intro i hi
    refine Ev.step (fun k => rfl) (Ev.pos (by omega) (Ev.pos (by omega) (Ev.pos (by omega) (Ev.pos (by omega) (Ev.pos rfl ?_)))))
    rw [w64 (by omega) (by omega)]
    exact ih (i + 1) (by omega)
theorem eqs_ev (a : List ByteArray) (hl : a.length ≤ 1000000) : Ev (fun k => slices_Equal_string_string.f k a a) true := by
  unfold slices_Equal_string_string.f
  exact Ev.pos rfl (eqs_loop a hl a.length 0 (by omega))
end Go.Proofs.Ytdaooagikacboaa.Lem
