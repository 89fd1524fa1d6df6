/- Chapter 54: masks, what fits them, in plain words. -/
import Derived.Test.YtdaooagikacboaaW1
import Derived.Test.YtdaooagikacboaaX4
import Derived.Test.YtdaooagikacboaaX14
import Derived.Test.YtdaooagikacboaaX15
namespace Go.Proofs.Ytdaooagikacboaa.Lem
open Go.RowKit Go.Proofs.Ytdaooagikacboaa.X Go.Proofs.YtdaooagikacboaaW.PrintWords Go.Proofs.YtdaooagikacboaaW.PrintLast
def mB (c : Int) : Bool := c == 63 || smallB c
theorem mask1_ev {c : Int} (h : 0 ≤ c ∧ c ≤ 255) : Ev (fun k => wordlist_mask_1.f k c) (!mB c) := by
  unfold wordlist_mask_1.f mB
  refine Ev.cond (fun h1 => Ev.val (by rw [beq_iff_eq.2 h1]; rfl)) (fun h1 => Ev.bind (small_ev h) (Ev.val ?_))
  rw [beq_eq_false_iff_ne.2 h1]; rfl
theorem mask_loop (s : ByteArray) (hs : s.size ≤ 1000000) (d : Nat) : ∀ i : Nat, i + d = s.size → ∃ t : Int, Ev (fun k => slices_IndexFunc_byte_byte_wordlist_mask_1.l0 k (bytesOf s) ((bytesOf s).length : Int) (i : Int)) t ∧ (t ≥ 0 ↔ ((bytesOf s).drop i).all mB = false) := by
  induction d with
  | zero =>
    intro i hi
    refine ⟨-1, Ev.step (fun k => rfl) (Ev.neg (by rw [bytesOf_length]; omega) (Ev.val rfl)), ?_⟩
    rw [drop_ge s i (by omega)]
    exact ⟨fun h => absurd h (by decide), fun h => absurd h (by decide)⟩
  | succ d ih =>
    intro i hi
    obtain ⟨t, ht, hh⟩ := ih (i + 1) (by omega)
    rw [drop_lt s i (by omega), List.all_cons]
    cases hin : mB (bt s i) with
    | false =>
      refine ⟨(i : Int), Ev.step (fun k => rfl) (Ev.pos (by rw [bytesOf_length]; omega) (Ev.pos (by omega) (Ev.pos (by rw [bytesOf_length]; omega) ?_))), ⟨fun _ => rfl, fun _ => by omega⟩⟩
      rw [rd_bytesOf]
      refine Ev.bind (mask1_ev (bt_range s i)) ?_
      rw [hin]
      exact Ev.pos rfl (Ev.val rfl)
    | true =>
      refine ⟨t, Ev.step (fun k => rfl) (Ev.pos (by rw [bytesOf_length]; omega) (Ev.pos (by omega) (Ev.pos (by rw [bytesOf_length]; omega) ?_))), by rw [Bool.true_and]; exact hh⟩
      rw [rd_bytesOf]
      refine Ev.bind (mask1_ev (bt_range s i)) ?_
      rw [hin, w64 (by omega) (by omega)]
      exact Ev.neg Bool.false_ne_true ht
theorem mask_ev (s : ByteArray) (hs : s.size ≤ 1000000) : Ev (fun k => slices_ContainsFunc_byte_byte_wordlist_mask_1.f k (bytesOf s)) (!(bytesOf s).all mB) := by
  obtain ⟨t, ht, hh⟩ := mask_loop s hs s.size 0 (by omega)
  unfold slices_ContainsFunc_byte_byte_wordlist_mask_1.f slices_IndexFunc_byte_byte_wordlist_mask_1.f
  refine Ev.bind ht (Ev.val ?_)
  rw [List.drop_zero] at hh
  by_cases h : t ≥ 0
  · rw [decide_eq_true h, hh.1 h]; rfl
  · rw [decide_eq_false h]
    cases ha : (bytesOf s).all mB with
    | true => rfl
    | false => exact absurd (hh.2 ha) h
theorem mid1_ev {c : Int} (h : 0 ≤ c ∧ c ≤ 255) : Ev (fun k => wordlist_fits_1.f k c) (!letB c) := by
  unfold wordlist_fits_1.f
  exact Ev.bind (letter_ev h) (Ev.val rfl)
theorem mid_loop (s : ByteArray) (hs : s.size ≤ 1000000) (d : Nat) : ∀ i : Nat, i + d = s.size → ∃ t : Int, Ev (fun k => slices_IndexFunc_byte_byte_wordlist_fits_1.l0 k (bytesOf s) ((bytesOf s).length : Int) (i : Int)) t ∧ (t ≥ 0 ↔ ((bytesOf s).drop i).all letB = false) := by
  induction d with
  | zero =>
    intro i hi
    refine ⟨-1, Ev.step (fun k => rfl) (Ev.neg (by rw [bytesOf_length]; omega) (Ev.val rfl)), ?_⟩
    rw [drop_ge s i (by omega)]
    exact ⟨fun h => absurd h (by decide), fun h => absurd h (by decide)⟩
  | succ d ih =>
    intro i hi
    obtain ⟨t, ht, hh⟩ := ih (i + 1) (by omega)
    rw [drop_lt s i (by omega), List.all_cons]
    cases hin : letB (bt s i) with
    | false =>
      refine ⟨(i : Int), Ev.step (fun k => rfl) (Ev.pos (by rw [bytesOf_length]; omega) (Ev.pos (by omega) (Ev.pos (by rw [bytesOf_length]; omega) ?_))), ⟨fun _ => rfl, fun _ => by omega⟩⟩
      rw [rd_bytesOf]
      refine Ev.bind (mid1_ev (bt_range s i)) ?_
      rw [hin]
      exact Ev.pos rfl (Ev.val rfl)
    | true =>
      refine ⟨t, Ev.step (fun k => rfl) (Ev.pos (by rw [bytesOf_length]; omega) (Ev.pos (by omega) (Ev.pos (by rw [bytesOf_length]; omega) ?_))), by rw [Bool.true_and]; exact hh⟩
      rw [rd_bytesOf]
      refine Ev.bind (mid1_ev (bt_range s i)) ?_
      rw [hin, w64 (by omega) (by omega)]
      exact Ev.neg Bool.false_ne_true ht
theorem mid_ev (s : ByteArray) (hs : s.size ≤ 1000000) : Ev (fun k => slices_ContainsFunc_byte_byte_wordlist_fits_1.f k (bytesOf s)) (!(bytesOf s).all letB) := by
  obtain ⟨t, ht, hh⟩ := mid_loop s hs s.size 0 (by omega)
  unfold slices_ContainsFunc_byte_byte_wordlist_fits_1.f slices_IndexFunc_byte_byte_wordlist_fits_1.f
  refine Ev.bind ht (Ev.val ?_)
  rw [List.drop_zero] at hh
  by_cases h : t ≥ 0
  · rw [decide_eq_true h, hh.1 h]; rfl
  · rw [decide_eq_false h]
    cases ha : (bytesOf s).all letB with
    | true => rfl
    | false => exact absurd (hh.2 ha) h

theorem count_map : ∀ l : List UInt8, (l.map fun x => (x.toNat : Int)).count 42 = l.count 42
  | [] => rfl
  | x :: l => by
    have e : ((x.toNat : Int) == 42) = (x == 42) := by
      by_cases h : x = 42
      · subst h; rfl
      · rw [beq_eq_false_iff_ne.2 h, beq_eq_false_iff_ne.2]
        intro h3
        exact h (UInt8.toNat_inj.1 (show x.toNat = (42 : UInt8).toNat by show x.toNat = 42; omega))
    rw [List.map_cons, List.count_cons, List.count_cons, count_map l, e]
def starsS (s : ByteArray) : Nat := (bytesOf s).count 42
theorem count_f (s : ByteArray) : strings_Count.f s (⟨#[42]⟩ : ByteArray) = some (starsS s : Int) := by
  unfold strings_Count.f starsS bytesOf
  rw [if_pos (show (⟨#[42]⟩ : ByteArray).size = 1 from rfl), count_map]
  rfl
def maskS (m : ByteArray) : Int := if 40 < m.size then 3 else if starsS m ≤ 1 ∧ (bytesOf m).all mB = true then 0 else 2
theorem mask_f_ev (m : ByteArray) : Ev (fun k => wordlist_mask.f k m) (maskS m) := by
  unfold wordlist_mask.f maskS
  refine Ev.cond (fun h => Ev.val (by rw [if_pos (by omega)])) (fun h => ?_)
  rw [if_neg (by omega), count_f]
  refine Ev.just (Ev.cond (fun h1 => Ev.val (by rw [if_neg (fun h2 => by have := h2.1; omega)])) (fun h1 => ?_))
  refine Ev.pos (by omega) (Ev.bind (mask_ev m (by omega)) ?_)
  cases ha : (bytesOf m).all mB with
  | true => rw [if_pos (show starsS m ≤ 1 ∧ true = true from ⟨by omega, rfl⟩)]; exact Ev.neg (by decide) (Ev.val rfl)
  | false => rw [if_neg (show ¬ (starsS m ≤ 1 ∧ false = true) from fun h2 => by cases h2.2)]; exact Ev.pos rfl (Ev.val rfl)
def askedS (l : List ByteArray) (m : ByteArray) : Int := if validS l = 0 then maskS m else validS l
theorem asked_ev (l : List ByteArray) (m : ByteArray) (hl : l.length ≤ 1000000000) : Ev (fun k => wordlist_asked.f k l m) (askedS l m) := by
  unfold wordlist_asked.f askedS
  refine Ev.bind (valid_ev l hl) (Ev.cond (fun h => ?_) (fun h => Ev.val (by rw [if_neg h])))
  rw [if_pos h]
  exact Ev.bind (mask_f_ev m) (Ev.val rfl)
/-! what fits -/
def matchL : List Int → List Int → Bool
  | [], [] => true
  | a :: r, c :: m => (decide (a = c) || (decide (c = 63) && letB a)) && matchL r m
  | [], _ :: _ => false
  | _ :: _, [] => false
theorem matchL_len : ∀ a b : List Int, matchL a b = true → a.length = b.length
  | [], [], _ => rfl
  | a :: r, c :: m, h => by
    rw [matchL, Bool.and_eq_true] at h
    rw [List.length_cons, List.length_cons, matchL_len r m h.2]
  | [], _ :: _, h => by cases h
  | _ :: _, [], h => by cases h
theorem matches_loop (w m : ByteArray) (hs : w.size = m.size) (hm : m.size ≤ 1000000) (d : Nat) : ∀ i : Nat, i + d = m.size → Ev (fun k => wordlist_matches.l0 k w m (m.size : Int) (i : Int)) (matchL ((bytesOf w).drop i) ((bytesOf m).drop i)) := by
  induction d with
  | zero =>
    intro i hi
    rw [drop_ge w i (by omega), drop_ge m i (by omega)]
    exact Ev.step (fun k => rfl) (Ev.neg (by omega) (Ev.val rfl))
  | succ d ih =>
    intro i hi
    rw [drop_lt w i (by omega), drop_lt m i (by omega), matchL]
    refine Ev.step (fun k => rfl) (Ev.pos (by omega) (Ev.pos (by omega) (Ev.pos (by omega) (Ev.pos (by omega) ?_))))
    rw [w64 (by omega) (by omega)]
    have hn := ih (i + 1) (by omega)
    refine Ev.cond (fun h1 => by rw [decide_eq_true h1]; exact hn) (fun h1 => ?_)
    rw [decide_eq_false h1, Bool.false_or]
    refine Ev.cond (fun h2 => ?_) (fun h2 => Ev.val (by rw [decide_eq_false h2]; rfl))
    rw [decide_eq_true h2, Bool.true_and]
    refine Ev.bind (letter_ev (bt_range w i)) ?_
    cases letB (bt w i) with
    | true => exact Ev.pos rfl hn
    | false => exact Ev.neg Bool.false_ne_true (Ev.val rfl)
theorem matches_ev (w m : ByteArray) (hm : m.size ≤ 1000000) : Ev (fun k => wordlist_matches.f k w m) (matchL (bytesOf w) (bytesOf m)) := by
  unfold wordlist_matches.f
  refine Ev.cond (fun h => matches_loop w m (by omega) hm m.size 0 (by omega)) (fun h => Ev.val ?_)
  cases hh : matchL (bytesOf w) (bytesOf m) with
  | false => rfl
  | true => have := matchL_len _ _ hh; rw [bytesOf_length, bytesOf_length] at this; omega
/-- the mask cut at its first star -/
theorem cut_none (s : ByteArray) (h : 42 ∉ bytesOf s) : strings_Cut.at1 s 42 = (s, ⟨#[]⟩, false) := by
  unfold strings_Cut.at1
  have hi : Lib.indexByte s.data.toList 42 = -1 := by
    have hge := Lib.indexByte_ge s.data.toList 42
    by_cases h0 : Lib.indexByte s.data.toList 42 = -1
    · exact h0
    · exfalso
      obtain ⟨o, ho⟩ : ∃ o : Nat, Lib.indexByte s.data.toList 42 = o := ⟨(Lib.indexByte s.data.toList 42).toNat, by omega⟩
      have := (Lib.indexByte_some ho).1
      exact h (List.mem_map.2 ⟨42, List.mem_of_getElem? this, rfl⟩)
  rw [hi, if_neg (by decide)]
theorem cut_some (s : ByteArray) (h : 42 ∈ bytesOf s) : ∃ p q : ByteArray, strings_Cut.at1 s 42 = (p, q, true) ∧ bytesOf s = bytesOf p ++ 42 :: bytesOf q ∧ 42 ∉ bytesOf p := by
  obtain ⟨o, ho⟩ : ∃ o : Nat, Lib.indexByte s.data.toList 42 = o := by
    have hge := Lib.indexByte_ge s.data.toList 42
    by_cases h0 : Lib.indexByte s.data.toList 42 = -1
    · exfalso
      obtain ⟨b, hb, e⟩ := List.mem_map.1 h
      obtain ⟨k, hk⟩ := List.getElem?_of_mem hb
      have hb42 : b = 42 := UInt8.toNat_inj.1 (show b.toNat = (42 : UInt8).toNat by show b.toNat = 42; omega)
      rw [hb42] at hk
      exact Lib.indexByte_none h0 k hk
    · exact ⟨(Lib.indexByte s.data.toList 42).toNat, by omega⟩
  obtain ⟨h1, h2⟩ := Lib.indexByte_some ho
  have hlt : o < s.size := by rw [← data_length]; exact (List.getElem?_eq_some_iff.1 h1).1
  refine ⟨s.extract 0 o, s.extract (o + 1) s.size, ?_, ?_, ?_⟩
  · unfold strings_Cut.at1
    rw [ho, if_pos (by omega), Int.toNat_natCast]
  · rw [bytesOf_extract, bytesOf_tail, List.drop_zero]
    have hb : bt s o = 42 := by
      rw [← bytesOf_get s o hlt]
      have : (bytesOf s)[o]? = some 42 := by unfold bytesOf; rw [List.getElem?_map, h1]; rfl
      exact (List.getElem?_eq_some_iff.1 this).2
    rw [← hb, ← drop_lt s o hlt, List.take_append_drop]
  · rw [bytesOf_extract, List.drop_zero]
    intro hm
    obtain ⟨k, hk⟩ := List.getElem?_of_mem hm
    rw [List.getElem?_take] at hk
    by_cases hko : k < o
    · rw [if_pos hko] at hk
      unfold bytesOf at hk
      rw [List.getElem?_map] at hk
      obtain ⟨b, hb, e⟩ := Option.map_eq_some_iff.1 hk
      have hb42 : b = 42 := UInt8.toNat_inj.1 (show b.toNat = (42 : UInt8).toNat by show b.toNat = 42; omega)
      rw [hb42] at hb
      exact h2 k hko hb
    · rw [if_neg hko] at hk; cases hk
def starL (W p q : List Int) : Bool := decide (p.length + q.length ≤ W.length) && (matchL (W.take p.length) p && (matchL (W.drop (W.length - q.length)) q && ((W.take (W.length - q.length)).drop p.length).all letB))
/-- what the program takes for a fit -/
def fitS (w m : ByteArray) : Bool := if (strings_Cut.at1 m 42).2.2 = true then starL (bytesOf w) (bytesOf (strings_Cut.at1 m 42).1) (bytesOf (strings_Cut.at1 m 42).2.1) else matchL (bytesOf w) (bytesOf m)
theorem fits_ev (w m : ByteArray) (hw : w.size ≤ 1000000) (hm : m.size ≤ 1000000) : Ev (fun k => wordlist_fits.f k w m) (fitS w m) := by
  unfold wordlist_fits.f fitS
  have hc : strings_Cut.f m (⟨#[42]⟩ : ByteArray) = some (strings_Cut.at1 m 42) := by
    unfold strings_Cut.f
    rw [if_pos ⟨rfl, by omega⟩]
    rfl
  rw [hc]
  refine Ev.just ?_
  by_cases h42 : 42 ∈ bytesOf m
  · obtain ⟨p, q, e, hpq, _⟩ := cut_some m h42
    rw [e]
    dsimp only
    have hlen : p.size + (q.size + 1) = m.size := by
      have := congrArg List.length hpq
      rw [List.length_append, List.length_cons, bytesOf_length, bytesOf_length, bytesOf_length] at this
      omega
    rw [if_pos rfl]
    refine Ev.pos rfl ?_
    show Ev (fun k => if wrap64 ((w.size : Int) - (q.size : Int)) < (p.size : Int) then some false else _) _
    rw [w64 (by omega) (by omega)]
    unfold starL
    rw [bytesOf_length, bytesOf_length, bytesOf_length]
    refine Ev.cond (fun h1 => Ev.val (by rw [decide_eq_false (by omega)]; rfl)) (fun h1 => ?_)
    rw [decide_eq_true (by omega), Bool.true_and, show (w.size : Int) - (q.size : Int) = ((w.size - q.size : Nat) : Int) by omega, Int.toNat_natCast, Int.toNat_natCast]
    refine Ev.pos (by omega) (Ev.pos (by omega) (Ev.pos (by omega) (Ev.pos (by rw [extract_size]; omega) (Ev.pos (by omega) ?_))))
    refine Ev.bind (matches_ev _ p (by omega)) ?_
    rw [bytesOf_extract, List.drop_zero]
    cases matchL ((bytesOf w).take p.size) (bytesOf p) with
    | false => exact Ev.neg Bool.false_ne_true (Ev.val rfl)
    | true =>
      rw [Bool.true_and]
      refine Ev.pos rfl (Ev.pos (by omega) (Ev.bind (matches_ev _ q (by omega)) ?_))
      rw [bytesOf_tail]
      cases matchL ((bytesOf w).drop (w.size - q.size)) (bytesOf q) with
      | false => exact Ev.neg Bool.false_ne_true (Ev.val rfl)
      | true =>
        rw [Bool.true_and]
        refine Ev.pos rfl (Ev.bind (mid_ev _ (by rw [extract_size]; omega)) (Ev.val ?_))
        rw [bytesOf_extract, Bool.not_not]
  · rw [cut_none m h42]
    dsimp only
    rw [if_neg Bool.false_ne_true]
    refine Ev.neg Bool.false_ne_true (Ev.bind (matches_ev w m hm) (Ev.val rfl))
/-- what the reference takes for a fit -/
def fitR : List Int → List Int → Bool
  | W, [] => W.isEmpty
  | [], c :: m => if c = 42 then fitR [] m else false
  | a :: r, c :: m => if c = 42 then (fitR (a :: r) m || (letB a && fitR r (c :: m))) else if c = 63 then letB a && fitR r m else decide (a = c) && fitR r m
  termination_by W M => W.length + M.length
end Go.Proofs.Ytdaooagikacboaa.Lem
