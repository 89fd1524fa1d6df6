/- Plain lemmas of chapter 57: a row that takes one witness after the other: its variants, their witnesses as bits, its error, what each witness has. -/
import Derived.Test.YtmjigfoldeekmaaVO
import Derived.Test.YtmjigfoldeekmaaX7
import Derived.Test.YtmjigfoldeekmaaX21
namespace Go.Proofs.Ytmjigfoldeekmaa.Lem
open Go.RowKit Go.Proofs.Ytmjigfoldeekmaa.X Go.Proofs.YtmjigfoldeekmaaW.PrintWords Go.Proofs.YtmjigfoldeekmaaW.PrintLast
/-! bits of natural numbers -/
theorem ofInt_nat (a : Nat) (ha : a < 2 ^ 64) : (BitVec.ofInt 64 (a : Int)).toNat = a := by rw [BitVec.ofInt_natCast, BitVec.toNat_ofNat, Nat.mod_eq_of_lt ha]
theorem wrap_nat (a : Nat) (ha : a < 2 ^ 62) : IntKind.i64.wrap (a : Int) = a := by
  rw [i64_w]
  exact w64 (by omega) (by omega)
theorem bits_or (a b : Nat) (ha : a < 2 ^ 62) (hb : b < 2 ^ 62) : Go.bits .or .i64 (a : Int) (b : Int) = ((a ||| b : Nat) : Int) := by
  show IntKind.i64.wrap ((BitVec.ofInt 64 (a : Int) ||| BitVec.ofInt 64 (b : Int)).toNat : Int) = _
  rw [BitVec.toNat_or, ofInt_nat a (by omega), ofInt_nat b (by omega)]
  exact wrap_nat _ (Nat.or_lt_two_pow ha hb)
theorem bits_and (a b : Nat) (ha : a < 2 ^ 62) (hb : b < 2 ^ 62) : Go.bits .and .i64 (a : Int) (b : Int) = ((a &&& b : Nat) : Int) := by
  show IntKind.i64.wrap ((BitVec.ofInt 64 (a : Int) &&& BitVec.ofInt 64 (b : Int)).toNat : Int) = _
  rw [BitVec.toNat_and, ofInt_nat a (by omega), ofInt_nat b (by omega)]
  exact wrap_nat _ (Nat.and_lt_two_pow _ hb)
theorem shr_nat (m w : Nat) (hw : w ≤ 62) : shr .i64 (m : Int) (w : Int) = ((m / 2 ^ w : Nat) : Int) := by
  unfold shr
  have e : min (w : Int).toNat IntKind.i64.bits = w := by
    rw [Int.toNat_natCast]
    exact Nat.min_eq_left (by show w ≤ 64; omega)
  rw [e]
  norm_cast
theorem bit_iff (m w : Nat) (hm : m < 2 ^ 62) (hw : w ≤ 62) : Go.bits .and .i64 (shr .i64 (m : Int) (w : Int)) 1 = 1 ↔ m.testBit w = true := by
  rw [shr_nat m w hw]
  have h := bits_and (m / 2 ^ w) 1 (Nat.lt_of_le_of_lt (Nat.div_le_self ..) hm) (by decide)
  rw [show ((1 : Nat) : Int) = 1 from rfl] at h
  rw [h, Nat.and_one_is_mod, Nat.testBit_eq_decide_div_mod_eq, decide_eq_true_iff]
  omega
/-! one witness more -/
def putV (s : ByteArray) (n : Nat) : List S67 → List S67
  | [] => [⟨s, 2 ^ n⟩]
  | v :: l => if v.f0 = s then ⟨v.f0, Go.bits .or .i64 v.f1 (2 ^ n)⟩ :: l else v :: putV s n l
def putS (t s : ByteArray) (n : Nat) (l : List S67) : List S67 := if s = t then l else putV s n l
theorem putV_len (s : ByteArray) (n : Nat) : ∀ l, (putV s n l).length ≤ l.length + 1
  | [] => Nat.le_refl _
  | v :: l => by
    have := putV_len s n l
    rw [putV]
    split <;> simp only [List.length_cons] <;> omega
theorem putS_len (t s : ByteArray) (n : Nat) (l : List S67) : (putS t s n l).length ≤ l.length + 1 := by
  unfold putS
  split
  · omega
  · exact putV_len s n l
theorem put_loop (s : ByteArray) (n : Nat) (hn : n ≤ 62) (l : List S67) (hl : l.length ≤ 1000000) (d : Nat) : ∀ i : Nat, i + d = l.length → Ev (fun k => apparatus_put.i0 k l s (n : Int) (i : Int)) (l.take i ++ putV s n (l.drop i)) := by
  induction d with
  | zero =>
    intro i hi
    rw [List.take_of_length_le (by omega), List.drop_of_length_le (by omega)]
    refine Ev.step (fun k => rfl) (Ev.neg (by omega) (Ev.pos hl (Ev.val ?_)))
    rw [shl_one n hn]; rfl
  | succ d ih =>
    intro i hi
    refine Ev.step (fun k => rfl) (Ev.pos (by omega) (Ev.pos (by omega) ?_))
    rw [rdV, drop_getD l z67 (by omega), putV, w64 (by omega) (by omega)]
    refine Ev.cond (fun h => Ev.val ?_) (fun h => ?_)
    · rw [if_pos (bytes_ext.1 h), shl_one n hn, Int.toNat_natCast, List.set_eq_take_append_cons_drop, if_pos (by omega)]
    · rw [if_neg (fun e => h (by rw [e]))]
      refine Ev.eq ?_ (ih (i + 1) (by omega))
      rw [getD_lt l _ (by omega : i < l.length), List.take_succ_eq_append_getElem (by omega), List.append_assoc]; rfl
theorem put_ev (t s : ByteArray) (n : Nat) (hn : n ≤ 62) (l : List S67) (hl : l.length ≤ 1000000) : Ev (fun k => apparatus_put.f k t l s (n : Int)) (putS t s n l) := by
  unfold apparatus_put.f putS
  refine Ev.pos (by omega) (Ev.cond (fun h => Ev.val (by rw [if_pos (bytes_ext.1 h)])) (fun h => ?_))
  rw [if_neg (fun e => h (by rw [e]))]
  exact put_loop s n hn l hl l.length 0 (by omega)
/-! the reference: texts that differ -/
def Dis (l : List S67) : Prop := l.Pairwise (fun x y => x.f0 ≠ y.f0)
theorem with_loop1 (s t : ByteArray) (n : Nat) (l : List S67) (hl : l.length ≤ 1000000) (d : Nat) : ∀ (i : Nat) (acc : List S67), i + d = l.length → acc.length ≤ i → (∀ v ∈ l.drop i, v.f0 ≠ s) →
    Ev (fun k => ancepsref57_with.l0 k s (n : Int) true (i : Int) t l t acc) (t, acc ++ l.drop i) := by
  induction d with
  | zero =>
    intro i acc hi ha hd
    rw [List.drop_of_length_le (by omega), List.append_nil]
    exact Ev.step (fun k => ancepsref57_with.l0.eq_2 _ _ _ _ _ _ _ _ _) (Ev.neg (by omega) (Ev.pos rfl (Ev.val rfl)))
  | succ d ih =>
    intro i acc hi ha hd
    rw [drop_getD l z67 (by omega)] at hd ⊢
    refine Ev.step (fun k => ancepsref57_with.l0.eq_2 _ _ _ _ _ _ _ _ _) (Ev.pos (by omega) (Ev.pos (by omega) ?_))
    rw [rdV, w64 (by omega) (by omega)]
    refine Ev.neg (fun h => hd _ (List.mem_cons_self ..) (bytes_ext.1 h)) (Ev.pos (by omega) ?_)
    refine Ev.eq ?_ (ih (i + 1) _ (by omega) (by rw [List.length_append]; simp only [List.length_cons, List.length_nil]; omega) (fun v hv => hd v (List.mem_cons_of_mem _ hv)))
    rw [List.append_assoc]; rfl
theorem with_loop (s t : ByteArray) (n : Nat) (hn : n ≤ 62) (l : List S67) (hl : l.length ≤ 1000000) (d : Nat) : ∀ (i : Nat) (acc : List S67), i + d = l.length → acc.length ≤ i → Dis (l.drop i) →
    Ev (fun k => ancepsref57_with.l0 k s (n : Int) false (i : Int) t l t acc) (t, acc ++ putV s n (l.drop i)) := by
  induction d with
  | zero =>
    intro i acc hi ha hd
    rw [List.drop_of_length_le (by omega)]
    refine Ev.step (fun k => ancepsref57_with.l0.eq_2 _ _ _ _ _ _ _ _ _) (Ev.neg (by omega) (Ev.neg Bool.false_ne_true (Ev.pos (by omega) (Ev.pos (by omega) (Ev.val ?_)))))
    rw [shl_one n hn]; rfl
  | succ d ih =>
    intro i acc hi ha hd
    rw [drop_getD l z67 (by omega)] at hd ⊢
    obtain ⟨hd1, hd2⟩ := List.pairwise_cons.1 hd
    refine Ev.step (fun k => ancepsref57_with.l0.eq_2 _ _ _ _ _ _ _ _ _) (Ev.pos (by omega) (Ev.pos (by omega) ?_))
    rw [rdV, w64 (by omega) (by omega), putV]
    refine Ev.cond (fun h => ?_) (fun h => ?_)
    · have e := bytes_ext.1 h
      rw [if_pos e]
      refine Ev.pos (by omega) (Ev.pos (by omega) ?_)
      rw [shl_one n hn]
      refine Ev.eq ?_ (with_loop1 s t n l hl d (i + 1) _ (by omega) (by rw [List.length_append]; simp only [List.length_cons, List.length_nil]; omega) (fun v hv => fun e' => hd1 v hv (e.trans e'.symm)))
      rw [List.append_assoc]; rfl
    · rw [if_neg (fun e => h (by rw [e]))]
      refine Ev.pos (by omega) (Ev.eq ?_ (ih (i + 1) _ (by omega) (by rw [List.length_append]; simp only [List.length_cons, List.length_nil]; omega) hd2))
      rw [List.append_assoc]; rfl
theorem with_ev (t s : ByteArray) (n : Nat) (hn : n ≤ 62) (l : List S67) (hl : l.length ≤ 1000000) (hd : Dis l) : Ev (fun k => ancepsref57_with.f k t l s (n : Int)) (t, putS t s n l) := by
  unfold ancepsref57_with.f putS
  refine Ev.cond (fun h => Ev.val (by rw [if_pos (bytes_ext.1 h)])) (fun h => ?_)
  rw [if_neg (fun e => h (by rw [e]))]
  exact with_loop s t n hn l hl l.length 0 [] (by omega) (Nat.le_refl _) hd
/-! what a row holds when the witnesses ahead of j have been put -/
def Bits (c : Nat → ByteArray) (j : Nat) (v : S67) : Prop := ∃ m : Nat, v.f1 = (m : Int) ∧ ∀ w, m.testBit w = true ↔ w < j ∧ c w = v.f0
structure Col (c : Nat → ByteArray) (t : ByteArray) (j : Nat) (l : List S67) : Prop where
  dis : Dis l
  len : l.length ≤ j
  ne : ∀ v ∈ l, v.f0 ≠ t
  bits : ∀ v ∈ l, Bits c j v
  of : ∀ v ∈ l, ∃ w, w < j ∧ c w = v.f0
  all : ∀ w, w < j → c w ≠ t → ∃ v ∈ l, v.f0 = c w
theorem Bits.lt {c : Nat → ByteArray} {j : Nat} {v : S67} {m : Nat} (h : ∀ w, m.testBit w = true ↔ w < j ∧ c w = v.f0) : m < 2 ^ j := by
  refine Nat.lt_pow_two_of_testBit m fun i hi => ?_
  have h2 : ¬ m.testBit i = true := fun e => by have := ((h i).1 e).1; omega
  simpa using h2
theorem Bits.next {c : Nat → ByteArray} {j : Nat} {v : S67} (h : Bits c j v) (hc : c j ≠ v.f0) : Bits c (j + 1) v := by
  obtain ⟨m, h1, h2⟩ := h
  refine ⟨m, h1, fun w => (h2 w).trans ⟨fun ⟨a, b⟩ => ⟨by omega, b⟩, fun ⟨a, b⟩ => ⟨?_, b⟩⟩⟩
  by_cases e : w = j
  · subst e; exact absurd b hc
  · omega
theorem Bits.add {c : Nat → ByteArray} {j : Nat} (hj : j ≤ 60) {v : S67} (h : Bits c j v) (hc : c j = v.f0) : Bits c (j + 1) ⟨v.f0, Go.bits .or .i64 v.f1 (2 ^ j)⟩ := by
  obtain ⟨m, h1, h2⟩ := h
  have hm := Bits.lt h2
  have hp : (2 : Nat) ^ j ≤ 2 ^ 60 := Nat.pow_le_pow_right (by decide) hj
  refine ⟨m ||| 2 ^ j, ?_, fun w => ?_⟩
  · show Go.bits .or .i64 v.f1 (2 ^ j) = _
    rw [h1]
    have := bits_or m (2 ^ j) (by omega) (by omega)
    rw [← this]
    norm_cast
  · rw [Nat.testBit_or, Bool.or_eq_true, h2 w, Nat.testBit_two_pow, decide_eq_true_iff]
    show _ ↔ w < j + 1 ∧ c w = v.f0
    constructor
    · rintro (⟨a, b⟩ | rfl)
      · exact ⟨by omega, b⟩
      · exact ⟨by omega, hc⟩
    · rintro ⟨a, b⟩
      by_cases e : j = w
      · exact .inr e
      · exact .inl ⟨by omega, b⟩
theorem Bits.one {c : Nat → ByteArray} {j : Nat} (h : ∀ w, w < j → c w ≠ c j) : Bits c (j + 1) ⟨c j, 2 ^ j⟩ := by
  refine ⟨2 ^ j, by norm_cast, fun w => ?_⟩
  rw [Nat.testBit_two_pow, decide_eq_true_iff]
  show _ ↔ w < j + 1 ∧ c w = c j
  constructor
  · rintro rfl; exact ⟨by omega, rfl⟩
  · rintro ⟨a, b⟩
    by_cases e : j = w
    · exact e
    · exact absurd b (h w (by omega))
theorem putV_mem {s : ByteArray} {n : Nat} {v : S67} : ∀ {l : List S67}, Dis l → v ∈ putV s n l → (v ∈ l ∧ v.f0 ≠ s) ∨ (v = ⟨s, 2 ^ n⟩ ∧ ∀ x ∈ l, x.f0 ≠ s) ∨ ∃ x ∈ l, x.f0 = s ∧ v = ⟨x.f0, Go.bits .or .i64 x.f1 (2 ^ n)⟩
  | [], _, h => by
    rw [putV, List.mem_singleton] at h
    exact .inr (.inl ⟨h, fun x hx => by cases hx⟩)
  | x :: l, hd, h => by
    obtain ⟨h1, h2⟩ := List.pairwise_cons.1 hd
    rw [putV] at h
    by_cases e : x.f0 = s
    · rw [if_pos e] at h
      rcases List.mem_cons.1 h with h | h
      · exact .inr (.inr ⟨x, List.mem_cons_self .., e, h⟩)
      · exact .inl ⟨List.mem_cons_of_mem _ h, fun e' => h1 v h (e.trans e'.symm)⟩
    · rw [if_neg e] at h
      rcases List.mem_cons.1 h with h | h
      · subst h; exact .inl ⟨List.mem_cons_self .., e⟩
      · rcases putV_mem h2 h with ⟨a, b⟩ | ⟨a, b⟩ | ⟨y, a, b⟩
        · exact .inl ⟨List.mem_cons_of_mem _ a, b⟩
        · exact .inr (.inl ⟨a, fun z hz => (List.mem_cons.1 hz).elim (fun e' => by rw [e']; exact e) (b z)⟩)
        · exact .inr (.inr ⟨y, List.mem_cons_of_mem _ a, b⟩)
theorem putV_dis {s : ByteArray} {n : Nat} : ∀ {l : List S67}, Dis l → Dis (putV s n l)
  | [], _ => List.pairwise_singleton _ _
  | x :: l, hd => by
    obtain ⟨h1, h2⟩ := List.pairwise_cons.1 hd
    rw [putV]
    by_cases e : x.f0 = s
    · rw [if_pos e]
      exact List.pairwise_cons.2 ⟨h1, h2⟩
    · rw [if_neg e]
      refine List.pairwise_cons.2 ⟨fun v hv => ?_, putV_dis h2⟩
      rcases putV_mem h2 hv with ⟨a, _⟩ | ⟨a, _⟩ | ⟨y, a, b, c⟩
      · exact h1 v a
      · rw [a]; exact e
      · rw [c]; exact h1 y a
theorem putV_has (s : ByteArray) (n : Nat) : ∀ l : List S67, ∃ v ∈ putV s n l, v.f0 = s
  | [] => ⟨_, List.mem_singleton.2 rfl, rfl⟩
  | x :: l => by
    rw [putV]
    by_cases e : x.f0 = s
    · rw [if_pos e]; exact ⟨_, List.mem_cons_self .., e⟩
    · rw [if_neg e]
      obtain ⟨v, hv, h⟩ := putV_has s n l
      exact ⟨v, List.mem_cons_of_mem _ hv, h⟩
theorem putV_keeps (s : ByteArray) (n : Nat) {x : S67} : ∀ {l : List S67}, x ∈ l → ∃ v ∈ putV s n l, v.f0 = x.f0
  | y :: l, h => by
    rw [putV]
    by_cases e : y.f0 = s
    · rw [if_pos e]
      rcases List.mem_cons.1 h with rfl | h
      · exact ⟨_, List.mem_cons_self .., rfl⟩
      · exact ⟨x, List.mem_cons_of_mem _ h, rfl⟩
    · rw [if_neg e]
      rcases List.mem_cons.1 h with rfl | h
      · exact ⟨_, List.mem_cons_self .., rfl⟩
      · obtain ⟨v, hv, h⟩ := putV_keeps s n h
        exact ⟨v, List.mem_cons_of_mem _ hv, h⟩
theorem Col.nil (c : Nat → ByteArray) (t : ByteArray) : Col c t 0 [] := ⟨List.Pairwise.nil, Nat.le_refl _, (fun v h => by cases h), (fun v h => by cases h), (fun v h => by cases h), (fun w h => by omega)⟩
theorem Col.next {c : Nat → ByteArray} {t : ByteArray} {j : Nat} {l : List S67} (h : Col c t j l) (hj : j ≤ 60) : Col c t (j + 1) (putS t (c j) j l) := by
  unfold putS
  by_cases e : c j = t
  · rw [if_pos e]
    refine ⟨h.dis, by have := h.len; omega, h.ne, fun v hv => (h.bits v hv).next (fun e' => h.ne v hv (e'.symm.trans e)), fun v hv => ?_, fun w hw hc => ?_⟩
    · obtain ⟨w, a, b⟩ := h.of v hv
      exact ⟨w, by omega, b⟩
    · by_cases e2 : w = j
      · subst e2; exact absurd e hc
      · exact h.all w (by omega) hc
  · rw [if_neg e]
    refine ⟨putV_dis h.dis, by have := h.len; have := putV_len (c j) j l; omega, fun v hv => ?_, fun v hv => ?_, fun v hv => ?_, fun w hw hc => ?_⟩
    · rcases putV_mem h.dis hv with ⟨a, _⟩ | ⟨a, _⟩ | ⟨y, a, b, c⟩
      · exact h.ne v a
      · rw [a]; exact e
      · rw [c]; exact h.ne y a
    · rcases putV_mem h.dis hv with ⟨a, b⟩ | ⟨a, b⟩ | ⟨y, a, b, d⟩
      · exact (h.bits v a).next (fun e' => b e'.symm)
      · rw [a]
        refine Bits.one (fun w hw e' => ?_)
        obtain ⟨x, hx, hx2⟩ := h.all w hw (by rw [e']; exact e)
        exact b x hx (hx2.trans e')
      · rw [d]; exact (h.bits y a).add hj b.symm
    · rcases putV_mem h.dis hv with ⟨a, _⟩ | ⟨a, _⟩ | ⟨y, a, b, d⟩
      · obtain ⟨w, q, r⟩ := h.of v a
        exact ⟨w, by omega, r⟩
      · exact ⟨j, by omega, by rw [a]⟩
      · exact ⟨j, by omega, by rw [d]; exact b.symm⟩
    · by_cases e2 : w = j
      · subst e2; exact putV_has (c w) w l
      · obtain ⟨x, hx, hx2⟩ := h.all w (by omega) hc
        obtain ⟨v, hv, hv2⟩ := putV_keeps (c j) j hx
        exact ⟨v, hv, hv2.trans hx2⟩
def colF (c : Nat → ByteArray) (t : ByteArray) : Nat → Nat → List S67 → List S67
  | 0, _, l => l
  | d + 1, j, l => colF c t d (j + 1) (putS t (c j) j l)
theorem col_end {c : Nat → ByteArray} {t : ByteArray} (d : Nat) : ∀ {j : Nat} {l : List S67}, j + d ≤ 60 → Col c t j l → Col c t (j + d) (colF c t d j l) := by
  induction d with
  | zero => intro j l _ h; exact h
  | succ d ih =>
    intro j l hj h
    have := ih (by omega) (h.next (by omega))
    rw [show j + 1 + d = j + (d + 1) by omega] at this
    exact this
/-! what a witness has -/
theorem has_none (t : ByteArray) (w : Int) : ∀ l : List S67, (∀ v ∈ l, ¬ Go.bits .and .i64 (shr .i64 v.f1 w) 1 = 1) → hasF t w l = t
  | [], _ => rfl
  | v :: l, h => by rw [hasF, if_neg (h v (List.mem_cons_self ..)), has_none t w l (fun x hx => h x (List.mem_cons_of_mem _ hx))]
theorem has_some (t s : ByteArray) (w : Int) : ∀ l : List S67, (∀ v ∈ l, Go.bits .and .i64 (shr .i64 v.f1 w) 1 = 1 ↔ v.f0 = s) → (∃ v ∈ l, v.f0 = s) → hasF t w l = s
  | [], _, h => by obtain ⟨v, hv, _⟩ := h; cases hv
  | v :: l, h1, h2 => by
    rw [hasF]
    by_cases e : Go.bits .and .i64 (shr .i64 v.f1 w) 1 = 1
    · rw [if_pos e]; exact (h1 v (List.mem_cons_self ..)).1 e
    · rw [if_neg e]
      refine has_some t s w l (fun x hx => h1 x (List.mem_cons_of_mem _ hx)) ?_
      obtain ⟨x, hx, hx2⟩ := h2
      rcases List.mem_cons.1 hx with rfl | hx
      · exact absurd ((h1 x (List.mem_cons_self ..)).2 hx2) e
      · exact ⟨x, hx, hx2⟩
theorem Col.has {c : Nat → ByteArray} {t : ByteArray} {n : Nat} {l : List S67} (h : Col c t n l) (hn : n ≤ 60) {w : Nat} (hw : w < n) : hasF t (w : Int) l = c w := by
  have hb : ∀ v ∈ l, Go.bits .and .i64 (shr .i64 v.f1 (w : Int)) 1 = 1 ↔ v.f0 = c w := by
    intro v hv
    obtain ⟨m, h1, h2⟩ := h.bits v hv
    have hm := Bits.lt h2
    have hp : (2 : Nat) ^ n ≤ 2 ^ 60 := Nat.pow_le_pow_right (by decide) hn
    rw [h1, bit_iff m w (by omega) (by omega), h2 w]
    exact ⟨fun a => a.2.symm, fun a => ⟨hw, a.symm⟩⟩
  by_cases e : c w = t
  · rw [e]
    exact has_none t w l (fun v hv a => h.ne v hv (((hb v hv).1 a).trans e))
  · exact has_some t (c w) w l hb (h.all w hw e)
/-! its error -/
theorem row_none (t : ByteArray) (l : List S67) (n : Nat) (c : Nat → ByteArray) (h : Col c t n l) (hn : n ≤ 60) (hv : ∀ w, w < n → validS (c w) = 0) (d : Nat) : ∀ (i T : Nat), i + d = l.length → T < 2 ^ n → (∀ w, T.testBit w = true → ∃ v ∈ l.take i, c w = v.f0) → rowF t l n d i (T : Int) = 0 := by
  induction d with
  | zero => intro i T _ _ _; rfl
  | succ d ih =>
    intro i T hi hT hb
    have hil : i < l.length := by omega
    have hm := getD_in l z67 hil
    obtain ⟨m, h1, h2⟩ := h.bits _ hm
    have hm2 := Bits.lt h2
    obtain ⟨w, hw1, hw2⟩ := h.of _ hm
    have hp : (2 : Nat) ^ n ≤ 2 ^ 60 := Nat.pow_le_pow_right (by decide) hn
    have hdis : ∀ v ∈ l.take i, v.f0 ≠ (l.getD i z67).f0 := by
      intro v hv'
      obtain ⟨u, hu, rfl⟩ := List.mem_iff_getElem.1 hv'
      rw [List.getElem_take, getD_lt l _ hil]
      rw [List.length_take] at hu
      exact List.pairwise_iff_getElem.1 h.dis u i (by omega) hil (by omega)
    have hand : m &&& T = 0 := by
      refine Nat.eq_of_testBit_eq fun w => ?_
      rw [Nat.testBit_and, Nat.zero_testBit, Bool.and_eq_false_iff]
      by_cases e : T.testBit w = true
      · left
        obtain ⟨v, hv', hv2⟩ := hb w e
        by_cases e2 : m.testBit w = true
        · exact absurd (hv2.symm.trans ((h2 w).1 e2).2) (hdis v hv')
        · simpa using e2
      · right; simpa using e
    rw [rowF, ← hw2, if_pos (hv w hw1), hw2, if_neg (h.ne _ hm), if_neg (fun e => ?_), h1, if_neg (fun e => ?_), bits_and m T (by omega) (by omega), hand, if_pos (show ((0 : Nat) : Int) = 0 from rfl), bits_or T m (by omega) (by omega)]
    · refine ih (i + 1) _ (by omega) (Nat.or_lt_two_pow hT hm2) (fun w hw => ?_)
      rw [getD_lt l _ hil] at h2
      rw [Nat.testBit_or, Bool.or_eq_true] at hw
      rcases hw with hw | hw
      · obtain ⟨v, hv', hv2⟩ := hb w hw
        exact ⟨v, by rw [List.take_succ_eq_append_getElem hil]; exact List.mem_append_left _ hv', hv2⟩
      · exact ⟨l[i], by rw [List.take_succ_eq_append_getElem hil]; exact List.mem_append_right _ (List.mem_singleton.2 rfl), ((h2 w).1 hw).2⟩
    · rcases e with e | e
      · omega
      · have : ((2 : Int) ^ n) = (((2 : Nat) ^ n : Nat) : Int) := by norm_cast
        omega
    · have h5 := (idxF_mem _ _ 0).1 e
      obtain ⟨v, hv', hv2⟩ := List.mem_map.1 h5
      exact hdis v hv' hv2
theorem Col.row {c : Nat → ByteArray} {t : ByteArray} {n : Nat} {l : List S67} (h : Col c t n l) (hn : n ≤ 8) (ht : validS t = 0) (hv : ∀ w, w < n → validS (c w) = 0) : rowS t l n = 0 := by
  unfold rowS
  have hl := h.len
  rw [if_pos ht, if_neg (by omega)]
  exact row_none t l n c h (by omega) hv l.length 0 0 (by omega) (Nat.pow_pos (by decide)) (fun w e => by simp at e)
end Go.Proofs.Ytmjigfoldeekmaa.Lem
