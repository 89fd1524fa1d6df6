/- Plain lemmas of chapter 57: a row that is right; Choose. -/
import Derived.Test.YtmjigfoldeekmaaVA1
import Derived.Test.YtmjigfoldeekmaaVA2
import Derived.Test.YtmjigfoldeekmaaX10
import Derived.Test.YtmjigfoldeekmaaX18
import Derived.Test.YtmjigfoldeekmaaX17
namespace Go.Proofs.Ytmjigfoldeekmaa.Lem
open Go.RowKit Go.Proofs.Ytmjigfoldeekmaa.X Go.Proofs.YtmjigfoldeekmaaW.PrintWords Go.Proofs.YtmjigfoldeekmaaW.PrintLast
theorem bits_not (a b : Nat) (ha : a < 2 ^ 62) : ∃ r : Nat, Go.bits .andNot .i64 (a : Int) (b : Int) = (r : Int) ∧ ∀ w, r.testBit w = (a.testBit w && !b.testBit w) := by
  have hr : ∀ w, (BitVec.ofInt 64 (a : Int) &&& ~~~BitVec.ofInt 64 (b : Int)).toNat.testBit w = (a.testBit w && !b.testBit w) := by
    intro w
    rw [BitVec.testBit_toNat, BitVec.getLsbD_and, BitVec.getLsbD_not, BitVec.ofInt_natCast, BitVec.ofInt_natCast, BitVec.getLsbD_ofNat, BitVec.getLsbD_ofNat]
    by_cases hw : w < 64
    · simp [hw]
    · have : a.testBit w = false := Nat.testBit_lt_two_pow (Nat.lt_of_lt_of_le ha (Nat.pow_le_pow_right (by decide) (by omega)))
      simp [hw, this]
  refine ⟨_, ?_, hr⟩
  show IntKind.i64.wrap ((BitVec.ofInt 64 (a : Int) &&& ~~~BitVec.ofInt 64 (b : Int)).toNat : Int) = _
  refine wrap_nat _ (Nat.lt_pow_two_of_testBit _ fun w hw => ?_)
  rw [hr w, Nat.testBit_lt_two_pow (Nat.lt_of_lt_of_le ha (Nat.pow_le_pow_right (by decide) hw)), Bool.false_and]
abbrev vAt (l : List S67) (j : Nat) : S67 := l.getD j z67
def bitV (v : S67) (w : Nat) : Bool := v.f1.toNat.testBit w
def VOk (t : ByteArray) (n : Nat) (v : S67) : Prop := validS v.f0 = 0 ∧ v.f0 ≠ t ∧ 0 ≤ v.f1 ∧ v.f1 < 2 ^ n
def POk (t : ByteArray) (l : List S67) (n j : Nat) : Prop := VOk t n (vAt l j) ∧ (∀ u, u < j → (vAt l u).f0 ≠ (vAt l j).f0) ∧ ∀ u w, u < j → ¬ (bitV (vAt l u) w = true ∧ bitV (vAt l j) w = true)
theorem pow_nat (n : Nat) : ((2 : Int) ^ n) = (((2 : Nat) ^ n : Nat) : Int) := by norm_cast
theorem vOk_nat {n : Nat} (hn : n ≤ 60) {v : S67} (h : 0 ≤ v.f1 ∧ v.f1 < 2 ^ n) : v.f1 = ((v.f1.toNat : Nat) : Int) ∧ v.f1.toNat < 2 ^ n ∧ v.f1.toNat < 2 ^ 62 := by
  have hp : (2 : Nat) ^ n ≤ 2 ^ 60 := Nat.pow_le_pow_right (by decide) hn
  have := pow_nat n
  omega
theorem and_zero {a b : Nat} : a &&& b = 0 ↔ ∀ w, ¬ (a.testBit w = true ∧ b.testBit w = true) := by
  constructor
  · intro h w ⟨h1, h2⟩
    have := congrArg (fun x => x.testBit w) h
    simp only [Nat.testBit_and, h1, h2, Nat.zero_testBit] at this
    exact absurd this (by decide)
  · intro h
    refine Nat.eq_of_testBit_eq fun w => ?_
    rw [Nat.testBit_and, Nat.zero_testBit, Bool.and_eq_false_iff]
    by_cases e : a.testBit w = true
    · right
      by_cases e2 : b.testBit w = true
      · exact absurd ⟨e, e2⟩ (h w)
      · simpa using e2
    · left; simpa using e
theorem idx_none (l : List S67) (i : Nat) (hi : i < l.length) : ¬ 0 ≤ idxF (vAt l i).f0 ((l.take i).map (·.f0)) 0 ↔ ∀ u, u < i → (vAt l u).f0 ≠ (vAt l i).f0 := by
  rw [idxF_mem]
  constructor
  · intro h u hu e
    refine h (List.mem_map.2 ⟨vAt l u, ?_, e⟩)
    rw [show vAt l u = l[u] from getD_lt l _ (by omega : u < l.length), List.mem_take_iff_getElem]
    exact ⟨u, by omega, rfl⟩
  · intro h hm
    obtain ⟨v, hv, e⟩ := List.mem_map.1 hm
    obtain ⟨u, hu, rfl⟩ := List.mem_take_iff_getElem.1 hv
    refine h u (by omega) ?_
    rw [vAt, getD_lt l _ (by omega : u < l.length)]
    exact e
theorem rowF_iff (t : ByteArray) (l : List S67) (n : Nat) (hn : n ≤ 60) (d : Nat) : ∀ (i T : Nat), i + d = l.length → T < 2 ^ n → (∀ w, T.testBit w = true ↔ ∃ u, u < i ∧ bitV (vAt l u) w = true) → (rowF t l n d i (T : Int) = 0 ↔ ∀ j, i ≤ j → j < l.length → POk t l n j) := by
  have hp : (2 : Nat) ^ n ≤ 2 ^ 60 := Nat.pow_le_pow_right (by decide) hn
  induction d with
  | zero =>
    intro i T hi _ _
    exact ⟨fun _ j h1 h2 => by omega, fun _ => rfl⟩
  | succ d ih =>
    intro i T hi hT hb
    have hil : i < l.length := by omega
    have hidx := idx_none l i hil
    have hand : ∀ m : Nat, m < 2 ^ n → (∀ w, m.testBit w = bitV (vAt l i) w) → (Go.bits .and .i64 (m : Int) (T : Int) = 0 ↔ ∀ u w, u < i → ¬ (bitV (vAt l u) w = true ∧ bitV (vAt l i) w = true)) := by
      intro m hm hmb
      rw [bits_and m T (by omega) (by omega)]
      have h0 : ((m &&& T : Nat) : Int) = 0 ↔ m &&& T = 0 := by omega
      rw [h0, and_zero]
      constructor
      · intro h u w hu ⟨h1, h2⟩
        exact h w ⟨by rw [hmb]; exact h2, (hb w).2 ⟨u, hu, h1⟩⟩
      · intro h w ⟨h1, h2⟩
        obtain ⟨u, hu, h3⟩ := (hb w).1 h2
        exact h u w hu ⟨h3, by rw [← hmb]; exact h1⟩
    have hnext : ∀ m : Nat, m < 2 ^ n → (∀ w, m.testBit w = bitV (vAt l i) w) → (rowF t l n d (i + 1) (Go.bits .or .i64 (T : Int) (m : Int)) = 0 ↔ ∀ j, i + 1 ≤ j → j < l.length → POk t l n j) := by
      intro m hm hmb
      rw [bits_or T m (by omega) (by omega)]
      refine ih (i + 1) _ (by omega) (Nat.or_lt_two_pow hT hm) (fun w => ?_)
      rw [Nat.testBit_or, Bool.or_eq_true, hb w, hmb w]
      constructor
      · rintro (⟨u, h1, h2⟩ | h)
        · exact ⟨u, by omega, h2⟩
        · exact ⟨i, by omega, h⟩
      · rintro ⟨u, h1, h2⟩
        by_cases e : u = i
        · subst e; exact .inr h2
        · exact .inl ⟨u, by omega, h2⟩
    have hall : (∀ j, i ≤ j → j < l.length → POk t l n j) ↔ POk t l n i ∧ ∀ j, i + 1 ≤ j → j < l.length → POk t l n j := by
      constructor
      · intro h
        exact ⟨h i (Nat.le_refl _) hil, fun j h1 h2 => h j (by omega) h2⟩
      · rintro ⟨h0, h⟩ j h1 h2
        by_cases e : j = i
        · subst e; exact h0
        · exact h j (by omega) h2
    rw [hall, rowF]
    by_cases e1 : validS (l.getD i z67).f0 = 0
    case neg => rw [if_neg e1]; exact ⟨fun h => absurd h e1, fun h => absurd h.1.1.1 e1⟩
    rw [if_pos e1]
    by_cases e2 : (l.getD i z67).f0 = t
    · rw [if_pos e2]; exact ⟨fun h => absurd h (by decide), fun h => absurd e2 h.1.1.2.1⟩
    rw [if_neg e2]
    by_cases e3 : 0 ≤ idxF (l.getD i z67).f0 ((l.take i).map (·.f0)) 0
    · rw [if_pos e3]; exact ⟨fun h => absurd h (by decide), fun h => absurd e3 (hidx.2 h.1.2.1)⟩
    rw [if_neg e3]
    by_cases e4 : (l.getD i z67).f1 < 0 ∨ (l.getD i z67).f1 ≥ 2 ^ n
    · rw [if_pos e4]
      refine ⟨fun h => absurd h (by decide), fun h => ?_⟩
      have h3 := h.1.1.2.2.1
      have h4 := h.1.1.2.2.2
      unfold vAt at h3 h4
      omega
    rw [if_neg e4]
    obtain ⟨m1, m2, _⟩ := vOk_nat hn (v := l.getD i z67) ⟨by omega, by omega⟩
    have hmb : ∀ w, (l.getD i z67).f1.toNat.testBit w = bitV (vAt l i) w := fun w => rfl
    have e4a : 0 ≤ (vAt l i).f1 := by show 0 ≤ (l.getD i z67).f1; omega
    have e4b : (vAt l i).f1 < 2 ^ n := by show (l.getD i z67).f1 < 2 ^ n; omega
    rw [m1]
    by_cases e5 : Go.bits .and .i64 (((l.getD i z67).f1.toNat : Nat) : Int) (T : Int) = 0
    · rw [if_pos e5, hnext _ m2 hmb]
      exact ⟨fun h => ⟨⟨⟨e1, e2, e4a, e4b⟩, hidx.1 e3, (hand _ m2 hmb).1 e5⟩, h⟩, fun h => h.2⟩
    · rw [if_neg e5]
      exact ⟨fun h => absurd h (by decide), fun h => absurd ((hand _ m2 hmb).2 h.1.2.2) e5⟩
theorem rowS_iff (t : ByteArray) (l : List S67) (n : Nat) (hn : n ≤ 60) : rowS t l n = 0 ↔ validS t = 0 ∧ l.length ≤ 8 ∧ ∀ j, j < l.length → POk t l n j := by
  unfold rowS
  by_cases e1 : validS t = 0
  case neg => rw [if_neg e1]; exact ⟨fun h => absurd h e1, fun h => absurd h.1 e1⟩
  rw [if_pos e1]
  by_cases e2 : 8 < l.length
  · rw [if_pos e2]; exact ⟨fun h => absurd h (by decide), fun h => absurd h.2.1 (by omega)⟩
  rw [if_neg e2]
  have := rowF_iff t l n hn l.length 0 0 (by omega) (Nat.pow_pos (by decide)) (fun w => by simp)
  rw [show ((0 : Nat) : Int) = 0 from rfl] at this
  rw [this]
  exact ⟨fun h => ⟨e1, by omega, fun j hj => h j (Nat.zero_le _) hj⟩, fun h j _ hj => h.2.2 j hj⟩
/-! what a witness has, told by bits -/
theorem has_at (t : ByteArray) (w : Nat) (hw : w ≤ 62) : ∀ (l : List S67), (∀ v ∈ l, 0 ≤ v.f1 ∧ v.f1.toNat < 2 ^ 62) → (hasF t (w : Int) l = t ∧ (∀ v ∈ l, bitV v w = false)) ∨ ∃ j, j < l.length ∧ bitV (vAt l j) w = true ∧ hasF t (w : Int) l = (vAt l j).f0
  | [], _ => .inl ⟨rfl, fun v h => by cases h⟩
  | v :: l, h => by
    obtain ⟨h1, h2⟩ := h v (List.mem_cons_self ..)
    have hb : Go.bits .and .i64 (shr .i64 v.f1 (w : Int)) 1 = 1 ↔ bitV v w = true := by
      have e : v.f1 = ((v.f1.toNat : Nat) : Int) := by omega
      unfold bitV
      rw [e]
      exact bit_iff _ w h2 hw
    rw [hasF]
    by_cases e : Go.bits .and .i64 (shr .i64 v.f1 (w : Int)) 1 = 1
    · rw [if_pos e]
      exact .inr ⟨0, by simp, hb.1 e, rfl⟩
    · rw [if_neg e]
      rcases has_at t w hw l (fun x hx => h x (List.mem_cons_of_mem _ hx)) with ⟨a, b⟩ | ⟨j, a, b, c⟩
      · refine .inl ⟨a, fun x hx => ?_⟩
        rcases List.mem_cons.1 hx with rfl | hx
        · have := fun q => e (hb.2 q)
          simpa using this
        · exact b x hx
      · exact .inr ⟨j + 1, by rw [List.length_cons]; omega, b, c⟩
end Go.Proofs.Ytmjigfoldeekmaa.Lem
namespace Go.Proofs.Ytmjigfoldeekmaa.Lem
open Go.RowKit Go.Proofs.Ytmjigfoldeekmaa.X Go.Proofs.YtmjigfoldeekmaaW.PrintWords Go.Proofs.YtmjigfoldeekmaaW.PrintLast Go.Proofs.YtmjigfoldeekmaaW.PrintMore
def andN (a b : Nat) : Nat := a ^^^ (a &&& b)
theorem andN_bit (a b w : Nat) : (andN a b).testBit w = (a.testBit w && !b.testBit w) := by
  unfold andN
  rw [Nat.testBit_xor, Nat.testBit_and]
  cases a.testBit w <;> cases b.testBit w <;> rfl
theorem bits_andN (a b : Nat) (ha : a < 2 ^ 62) : Go.bits .andNot .i64 (a : Int) (b : Int) = ((andN a b : Nat) : Int) := by
  obtain ⟨r, h1, h2⟩ := bits_not a b ha
  rw [h1]
  congr 1
  exact Nat.eq_of_testBit_eq fun w => by rw [h2, andN_bit]
theorem andN_lt {a b n : Nat} (h : a < 2 ^ n) : andN a b < 2 ^ n := by
  refine Nat.lt_pow_two_of_testBit _ fun w hw => ?_
  rw [andN_bit, Nat.testBit_lt_two_pow (Nat.lt_of_lt_of_le h (Nat.pow_le_pow_right (by decide) hw)), Bool.false_and]
def restN : List S67 → Nat → Nat
  | [], T => T
  | v :: l, T => restN l (andN T v.f1.toNat)
theorem rest_bit (w : Nat) : ∀ (l : List S67) (T : Nat), (restN l T).testBit w = true ↔ T.testBit w = true ∧ ∀ j, j < l.length → bitV (vAt l j) w = false
  | [], T => ⟨fun h => ⟨h, fun j hj => absurd hj (Nat.not_lt_zero _)⟩, fun h => h.1⟩
  | v :: l, T => by
    rw [restN, rest_bit w l, andN_bit, Bool.and_eq_true, Bool.not_eq_true']
    constructor
    · rintro ⟨⟨h1, h2⟩, h3⟩
      refine ⟨h1, fun j hj => ?_⟩
      match j with
      | 0 => exact h2
      | j + 1 => exact h3 j (by rw [List.length_cons] at hj; omega)
    · rintro ⟨h1, h2⟩
      exact ⟨⟨h1, h2 0 (by simp)⟩, fun j hj => h2 (j + 1) (by rw [List.length_cons]; omega)⟩
theorem rest_lt {n : Nat} : ∀ (l : List S67) {T : Nat}, T < 2 ^ n → restN l T < 2 ^ n
  | [], _, h => h
  | _ :: l, _, h => rest_lt l (andN_lt h)
def Num (l : List S67) : Prop := ∀ v ∈ l, 0 ≤ v.f1
theorem Num.at_ {l : List S67} (h : Num l) {i : Nat} (hi : i < l.length) : (l.getD i z67).f1 = (((l.getD i z67).f1.toNat : Nat) : Int) := by
  have := h _ (getD_in l z67 hi)
  omega
theorem x0_loop (l : List S67) (hs : Num l) (hl : l.length ≤ 1000000) (d : Nat) : ∀ (i T : Nat), i + d = l.length → T < 2 ^ 62 → Ev (fun k => apparatus_Choose.x0 k l (i : Int) (T : Int)) ((restN (l.drop i) T : Nat) : Int) := by
  induction d with
  | zero =>
    intro i T hi _
    rw [List.drop_of_length_le (by omega)]
    exact Ev.step (fun k => apparatus_Choose.x0.eq_2 _ _ _ _) (Ev.neg (by omega) (Ev.val rfl))
  | succ d ih =>
    intro i T hi hT
    rw [drop_getD l z67 (by omega), restN]
    refine Ev.step (fun k => apparatus_Choose.x0.eq_2 _ _ _ _) (Ev.pos (by omega) (Ev.pos (by omega) ?_))
    rw [rdV, hs.at_ (by omega), Int.toNat_natCast, bits_andN T _ hT, w64 (by omega) (by omega)]
    exact ih (i + 1) _ (by omega) (andN_lt hT)
theorem clv_eq (l : List S67) (h : l.length ≤ 1000000) : api_Variant_56.f l = some l := by
  unfold api_Variant_56.f
  rw [Option.bind_some, if_pos (by rw [List.length_nil]; omega), List.nil_append]
theorem cls_eq (l : List ByteArray) (h : l.length ≤ 1000000) : slices_Clone_string_string.f l = some l := by
  unfold slices_Clone_string_string.f
  rw [Option.bind_some, if_pos (by rw [List.length_nil]; omega), List.nil_append]
theorem c0_loop (l : List S65) (hs : SmallR l) (d : Nat) : ∀ i : Nat, i + d = l.length → Ev (fun k => apparatus_Choose.c0 k l (i : Int) (l.take i)) l := by
  have hl := hs.1
  induction d with
  | zero =>
    intro i hi
    rw [List.take_of_length_le (by omega)]
    exact Ev.step (fun k => apparatus_Choose.c0.eq_2 _ _ _ _) (Ev.neg (by omega) (Ev.val rfl))
  | succ d ih =>
    intro i hi
    refine Ev.step (fun k => apparatus_Choose.c0.eq_2 _ _ _ _) (Ev.pos (by omega) (Ev.pos ⟨by omega, by rw [List.length_take]; omega⟩ ?_))
    rw [rdR, w64 (by omega) (by omega)]
    refine Ev.bind (Ev.now' (clv_eq _ (hs.at_ (by omega)).2.2)) ?_
    have e : l.take i ++ [⟨(l.getD i z65).f0, (l.getD i z65).f1⟩] = l.take (i + 1) := by
      rw [getD_lt l _ (by omega : i < l.length), List.take_succ_eq_append_getElem (by omega)]
    rw [e]
    exact ih (i + 1) (by omega)
/-! what Choose returns -/
def chosenR (r : S65) (v n : Nat) : S65 := ⟨(vAt r.f1 v).f0, r.f1.set v ⟨r.f0, ((restN r.f1 (2 ^ n - 1) : Nat) : Int)⟩⟩
def chooseS (ws : List ByteArray) (l : List S65) (a1 a2 : Int) : List ByteArray × List S65 × Int :=
  if appS ws l = 0 then (if 0 ≤ a1 ∧ a1 < (l.length : Int) ∧ 0 ≤ a2 ∧ a2 < ((l.getD a1.toNat z65).f1.length : Int) then (ws, l.set a1.toNat (chosenR (l.getD a1.toNat z65) a2.toNat ws.length), 0) else ([], [], 6)) else ([], [], appS ws l)
theorem rowsF_iff (l : List S65) (n : Nat) (d : Nat) : ∀ i, i + d = l.length → (rowsF l n d i = 0 ↔ ∀ j, i ≤ j → j < l.length → rowS (l.getD j z65).f0 (l.getD j z65).f1 n = 0) := by
  induction d with
  | zero => intro i hi; exact ⟨fun _ j h1 h2 => by omega, fun _ => rfl⟩
  | succ d ih =>
    intro i hi
    rw [rowsF]
    by_cases e : rowS (l.getD i z65).f0 (l.getD i z65).f1 n = 0
    · rw [if_pos e, ih (i + 1) (by omega)]
      constructor
      · intro h j h1 h2
        by_cases e2 : j = i
        · subst e2; exact e
        · exact h j (by omega) h2
      · intro h j h1 h2
        exact h j (by omega) h2
    · rw [if_neg e]
      exact ⟨fun h => absurd h e, fun h => absurd (h i (Nat.le_refl _) (by omega)) e⟩
theorem appS_iff (ws : List ByteArray) (l : List S65) : appS ws l = 0 ↔ namesS ws = 0 ∧ l.length ≤ 200 ∧ ∀ j, j < l.length → rowS (l.getD j z65).f0 (l.getD j z65).f1 ws.length = 0 := by
  unfold appS
  by_cases e1 : namesS ws = 0
  case neg => rw [if_neg e1]; exact ⟨fun h => absurd h e1, fun h => absurd h.1 e1⟩
  rw [if_pos e1]
  by_cases e2 : 200 < l.length
  · rw [if_pos e2]; exact ⟨fun h => absurd h (by decide), fun h => absurd h.2.1 (by omega)⟩
  rw [if_neg e2, rowsF_iff l ws.length l.length 0 (by omega)]
  exact ⟨fun h => ⟨e1, by omega, fun j hj => h j (Nat.zero_le _) hj⟩, fun h j _ hj => h.2.2 j hj⟩
theorem row_num {t : ByteArray} {l : List S67} {n : Nat} (hn : n ≤ 60) (h : rowS t l n = 0) : Num l := by
  obtain ⟨_, _, h3⟩ := (rowS_iff t l n hn).1 h
  intro v hv
  obtain ⟨j, hj, rfl⟩ := List.mem_iff_getElem.1 hv
  have := (h3 j hj).1.2.2.1
  unfold vAt at this
  rw [getD_lt l _ hj] at this
  exact this
theorem ch_ev (ws : List ByteArray) (l : List S65) (a1 a2 : Int) (hw : Small ws) (hwl : ws.length ≤ 1000000) (hs : SmallR l) : Ev (fun k => apparatus_Choose.f k ws l a1 a2) (chooseS ws l a1 a2) := by
  unfold apparatus_Choose.f chooseS
  refine Ev.bind (appV_ev ws l hw hwl hs) (Ev.cond (fun h => ?_) (fun h => Ev.val (by rw [if_neg h])))
  rw [if_pos h]
  obtain ⟨h1, h2, h3⟩ := (appS_iff ws l).1 h
  have hnl := namesS_len h1
  have hrd : rd_T65 l a1 = l.getD a1.toNat z65 := rfl
  rw [hrd]
  refine Ev.cond (fun hc => ?_) (fun hc => Ev.val (by rw [if_neg hc]))
  rw [if_pos hc]
  obtain ⟨c1, c2, c3, c4⟩ := hc
  have hrow := h3 a1.toNat (by omega)
  obtain ⟨s1, s2, s3⟩ := hs.at_ (show a1.toNat < l.length by omega)
  refine Ev.bind (Ev.now' (cls_eq ws hwl)) (Ev.bind (c0_loop l hs l.length 0 (by omega)) (Ev.pos ⟨c2, c4, by omega⟩ ?_))
  have hp : (2 : Nat) ^ ws.length ≤ 2 ^ 8 := Nat.pow_le_pow_right (by decide) hnl.2
  have hp0 : 0 < (2 : Nat) ^ ws.length := Nat.pow_pos (by decide)
  have hpn := pow_nat ws.length
  have hsh : wrap64 (shl .i64 1 (ws.length : Int) - 1) = ((2 ^ ws.length - 1 : Nat) : Int) := by
    rw [shl_one ws.length (by omega), hpn, w64 (by omega) (by omega)]
    omega
  rw [hsh]
  have hx := x0_loop (l.getD a1.toNat z65).f1 (row_num (by omega) hrow) s3 (l.getD a1.toNat z65).f1.length 0 (2 ^ ws.length - 1) (by omega) (by omega)
  rw [List.drop_zero] at hx
  exact Ev.bind hx (Ev.val rfl)
/-! the reference -/
theorem ch1_loop (v : Nat) (r : S65) (x : Int) (n0 : ByteArray) (hl : r.f1.length ≤ 1000000) (d : Nat) : ∀ i : Nat, i + d = r.f1.length → Ev (fun k => ancepsref57_chosen.l1 k (v : Int) x (i : Int) r.f0 r.f1 n0 ((r.f1.set v ⟨r.f0, x⟩).take i)) (n0, r.f1.set v ⟨r.f0, x⟩) := by
  induction d with
  | zero =>
    intro i hi
    rw [List.take_of_length_le (by rw [List.length_set]; omega)]
    exact Ev.step (fun k => ancepsref57_chosen.l1.eq_2 _ _ _ _ _ _ _ _) (Ev.neg (by omega) (Ev.val rfl))
  | succ d ih =>
    intro i hi
    have hlen : ((r.f1.set v ⟨r.f0, x⟩).take i).length < 5864062014805 := by rw [List.length_take, List.length_set]; omega
    have hst : (r.f1.set v ⟨r.f0, x⟩).take (i + 1) = (r.f1.set v ⟨r.f0, x⟩).take i ++ [if v = i then ⟨r.f0, x⟩ else r.f1.getD i z67] := by
      rw [List.take_succ_eq_append_getElem (by rw [List.length_set]; omega), List.getElem_set, getD_lt r.f1 _ (by omega : i < r.f1.length)]
    have hih := ih (i + 1) (by omega)
    rw [hst] at hih
    refine Ev.step (fun k => ancepsref57_chosen.l1.eq_2 _ _ _ _ _ _ _ _) (Ev.pos (by omega) (Ev.pos (by omega) ?_))
    rw [rdV, w64 (by omega) (by omega)]
    refine Ev.cond (fun h => Ev.pos hlen ?_) (fun h => Ev.pos hlen ?_)
    · rw [if_pos (by omega)] at hih
      exact hih
    · rw [if_neg (by omega)] at hih
      exact hih
theorem ch0_loop (v : Nat) (r : S65) (hs : Num r.f1) (hv : v < r.f1.length) (hl : r.f1.length ≤ 1000000) (d : Nat) : ∀ (i T : Nat), i + d = r.f1.length → T < 2 ^ 62 → Ev (fun k => ancepsref57_chosen.l0 k (v : Int) (T : Int) (i : Int) r.f0 r.f1) ((vAt r.f1 v).f0, r.f1.set v ⟨r.f0, ((restN (r.f1.drop i) T : Nat) : Int)⟩) := by
  induction d with
  | zero =>
    intro i T hi _
    rw [List.drop_of_length_le (by omega), restN]
    refine Ev.step (fun k => ancepsref57_chosen.l0.eq_2 _ _ _ _ _ _) (Ev.neg (by omega) (Ev.pos (by omega) (Ev.pos (by omega) ?_)))
    rw [rdV]
    exact ch1_loop v r _ _ hl r.f1.length 0 (by omega)
  | succ d ih =>
    intro i T hi hT
    rw [drop_getD r.f1 z67 (by omega), restN]
    refine Ev.step (fun k => ancepsref57_chosen.l0.eq_2 _ _ _ _ _ _) (Ev.pos (by omega) (Ev.pos (by omega) ?_))
    rw [rdV, hs.at_ (by omega), Int.toNat_natCast, bits_andN T _ hT, w64 (by omega) (by omega)]
    exact ih (i + 1) _ (by omega) (andN_lt hT)
theorem chosen_ev (r : S65) (v n : Nat) (hn : n ≤ 8) (hs : Num r.f1) (hv : v < r.f1.length) (hl : r.f1.length ≤ 1000000) : Ev (fun k => ancepsref57_chosen.f k r.f0 r.f1 (v : Int) (n : Int)) ((chosenR r v n).f0, (chosenR r v n).f1) := by
  have hp : (2 : Nat) ^ n ≤ 2 ^ 8 := Nat.pow_le_pow_right (by decide) hn
  have hp0 : 0 < (2 : Nat) ^ n := Nat.pow_pos (by decide)
  have hpn := pow_nat n
  have hsh : wrap64 (shl .i64 1 (n : Int) - 1) = ((2 ^ n - 1 : Nat) : Int) := by
    rw [shl_one n (by omega), hpn, w64 (by omega) (by omega)]
    omega
  unfold ancepsref57_chosen.f
  rw [hsh]
  have := ch0_loop v r hs hv hl r.f1.length 0 (2 ^ n - 1) (by omega) (by omega)
  rw [List.drop_zero] at this
  exact Ev.pos (by omega) this
theorem rch_loop (ws : List ByteArray) (l : List S65) (hs : SmallR l) (a v : Nat) (hn : ws.length ≤ 8) (ha : a < l.length) (hnum : Num (l.getD a z65).f1) (hv : v < (l.getD a z65).f1.length) (d : Nat) : ∀ i : Nat, i + d = l.length → Ev (fun k => ancepsref57_Choose.l0 k (a : Int) (v : Int) (i : Int) ws l ws ((l.set a (chosenR (l.getD a z65) v ws.length)).take i)) (ws, l.set a (chosenR (l.getD a z65) v ws.length), 0) := by
  have hl := hs.1
  induction d with
  | zero =>
    intro i hi
    rw [List.take_of_length_le (by rw [List.length_set]; omega)]
    exact Ev.step (fun k => ancepsref57_Choose.l0.eq_2 _ _ _ _ _ _ _ _) (Ev.neg (by omega) (Ev.val rfl))
  | succ d ih =>
    intro i hi
    obtain ⟨s1, s2, s3⟩ := hs.at_ (show i < l.length by omega)
    have hlen : ((l.set a (chosenR (l.getD a z65) v ws.length)).take i).length < 3518437208883 := by rw [List.length_take, List.length_set]; omega
    have hst : (l.set a (chosenR (l.getD a z65) v ws.length)).take (i + 1) = (l.set a (chosenR (l.getD a z65) v ws.length)).take i ++ [if a = i then chosenR (l.getD a z65) v ws.length else l.getD i z65] := by
      rw [List.take_succ_eq_append_getElem (by rw [List.length_set]; omega), List.getElem_set, getD_lt l _ (by omega : i < l.length)]
    have hih := ih (i + 1) (by omega)
    rw [hst] at hih
    refine Ev.step (fun k => ancepsref57_Choose.l0.eq_2 _ _ _ _ _ _ _ _) (Ev.pos (by omega) ?_)
    rw [rdR, w64 (by omega) (by omega)]
    refine Ev.cond (fun h => ?_) (fun h => ?_)
    · obtain rfl : i = a := by omega
      rw [if_pos rfl] at hih
      exact Ev.pos (by omega) (Ev.bind (chosen_ev _ v ws.length hn hnum hv s3) (Ev.pos hlen hih))
    · rw [if_neg (by omega)] at hih
      exact Ev.pos (by omega) (Ev.pos hlen hih)
theorem rch_ev (ws : List ByteArray) (l : List S65) (a1 a2 : Int) (hw : Small ws) (hwl : ws.length ≤ 1000000) (hs : SmallR l) : Ev (fun k => ancepsref57_Choose.f k ws l a1 a2) (chooseS ws l a1 a2) := by
  unfold ancepsref57_Choose.f chooseS
  refine Ev.bind (rappV_ev ws l hw hwl hs) (Ev.cond (fun h => ?_) (fun h => Ev.val (by rw [if_neg h])))
  rw [if_pos h]
  obtain ⟨h1, h2, h3⟩ := (appS_iff ws l).1 h
  have hnl := namesS_len h1
  have hbad : Ev (fun k => ancepsref57_Choose.j0 k a1 a2 true ws l) ([], [], 6) := Ev.step (fun k => ancepsref57_Choose.j0.eq_2 _ _ _ _ _ _) (Ev.pos rfl (Ev.val rfl))
  refine Ev.cond (fun c => by rw [if_neg (by omega)]; exact hbad) (fun c1 => Ev.cond (fun c => by rw [if_neg (by omega)]; exact hbad) (fun c2 => Ev.cond (fun c => by rw [if_neg (by omega)]; exact hbad) (fun c3 => Ev.pos (by omega) (Ev.pos (by omega) ?_))))
  have hrd : rd_T65 l a1 = l.getD a1.toNat z65 := rfl
  rw [hrd]
  by_cases c4 : a2 ≥ ((l.getD a1.toNat z65).f1.length : Int)
  · rw [decide_eq_true c4, if_neg (by omega)]
    exact hbad
  · rw [decide_eq_false c4, if_pos ⟨by omega, by omega, by omega, by omega⟩]
    have hrow := h3 a1.toNat (by omega)
    have e1 : a1 = ((a1.toNat : Nat) : Int) := by omega
    have e2 : a2 = ((a2.toNat : Nat) : Int) := by omega
    refine Ev.step (fun k => ancepsref57_Choose.j0.eq_2 _ _ _ _ _ _) (Ev.neg Bool.false_ne_true ?_)
    have := rch_loop ws l hs a1.toNat a2.toNat (by omega) (by omega) (row_num (by omega) hrow) (by omega) l.length 0 (by omega)
    rw [← e1, ← e2] at this
    exact this
/-! a row that was chosen -/
theorem vAt_set (l : List S67) (v j : Nat) (x : S67) (hv : v < l.length) : vAt (l.set v x) j = if j = v then x else vAt l j := by
  unfold vAt
  rw [List.getD_eq_getElem?_getD, List.getD_eq_getElem?_getD, List.getElem?_set]
  by_cases h : v = j
  · subst h; rw [if_pos rfl, if_pos hv, if_pos rfl]; rfl
  · rw [if_neg h, if_neg (fun e => h e.symm)]
theorem rest_ok {l : List S67} {n : Nat} (w : Nat) : (restN l (2 ^ n - 1)).testBit w = true ↔ w < n ∧ ∀ j, j < l.length → bitV (vAt l j) w = false := by
  rw [rest_bit, Nat.testBit_two_pow_sub_one, decide_eq_true_iff]
theorem new_bit {t : ByteArray} {l : List S67} {n v : Nat} (hv : v < l.length) (j w : Nat) : bitV (vAt (l.set v ⟨t, ((restN l (2 ^ n - 1) : Nat) : Int)⟩) j) w = if j = v then (restN l (2 ^ n - 1)).testBit w else bitV (vAt l j) w := by
  rw [vAt_set l v j _ hv]
  by_cases e : j = v
  · rw [if_pos e, if_pos e]; rfl
  · rw [if_neg e, if_neg e]
section
variable {t : ByteArray} {l : List S67} {n v : Nat}
theorem bit_lt (hn : n ≤ 60) (h : rowS t l n = 0) {j w : Nat} (hj : j < l.length) (hb : bitV (vAt l j) w = true) : w < n := by
  obtain ⟨_, _, h3⟩ := (rowS_iff t l n hn).1 h
  obtain ⟨_, _, a, b⟩ := (h3 j hj).1
  obtain ⟨_, m2, _⟩ := vOk_nat hn (v := vAt l j) ⟨a, b⟩
  by_cases e : w < n
  · exact e
  · unfold bitV at hb
    rw [Nat.testBit_lt_two_pow (Nat.lt_of_lt_of_le m2 (Nat.pow_le_pow_right (by decide) (by omega)))] at hb
    cases hb
theorem bit_one (hn : n ≤ 60) (h : rowS t l n = 0) {i j w : Nat} (hi : i < l.length) (hj : j < l.length) (h1 : bitV (vAt l i) w = true) (h2 : bitV (vAt l j) w = true) : i = j := by
  obtain ⟨_, _, h3⟩ := (rowS_iff t l n hn).1 h
  rcases Nat.lt_trichotomy i j with e | e | e
  · exact absurd ⟨h1, h2⟩ ((h3 j hj).2.2 i w e)
  · exact e
  · exact absurd ⟨h2, h1⟩ ((h3 i hi).2.2 j w e)
theorem text_one (hn : n ≤ 60) (h : rowS t l n = 0) {i j : Nat} (hi : i < l.length) (hj : j < l.length) (hne : i ≠ j) : (vAt l i).f0 ≠ (vAt l j).f0 := by
  obtain ⟨_, _, h3⟩ := (rowS_iff t l n hn).1 h
  rcases Nat.lt_trichotomy i j with e | e | e
  · exact (h3 j hj).2.1 i e
  · exact absurd e hne
  · exact fun q => (h3 i hi).2.1 j e q.symm
theorem chosen_row (hn : n ≤ 60) (h : rowS t l n = 0) (hv : v < l.length) : rowS (vAt l v).f0 (l.set v ⟨t, ((restN l (2 ^ n - 1) : Nat) : Int)⟩) n = 0 := by
  obtain ⟨h1, h2, h3⟩ := (rowS_iff t l n hn).1 h
  have hrl : restN l (2 ^ n - 1) < 2 ^ n := rest_lt l (by have : 0 < (2 : Nat) ^ n := Nat.pow_pos (by decide); omega)
  refine (rowS_iff _ _ n hn).2 ⟨(h3 v hv).1.1, by rw [List.length_set]; exact h2, fun j hj => ?_⟩
  rw [List.length_set] at hj
  refine ⟨?_, fun u hu => ?_, fun u w hu => ?_⟩
  · rw [vAt_set l v j _ hv]
    by_cases e : j = v
    · rw [if_pos e]
      exact ⟨h1, fun e' => (h3 v hv).1.2.1 e'.symm, Int.natCast_nonneg _, by rw [pow_nat]; exact Int.ofNat_lt.2 hrl⟩
    · rw [if_neg e]
      obtain ⟨a, _, b, c⟩ := (h3 j hj).1
      exact ⟨a, text_one hn h hj hv e, b, c⟩
  · rw [vAt_set l v j _ hv, vAt_set l v u _ hv]
    by_cases e : j = v
    · rw [if_pos e, if_neg (by omega)]
      exact (h3 u (by omega)).1.2.1
    · rw [if_neg e]
      by_cases e2 : u = v
      · rw [if_pos e2]
        exact fun q => (h3 j hj).1.2.1 q.symm
      · rw [if_neg e2]
        exact (h3 j hj).2.1 u hu
  · rw [new_bit hv, new_bit hv]
    rintro ⟨q1, q2⟩
    by_cases e : j = v
    · rw [if_pos e] at q2
      rw [if_neg (by omega)] at q1
      have := ((rest_ok w).1 q2).2 u (by omega)
      rw [q1] at this; cases this
    · rw [if_neg e] at q2
      by_cases e2 : u = v
      · rw [if_pos e2] at q1
        have := ((rest_ok w).1 q1).2 j hj
        rw [q2] at this; cases this
      · rw [if_neg e2] at q1
        exact (h3 j hj).2.2 u w hu ⟨q1, q2⟩
theorem chosen_has (hn : n ≤ 60) (h : rowS t l n = 0) (hv : v < l.length) {w : Nat} (hw : w < n) : hasF (vAt l v).f0 (w : Int) (l.set v ⟨t, ((restN l (2 ^ n - 1) : Nat) : Int)⟩) = hasF t (w : Int) l := by
  have hp : (2 : Nat) ^ n ≤ 2 ^ 60 := Nat.pow_le_pow_right (by decide) hn
  have hnum : ∀ {t' : ByteArray} {l' : List S67}, rowS t' l' n = 0 → ∀ x ∈ l', 0 ≤ x.f1 ∧ x.f1.toNat < 2 ^ 62 := by
    intro t' l' hr x hx
    obtain ⟨_, _, h3⟩ := (rowS_iff t' l' n hn).1 hr
    obtain ⟨j, hj, rfl⟩ := List.mem_iff_getElem.1 hx
    obtain ⟨_, _, a, b⟩ := (h3 j hj).1
    have e : vAt l' j = l'[j] := getD_lt l' _ hj
    rw [e] at a b
    exact ⟨a, (vOk_nat hn ⟨a, b⟩).2.2⟩
  have hch := chosen_row hn h hv
  have hll : (l.set v ⟨t, ((restN l (2 ^ n - 1) : Nat) : Int)⟩).length = l.length := List.length_set
  have hmem : ∀ {l' : List S67} {j : Nat}, j < l'.length → vAt l' j ∈ l' := fun hj => getD_in _ _ hj
  rcases has_at t w (by omega) l (hnum h) with ⟨a, b⟩ | ⟨j0, a, b, c⟩
  · have hr : (restN l (2 ^ n - 1)).testBit w = true := (rest_ok w).2 ⟨hw, fun j hj => b _ (hmem hj)⟩
    rcases has_at (vAt l v).f0 w (by omega) _ (hnum hch) with ⟨a', b'⟩ | ⟨j, a', b', c'⟩
    · have := b' _ (hmem (hll.symm ▸ hv))
      rw [new_bit hv, if_pos rfl, hr] at this
      cases this
    · rw [c', a]
      rw [new_bit hv] at b'
      by_cases e : j = v
      · rw [vAt_set l v j _ hv, if_pos e]
      · rw [if_neg e, b _ (hmem (hll ▸ a'))] at b'
        cases b'
  · rw [c]
    have hr : (restN l (2 ^ n - 1)).testBit w = false := by
      by_cases e : (restN l (2 ^ n - 1)).testBit w = true
      · have := ((rest_ok w).1 e).2 j0 a
        rw [b] at this; cases this
      · simpa using e
    rcases has_at (vAt l v).f0 w (by omega) _ (hnum hch) with ⟨a', b'⟩ | ⟨j, a', b', c'⟩
    · by_cases e : j0 = v
      · rw [a', e]
      · have := b' _ (hmem (hll.symm ▸ a))
        rw [new_bit hv, if_neg e, b] at this
        cases this
    · rw [new_bit hv] at b'
      by_cases e : j = v
      · rw [if_pos e, hr] at b'; cases b'
      · rw [if_neg e] at b'
        have := bit_one hn h (hll ▸ a') a b' b
        rw [c', vAt_set l v j _ hv, if_neg e, this]
theorem chosen_again (hn : n ≤ 60) (h : rowS t l n = 0) (hv : v < l.length) : chosenR (chosenR ⟨t, l⟩ v n) v n = ⟨t, l⟩ := by
  obtain ⟨h1, h2, h3⟩ := (rowS_iff t l n hn).1 h
  obtain ⟨_, _, a, b⟩ := (h3 v hv).1
  have hch : (chosenR ⟨t, l⟩ v n) = ⟨(vAt l v).f0, l.set v ⟨t, ((restN l (2 ^ n - 1) : Nat) : Int)⟩⟩ := rfl
  have hll : (l.set v ⟨t, ((restN l (2 ^ n - 1) : Nat) : Int)⟩).length = l.length := List.length_set
  have hrest : restN (l.set v ⟨t, ((restN l (2 ^ n - 1) : Nat) : Int)⟩) (2 ^ n - 1) = (vAt l v).f1.toNat := by
    refine Nat.eq_of_testBit_eq fun w => ?_
    rw [Bool.eq_iff_iff, rest_bit, Nat.testBit_two_pow_sub_one, decide_eq_true_iff, hll]
    show _ ↔ bitV (vAt l v) w = true
    constructor
    · rintro ⟨q1, q2⟩
      have q3 := q2 v hv
      rw [new_bit hv, if_pos rfl] at q3
      by_cases e : bitV (vAt l v) w = true
      · exact e
      · exfalso
        have : (restN l (2 ^ n - 1)).testBit w = true := (rest_ok w).2 ⟨q1, fun j hj => by
          by_cases e2 : j = v
          · subst e2; simpa using e
          · have := q2 j hj
            rw [new_bit hv, if_neg e2] at this
            exact this⟩
        rw [q3] at this; cases this
    · intro q
      refine ⟨bit_lt hn h hv q, fun j hj => ?_⟩
      rw [new_bit hv]
      by_cases e : j = v
      · rw [if_pos e]
        by_cases e2 : (restN l (2 ^ n - 1)).testBit w = true
        · have := ((rest_ok w).1 e2).2 v hv
          rw [q] at this; cases this
        · simpa using e2
      · rw [if_neg e]
        by_cases e2 : bitV (vAt l j) w = true
        · exact absurd (bit_one hn h hj hv e2 q) e
        · simpa using e2
  rw [hch]
  show (⟨(vAt (l.set v ⟨t, ((restN l (2 ^ n - 1) : Nat) : Int)⟩) v).f0, (l.set v ⟨t, ((restN l (2 ^ n - 1) : Nat) : Int)⟩).set v ⟨(vAt l v).f0, ((restN (l.set v ⟨t, ((restN l (2 ^ n - 1) : Nat) : Int)⟩) (2 ^ n - 1) : Nat) : Int)⟩⟩ : S65) = ⟨t, l⟩
  rw [hrest, vAt_set l v v _ hv, if_pos rfl, List.set_set]
  congr 1
  have e : (⟨(vAt l v).f0, (((vAt l v).f1.toNat : Nat) : Int)⟩ : S67) = l[v] := by
    have e2 : (((vAt l v).f1.toNat : Nat) : Int) = (vAt l v).f1 := by omega
    rw [e2]
    exact getD_lt l _ hv
  rw [e, List.set_getElem_self]
end
end Go.Proofs.Ytmjigfoldeekmaa.Lem
