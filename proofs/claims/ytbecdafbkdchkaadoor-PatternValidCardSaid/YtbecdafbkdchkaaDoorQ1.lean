/- Plain lemmas over the printed functions of chapter 4, for the seat of cards: valid and marked patterns, letters, by the program and by the reference. -/
import Derived.Test.YtbecdafbkdchkaaDoorBase
import Derived.Test.YtbecdafbkdchkaaDoorX3
import Derived.Test.YtbecdafbkdchkaaDoorX1
import Derived.Test.YtbecdafbkdchkaaDoorX4
import Derived.Test.YtbecdafbkdchkaaDoorX5
namespace Go.Proofs.YtbecdafbkdchkaaDoor.Lem
open Go.RowKit Go.Proofs.YtbecdafbkdchkaaDoor.X Go.Proofs.YtbecdafbkdchkaaDoorW.PrintWords Go.Proofs.YtbecdafbkdchkaaDoorW.PrintLast
theorem Ev.eq {α : Type} {g : Nat → Option α} {a b : α} (h : a = b) (k : Ev g a) : Ev g b := h ▸ k
def isS (c : Int) : Bool := decide (c = 117) || (decide (c = 45) || decide (c = 120))
theorem sign_all : ∀ n : Fin 256, pattern_isSign.f ((n.val : Nat) : Int) = some (isS ((n.val : Nat) : Int)) := by decide +kernel
theorem isSign_f {c : Int} (h : 0 ≤ c ∧ c ≤ 255) : pattern_isSign.f c = some (isS c) := by obtain ⟨n, rfl⟩ := byte_fin h; exact sign_all n
theorem is_f (c : Int) : ancepsref04_Is.f c = some (isS c) := by
  unfold ancepsref04_Is.f isS
  by_cases h : c = 117
  · rw [if_pos h, decide_eq_true h, Bool.true_or]
  · rw [if_neg h, decide_eq_false h, Bool.false_or]
    by_cases h2 : c = 45
    · rw [if_pos h2, decide_eq_true h2, Bool.true_or]
    · rw [if_neg h2, decide_eq_false h2, Bool.false_or]; rfl
def validS (s : ByteArray) : Int := if s.size > 60 then 3 else if (bytesOf s).all isS then 0 else 2
theorem valid_loop (s : ByteArray) (hs : s.size ≤ 60) (d : Nat) : ∀ i : Nat, i + d = s.size → Ev (fun k => pattern_Valid.l0 k s (s.size : Int) (i : Int)) (if ((bytesOf s).drop i).all isS then 0 else 2) := by
  induction d with
  | zero =>
    intro i hi
    rw [drop_ge s i (by omega)]
    exact Ev.step (fun k => rfl) (Ev.neg (by omega) (Ev.val rfl))
  | succ d ih =>
    intro i hi
    refine Ev.step (fun k => rfl) (Ev.pos (by omega) (Ev.pos (by omega) (Ev.pos (by omega) ?_)))
    rw [isSign_f (bt_range s i), drop_lt s i (by omega), List.all_cons]
    refine Ev.just (Ev.cond (fun h => ?_) (fun h => Ev.val ?_))
    · rw [h, Bool.true_and, w64 (by omega) (by omega)]; exact ih (i + 1) (by omega)
    · rw [Bool.eq_false_iff.2 h]; rfl
theorem valid_ev (s : ByteArray) : Ev (fun k => pattern_Valid.f k s) (validS s) := by
  unfold pattern_Valid.f validS
  refine Ev.cond (fun h => Ev.val (by rw [if_pos (c := s.size > 60) (by omega)])) (fun h => ?_)
  rw [if_neg (c := s.size > 60) (by omega)]
  exact Ev.eq (by rw [List.drop_zero]) (valid_loop s (by omega) s.size 0 (by omega))
theorem rvalid_loop (s : ByteArray) (hs : s.size ≤ 60) (d : Nat) : ∀ i : Nat, i + d = s.size → Ev (fun k => ancepsref04_Valid.l0 k s (i : Int)) (if ((bytesOf s).drop i).all isS then 0 else 2) := by
  induction d with
  | zero =>
    intro i hi
    rw [drop_ge s i (by omega)]
    exact Ev.step (fun k => rfl) (Ev.neg (by omega) (Ev.val rfl))
  | succ d ih =>
    intro i hi
    refine Ev.step (fun k => rfl) (Ev.pos (by omega) (Ev.pos (by omega) ?_))
    rw [is_f, drop_lt s i (by omega), List.all_cons]
    refine Ev.just (Ev.cond (fun h => ?_) (fun h => Ev.val ?_))
    · rw [h, Bool.true_and, w64 (by omega) (by omega)]; exact ih (i + 1) (by omega)
    · rw [Bool.eq_false_iff.2 h]; rfl
theorem rvalid_ev (s : ByteArray) : Ev (fun k => ancepsref04_Valid.f k s) (validS s) := by
  unfold ancepsref04_Valid.f validS
  refine Ev.cond (fun h => Ev.val (by rw [if_pos (c := s.size > 60) (by omega)])) (fun h => ?_)
  rw [if_neg (c := s.size > 60) (by omega)]
  exact Ev.eq (by rw [List.drop_zero]) (rvalid_loop s (by omega) s.size 0 (by omega))
theorem valid_size {s : ByteArray} (h : validS s = 0) : s.size ≤ 60 ∧ (bytesOf s).all isS = true := by
  unfold validS at h
  by_cases h1 : s.size > 60
  · rw [if_pos h1] at h; exact absurd h (by decide)
  · rw [if_neg h1] at h
    refine ⟨by omega, ?_⟩
    cases ha : (bytesOf s).all isS with
    | true => rfl
    | false => rw [ha] at h; exact absurd h (by decide)
theorem valid_of {s : ByteArray} (h : s.size ≤ 60) (ha : (bytesOf s).all isS = true) : validS s = 0 := by
  unfold validS; rw [if_neg (by omega), ha]; rfl
theorem set_mid {α : Type} (A : List α) (b c : α) (C : List α) (i : Nat) (h : i = A.length) : (A ++ b :: C).set i c = (A ++ [c]) ++ C := by
  subst h; rw [List.set_append_right _ _ (Nat.le_refl _), Nat.sub_self, List.append_assoc]; rfl
theorem rd_mid (A : List Int) (b : Int) (C : List Int) (i : Nat) (h : i = A.length) : rd (A ++ b :: C) (i : Int) = b := by
  subst h; unfold rd; rw [Int.toNat_natCast, List.getD_eq_getElem?_getD, List.getElem?_append_right (Nat.le_refl _), Nat.sub_self]; rfl
theorem mid (A : List Int) (b : Int) (C : List Int) : A ++ b :: C = (A ++ [b]) ++ C := by rw [List.append_assoc]; rfl
theorem str_app (l m : List Int) : strOfNums l ++ strOfNums m = strOfNums (l ++ m) := by
  apply ByteArray.ext
  rw [ByteArray.data_append]
  apply Array.toList_inj.1
  rw [Array.toList_append, strOfNums_data, strOfNums_data, strOfNums_data, List.map_append]
theorem str_bytes (s : ByteArray) : strOfNums (bytesOf s) = s := bytesOf_inj (bytesOf_str _ (fun c hc => bytesOf_range s c hc))
theorem extract_one (s : ByteArray) (i : Nat) (h : i < s.size) : s.extract i (i + 1) = strOfNums [bt s i] := by
  rw [← str_bytes (s.extract i (i + 1)), bytesOf_extract, List.drop_take, Nat.add_sub_cancel_left, drop_lt s i h]; rfl
theorem awake_ev : Ev (fun k => ancepslaw04_awake.f k) true := Ev.of (fun k => ancepslaw04_awake.mono k) (k := 60) (by kernel_rfl)
def rankS (c : Int) : Int := if c = 117 then 0 else if c = 45 then 1 else if c = 120 then 2 else 3 + c
theorem rank_all : ∀ n : Fin 256, pattern_rank.f ((n.val : Nat) : Int) = some (rankS ((n.val : Nat) : Int)) := by decide +kernel
theorem rank_f {c : Int} (h : 0 ≤ c ∧ c ≤ 255) : pattern_rank.f c = some (rankS c) := by obtain ⟨n, rfl⟩ := byte_fin h; exact rank_all n
/-- the error of a marked pattern: is the byte ahead a sign; how many signs so far -/
def markL : Bool → Nat → List Int → Int
  | _, n, [] => if n > 60 then 3 else 0
  | pv, n, c :: r => if isS c then markL true (n + 1) r else if c = 46 then (if pv then markL false n r else 2) else 2
def pvS (s : ByteArray) (i : Nat) : Bool := decide (0 < i) && isS (bt s ((i : Int) - 1))
theorem pvS_succ (s : ByteArray) (i : Nat) : pvS s (i + 1) = isS (bt s (i : Int)) := by
  unfold pvS
  rw [show (((i + 1 : Nat) : Int) - 1) = (i : Int) by omega]; simp
def markS (s : ByteArray) : Int := if s.size > 120 then 3 else markL false 0 (bytesOf s)
theorem marked_loop (s : ByteArray) (hs : s.size ≤ 120) (d : Nat) : ∀ (i n : Nat), i + d = s.size → n ≤ i → Ev (fun k => pattern_Marked.l0 k s (n : Int) (s.size : Int) (i : Int)) (markL (pvS s i) n ((bytesOf s).drop i)) := by
  induction d with
  | zero =>
    intro i n hi hn
    rw [drop_ge s i (by omega), markL]
    refine Ev.step (fun k => rfl) (Ev.neg (by omega) (Ev.cond (fun h => Ev.val (by rw [if_pos (by omega)])) (fun h => Ev.val (by rw [if_neg (by omega)]))))
  | succ d ih =>
    intro i n hi hn
    rw [drop_lt s i (by omega), markL]
    refine Ev.step (fun k => rfl) (Ev.pos (by omega) (Ev.pos (by omega) (Ev.pos (by omega) ?_)))
    rw [isSign_f (bt_range s i)]
    refine Ev.just ?_
    cases hc : isS (bt s (i : Int)) with
    | true =>
      have := ih (i + 1) (n + 1) (by omega) (by omega)
      rw [pvS_succ, hc] at this
      refine Ev.pos rfl ?_
      rw [if_pos rfl, w64 (i := (n : Int) + 1) (by omega) (by omega), w64 (i := (i : Int) + 1) (by omega) (by omega)]
      exact this
    | false =>
      rw [if_neg (by simp)]
      refine Ev.neg (by simp) (Ev.cond (fun h => ?_) (fun h => Ev.val (by rw [if_neg h])))
      rw [if_pos h]
      refine Ev.cond (fun h0 => Ev.val ?_) (fun h0 => ?_)
      · have : pvS s i = false := by unfold pvS; rw [decide_eq_false (by omega)]; rfl
        rw [this]; rfl
      · rw [w64 (i := (i : Int) - 1) (by omega) (by omega)]
        refine Ev.pos (by omega) (Ev.pos (by omega) ?_)
        rw [isSign_f (bt_range s _)]
        have hp : pvS s i = isS (bt s ((i : Int) - 1)) := by unfold pvS; rw [decide_eq_true (by omega)]; rfl
        refine Ev.just ?_
        cases hq : isS (bt s ((i : Int) - 1)) with
        | true =>
          have := ih (i + 1) n (by omega) (by omega)
          rw [pvS_succ, hc] at this
          rw [hp, hq, if_pos rfl]
          refine Ev.pos rfl ?_
          rw [w64 (i := (i : Int) + 1) (by omega) (by omega)]
          exact this
        | false => rw [hp, hq]; exact Ev.neg (by simp) (Ev.val rfl)
theorem marked_ev (s : ByteArray) : Ev (fun k => pattern_Marked.f k s) (markS s) := by
  unfold pattern_Marked.f markS
  refine Ev.cond (fun h => Ev.val (by rw [if_pos (by omega)])) (fun h => ?_)
  rw [if_neg (by omega)]
  have := marked_loop s (by omega) s.size 0 0 (by omega) (by omega)
  rw [List.drop_zero] at this
  exact this
/-- the letters, from the back of what is there on -/
def bump (out : List Int) : List Int := out.set (out.length - 1) (rd out ((out.length : Int) - 1) + 2)
def lettL : List Int → List Int → List Int
  | out, [] => out
  | out, c :: r => if c = 46 then lettL (bump out) r else lettL (out ++ [rankS c]) r
theorem idx_low (l : List UInt8) : -1 ≤ Lib.indexByte l 120 := Lib.indexByte_ge l 120
theorem idx120_f (s : ByteArray) : ∃ t, strings_IndexByte.f s 120 = some t ∧ (t ≥ 0 ↔ 120 ∈ bytesOf s) := by
  unfold strings_IndexByte.f
  refine ⟨_, rfl, ?_⟩
  rw [show (120 : Int).toNat.toUInt8 = (120 : UInt8) by decide]
  unfold bytesOf
  generalize s.data.toList = l
  induction l with
  | nil => simp [Lib.indexByte]
  | cons c r ih =>
    rw [Lib.indexByte, List.map_cons, List.mem_cons]
    by_cases h : c = 120
    · rw [if_pos (by simpa using h), h]; simp
    · have hn : ¬ ((120 : Int) = (c.toNat : Int)) := fun e => h (UInt8.toNat_inj.1 (show c.toNat = 120 by omega))
      rw [if_neg (by simpa using h)]
      rw [show (120 = (c.toNat : Int) ∨ 120 ∈ List.map (fun b : UInt8 => (b.toNat : Int)) r) ↔ 120 ∈ List.map (fun b : UInt8 => (b.toNat : Int)) r from ⟨fun h => h.resolve_left hn, Or.inr⟩, ← ih]
      by_cases h1 : Lib.indexByte r 120 = -1
      · rw [if_pos (by simpa using h1), h1]
      · have h2 := idx_low r
        rw [if_neg (by simpa using h1)]; omega
theorem rank_sign {c : Int} (h : isS c = true) (hx : c ≠ 120) : (rankS c = 0 ∧ c = 117) ∨ (rankS c = 1 ∧ c = 45) := by
  unfold isS at h
  simp only [Bool.or_eq_true, decide_eq_true_iff] at h
  unfold rankS
  rcases h with h | h | h
  · subst h; exact .inl ⟨rfl, rfl⟩
  · subst h; exact .inr ⟨rfl, rfl⟩
  · exact absurd h hx
theorem letters_loop (s : ByteArray) (hs : s.size ≤ 120) (hx : 120 ∉ bytesOf s) (d : Nat) : ∀ (i n : Nat) (out : List Int), i + d = s.size → out.length ≤ i → markL (pvS s i) n ((bytesOf s).drop i) = 0 → (pvS s i = true → 0 < out.length ∧ 0 ≤ rd out ((out.length : Int) - 1) ∧ rd out ((out.length : Int) - 1) ≤ 1) →
    Ev (fun k => pattern_Letters.l0 k s out (s.size : Int) (i : Int)) (lettL out ((bytesOf s).drop i), 0) := by
  induction d with
  | zero =>
    intro i n out hi ho hm hp
    rw [drop_ge s i (by omega), lettL]
    exact Ev.step (fun k => rfl) (Ev.neg (by omega) (Ev.val rfl))
  | succ d ih =>
    intro i n out hi ho hm hp
    have hne : bt s (i : Int) ≠ 120 := fun e => hx (by rw [← e, ← bytesOf_get s i (by omega)]; exact List.getElem_mem _)
    rw [drop_lt s i (by omega), markL] at hm
    rw [drop_lt s i (by omega), lettL]
    refine Ev.step (fun k => rfl) (Ev.pos (by omega) (Ev.pos (by omega) (Ev.pos (by omega) (Ev.cond (fun h => ?_) (fun h => ?_)))))
    · rw [if_pos h]
      have hns : isS (bt s (i : Int)) = false := by rw [h]; rfl
      rw [hns, if_neg (by simp), if_pos h] at hm
      cases hq : pvS s i with
      | false => rw [hq] at hm; simp at hm
      | true =>
        rw [hq, if_pos rfl] at hm
        obtain ⟨h1, h2, h3⟩ := hp hq
        rw [w64 (i := (out.length : Int) - 1) (by omega) (by omega), w64 (i := rd out ((out.length : Int) - 1) + 2) (by omega) (by omega), w64 (i := (i : Int) + 1) (by omega) (by omega)]
        refine Ev.pos (by omega) (Ev.pos (by omega) ?_)
        rw [show ((out.length : Int) - 1).toNat = out.length - 1 by omega]
        exact ih (i + 1) n (bump out) (by omega) (by unfold bump; rw [List.length_set]; omega) (by rw [pvS_succ, hns]; exact hm) (fun h => by rw [pvS_succ, hns] at h; cases h)
    · rw [if_neg h]
      have hsg : isS (bt s (i : Int)) = true := by
        cases hq : isS (bt s (i : Int)) with
        | true => rfl
        | false => rw [hq, if_neg (by simp), if_neg h] at hm; simp at hm
      rw [hsg, if_pos rfl] at hm
      have hr := rank_sign hsg hne
      rw [rank_f (bt_range s i)]
      refine Ev.just (Ev.pos (by omega) ?_)
      rw [w64 (i := (i : Int) + 1) (by omega) (by omega)]
      refine ih (i + 1) (n + 1) (out ++ [rankS (bt s (i : Int))]) (by omega) (by rw [List.length_append, List.length_singleton]; omega) (by rw [pvS_succ, hsg]; exact hm) (fun _ => ?_)
      have e : rd (out ++ [rankS (bt s (i : Int))]) (((out ++ [rankS (bt s (i : Int))]).length : Int) - 1) = rankS (bt s (i : Int)) := by
        rw [List.length_append, List.length_singleton, show ((out.length + 1 : Nat) : Int) - 1 = (out.length : Int) by omega]
        exact rd_mid out _ [] _ rfl
      rw [e]
      exact ⟨by rw [List.length_append, List.length_singleton]; omega, by rcases hr with hr | hr <;> omega, by rcases hr with hr | hr <;> omega⟩
def lettersS (s : ByteArray) : List Int × Int := if markS s = 0 then (if 120 ∈ bytesOf s then ([], 13) else (lettL [] (bytesOf s), 0)) else ([], markS s)
theorem letters_ev (s : ByteArray) : Ev (fun k => pattern_Letters.f k s) (lettersS s) := by
  unfold pattern_Letters.f lettersS
  refine Ev.bind (marked_ev s) (Ev.cond (fun h => ?_) (fun h => Ev.val (if_neg h).symm))
  rw [if_pos h]
  obtain ⟨t, h1, h2⟩ := idx120_f s
  rw [h1]
  refine Ev.just (Ev.cond (fun h3 => Ev.val (by rw [if_pos (h2.1 h3)])) (fun h3 => ?_))
  have hx : 120 ∉ bytesOf s := fun h => h3 (h2.2 h)
  rw [if_neg hx]
  unfold markS at h
  by_cases hs : s.size > 120
  · rw [if_pos hs] at h; cases h
  · rw [if_neg hs] at h
    have := letters_loop s (by omega) hx s.size 0 0 [] (by omega) (by simp) (by rw [List.drop_zero]; exact h) (fun h => by simp [pvS] at h)
    rw [List.drop_zero] at this
    exact this
/-! the letters written -/
def chI (l : Int) : List Int := (if l % 2 = 0 then [117] else [45]) ++ (if 2 ≤ l then [46] else [])
def okL (l : List Int) : Bool := l.all (fun l => decide (0 ≤ l ∧ l ≤ 3))
theorem letter_chI (l : Int) : (pattern_Text.letter l).map (fun b => (b.toNat : Int)) = chI l := by
  unfold pattern_Text.letter chI
  rw [List.map_append]
  split <;> split <;> rfl
theorem text_bytes (l : List Int) : bytesOf ⟨(l.flatMap pattern_Text.letter).toArray⟩ = l.flatMap chI := by
  unfold bytesOf
  show (l.flatMap pattern_Text.letter).map (fun b => (b.toNat : Int)) = _
  induction l with
  | nil => rfl
  | cons x r ih => rw [List.flatMap_cons, List.flatMap_cons, List.map_append, letter_chI, ih]
theorem mark_chI : ∀ (l : List Int) (pv : Bool) (n : Nat), okL l = true → n + l.length ≤ 60 → markL pv n (l.flatMap chI) = 0
  | [], pv, n, _, h => by
    rw [List.flatMap_nil, markL, if_neg (by simp at h; omega)]
  | x :: r, pv, n, ho, h => by
    unfold okL at ho
    rw [List.all_cons, Bool.and_eq_true] at ho
    have hx := of_decide_eq_true ho.1
    rw [List.length_cons] at h
    have ih := fun pv => mark_chI r pv (n + 1) ho.2 (by omega)
    rw [List.flatMap_cons]
    have hx4 : x = 0 ∨ x = 1 ∨ x = 2 ∨ x = 3 := by omega
    rcases hx4 with rfl | rfl | rfl | rfl
    · exact ih true
    · exact ih true
    · exact ih false
    · exact ih false
theorem lett_chI : ∀ (l out : List Int), okL l = true → lettL out (l.flatMap chI) = out ++ l
  | [], out, _ => by rw [List.flatMap_nil, lettL, List.append_nil]
  | x :: r, out, ho => by
    unfold okL at ho
    rw [List.all_cons, Bool.and_eq_true] at ho
    have hx := of_decide_eq_true ho.1
    have ih := fun o => lett_chI r o ho.2
    rw [List.flatMap_cons]
    have hb : ∀ y : Int, bump (out ++ [y]) = out ++ [y + 2] := fun y => by
      unfold bump
      have e : ((out ++ [y]).length : Int) - 1 = (out.length : Int) := by rw [List.length_append, List.length_singleton]; omega
      rw [e, rd_mid out y [] out.length rfl, set_mid out y (y + 2) [] _ (by rw [List.length_append, List.length_singleton]; omega), List.append_nil]
    have hx4 : x = 0 ∨ x = 1 ∨ x = 2 ∨ x = 3 := by omega
    rcases hx4 with rfl | rfl | rfl | rfl
    · show lettL (out ++ [0]) (r.flatMap chI) = _
      rw [ih, List.append_assoc]; rfl
    · show lettL (out ++ [1]) (r.flatMap chI) = _
      rw [ih, List.append_assoc]; rfl
    · show lettL (bump (out ++ [0])) (r.flatMap chI) = _
      rw [hb, ih, List.append_assoc]; rfl
    · show lettL (bump (out ++ [1])) (r.flatMap chI) = _
      rw [hb, ih, List.append_assoc]; rfl
theorem no_x_chI : ∀ l : List Int, 120 ∉ l.flatMap chI
  | [] => by simp
  | x :: r => by
    rw [List.flatMap_cons, List.mem_append]
    rintro (h | h)
    · unfold chI at h
      (repeat' split at h) <;> simp at h
    · exact no_x_chI r h
theorem flat_le : ∀ l : List Int, (l.flatMap chI).length ≤ 2 * l.length
  | [] => by simp
  | x :: r => by
    have := flat_le r
    rw [List.flatMap_cons, List.length_append, List.length_cons]
    have : (chI x).length ≤ 2 := by unfold chI; split <;> split <;> simp
    omega
def textS (l : List Int) : ByteArray × Int := if 60 < l.length then (⟨#[]⟩, 3) else if okL l then (⟨(l.flatMap pattern_Text.letter).toArray⟩, 0) else (⟨#[]⟩, 6)
theorem text_f (l : List Int) : pattern_Text.f l = some (textS l) := by
  unfold pattern_Text.f textS okL
  split
  · rfl
  · split <;> rfl
theorem letters_text (l : List Int) (h : l.length ≤ 60) (ho : okL l = true) : lettersS ⟨(l.flatMap pattern_Text.letter).toArray⟩ = (l, 0) := by
  have hb := text_bytes l
  have hf := flat_le l
  have hsz : (⟨(l.flatMap pattern_Text.letter).toArray⟩ : ByteArray).size ≤ 120 := by rw [← bytesOf_length, hb]; omega
  have hm : markS ⟨(l.flatMap pattern_Text.letter).toArray⟩ = 0 := by
    unfold markS
    rw [if_neg (by omega), hb]
    exact mark_chI l false 0 ho (by omega)
  unfold lettersS
  rw [if_pos hm, hb, if_neg (no_x_chI l), lett_chI l [] ho]; rfl
end Go.Proofs.YtbecdafbkdchkaaDoor.Lem
