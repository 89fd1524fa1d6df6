/- Plain lemmas over the printed functions of chapter 4: valid patterns, Meet, Join, Match, by the program and by the reference. -/
import Derived.Test.YtbecdafbkdchkaaBase
import Derived.Test.YtbecdafbkdchkaaX1
import Derived.Test.YtbecdafbkdchkaaX4
import Derived.Test.YtbecdafbkdchkaaX5
import Derived.Test.YtbecdafbkdchkaaX3
namespace Go.Proofs.Ytbecdafbkdchkaa.Lem
open Go.RowKit Go.Proofs.Ytbecdafbkdchkaa.X Go.Proofs.YtbecdafbkdchkaaW.PrintWords Go.Proofs.YtbecdafbkdchkaaW.PrintLast
theorem Ev.eq {α : Type} {g : Nat → Option α} {a b : α} (h : a = b) (k : Ev g a) : Ev g b := h ▸ k
def isS (c : Int) : Bool := decide (c = 117) || (decide (c = 45) || decide (c = 120))
theorem sign_all : ∀ n : Fin 256, pattern_isSign.f ((n.val : Nat) : Int) = some (isS ((n.val : Nat) : Int)) := by decide +kernel
theorem isSign_f {c : Int} (h : 0 ≤ c ∧ c ≤ 255) : pattern_isSign.f c = some (isS c) := by obtain ⟨n, rfl⟩ := byte_fin h; exact sign_all n
theorem is_f (c : Int) : ancepsref04_Is.f c = some (isS c) := by
  unfold ancepsref04_Is.f isS
  by_cases h : c = 117
  · rw [if_pos h, decide_eq_true h, Bool.true_or]
  · rw [if_neg h, decide_eq_false h, Bool.false_or]
    by_cases h2 : c = 45
    · rw [if_pos h2, decide_eq_true h2, Bool.true_or]
    · rw [if_neg h2, decide_eq_false h2, Bool.false_or]; rfl
def validS (s : ByteArray) : Int := if s.size > 60 then 3 else if (bytesOf s).all isS then 0 else 2
theorem valid_loop (s : ByteArray) (hs : s.size ≤ 60) (d : Nat) : ∀ i : Nat, i + d = s.size → Ev (fun k => pattern_Valid.l0 k s (s.size : Int) (i : Int)) (if ((bytesOf s).drop i).all isS then 0 else 2) := by
  induction d with
  | zero =>
    intro i hi
    rw [drop_ge s i (by omega)]
    exact Ev.step (fun k => rfl) (Ev.neg (by omega) (Ev.val rfl))
  | succ d ih =>
    intro i hi
    refine Ev.step (fun k => rfl) (Ev.pos (by omega) (Ev.pos (by omega) (Ev.pos (by omega) ?_)))
    rw [isSign_f (bt_range s i), drop_lt s i (by omega), List.all_cons]
    refine Ev.just (Ev.cond (fun h => ?_) (fun h => Ev.val ?_))
    · rw [h, Bool.true_and, w64 (by omega) (by omega)]; exact ih (i + 1) (by omega)
    · rw [Bool.eq_false_iff.2 h]; rfl
theorem valid_ev (s : ByteArray) : Ev (fun k => pattern_Valid.f k s) (validS s) := by
  unfold pattern_Valid.f validS
  refine Ev.cond (fun h => Ev.val (by rw [if_pos (c := s.size > 60) (by omega)])) (fun h => ?_)
  rw [if_neg (c := s.size > 60) (by omega)]
  exact Ev.eq (by rw [List.drop_zero]) (valid_loop s (by omega) s.size 0 (by omega))
theorem rvalid_loop (s : ByteArray) (hs : s.size ≤ 60) (d : Nat) : ∀ i : Nat, i + d = s.size → Ev (fun k => ancepsref04_Valid.l0 k s (i : Int)) (if ((bytesOf s).drop i).all isS then 0 else 2) := by
  induction d with
  | zero =>
    intro i hi
    rw [drop_ge s i (by omega)]
    exact Ev.step (fun k => rfl) (Ev.neg (by omega) (Ev.val rfl))
  | succ d ih =>
    intro i hi
    refine Ev.step (fun k => rfl) (Ev.pos (by omega) (Ev.pos (by omega) ?_))
    rw [is_f, drop_lt s i (by omega), List.all_cons]
    refine Ev.just (Ev.cond (fun h => ?_) (fun h => Ev.val ?_))
    · rw [h, Bool.true_and, w64 (by omega) (by omega)]; exact ih (i + 1) (by omega)
    · rw [Bool.eq_false_iff.2 h]; rfl
theorem rvalid_ev (s : ByteArray) : Ev (fun k => ancepsref04_Valid.f k s) (validS s) := by
  unfold ancepsref04_Valid.f validS
  refine Ev.cond (fun h => Ev.val (by rw [if_pos (c := s.size > 60) (by omega)])) (fun h => ?_)
  rw [if_neg (c := s.size > 60) (by omega)]
  exact Ev.eq (by rw [List.drop_zero]) (rvalid_loop s (by omega) s.size 0 (by omega))
theorem valid_size {s : ByteArray} (h : validS s = 0) : s.size ≤ 60 ∧ (bytesOf s).all isS = true := by
  unfold validS at h
  by_cases h1 : s.size > 60
  · rw [if_pos h1] at h; exact absurd h (by decide)
  · rw [if_neg h1] at h
    refine ⟨by omega, ?_⟩
    cases ha : (bytesOf s).all isS with
    | true => rfl
    | false => rw [ha] at h; exact absurd h (by decide)
theorem valid_of {s : ByteArray} (h : s.size ≤ 60) (ha : (bytesOf s).all isS = true) : validS s = 0 := by
  unfold validS; rw [if_neg (by omega), ha]; rfl
theorem or_ev (a b : Int) : Ev (fun k => api_Errno.f k [a, b]) (if a = 0 then b else a) := by
  have e1 : wrap64 (0 + 1) = 1 := w64 (by decide) (by decide)
  have e2 : wrap64 (1 + 1) = 2 := w64 (by decide) (by decide)
  unfold api_Errno.f
  refine Ev.step (fun k => rfl) (Ev.pos (show (0 : Int) < 2 by decide) (Ev.pos (by decide) (Ev.pos (show (0 : Int) < 2 by decide) (Ev.cond (fun h => ?_) (fun h => Ev.val (if_neg h).symm)))))
  rw [e1, if_pos (show a = 0 from h)]
  refine Ev.step (fun k => rfl) (Ev.pos (show (1 : Int) < 2 by decide) (Ev.pos (by decide) (Ev.pos (show (1 : Int) < 2 by decide) (Ev.cond (fun h2 => ?_) (fun h2 => Ev.now _)))))
  rw [e2]
  exact Ev.step (fun k => rfl) (Ev.neg (show ¬ (2 : Int) < 2 by decide) (Ev.val (show b = 0 from h2).symm))
def bothS (p q : ByteArray) : Int := if validS p = 0 then (if validS q = 0 then (if p.size = q.size then 0 else 6) else validS q) else validS p
theorem both_ev (p q : ByteArray) : Ev (fun k => pattern_both.f k p q) (bothS p q) := by
  unfold pattern_both.f bothS
  refine Ev.bind (valid_ev p) (Ev.bind (valid_ev q) (Ev.bind (or_ev _ _) ?_))
  by_cases h : validS p = 0
  · rw [if_pos h, if_pos h]
    refine Ev.cond (fun h2 => ?_) (fun h2 => Ev.val (if_neg h2).symm)
    rw [if_pos h2]
    refine Ev.cond (fun h3 => Ev.val ?_) (fun h3 => Ev.val ?_)
    · rw [if_pos (by omega), h2]
    · rw [if_neg (by omega)]
  · rw [if_neg h, if_neg h]
    exact Ev.val (if_neg h).symm
theorem two_ev (p q : ByteArray) : Ev (fun k => ancepsref04_two.f k p q) (bothS p q) := by
  unfold ancepsref04_two.f bothS
  refine Ev.bind (rvalid_ev p) (Ev.cond (fun h => ?_) (fun h => Ev.val (if_neg h).symm))
  rw [if_pos h]
  refine Ev.bind (rvalid_ev q) (Ev.cond (fun h2 => ?_) (fun h2 => Ev.val (if_neg h2).symm))
  rw [if_pos h2]
  exact Ev.cond (fun h3 => Ev.val (if_pos (by omega)).symm) (fun h3 => Ev.val (if_neg (by omega)).symm)
theorem both_ok {p q : ByteArray} (h : bothS p q = 0) : validS p = 0 ∧ validS q = 0 ∧ p.size = q.size := by
  unfold bothS at h
  by_cases h1 : validS p = 0
  · rw [if_pos h1] at h
    by_cases h2 : validS q = 0
    · rw [if_pos h2] at h
      by_cases h3 : p.size = q.size
      · exact ⟨h1, h2, h3⟩
      · rw [if_neg h3] at h; exact absurd h (by decide)
    · rw [if_neg h2] at h; exact absurd h h2
  · rw [if_neg h1] at h; exact absurd h h1
theorem both_of {p q : ByteArray} (h1 : validS p = 0) (h2 : validS q = 0) (h3 : p.size = q.size) : bothS p q = 0 := by
  unfold bothS; rw [if_pos h1, if_pos h2, if_pos h3]
/-! two signs, two lists -/
def meet1 (a b : Int) : Option Int := if a = 120 then some b else if b = 120 then some a else if b = a then some a else none
def meetL : List Int → List Int → Option (List Int)
  | [], _ => some []
  | _ :: _, [] => some []
  | a :: p, b :: q => match meet1 a b with
    | none => none
    | some c => match meetL p q with
      | none => none
      | some r => some (c :: r)
def join1 (a b : Int) : Int := if a = b then a else 120
def joinL : List Int → List Int → List Int
  | [], _ => []
  | _ :: _, [] => []
  | a :: p, b :: q => join1 a b :: joinL p q
def finM (pre : List Int) : Option (List Int) → ByteArray × Int
  | some r => (strOfNums (pre ++ r), 0)
  | none => (⟨#[]⟩, 12)
theorem set_mid {α : Type} (A : List α) (b c : α) (C : List α) (i : Nat) (h : i = A.length) : (A ++ b :: C).set i c = (A ++ [c]) ++ C := by
  subst h; rw [List.set_append_right _ _ (Nat.le_refl _), Nat.sub_self, List.append_assoc]; rfl
theorem rd_mid (A : List Int) (b : Int) (C : List Int) (i : Nat) (h : i = A.length) : rd (A ++ b :: C) (i : Int) = b := by
  subst h; unfold rd; rw [Int.toNat_natCast, List.getD_eq_getElem?_getD, List.getElem?_append_right (Nat.le_refl _), Nat.sub_self]; rfl
theorem mid (A : List Int) (b : Int) (C : List Int) : A ++ b :: C = (A ++ [b]) ++ C := by rw [List.append_assoc]; rfl
theorem meet_loop (p q : ByteArray) (hs : p.size = q.size) (hp : p.size ≤ 60) (d : Nat) : ∀ (i : Nat) (pre : List Int), i + d = p.size → pre.length = i → Ev (fun k => pattern_Meet.l0 k q (pre ++ (bytesOf p).drop i) (p.size : Int) (i : Int)) (finM pre (meetL ((bytesOf p).drop i) ((bytesOf q).drop i))) := by
  induction d with
  | zero =>
    intro i pre hi hl
    rw [drop_ge p i (by omega), drop_ge q i (by omega)]
    exact Ev.step (fun k => rfl) (Ev.neg (by omega) (Ev.val rfl))
  | succ d ih =>
    intro i pre hi hl
    have hp' := drop_lt p i (by omega)
    have hq' := drop_lt q i (by omega)
    have hlen : (pre ++ (bytesOf p).drop i).length = p.size := by rw [List.length_append, drop_len]; omega
    refine Ev.step (fun k => rfl) (Ev.pos (by omega) (Ev.pos (by omega) (Ev.pos (by omega) ?_)))
    rw [hp', hq', rd_mid _ _ _ _ hl.symm, meetL]
    have next : ∀ c, meet1 (bt p i) (bt q i) = some c → Ev (fun k => pattern_Meet.l0 k q ((pre ++ [c]) ++ (bytesOf p).drop (i + 1)) (p.size : Int) (wrap64 ((i : Int) + 1))) (finM pre (match meetL ((bytesOf p).drop (i + 1)) ((bytesOf q).drop (i + 1)) with | none => none | some r => some (c :: r))) := fun c hc => by
      rw [w64 (by omega) (by omega)]
      have := ih (i + 1) (pre ++ [c]) (by omega) (by rw [List.length_append, hl]; rfl)
      refine Ev.eq ?_ this
      cases meetL ((bytesOf p).drop (i + 1)) ((bytesOf q).drop (i + 1)) with
      | none => rfl
      | some r =>
        show (strOfNums ((pre ++ [c]) ++ r), (0 : Int)) = (strOfNums (pre ++ c :: r), 0)
        rw [← mid]
    refine Ev.cond (fun h => Ev.pos (by omega) ?_) (fun h => Ev.pos (by omega) (Ev.cond (fun h2 => ?_) (fun h2 => Ev.cond (fun h3 => ?_) (fun h3 => Ev.val ?_))))
    · have hm : meet1 (bt p i) (bt q i) = some (bt q i) := by unfold meet1; rw [if_pos h]
      rw [Int.toNat_natCast, set_mid _ _ _ _ _ hl.symm, hm]
      exact next _ hm
    · have hm : meet1 (bt p i) (bt q i) = some (bt p i) := by unfold meet1; rw [if_neg h, if_pos h2]
      rw [hm, mid]
      exact next _ hm
    · have hm : meet1 (bt p i) (bt q i) = some (bt p i) := by unfold meet1; rw [if_neg h, if_neg h2, if_pos h3]
      rw [hm, mid]
      exact next _ hm
    · rw [show meet1 (bt p i) (bt q i) = none by unfold meet1; rw [if_neg h, if_neg h2, if_neg h3]]; rfl
def meetS (p q : ByteArray) : ByteArray × Int := if bothS p q = 0 then finM [] (meetL (bytesOf p) (bytesOf q)) else (⟨#[]⟩, bothS p q)
theorem meet_ev (p q : ByteArray) : Ev (fun k => pattern_Meet.f k p q) (meetS p q) := by
  unfold pattern_Meet.f meetS
  refine Ev.bind (both_ev p q) (Ev.cond (fun h => ?_) (fun h => Ev.val (if_neg h).symm))
  obtain ⟨h1, h2, h3⟩ := both_ok h
  have hp := (valid_size h1).1
  refine Ev.pos (by omega) (Ev.just ?_)
  rw [if_pos h, bytesOf_length]
  have := meet_loop p q h3 hp p.size 0 [] (by omega) rfl
  rw [List.drop_zero, List.drop_zero, List.nil_append] at this
  exact this
def joinS (p q : ByteArray) : ByteArray × Int := if bothS p q = 0 then (strOfNums (joinL (bytesOf p) (bytesOf q)), 0) else (⟨#[]⟩, bothS p q)
theorem join_loop (p q : ByteArray) (hs : p.size = q.size) (hp : p.size ≤ 60) (d : Nat) : ∀ (i : Nat) (pre : List Int), i + d = p.size → pre.length = i → Ev (fun k => pattern_Join.l0 k q (pre ++ (bytesOf p).drop i) (p.size : Int) (i : Int)) (strOfNums (pre ++ joinL ((bytesOf p).drop i) ((bytesOf q).drop i)), 0) := by
  induction d with
  | zero =>
    intro i pre hi hl
    rw [drop_ge p i (by omega), drop_ge q i (by omega)]
    exact Ev.step (fun k => rfl) (Ev.neg (by omega) (Ev.val rfl))
  | succ d ih =>
    intro i pre hi hl
    have hlen : (pre ++ (bytesOf p).drop i).length = p.size := by rw [List.length_append, drop_len]; omega
    refine Ev.step (fun k => rfl) (Ev.pos (by omega) (Ev.pos (by omega) (Ev.pos (by omega) (Ev.pos (by omega) ?_))))
    rw [drop_lt p i (by omega), drop_lt q i (by omega), rd_mid _ _ _ _ hl.symm, joinL, mid pre (join1 _ _), w64 (by omega) (by omega)]
    have next := ih (i + 1) (pre ++ [join1 (bt p i) (bt q i)]) (by omega) (by rw [List.length_append, hl]; rfl)
    refine Ev.cond (fun h => ?_) (fun h => ?_)
    · have hj : join1 (bt p i) (bt q i) = bt p i := by unfold join1; rw [if_pos h]
      rw [hj] at next ⊢
      rw [mid]; exact next
    · have hj : join1 (bt p i) (bt q i) = 120 := by unfold join1; rw [if_neg h]
      rw [hj] at next ⊢
      rw [Int.toNat_natCast, set_mid _ _ _ _ _ hl.symm]; exact next
theorem join_ev (p q : ByteArray) : Ev (fun k => pattern_Join.f k p q) (joinS p q) := by
  unfold pattern_Join.f joinS
  refine Ev.bind (both_ev p q) (Ev.cond (fun h => ?_) (fun h => Ev.val (if_neg h).symm))
  obtain ⟨h1, h2, h3⟩ := both_ok h
  have hp := (valid_size h1).1
  refine Ev.pos (by omega) (Ev.just ?_)
  rw [if_pos h, bytesOf_length]
  have := join_loop p q h3 hp p.size 0 [] (by omega) rfl
  rw [List.drop_zero, List.drop_zero, List.nil_append] at this
  exact this
def mt (a b : Int) : Bool := decide (a = b) || (decide (a = 120) || decide (b = 120))
def matchL : List Int → List Int → Bool
  | [], _ => true
  | _ :: _, [] => true
  | a :: p, b :: q => mt a b && matchL p q
theorem meet1_mt (a b : Int) : (meet1 a b).isSome = mt a b := by
  unfold meet1 mt
  by_cases h1 : a = 120
  · rw [if_pos h1, decide_eq_true h1]; simp
  · rw [if_neg h1, decide_eq_false h1]
    by_cases h2 : b = 120
    · rw [if_pos h2, decide_eq_true h2]; simp
    · rw [if_neg h2, decide_eq_false h2]
      by_cases h3 : b = a
      · rw [if_pos h3, decide_eq_true h3.symm]; rfl
      · rw [if_neg h3, decide_eq_false (fun e => h3 e.symm)]; rfl
theorem meetL_match : ∀ p q : List Int, (meetL p q).isSome = matchL p q
  | [], _ => rfl
  | _ :: _, [] => rfl
  | a :: p, b :: q => by
    rw [meetL, matchL, ← meet1_mt, ← meetL_match p q]
    cases meet1 a b with
    | none => rfl
    | some c => cases meetL p q <;> rfl
def matchS (p q : ByteArray) : Bool := decide (bothS p q = 0) && matchL (bytesOf p) (bytesOf q)
theorem meetS_match (p q : ByteArray) : ((meetS p q).2 == 0) = matchS p q := by
  unfold meetS matchS
  by_cases h : bothS p q = 0
  · rw [if_pos h, decide_eq_true h, Bool.true_and, ← meetL_match]
    cases meetL (bytesOf p) (bytesOf q) <;> rfl
  · rw [if_neg h, decide_eq_false h, Bool.false_and]
    simpa using h
theorem match_ev (p q : ByteArray) : Ev (fun k => pattern_Match.f k p q) (matchS p q) := by
  unfold pattern_Match.f
  exact Ev.bind (meet_ev p q) (Ev.val (meetS_match p q))
/-! the reference -/
theorem rmatch_loop (p q : ByteArray) (hs : p.size = q.size) (hp : p.size ≤ 60) (d : Nat) : ∀ i : Nat, i + d = p.size → Ev (fun k => ancepsref04_Match.l0 k p q (i : Int)) (matchL ((bytesOf p).drop i) ((bytesOf q).drop i)) := by
  induction d with
  | zero =>
    intro i hi
    rw [drop_ge p i (by omega)]
    exact Ev.step (fun k => ancepsref04_Match.l0.eq_2 _ _ _ _) (Ev.neg (by omega) (Ev.val rfl))
  | succ d ih =>
    intro i hi
    refine Ev.step (fun k => ancepsref04_Match.l0.eq_2 _ _ _ _) (Ev.pos (by omega) (Ev.pos (by omega) (Ev.pos (by omega) ?_)))
    rw [drop_lt p i (by omega), drop_lt q i (by omega), matchL, w64 (by omega) (by omega)]
    have next : mt (bt p i) (bt q i) = true → Ev (fun k => ancepsref04_Match.l0 k p q ((i : Int) + 1)) (mt (bt p i) (bt q i) && matchL ((bytesOf p).drop (i + 1)) ((bytesOf q).drop (i + 1))) := fun h => by
      rw [h, Bool.true_and]; exact ih (i + 1) (by omega)
    refine Ev.cond (fun h => next (by unfold mt; rw [decide_eq_true h]; rfl)) (fun h => Ev.cond (fun h2 => next (by unfold mt; rw [decide_eq_true h2]; simp)) (fun h2 => Ev.cond (fun h3 => next (by unfold mt; rw [decide_eq_true h3]; simp)) (fun h3 => Ev.val ?_)))
    rw [show mt (bt p i) (bt q i) = false by unfold mt; rw [decide_eq_false h, decide_eq_false h2, decide_eq_false h3]; rfl, Bool.false_and]
theorem rmatch_ev (p q : ByteArray) : Ev (fun k => ancepsref04_Match.f k p q) (matchS p q) := by
  unfold ancepsref04_Match.f matchS bothS
  have no : Ev (fun k => ancepsref04_Match.j0 k p q true) false := Ev.step (fun k => ancepsref04_Match.j0.eq_2 _ _ _ _) (Ev.pos rfl (Ev.val rfl))
  refine Ev.bind (rvalid_ev p) (Ev.cond (fun h => ?_) (fun h => ?_))
  · rw [if_pos h]
    refine Ev.bind (rvalid_ev q) (Ev.cond (fun h2 => ?_) (fun h2 => ?_))
    · rw [if_pos h2]
      by_cases h3 : p.size = q.size
      · rw [if_pos h3, show ((p.size : Int) != (q.size : Int)) = false by rw [h3]; simp, decide_eq_true rfl, Bool.true_and]
        refine Ev.step (fun k => ancepsref04_Match.j0.eq_2 _ _ _ _) (Ev.neg (by decide) ?_)
        have := rmatch_loop p q h3 (valid_size h).1 p.size 0 (by omega)
        rw [List.drop_zero, List.drop_zero] at this
        exact this
      · rw [if_neg h3, show ((p.size : Int) != (q.size : Int)) = true by simpa using fun e : (p.size : Int) = q.size => h3 (by omega)]
        exact no
    · rw [if_neg h2, decide_eq_false h2, Bool.false_and]; exact no
  · rw [if_neg h, decide_eq_false h, Bool.false_and]; exact no
theorem str_app (l m : List Int) : strOfNums l ++ strOfNums m = strOfNums (l ++ m) := by
  apply ByteArray.ext
  rw [ByteArray.data_append]
  apply Array.toList_inj.1
  rw [Array.toList_append, strOfNums_data, strOfNums_data, strOfNums_data, List.map_append]
theorem str_bytes (s : ByteArray) : strOfNums (bytesOf s) = s := bytesOf_inj (bytesOf_str _ (fun c hc => bytesOf_range s c hc))
theorem extract_one (s : ByteArray) (i : Nat) (h : i < s.size) : s.extract i (i + 1) = strOfNums [bt s i] := by
  rw [← str_bytes (s.extract i (i + 1)), bytesOf_extract, List.drop_take, Nat.add_sub_cancel_left, drop_lt s i h]; rfl
theorem rmeet_loop (p q : ByteArray) (hs : p.size = q.size) (hp : p.size ≤ 60) (d : Nat) : ∀ (i : Nat) (pre : List Int), i + d = p.size → pre.length = i → matchL ((bytesOf p).drop i) ((bytesOf q).drop i) = true → Ev (fun k => ancepsref04_Meet.l0 k p q (strOfNums pre) (i : Int)) (finM pre (meetL ((bytesOf p).drop i) ((bytesOf q).drop i))) := by
  induction d with
  | zero =>
    intro i pre hi hl _
    rw [drop_ge p i (by omega), drop_ge q i (by omega)]
    exact Ev.step (fun k => rfl) (Ev.neg (by omega) (Ev.val (by show _ = (strOfNums (pre ++ []), (0 : Int)); rw [List.append_nil])))
  | succ d ih =>
    intro i pre hi hl hml
    rw [drop_lt p i (by omega), drop_lt q i (by omega)] at hml ⊢
    rw [matchL, Bool.and_eq_true] at hml
    rw [meetL]
    refine Ev.step (fun k => rfl) (Ev.pos (by omega) (Ev.pos (by omega) ?_))
    rw [w64 (by omega) (by omega), show ((i : Int) + 1) = ((i + 1 : Nat) : Int) by omega, Int.toNat_natCast, Int.toNat_natCast, extract_one q i (by omega), extract_one p i (by omega)]
    have hb : ∀ c, (strOfNums pre).size + (strOfNums [c]).size ≤ 9223372036854775807 := fun c => by rw [strOfNums_size, strOfNums_size, List.length_singleton]; omega
    have next : ∀ c, meet1 (bt p i) (bt q i) = some c → Ev (fun k => ancepsref04_Meet.l0 k p q (strOfNums pre ++ strOfNums [c]) ((i + 1 : Nat) : Int)) (finM pre (match meetL ((bytesOf p).drop (i + 1)) ((bytesOf q).drop (i + 1)) with | none => none | some r => some (c :: r))) := fun c hc => by
      rw [str_app]
      have := ih (i + 1) (pre ++ [c]) (by omega) (by rw [List.length_append, hl]; rfl) hml.2
      refine Ev.eq ?_ this
      cases meetL ((bytesOf p).drop (i + 1)) ((bytesOf q).drop (i + 1)) with
      | none => rfl
      | some r =>
        show (strOfNums ((pre ++ [c]) ++ r), (0 : Int)) = (strOfNums (pre ++ c :: r), 0)
        rw [← mid]
    refine Ev.cond (fun h => Ev.pos (by omega) (Ev.pos (by omega) (Ev.pos (hb _) ?_))) (fun h => Ev.pos (by omega) (Ev.pos (by omega) (Ev.pos (hb _) ?_)))
    · have hm : meet1 (bt p i) (bt q i) = some (bt q i) := by unfold meet1; rw [if_pos h]
      rw [hm]; exact next _ hm
    · have hm : meet1 (bt p i) (bt q i) = some (bt p i) := by
        have h1 := hml.1
        rw [← meet1_mt] at h1
        unfold meet1 at h1 ⊢
        rw [if_neg h] at h1 ⊢
        by_cases h2 : bt q i = 120
        · rw [if_pos h2]
        · rw [if_neg h2] at h1 ⊢
          by_cases h3 : bt q i = bt p i
          · rw [if_pos h3]
          · rw [if_neg h3] at h1; exact absurd h1 (by decide)
      rw [hm]; exact next _ hm
theorem rmeet_ev (p q : ByteArray) : Ev (fun k => ancepsref04_Meet.f k p q) (meetS p q) := by
  unfold ancepsref04_Meet.f meetS
  refine Ev.bind (two_ev p q) (Ev.cond (fun h => ?_) (fun h => Ev.val (if_neg h).symm))
  rw [if_pos h]
  obtain ⟨h1, h2, h3⟩ := both_ok h
  refine Ev.bind (rmatch_ev p q) (Ev.cond (fun hm => ?_) (fun hm => Ev.val ?_))
  · have hm : matchL (bytesOf p) (bytesOf q) = true := by unfold matchS at hm; rw [Bool.and_eq_true] at hm; exact hm.2
    have := rmeet_loop p q h3 (valid_size h1).1 p.size 0 [] (by omega) rfl (by rw [List.drop_zero, List.drop_zero]; exact hm)
    rw [List.drop_zero, List.drop_zero] at this
    exact this
  · unfold matchS at hm
    rw [decide_eq_true h, Bool.true_and, ← meetL_match] at hm
    cases hx : meetL (bytesOf p) (bytesOf q) with
    | none => rfl
    | some r => rw [hx] at hm; exact absurd rfl hm
theorem rjoin_loop (p q : ByteArray) (hs : p.size = q.size) (hp : p.size ≤ 60) (d : Nat) : ∀ (i : Nat) (pre : List Int), i + d = p.size → pre.length = i → Ev (fun k => ancepsref04_Join.l0 k p q (strOfNums pre) (i : Int)) (strOfNums (pre ++ joinL ((bytesOf p).drop i) ((bytesOf q).drop i)), 0) := by
  induction d with
  | zero =>
    intro i pre hi hl
    rw [drop_ge p i (by omega), drop_ge q i (by omega)]
    exact Ev.step (fun k => rfl) (Ev.neg (by omega) (Ev.val (by unfold joinL; rw [List.append_nil])))
  | succ d ih =>
    intro i pre hi hl
    refine Ev.step (fun k => rfl) (Ev.pos (by omega) (Ev.pos (by omega) (Ev.pos (by omega) ?_)))
    rw [w64 (by omega) (by omega), show ((i : Int) + 1) = ((i + 1 : Nat) : Int) by omega, Int.toNat_natCast, Int.toNat_natCast, extract_one p i (by omega), drop_lt p i (by omega), drop_lt q i (by omega), joinL, mid pre (join1 _ _)]
    have next := ih (i + 1) (pre ++ [join1 (bt p i) (bt q i)]) (by omega) (by rw [List.length_append, hl]; rfl)
    refine Ev.cond (fun h => Ev.pos (by omega) (Ev.pos (by omega) (Ev.pos ?_ ?_))) (fun h => Ev.pos ?_ ?_)
    · rw [strOfNums_size, strOfNums_size, List.length_singleton]; omega
    · rw [str_app]
      have hj : join1 (bt p i) (bt q i) = bt p i := by unfold join1; rw [if_pos h]
      rw [hj] at next ⊢; exact next
    · rw [strOfNums_size]; omega
    · have hj : join1 (bt p i) (bt q i) = 120 := by unfold join1; rw [if_neg h]
      rw [hj] at next ⊢
      rw [show (⟨#[120]⟩ : ByteArray) = strOfNums [120] from rfl, str_app]; exact next
theorem rjoin_ev (p q : ByteArray) : Ev (fun k => ancepsref04_Join.f k p q) (joinS p q) := by
  unfold ancepsref04_Join.f joinS
  refine Ev.bind (two_ev p q) (Ev.cond (fun h => ?_) (fun h => Ev.val (if_neg h).symm))
  rw [if_pos h]
  obtain ⟨h1, h2, h3⟩ := both_ok h
  have := rjoin_loop p q h3 (valid_size h1).1 p.size 0 [] (by omega) rfl
  rw [List.drop_zero, List.drop_zero, List.nil_append] at this
  exact this
theorem awake_ev : Ev (fun k => ancepslaw04_awake.f k) true := Ev.of (fun k => ancepslaw04_awake.mono k) (k := 60) (by kernel_rfl)
end Go.Proofs.Ytbecdafbkdchkaa.Lem
