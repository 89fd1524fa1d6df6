/- Valid, Marked, Plain and Letters of package pattern answer as the reference does; Text leads back from the letters. -/
import Derived.Test.YtbecdafbkdchkaaDoorQ1
import Derived.Test.YtbecdafbkdchkaaDoorX6
import Derived.Test.YtbecdafbkdchkaaDoorX1
namespace Go.Proofs.YtbecdafbkdchkaaDoor.Pure
open Go.RowKit Go.Proofs.YtbecdafbkdchkaaDoor.X Go.Proofs.YtbecdafbkdchkaaDoor.Lem Go.Proofs.YtbecdafbkdchkaaDoorW.PrintWords Go.Proofs.YtbecdafbkdchkaaDoorW.PrintLast
theorem rmarked_loop (s : ByteArray) (hs : s.size ≤ 120) (d : Nat) : ∀ (i n : Nat), i + d = s.size → n ≤ i → Ev (fun k => ancepsref04_Marked.l0 k s (n : Int) (i : Int)) (markL (pvS s i) n ((bytesOf s).drop i)) := by
  induction d with
  | zero =>
    intro i n hi hn
    rw [drop_ge s i (by omega), markL]
    refine Ev.step (fun k => rfl) (Ev.neg (by omega) (Ev.cond (fun h => Ev.val (by rw [if_pos (by omega)])) (fun h => Ev.val (by rw [if_neg (by omega)]))))
  | succ d ih =>
    intro i n hi hn
    rw [drop_lt s i (by omega), markL]
    refine Ev.step (fun k => rfl) (Ev.pos (by omega) (Ev.pos (by omega) ?_))
    rw [is_f]
    refine Ev.just ?_
    cases hc : isS (bt s (i : Int)) with
    | true =>
      have := ih (i + 1) (n + 1) (by omega) (by omega)
      rw [pvS_succ, hc] at this
      refine Ev.pos rfl ?_
      rw [if_pos rfl, w64 (i := (n : Int) + 1) (by omega) (by omega), w64 (i := (i : Int) + 1) (by omega) (by omega)]
      exact this
    | false =>
      rw [if_neg (by simp)]
      refine Ev.neg (by simp) (Ev.cond (fun h => ?_) (fun h => Ev.val (by rw [if_neg h])))
      rw [if_pos h]
      refine Ev.cond (fun h0 => Ev.val ?_) (fun h0 => ?_)
      · have : pvS s i = false := by unfold pvS; rw [decide_eq_false (by omega)]; rfl
        rw [this]; rfl
      · rw [w64 (i := (i : Int) - 1) (by omega) (by omega)]
        refine Ev.pos (by omega) (Ev.pos (by omega) ?_)
        rw [is_f]
        have hp : pvS s i = isS (bt s ((i : Int) - 1)) := by unfold pvS; rw [decide_eq_true (by omega)]; rfl
        refine Ev.just ?_
        cases hq : isS (bt s ((i : Int) - 1)) with
        | true =>
          have := ih (i + 1) n (by omega) (by omega)
          rw [pvS_succ, hc] at this
          rw [hp, hq, if_pos rfl]
          refine Ev.pos rfl ?_
          rw [w64 (i := (i : Int) + 1) (by omega) (by omega)]
          exact this
        | false => rw [hp, hq]; exact Ev.neg (by simp) (Ev.val rfl)
theorem rmarked_ev (s : ByteArray) : Ev (fun k => ancepsref04_Marked.f k s) (markS s) := by
  unfold ancepsref04_Marked.f markS
  refine Ev.cond (fun h => Ev.val (by rw [if_pos (by omega)])) (fun h => ?_)
  rw [if_neg (by omega)]
  have := rmarked_loop s (by omega) s.size 0 0 (by omega) (by omega)
  rw [List.drop_zero] at this
  exact this
theorem mark_size {s : ByteArray} (h : markS s = 0) : s.size ≤ 120 ∧ markL false 0 (bytesOf s) = 0 := by
  unfold markS at h
  by_cases hs : s.size > 120
  · rw [if_pos hs] at h; cases h
  · rw [if_neg hs] at h; exact ⟨by omega, h⟩
theorem mem_other {c : Int} {r : List Int} (h : c ≠ 120) : (120 ∈ c :: r) = (120 ∈ r) := by
  rw [List.mem_cons]
  exact propext ⟨fun z => z.resolve_left (fun e => h e.symm), Or.inr⟩
theorem rletters_loop (s : ByteArray) (hs : s.size ≤ 120) (d : Nat) : ∀ (i n : Nat) (out : List Int), i + d = s.size → out.length ≤ i → markL (pvS s i) n ((bytesOf s).drop i) = 0 → (pvS s i = true → 0 < out.length ∧ 0 ≤ rd out ((out.length : Int) - 1) ∧ rd out ((out.length : Int) - 1) ≤ 1) →
    Ev (fun k => ancepsref04_Letters.l0 k s out (i : Int)) (if 120 ∈ (bytesOf s).drop i then ([], 13) else (lettL out ((bytesOf s).drop i), 0)) := by
  induction d with
  | zero =>
    intro i n out hi ho hm hp
    rw [drop_ge s i (by omega), lettL, if_neg (by simp)]
    exact Ev.step (fun k => rfl) (Ev.neg (by omega) (Ev.val rfl))
  | succ d ih =>
    intro i n out hi ho hm hp
    rw [drop_lt s i (by omega), markL] at hm
    rw [drop_lt s i (by omega), lettL]
    have sign : ∀ x : Int, isS (bt s (i : Int)) = true → bt s (i : Int) ≠ 120 → rankS (bt s (i : Int)) = x → Ev (fun k => ancepsref04_Letters.l0 k s (out ++ [x]) ((i : Int) + 1)) (if 120 ∈ bt s (i : Int) :: (bytesOf s).drop (i + 1) then ([], 13) else ((if bt s (i : Int) = 46 then lettL (bump out) ((bytesOf s).drop (i + 1)) else lettL (out ++ [rankS (bt s (i : Int))]) ((bytesOf s).drop (i + 1))), 0)) := by
      intro x hsg hne hx
      have h46 : ¬ bt s (i : Int) = 46 := fun e => by rw [e] at hsg; exact absurd hsg (by decide)
      rw [hsg, if_pos rfl] at hm
      have hr := rank_sign hsg hne
      rw [if_neg h46, hx]
      simp only [mem_other hne]
      refine ih (i + 1) (n + 1) (out ++ [x]) (by omega) (by rw [List.length_append, List.length_singleton]; omega) (by rw [pvS_succ, hsg]; exact hm) (fun _ => ?_)
      have e : rd (out ++ [x]) (((out ++ [x]).length : Int) - 1) = x := by
        rw [List.length_append, List.length_singleton, show ((out.length + 1 : Nat) : Int) - 1 = (out.length : Int) by omega]
        exact rd_mid out _ [] _ rfl
      rw [e]
      exact ⟨by rw [List.length_append, List.length_singleton]; omega, by rcases hr with hr | hr <;> omega, by rcases hr with hr | hr <;> omega⟩
    refine Ev.step (fun k => rfl) (Ev.pos (by omega) (Ev.pos (by omega) ?_))
    rw [w64 (i := (i : Int) + 1) (by omega) (by omega)]
    refine Ev.cond (fun h => ?_) (fun h => Ev.cond (fun h' => ?_) (fun h' => Ev.cond (fun hx => ?_) (fun hx => Ev.cond (fun hd => ?_) (fun hd => ?_))))
    · exact Ev.pos (by omega) (sign 0 (by rw [h]; decide) (by rw [h]; decide) (by rw [h]; decide))
    · exact Ev.pos (by omega) (sign 1 (by rw [h']; decide) (by rw [h']; decide) (by rw [h']; decide))
    · rw [if_pos (by rw [hx]; exact List.mem_cons_self ..)]; exact Ev.now _
    · have hns : isS (bt s (i : Int)) = false := by rw [hd]; rfl
      rw [hns, if_neg (by simp), if_pos hd] at hm
      rw [if_pos hd]
      simp only [mem_other (c := bt s (i : Int)) (by omega)]
      cases hq : pvS s i with
      | false => rw [hq] at hm; simp at hm
      | true =>
        rw [hq, if_pos rfl] at hm
        obtain ⟨h1, h2, h3⟩ := hp hq
        rw [w64 (i := (out.length : Int) - 1) (by omega) (by omega), w64 (i := rd out ((out.length : Int) - 1) + 2) (by omega) (by omega)]
        refine Ev.pos (by omega) (Ev.pos (by omega) ?_)
        rw [show ((out.length : Int) - 1).toNat = out.length - 1 by omega]
        exact ih (i + 1) n (bump out) (by omega) (by unfold bump; rw [List.length_set]; omega) (by rw [pvS_succ, hns]; exact hm) (fun h => by rw [pvS_succ, hns] at h; cases h)
    · have hns : isS (bt s (i : Int)) = false := by unfold isS; simp [h, h', hx]
      rw [hns, if_neg (by simp), if_neg hd] at hm
      exact absurd hm (by decide)
theorem rletters_ev (s : ByteArray) : Ev (fun k => ancepsref04_Letters.f k s) (lettersS s) := by
  unfold ancepsref04_Letters.f lettersS
  refine Ev.bind (rmarked_ev s) (Ev.cond (fun h => ?_) (fun h => Ev.val (if_neg h).symm))
  rw [if_pos h]
  obtain ⟨hs, hm⟩ := mark_size h
  have := rletters_loop s hs s.size 0 0 [] (by omega) (by simp) (by rw [List.drop_zero]; exact hm) (fun h => by simp [pvS] at h)
  rw [List.drop_zero] at this
  exact this
/-! without points -/
def plainL (l : List Int) : List Int := l.filter (fun c => !decide (c = 46))
def plainS (s : ByteArray) : ByteArray × Int := if markS s = 0 then (strOfNums (plainL (bytesOf s)), 0) else (⟨#[]⟩, markS s)
theorem rep_plain : ∀ l : List UInt8, (strings_ReplaceAll.rep 46 [] l).map (fun b => (b.toNat : Int)) = plainL (l.map (fun b => (b.toNat : Int)))
  | [] => rfl
  | x :: r => by
    have ih := rep_plain r
    rw [strings_ReplaceAll.rep, List.map_cons, plainL, List.filter_cons]
    by_cases h : x = 46
    · subst h
      rw [if_pos (by decide), List.nil_append, if_neg (by decide)]
      exact ih
    · have hn : ¬ ((x.toNat : Int) = 46) := fun e => h (UInt8.toNat_inj.1 (show x.toNat = 46 by omega))
      rw [if_neg (by simpa using h), List.map_cons, if_pos (by simpa using hn), ih]
      rfl
theorem replace_f (s : ByteArray) (h : s.size ≤ 120) : strings_ReplaceAll.f s (⟨#[46]⟩ : ByteArray) (⟨#[]⟩ : ByteArray) = some (strOfNums (plainL (bytesOf s))) := by
  unfold strings_ReplaceAll.f
  rw [if_pos ⟨rfl, by decide, by omega, by decide⟩]
  congr 1
  apply bytesOf_inj
  rw [bytesOf_str (plainL (bytesOf s)) (fun c hc => bytesOf_range s c (List.mem_filter.1 hc).1)]
  exact rep_plain s.data.toList
theorem plain_ev (s : ByteArray) : Ev (fun k => pattern_Plain.f k s) (plainS s) := by
  unfold pattern_Plain.f plainS
  refine Ev.bind (marked_ev s) (Ev.cond (fun h => ?_) (fun h => Ev.val (if_neg h).symm))
  rw [if_pos h, replace_f s (mark_size h).1]
  exact Ev.now _
theorem rplain_loop (s : ByteArray) (hs : s.size ≤ 120) (d : Nat) : ∀ (i : Nat) (a : List Int), i + d = s.size → a.length ≤ i → Ev (fun k => ancepsref04_Plain.l0 k s (strOfNums a) (i : Int)) (strOfNums (a ++ plainL ((bytesOf s).drop i)), 0) := by
  induction d with
  | zero =>
    intro i a hi ha
    rw [drop_ge s i (by omega)]
    exact Ev.step (fun k => rfl) (Ev.neg (by omega) (Ev.val (by simp [plainL])))
  | succ d ih =>
    intro i a hi ha
    rw [drop_lt s i (by omega), plainL, List.filter_cons]
    refine Ev.step (fun k => rfl) (Ev.pos (by omega) (Ev.pos (by omega) ?_))
    rw [w64 (i := (i : Int) + 1) (by omega) (by omega)]
    refine Ev.cond (fun h => ?_) (fun h => ?_)
    · rw [if_neg (by simp [h])]
      exact ih (i + 1) a (by omega) (by omega)
    · rw [if_pos (by simp [h])]
      have hz : (strOfNums a).size = a.length := by rw [← bytesOf_length]; unfold bytesOf strOfNums; simp
      have hx : s.extract ((i : Int)).toNat ((i : Int) + 1).toNat = strOfNums [bt s (i : Int)] := by
        rw [Int.toNat_natCast, show ((i : Int) + 1).toNat = i + 1 by omega]
        exact extract_one s i (by omega)
      have hz2 : (strOfNums [bt s (i : Int)]).size = 1 := by rw [← bytesOf_length]; unfold bytesOf strOfNums; simp
      rw [hx, str_app]
      refine Ev.pos (by omega) (Ev.pos (by omega) (Ev.pos (by omega) ?_))
      have := ih (i + 1) (a ++ [bt s (i : Int)]) (by omega) (by rw [List.length_append, List.length_singleton]; omega)
      rw [List.append_assoc] at this
      exact this
theorem rplain_ev (s : ByteArray) : Ev (fun k => ancepsref04_Plain.f k s) (plainS s) := by
  unfold ancepsref04_Plain.f plainS
  refine Ev.bind (rmarked_ev s) (Ev.cond (fun h => ?_) (fun h => Ev.val (if_neg h).symm))
  rw [if_pos h]
  have := rplain_loop s (mark_size h).1 s.size 0 [] (by omega) (by simp)
  rw [List.drop_zero] at this
  exact this
/-! back from the letters -/
theorem bump_snoc (o : List Int) (x : Int) : bump (o ++ [x]) = o ++ [x + 2] := by
  unfold bump
  have e : ((o ++ [x]).length : Int) - 1 = (o.length : Int) := by rw [List.length_append, List.length_singleton]; omega
  rw [e, rd_mid o x [] _ rfl, show (o ++ [x]).length - 1 = o.length by rw [List.length_append, List.length_singleton]; omega, set_mid o x (x + 2) [] _ rfl, List.append_nil]
theorem lett_back : ∀ (l : List Int) (pv : Bool) (out : List Int), 120 ∉ l → markL pv out.length l = 0 → okL out = true → (pv = true → ∃ o x, out = o ++ [x] ∧ (x = 0 ∨ x = 1)) →
    (lettL out l).flatMap chI = out.flatMap chI ++ l ∧ okL (lettL out l) = true ∧ (lettL out l).length ≤ 60
  | [], pv, out, hx, hm, ho, hp => by
    rw [markL] at hm
    refine ⟨by rw [lettL, List.append_nil], by rw [lettL]; exact ho, ?_⟩
    rw [lettL]
    by_cases h : out.length > 60
    · rw [if_pos h] at hm; cases hm
    · omega
  | c :: r, pv, out, hx, hm, ho, hp => by
    have hne : c ≠ 120 := fun e => hx (by rw [e]; exact List.mem_cons_self ..)
    have hxr : 120 ∉ r := fun h => hx (List.mem_cons_of_mem _ h)
    rw [markL] at hm
    cases hs : isS c with
    | true =>
      rw [hs, if_pos rfl] at hm
      have h46 : ¬ c = 46 := fun e => by rw [e] at hs; exact absurd hs (by decide)
      have hr := rank_sign hs hne
      rw [lettL, if_neg h46]
      have hl : (out ++ [rankS c]).length = out.length + 1 := by rw [List.length_append, List.length_singleton]
      have hok : okL (out ++ [rankS c]) = true := by
        unfold okL at ho ⊢
        rw [List.all_append, ho, Bool.true_and, List.all_cons, List.all_nil, Bool.and_true]
        exact decide_eq_true (by rcases hr with hr | hr <;> omega)
      obtain ⟨h1, h2, h3⟩ := lett_back r true (out ++ [rankS c]) hxr (by rw [hl]; exact hm) hok (fun _ => ⟨out, rankS c, rfl, by rcases hr with hr | hr <;> omega⟩)
      refine ⟨?_, h2, h3⟩
      rw [h1, List.flatMap_append, List.flatMap_cons, List.flatMap_nil, List.append_nil, List.append_assoc]
      have hc : chI (rankS c) = [c] := by
        rcases hr with ⟨e1, e2⟩ | ⟨e1, e2⟩ <;> rw [e1, e2] <;> rfl
      rw [hc]; rfl
    | false =>
      rw [hs, if_neg (by simp)] at hm
      by_cases h46 : c = 46
      · rw [if_pos h46] at hm
        cases hq : pv with
        | false => rw [hq] at hm; simp at hm
        | true =>
          rw [hq, if_pos rfl] at hm
          obtain ⟨o, x, rfl, hx01⟩ := hp hq
          rw [lettL, if_pos h46, bump_snoc]
          have hl : (o ++ [x + 2]).length = (o ++ [x]).length := by simp
          have hok : okL (o ++ [x + 2]) = true := by
            unfold okL at ho ⊢
            rw [List.all_append, Bool.and_eq_true] at ho
            rw [List.all_append, ho.1, Bool.true_and, List.all_cons, List.all_nil, Bool.and_true]
            exact decide_eq_true (by omega)
          obtain ⟨h1, h2, h3⟩ := lett_back r false (o ++ [x + 2]) hxr (by rw [hl]; exact hm) hok (fun h => by cases h)
          refine ⟨?_, h2, h3⟩
          have hc : chI (x + 2) = chI x ++ [46] := by rcases hx01 with e | e <;> rw [e] <;> rfl
          rw [h1, List.flatMap_append, List.flatMap_append, List.flatMap_cons, List.flatMap_nil, List.append_nil, List.flatMap_cons, List.flatMap_nil, List.append_nil, hc, h46]
          simp
      · rw [if_neg h46] at hm; cases hm
theorem text_back (s : ByteArray) (h : (lettersS s).2 = 0) : textS (lettersS s).1 = (s, 0) := by
  unfold lettersS at h ⊢
  by_cases h0 : markS s = 0
  · rw [if_pos h0] at h ⊢
    obtain ⟨hs, hm⟩ := mark_size h0
    by_cases hx : 120 ∈ bytesOf s
    · rw [if_pos hx] at h; cases h
    · rw [if_neg hx]
      obtain ⟨h1, h2, h3⟩ := lett_back (bytesOf s) false [] hx hm rfl (fun h => by cases h)
      unfold textS
      rw [if_neg (by simp only; omega), if_pos h2]
      congr 1
      apply bytesOf_inj
      rw [text_bytes, h1]; rfl
  · rw [if_neg h0] at h; exact absurd h h0
theorem lett_len : ∀ (l out : List Int), (lettL out l).length ≤ out.length + l.length
  | [], out => by rw [lettL]; omega
  | c :: r, out => by
    rw [lettL]
    split
    · have := lett_len r (bump out)
      unfold bump at *
      rw [List.length_set] at this
      simp only [List.length_cons]; omega
    · have := lett_len r (out ++ [rankS c])
      simp only [List.length_cons, List.length_append, List.length_nil] at *; omega
theorem letters_len (s : ByteArray) : (lettersS s).1.length ≤ 120 := by
  unfold lettersS
  by_cases h0 : markS s = 0
  · rw [if_pos h0]
    obtain ⟨hs, hm⟩ := mark_size h0
    by_cases hx : 120 ∈ bytesOf s
    · rw [if_pos hx]; simp
    · rw [if_neg hx]
      have := lett_len (bytesOf s) []
      rw [bytesOf_length] at this
      simp only [List.length_nil] at this ⊢
      omega
  · rw [if_neg h0]; simp
theorem ints_loop (a : List Int) (hl : a.length ≤ 1000000) (d : Nat) : ∀ i : Nat, i + d = a.length → Ev (fun k => slices_Equal_int_int.l0 k a a (a.length : Int) (i : Int)) true := by
  induction d with
  | zero => intro i hi; exact Ev.step (fun k => rfl) (Ev.neg (by omega) (Ev.val rfl))
  | succ d ih =>
    intro i hi
    refine Ev.step (fun k => rfl) (Ev.pos (by omega) (Ev.pos (by omega) (Ev.pos (by omega) (Ev.pos (by omega) (Ev.pos rfl ?_)))))
    rw [w64 (by omega) (by omega)]
    exact ih (i + 1) (by omega)
theorem ints_ev (a : List Int) (hl : a.length ≤ 1000000) : Ev (fun k => slices_Equal_int_int.f k a a) true := by
  unfold slices_Equal_int_int.f
  exact Ev.pos rfl (ints_loop a hl a.length 0 (by omega))
theorem valid_j1 (s : ByteArray) : Ev (fun k => ancepslaw04_PatternValid.j1 k s (lettersS s).1 (lettersS s).2 (!true)) true := by
  refine Ev.step (fun k => ancepslaw04_PatternValid.j1.eq_2 _ _ _ _ _) (Ev.neg (by decide) (Ev.cond (fun h => ?_) (fun h => Ev.now _)))
  rw [text_f, text_back s h]
  exact Ev.just (Ev.pos rfl (Ev.val (by simp)))
theorem valid_j0 (s : ByteArray) (x : Bool) : Ev (fun k => ancepslaw04_PatternValid.j0 k s x) true := by
  refine Ev.step (fun k => ancepslaw04_PatternValid.j0.eq_2 _ _ _) (Ev.cond (fun h => Ev.bind awake_ev (Ev.now _)) (fun h => ?_))
  have hl := letters_len s
  exact Ev.bind (plain_ev s) (Ev.bind (rplain_ev s) (Ev.bind (letters_ev s) (Ev.bind (rletters_ev s) (Ev.bind (valid_ev s) (Ev.bind (rvalid_ev s) (Ev.pos rfl (Ev.bind (marked_ev s) (Ev.bind (rmarked_ev s) (Ev.pos rfl (Ev.pos rfl (Ev.pos rfl (Ev.pos rfl (Ev.bind (ints_ev _ (by omega)) (valid_j1 s))))))))))))))
theorem PatternValid : ancepslaw04_PatternValid.Pure := by
  intro s _
  refine Ev.rounds ?_
  unfold ancepslaw04_PatternValid.f
  exact Ev.bind awake_ev (Ev.pos rfl (valid_j0 s _))
end Go.Proofs.YtbecdafbkdchkaaDoor.Pure
