/- Morae of package pattern gives what the reference's Morae gives, of any string of up to 300 bytes (longer ones are left out by the law's own guard); the first and the last string that Expand gives have the least and the greatest sum. -/
import Derived.Test.YtbecdafbkdchkaaP3
import Derived.Test.YtbecdafbkdchkaaX7
namespace Go.Proofs.Ytbecdafbkdchkaa.Pure
open Go.RowKit Go.Proofs.Ytbecdafbkdchkaa.X Go.Proofs.Ytbecdafbkdchkaa.Lem Go.Proofs.YtbecdafbkdchkaaW.PrintWords Go.Proofs.YtbecdafbkdchkaaW.PrintLast
def lowL : List Int → Nat
  | [] => 0
  | c :: r => (if c = 45 then 2 else 1) + lowL r
def highL : List Int → Nat
  | [] => 0
  | c :: r => (if c = 117 then 1 else 2) + highL r
theorem low_cnt : ∀ l : List Int, lowL l = l.length + cnt 45 l
  | [] => rfl
  | c :: r => by rw [lowL, low_cnt r, cnt, List.length_cons]; split <;> omega
theorem high_cnt : ∀ l : List Int, l.all isS = true → highL l = l.length + cnt 45 l + cnt 120 l
  | [], _ => rfl
  | c :: r, h => by
    rw [List.all_cons, Bool.and_eq_true] at h
    rw [highL, high_cnt r h.2, cnt, cnt, List.length_cons]
    have := h.1
    unfold isS at this
    simp only [Bool.or_eq_true, decide_eq_true_iff] at this
    (repeat' split) <;> omega
theorem rmorae_loop (s : ByteArray) (hs : s.size ≤ 60) (d : Nat) : ∀ (i a b : Nat), i + d = s.size → a ≤ 2 * i → i ≤ b → b ≤ 2 * i → Ev (fun k => ancepsref04_Morae.l0 k s (a : Int) (b : Int) (i : Int)) ((a : Int) + lowL ((bytesOf s).drop i), (b : Int) + highL ((bytesOf s).drop i), 0) := by
  induction d with
  | zero =>
    intro i a b hi h1 h2 h3
    rw [drop_ge s i (by omega)]
    refine Ev.step (fun k => rfl) (Ev.neg (by omega) (Ev.val ?_))
    rw [lowL, highL]; simp
  | succ d ih =>
    intro i a b hi h1 h2 h3
    refine Ev.step (fun k => rfl) (Ev.pos (by omega) (Ev.pos (by omega) ?_))
    rw [drop_lt s i (by omega), lowL, highL, w64 (i := (a : Int) + 1) (by omega) (by omega), w64 (i := (b : Int) + 2) (by omega) (by omega), w64 (i := (b : Int) + 2 - 1) (by omega) (by omega), w64 (i := (a : Int) + 1 + 1) (by omega) (by omega), w64 (i := (i : Int) + 1) (by omega) (by omega)]
    refine Ev.cond (fun h => Ev.neg (by omega) ?_) (fun h => Ev.cond (fun h' => ?_) (fun h' => ?_))
    · rw [if_pos h, if_neg (by omega)]
      exact Ev.eq (by rw [Prod.mk.injEq, Prod.mk.injEq]; exact ⟨by omega, by omega, rfl⟩) (ih (i + 1) (a + 2) (b + 2) (by omega) (by omega) (by omega) (by omega))
    · rw [if_neg h, if_pos h', show (b : Int) + 2 - 1 = ((b + 1 : Nat) : Int) by omega]
      exact Ev.eq (by rw [Prod.mk.injEq, Prod.mk.injEq]; exact ⟨by omega, by omega, rfl⟩) (ih (i + 1) (a + 1) (b + 1) (by omega) (by omega) (by omega) (by omega))
    · rw [if_neg h, if_neg h']
      exact Ev.eq (by rw [Prod.mk.injEq, Prod.mk.injEq]; exact ⟨by omega, by omega, rfl⟩) (ih (i + 1) (a + 1) (b + 2) (by omega) (by omega) (by omega) (by omega))
theorem rmorae_ev (s : ByteArray) : Ev (fun k => ancepsref04_Morae.f k s) (moraeS s) := by
  unfold ancepsref04_Morae.f moraeS
  refine Ev.bind (rvalid_ev s) (Ev.cond (fun h => ?_) (fun h => Ev.val (if_neg h).symm))
  rw [if_pos h]
  obtain ⟨h1, h2⟩ := valid_size h
  refine Ev.eq ?_ (rmorae_loop s h1 s.size 0 0 0 (by omega) (by omega) (by omega) (by omega))
  rw [List.drop_zero, low_cnt, high_cnt _ h2, bytesOf_length, Prod.mk.injEq, Prod.mk.injEq]
  exact ⟨by omega, by omega, rfl⟩
/-- the first and the last -/
def firstL (x : Int) (l : List Int) : List Int := l.map fun c => if c = 120 then x else c
theorem firstL_cons (x c : Int) (r : List Int) : firstL x (c :: r) = (if c = 120 then x else c) :: firstL x r := rfl
theorem expand_first : ∀ l : List Int, ∃ r, expandL l = firstL 117 l :: r
  | [] => ⟨[], rfl⟩
  | c :: r => by
    obtain ⟨t, ht⟩ := expand_first r
    rw [expandL, ht, firstL_cons]
    by_cases h : c = 120
    · rw [if_pos h, if_pos h]; exact ⟨_, rfl⟩
    · rw [if_neg h, if_neg h]; exact ⟨_, rfl⟩
theorem expand_last : ∀ l : List Int, ∃ r, expandL l = r ++ [firstL 45 l]
  | [] => ⟨[], rfl⟩
  | c :: r => by
    obtain ⟨t, ht⟩ := expand_last r
    rw [expandL, ht, firstL_cons]
    by_cases h : c = 120
    · rw [if_pos h, if_pos h, List.map_append, List.map_append]
      exact ⟨_, (List.append_assoc _ _ _).symm⟩
    · rw [if_neg h, if_neg h, List.map_append]; exact ⟨_, rfl⟩
theorem cnt_first : ∀ l : List Int, cnt 45 (firstL 117 l) = cnt 45 l
  | [] => rfl
  | c :: r => by
    have := cnt_first r
    rw [firstL_cons, cnt, cnt, this]
    (repeat' split) <;> omega
theorem cnt_last : ∀ l : List Int, cnt 45 (firstL 45 l) + cnt 120 (firstL 45 l) = cnt 45 l + cnt 120 l
  | [] => rfl
  | c :: r => by
    have := cnt_last r
    rw [firstL_cons, cnt, cnt, cnt, cnt]
    (repeat' split) <;> omega
theorem morae_str (l : List Int) (h : l.all isS = true) (hl : l.length ≤ 60) : moraeS (strOfNums l) = ((l.length : Int) + cnt 45 l, (l.length : Int) + cnt 45 l + cnt 120 l, 0) := by
  obtain ⟨h1, h2, h3⟩ := str_valid h hl
  unfold moraeS
  rw [if_pos h1, h2, h3]
theorem morae_j1 (s : ByteArray) : Ev (fun k => ancepslaw04_PatternMorae.j1 k s (moraeS s).1 (moraeS s).2.1 false) true := by
  refine Ev.step (fun k => ancepslaw04_PatternMorae.j1.eq_2 _ _ _ _ _) (Ev.neg (by decide) (Ev.bind (expand_ev s) (Ev.cond (fun h => ?_) (fun _ => Ev.now _))))
  have hv : validS s = 0 := by
    unfold expandS at h
    by_cases h1 : validS s = 0
    · exact h1
    · rw [if_neg h1] at h; exact h
  have hx : ¬ cnt 120 (bytesOf s) > 10 := fun h1 => by unfold expandS at h; rw [if_pos hv, if_pos h1] at h; exact absurd h (by decide)
  have he : expandS s = ((expandL (bytesOf s)).map strOfNums, 0) := by unfold expandS; rw [if_pos hv, if_neg hx]
  obtain ⟨hz, hsg⟩ := valid_size hv
  obtain ⟨t1, e1⟩ := expand_first (bytesOf s)
  obtain ⟨t2, e2⟩ := expand_last (bytesOf s)
  have m1 : firstL 117 (bytesOf s) ∈ expandL (bytesOf s) := by rw [e1]; exact List.mem_cons_self
  have m2 : firstL 45 (bytesOf s) ∈ expandL (bytesOf s) := by rw [e2]; simp
  have hlen : ∀ x, (firstL x (bytesOf s)).length = s.size := fun x => by unfold firstL; rw [List.length_map, bytesOf_length]
  have o1 := morae_str _ (expand_sign _ _ hsg m1) (by rw [hlen]; exact hz)
  have o2 := morae_str _ (expand_sign _ _ hsg m2) (by rw [hlen]; exact hz)
  have hs1 : (expandS s).1 = strOfNums (firstL 117 (bytesOf s)) :: t1.map strOfNums := by rw [he, e1]; rfl
  have hs2 : (expandS s).1 = t2.map strOfNums ++ [strOfNums (firstL 45 (bytesOf s))] := by rw [he, e2, List.map_append]; rfl
  have hpos : 0 < (expandS s).1.length := by rw [hs1, List.length_cons]; omega
  have hll : (expandS s).1.length = t2.length + 1 := by rw [hs2, List.length_append, List.length_map]; rfl
  have hcap : (expandS s).1.length ≤ 1024 := by
    rw [he]
    simp only [List.length_map]
    rw [← pick_expand, List.length_map, List.length_range]
    exact Nat.le_trans (Nat.pow_le_pow_right (n := 2) (by decide) (by omega : cnt 120 (bytesOf s) ≤ 10)) (by decide)
  have r1 : rdOf ByteArray.empty (expandS s).1 0 = strOfNums (firstL 117 (bytesOf s)) := by rw [hs1]; rfl
  have r2 : rdOf ByteArray.empty (expandS s).1 (((expandS s).1.length : Int) - 1) = strOfNums (firstL 45 (bytesOf s)) := by
    rw [show (((expandS s).1.length : Nat) : Int) - 1 = ((t2.length : Nat) : Int) by omega]
    unfold rdOf
    rw [Int.toNat_natCast, hs2, List.getD_eq_getElem?_getD, List.getElem?_append_right (by rw [List.length_map]; omega), List.length_map, Nat.sub_self]; rfl
  refine Ev.neg (by omega) (Ev.pos (by omega) ?_)
  rw [r1, w64 (by omega) (by omega), r2]
  refine Ev.bind (morae_ev _) (Ev.pos (by omega) (Ev.pos (by omega) (Ev.bind (morae_ev _) ?_)))
  have hm : moraeS s = ((s.size : Int) + cnt 45 (bytesOf s), (s.size : Int) + cnt 45 (bytesOf s) + cnt 120 (bytesOf s), 0) := by unfold moraeS; rw [if_pos hv]
  have h1 := cnt_first (bytesOf s)
  have h2 := cnt_last (bytesOf s)
  rw [o1, o2, hm, hlen, hlen]
  refine Ev.pos rfl (Ev.pos rfl (Ev.pos (by simp only; omega) (Ev.val ?_)))
  simp only [beq_iff_eq]
  omega
theorem PatternMorae : ancepslaw04_PatternMorae.Pure := by
  intro s _
  refine Ev.rounds ?_
  unfold ancepslaw04_PatternMorae.f
  refine Ev.bind awake_ev (Ev.pos rfl (Ev.step (fun k => ancepslaw04_PatternMorae.j0.eq_2 _ _ _) (Ev.cond (fun h => Ev.bind awake_ev (Ev.now _)) (fun h => ?_))))
  refine Ev.bind (morae_ev s) (Ev.bind (rmorae_ev s) (Ev.pos rfl (Ev.pos rfl ?_)))
  rw [show ∀ x : Int, (x != x) = false from fun x => by simp]
  exact morae_j1 s
end Go.Proofs.Ytbecdafbkdchkaa.Pure
