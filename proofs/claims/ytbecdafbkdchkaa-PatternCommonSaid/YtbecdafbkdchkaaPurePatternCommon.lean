/- A plain pattern matches the Meet of two patterns exactly if it matches both, and their Join if it matches one of them: valid patterns of one length (others are left out by the law's own guard). -/
import Derived.Test.YtbecdafbkdchkaaP2
import Derived.Test.YtbecdafbkdchkaaX9
namespace Go.Proofs.Ytbecdafbkdchkaa.Pure
open Go.RowKit Go.Proofs.Ytbecdafbkdchkaa.X Go.Proofs.Ytbecdafbkdchkaa.Lem Go.Proofs.YtbecdafbkdchkaaW.PrintWords Go.Proofs.YtbecdafbkdchkaaW.PrintLast
theorem mt_join (a b s : Int) (h : Lem.mt a s = true ∨ Lem.mt b s = true) : Lem.mt (join1 a b) s = true := by
  unfold Lem.mt join1 at *
  simp only [Bool.or_eq_true, decide_eq_true_iff] at h ⊢
  by_cases h1 : a = b
  · rw [if_pos h1]; omega
  · rw [if_neg h1]; omega
theorem mt_meet (a b c s : Int) (h : meet1 a b = some c) : Lem.mt c s = (Lem.mt a s && Lem.mt b s) := by
  unfold meet1 at h
  unfold Lem.mt
  rw [Bool.eq_iff_iff]
  simp only [Bool.and_eq_true, Bool.or_eq_true, decide_eq_true_iff]
  by_cases h1 : a = 120
  · rw [if_pos h1] at h; have := Option.some.inj h; omega
  · rw [if_neg h1] at h
    by_cases h2 : b = 120
    · rw [if_pos h2] at h; have := Option.some.inj h; omega
    · rw [if_neg h2] at h
      by_cases h3 : b = a
      · rw [if_pos h3] at h; have := Option.some.inj h; omega
      · rw [if_neg h3] at h; exact absurd h (by simp)
theorem mt_none (a b s : Int) (hs : s ≠ 120) (h : meet1 a b = none) : (Lem.mt a s && Lem.mt b s) = false := by
  unfold meet1 at h
  unfold Lem.mt
  rw [← Bool.not_eq_true]
  simp only [Bool.and_eq_true, Bool.or_eq_true, decide_eq_true_iff]
  by_cases h1 : a = 120
  · rw [if_pos h1] at h; exact absurd h (by simp)
  · rw [if_neg h1] at h
    by_cases h2 : b = 120
    · rw [if_pos h2] at h; exact absurd h (by simp)
    · rw [if_neg h2] at h
      by_cases h3 : b = a
      · rw [if_pos h3] at h; exact absurd h (by simp)
      · omega
theorem match_joinL : ∀ p q s : List Int, p.length = q.length → (matchL p s = true ∨ matchL q s = true) → matchL (joinL p q) s = true
  | [], _, _, _, _ => rfl
  | _ :: _, [], _, h, _ => by simp at h
  | _ :: _, _ :: _, [], _, _ => rfl
  | a :: p, b :: q, c :: s, hl, h => by
    rw [matchL, matchL, Bool.and_eq_true, Bool.and_eq_true] at h
    rw [joinL, matchL, Bool.and_eq_true]
    rcases h with h | h
    · exact ⟨mt_join a b c (Or.inl h.1), match_joinL p q s (by simpa using hl) (Or.inl h.2)⟩
    · exact ⟨mt_join a b c (Or.inr h.1), match_joinL p q s (by simpa using hl) (Or.inr h.2)⟩
theorem match_meetL : ∀ p q s : List Int, p.length = q.length → q.length = s.length → (∀ c ∈ s, c ≠ 120) → match meetL p q with | none => (matchL p s && matchL q s) = false | some r => matchL r s = (matchL p s && matchL q s)
  | [], [], [], _, _, _ => rfl
  | [], [], _ :: _, _, h, _ => by simp at h
  | [], _ :: _, _, h, _, _ => by simp at h
  | _ :: _, [], _, h, _, _ => by simp at h
  | _ :: _, _ :: _, [], _, h, _ => by simp at h
  | a :: p, b :: q, c :: s, h1, h2, hs => by
    have hc := hs c List.mem_cons_self
    have ih := match_meetL p q s (by simpa using h1) (by simpa using h2) (fun x hx => hs x (List.mem_cons_of_mem _ hx))
    have re : ∀ x y z w : Bool, ((x && y) && (z && w)) = ((x && z) && (y && w)) := by decide
    rw [meetL]
    cases hm : meet1 a b with
    | none =>
      simp only
      rw [matchL, matchL, re, mt_none a b c hc hm, Bool.false_and]
    | some m =>
      cases hl : meetL p q with
      | none =>
        rw [hl] at ih
        simp only at ih ⊢
        rw [matchL, matchL, re, ih, Bool.and_false]
      | some r =>
        rw [hl] at ih
        simp only at ih ⊢
        rw [matchL, matchL, matchL, re, ih, mt_meet a b m c hm]
theorem common_end (p q s : ByteArray) (hp : validS p = 0) (hq : validS q = 0) (hs : validS s = 0) (h1 : p.size = q.size) (h2 : q.size = s.size) (hx : ∀ c ∈ bytesOf s, c ≠ 120) (i : Int) (hi : ¬ i < (s.size : Int)) : Ev (fun k => ancepslaw04_PatternCommon.l0 k p q s (s.size : Int) i) true := by
  obtain ⟨lp, sp⟩ := valid_size hp
  obtain ⟨_, sq⟩ := valid_size hq
  have bpq := both_of hp hq h1
  have jpq := str_valid (joinL_sign _ (bytesOf q) sp) (by rw [joinL_len _ _ (len_eq h1), bytesOf_length]; exact lp)
  have sjpq : (strOfNums (joinL (bytesOf p) (bytesOf q))).size = p.size := by rw [jpq.2.2, joinL_len _ _ (len_eq h1), bytesOf_length]
  have eps : matchS p s = matchL (bytesOf p) (bytesOf s) := by unfold matchS; rw [both_of hp hs (by omega)]; rfl
  have eqs : matchS q s = matchL (bytesOf q) (bytesOf s) := by unfold matchS; rw [both_of hq hs h2]; rfl
  have ejs : matchS (strOfNums (joinL (bytesOf p) (bytesOf q))) s = matchL (joinL (bytesOf p) (bytesOf q)) (bytesOf s) := by unfold matchS; rw [both_of jpq.1 hs (by rw [sjpq]; omega), jpq.2.1]; rfl
  have hmm := match_meetL (bytesOf p) (bytesOf q) (bytesOf s) (len_eq h1) (len_eq h2) hx
  refine Ev.step (fun k => ancepslaw04_PatternCommon.l0.eq_2 _ _ _ _ _ _) (Ev.neg hi (Ev.bind (meet_ev p q) (Ev.bind (join_ev p q) (Ev.bind (match_ev p s) (Ev.bind (match_ev q s) ?_)))))
  rw [joinS_of bpq, meetS_of bpq, eps, eqs]
  refine Ev.pos rfl ?_
  have last : Ev (fun k => ancepslaw04_PatternCommon.j2 k s (finM [] (meetL (bytesOf p) (bytesOf q))).1 (finM [] (meetL (bytesOf p) (bytesOf q))).2 (matchL (bytesOf p) (bytesOf s)) (matchL (bytesOf q) (bytesOf s)) false) true := by
    refine Ev.step (fun k => ancepslaw04_PatternCommon.j2.eq_2 _ _ _ _ _ _ _) (Ev.neg (by decide) ?_)
    cases hm : meetL (bytesOf p) (bytesOf q) with
    | none =>
      rw [hm] at hmm
      refine Ev.neg (show ¬ (12 : Int) = 0 by decide) (Ev.cond (fun h => Ev.val ?_) (fun h => Ev.now _))
      rw [h, Bool.true_and] at hmm
      rw [hmm]; rfl
    | some a =>
      rw [hm] at hmm
      have sa := str_valid (meetL_sign _ _ a sp sq hm) (by rw [meetL_len _ _ a (len_eq h1) hm, bytesOf_length]; exact lp)
      have hsz : (strOfNums a).size = s.size := by rw [sa.2.2, meetL_len _ _ a (len_eq h1) hm, bytesOf_length]; omega
      have eas : matchS (strOfNums ([] ++ a)) s = matchL a (bytesOf s) := by rw [List.nil_append]; unfold matchS; rw [both_of sa.1 hs hsz, sa.2.1]; rfl
      refine Ev.pos rfl (Ev.bind (match_ev (strOfNums ([] ++ a)) s) ?_)
      rw [eas, show matchL a (bytesOf s) = _ from hmm]
      refine Ev.cond (fun h => Ev.val ?_) (fun h => Ev.val ?_)
      · rw [h]; simp
      · rw [Bool.eq_false_iff.2 h]; rfl
  refine Ev.cond (fun h => ?_) (fun h => Ev.cond (fun h' => ?_) (fun h' => last))
  · refine Ev.bind (match_ev (strOfNums (joinL (bytesOf p) (bytesOf q))) s) ?_
    rw [ejs, match_joinL _ _ _ (len_eq h1) (Or.inl h)]
    exact last
  · refine Ev.bind (match_ev (strOfNums (joinL (bytesOf p) (bytesOf q))) s) ?_
    rw [ejs, match_joinL _ _ _ (len_eq h1) (Or.inr h')]
    exact last
theorem common_loop (p q s : ByteArray) (hp : validS p = 0) (hq : validS q = 0) (hs : validS s = 0) (h1 : p.size = q.size) (h2 : q.size = s.size) (d : Nat) : ∀ i : Nat, i + d = s.size → (∀ c ∈ (bytesOf s).take i, c ≠ 120) → Ev (fun k => ancepslaw04_PatternCommon.l0 k p q s (s.size : Int) (i : Int)) true := by
  have hz := (valid_size hs).1
  induction d with
  | zero =>
    intro i hi hx
    exact common_end p q s hp hq hs h1 h2 (by rw [List.take_of_length_le (by rw [bytesOf_length]; omega)] at hx; exact hx) _ (by omega)
  | succ d ih =>
    intro i hi hx
    refine Ev.step (fun k => ancepslaw04_PatternCommon.l0.eq_2 _ _ _ _ _ _) (Ev.pos (by omega) (Ev.pos (by omega) (Ev.pos (by omega) (Ev.cond (fun h => Ev.now _) (fun h => ?_)))))
    rw [w64 (by omega) (by omega)]
    refine ih (i + 1) (by omega) (fun c hc => ?_)
    rw [List.take_succ_eq_append_getElem (by rw [bytesOf_length]; omega), bytesOf_get s i (by omega)] at hc
    rcases List.mem_append.1 hc with hc | hc
    · exact hx c hc
    · rw [List.mem_singleton.1 hc]; exact h
theorem PatternCommon : ancepslaw04_PatternCommon.Pure := by
  intro p q r _ _ _
  refine Ev.rounds ?_
  unfold ancepslaw04_PatternCommon.f
  have out : Ev (fun k => ancepslaw04_PatternCommon.j0 k p q r true) true := Ev.step (fun k => ancepslaw04_PatternCommon.j0.eq_2 _ _ _ _ _) (Ev.pos rfl (Ev.bind awake_ev (Ev.now _)))
  refine Ev.bind awake_ev (Ev.pos rfl (Ev.bind (rvalid_ev p) (Ev.cond (fun hp => Ev.bind (rvalid_ev q) (Ev.cond (fun hq => Ev.bind (rvalid_ev r) (Ev.cond (fun hr => Ev.cond (fun h1 => ?_) (fun _ => out)) (fun _ => out))) (fun _ => out))) (fun _ => out))))
  by_cases h2 : q.size = r.size
  · rw [show ((q.size : Int) != (r.size : Int)) = false by rw [h2]; simp]
    exact Ev.step (fun k => ancepslaw04_PatternCommon.j0.eq_2 _ _ _ _ _) (Ev.neg (by decide) (common_loop p q r hp hq hr (by omega) h2 r.size 0 (by omega) (fun c hc => by simp at hc)))
  · rw [show ((q.size : Int) != (r.size : Int)) = true by simpa using fun e : (q.size : Int) = r.size => h2 (by omega)]
    exact out
end Go.Proofs.Ytbecdafbkdchkaa.Pure
