/- Distance does not change if the patterns are exchanged, or both are read backwards, and is 0 exactly if they match: for any two strings (those over 70 bytes are left out by the law's own guard). -/
import Derived.Test.YtnnonjjmlbemfaaA3
import Derived.Test.YtnnonjjmlbemfaaX9
set_option linter.unusedVariables false
namespace Go.Proofs.Ytnnonjjmlbemfaa.Pure
open Go.RowKit Go.Proofs.Ytnnonjjmlbemfaa.X Go.Proofs.Ytnnonjjmlbemfaa.Lem Go.Proofs.Ytnnonjjmlbemfaa.Al Go.Proofs.YtnnonjjmlbemfaaW.PrintWords Go.Proofs.YtnnonjjmlbemfaaW.PrintLast
theorem str_app (l m : List Int) : strOfNums l ++ strOfNums m = strOfNums (l ++ m) := by
  apply ByteArray.ext
  rw [ByteArray.data_append]
  unfold strOfNums
  simp
theorem extract_one (s : ByteArray) (i : Nat) (h : i < s.size) : s.extract i (i + 1) = strOfNums [bt s i] := by
  refine bytesOf_inj ?_
  rw [bytesOf_extract, bytesOf_str _ (by intro c hc; rw [List.mem_singleton.1 hc]; exact bt_range s i), List.drop_take, drop_lt s i h, show i + 1 - i = 1 by omega]; rfl
theorem back_loop (p : ByteArray) (hp : p.size ≤ 70) (d : Nat) : ∀ (i : Nat) (acc : List Int), i + d = p.size → acc.length ≤ i → (∀ c ∈ acc, 0 ≤ c ∧ c ≤ 255) →
    Ev (fun k => ancepsref45_Backwards.l0 k p (strOfNums acc) (i : Int)) (strOfNums (((bytesOf p).drop i).reverse ++ acc)) := by
  induction d with
  | zero =>
    intro i acc hi _ _
    rw [drop_ge p i (by omega)]
    exact Ev.step (fun k => ancepsref45_Backwards.l0.eq_2 _ _ _ _) (Ev.neg (by omega) (Ev.val rfl))
  | succ d ih =>
    intro i acc hi ha hr
    refine Ev.step (fun k => ancepsref45_Backwards.l0.eq_2 _ _ _ _) (Ev.pos (by omega) (Ev.pos (by omega) ?_))
    have e : wrap64 ((i : Int) + 1) = ((i + 1 : Nat) : Int) := by rw [w64 (by omega) (by omega)]; omega
    rw [e, Int.toNat_natCast, Int.toNat_natCast, extract_one p i (by omega), str_app]
    have hs : (strOfNums [bt p i]).size + (strOfNums acc).size ≤ 9223372036854775807 := by
      have h1 : (strOfNums [bt p i]).size = 1 := rfl
      have h2 : (strOfNums acc).size = acc.length := by unfold strOfNums; simp [ByteArray.size]
      omega
    refine Ev.pos (by omega) (Ev.pos (by omega) (Ev.pos hs ?_))
    have := ih (i + 1) ([bt p i] ++ acc) (by omega) (by simp; omega) (by
      intro c hc
      rcases List.mem_append.1 hc with h | h
      · rw [List.mem_singleton.1 h]; exact bt_range p i
      · exact hr c h)
    rw [drop_lt p i (by omega), List.reverse_cons, List.append_assoc]
    exact this
theorem back_ev (p : ByteArray) (hp : p.size ≤ 70) : Ev (fun k => ancepsref45_Backwards.f k p) (strOfNums (bytesOf p).reverse) := by
  have := back_loop p hp p.size 0 [] (by omega) (Nat.le_refl _) (fun c hc => by simp at hc)
  rw [List.drop_zero, List.append_nil] at this
  exact this
theorem is_f (c : Int) : ancepsref04_Is.f c = some (isS c) := by
  unfold ancepsref04_Is.f isS
  by_cases h : c = 117
  · rw [if_pos h, decide_eq_true h, Bool.true_or]
  · rw [if_neg h, decide_eq_false h, Bool.false_or]
    by_cases h2 : c = 45
    · rw [if_pos h2, decide_eq_true h2, Bool.true_or]
    · rw [if_neg h2, decide_eq_false h2, Bool.false_or]; rfl
theorem rvalid_loop (s : ByteArray) (hs : s.size ≤ 60) (d : Nat) : ∀ i : Nat, i + d = s.size → Ev (fun k => ancepsref04_Valid.l0 k s (i : Int)) (if ((bytesOf s).drop i).all isS then 0 else 2) := by
  induction d with
  | zero =>
    intro i hi
    rw [drop_ge s i (by omega)]
    exact Ev.step (fun k => rfl) (Ev.neg (by omega) (Ev.val rfl))
  | succ d ih =>
    intro i hi
    refine Ev.step (fun k => rfl) (Ev.pos (by omega) (Ev.pos (by omega) ?_))
    rw [is_f, drop_lt s i (by omega), List.all_cons]
    refine Ev.just (Ev.cond (fun h => ?_) (fun h => Ev.val ?_))
    · rw [h, Bool.true_and, w64 (by omega) (by omega)]; exact ih (i + 1) (by omega)
    · rw [Bool.eq_false_iff.2 h]; rfl
theorem rvalid_ev (s : ByteArray) : Ev (fun k => ancepsref04_Valid.f k s) (validS s) := by
  unfold ancepsref04_Valid.f validS
  refine Ev.cond (fun h => Ev.val (by rw [if_pos (c := s.size > 60) (by omega)])) (fun h => ?_)
  rw [if_neg (c := s.size > 60) (by omega)]
  exact Ev.eq (by rw [List.drop_zero]) (rvalid_loop s (by omega) s.size 0 (by omega))
theorem mat_len : ∀ {P Q : List Int}, mat P Q = true → P.length = Q.length
  | [], [], _ => rfl
  | a :: P, b :: Q, h => by simp only [mat, Bool.and_eq_true] at h; simp [mat_len h.2]
  | [], _ :: _, h => by simp [mat] at h
  | _ :: _, [], h => by simp [mat] at h
theorem match_loop (p q : ByteArray) (hs : p.size = q.size) (hp : p.size ≤ 60) (d : Nat) : ∀ i : Nat, i + d = p.size → Ev (fun k => ancepsref04_Match.l0 k p q (i : Int)) (mat ((bytesOf p).drop i) ((bytesOf q).drop i)) := by
  induction d with
  | zero =>
    intro i hi
    rw [drop_ge p i (by omega), drop_ge q i (by omega)]
    exact Ev.step (fun k => ancepsref04_Match.l0.eq_2 _ _ _ _) (Ev.neg (by omega) (Ev.val rfl))
  | succ d ih =>
    intro i hi
    refine Ev.step (fun k => ancepsref04_Match.l0.eq_2 _ _ _ _) (Ev.pos (by omega) (Ev.pos (by omega) (Ev.pos (by omega) ?_)))
    rw [w64 (by omega) (by omega), drop_lt p i (by omega), drop_lt q i (by omega)]
    have e : mat (bt p i :: (bytesOf p).drop (i + 1)) (bt q i :: (bytesOf q).drop (i + 1)) = (agr (bt p i) (bt q i) && mat ((bytesOf p).drop (i + 1)) ((bytesOf q).drop (i + 1))) := rfl
    rw [e]
    have hi' := ih (i + 1) (by omega)
    have ok : ∀ h : agr (bt p i) (bt q i) = true, Ev (fun k => ancepsref04_Match.l0 k p q ((i : Int) + 1)) (agr (bt p i) (bt q i) && mat ((bytesOf p).drop (i + 1)) ((bytesOf q).drop (i + 1))) := fun h => by rw [h, Bool.true_and]; exact hi'
    refine Ev.cond (fun h => ok (by unfold agr; rw [beq_iff_eq.2 h]; rfl)) (fun h => Ev.cond (fun h2 => ok (by unfold agr; rw [beq_iff_eq.2 h2]; simp)) (fun h2 => Ev.cond (fun h3 => ok (by unfold agr; rw [beq_iff_eq.2 h3]; simp)) (fun h3 => Ev.val ?_)))
    rw [show agr (bt p i) (bt q i) = false by unfold agr; rw [beq_eq_false_iff_ne.2 h, beq_eq_false_iff_ne.2 h2, beq_eq_false_iff_ne.2 h3]; rfl]; rfl
theorem match_ev {p q : ByteArray} (G : Gv p q) : Ev (fun k => ancepsref04_Match.f k p q) (mat (bytesOf p) (bytesOf q)) := by
  have hp := G.hp
  have hq := G.hq
  unfold ancepsref04_Match.f
  refine Ev.bind (rvalid_ev p) ?_
  rw [valid_of (by omega) G.sp]
  refine Ev.pos rfl (Ev.bind (rvalid_ev q) ?_)
  rw [valid_of (by omega) G.sq]
  refine Ev.pos rfl ?_
  by_cases hs : p.size = q.size
  · rw [show ((p.size : Int) != (q.size : Int)) = false by rw [hs]; simp]
    refine Ev.step (fun k => ancepsref04_Match.j0.eq_2 _ _ _ _) (Ev.neg (by decide) ?_)
    exact match_loop p q hs (by omega) p.size 0 (by omega)
  · rw [show ((p.size : Int) != (q.size : Int)) = true by rw [bne_iff_ne]; omega]
    refine Ev.step (fun k => ancepsref04_Match.j0.eq_2 _ _ _ _) (Ev.pos rfl (Ev.val ?_))
    cases hm : mat (bytesOf p) (bytesOf q) with
    | false => rfl
    | true => have := mat_len hm; rw [bl, bl] at this; exact absurd this hs
theorem rev_bytes (p : ByteArray) : bytesOf (strOfNums (bytesOf p).reverse) = (bytesOf p).reverse := bytesOf_str _ (fun c hc => bytesOf_range p c (List.mem_reverse.1 hc))
theorem gvRev {p q : ByteArray} (G : Gv p q) : Gv (strOfNums (bytesOf p).reverse) (strOfNums (bytesOf q).reverse) := by
  have h1 : ∀ s : ByteArray, (strOfNums (bytesOf s).reverse).size = s.size := fun s => by rw [← bl, rev_bytes, List.length_reverse, bl]
  exact ⟨by rw [h1]; exact G.hp, by rw [h1]; exact G.hq, by rw [rev_bytes, List.all_reverse]; exact G.sp, by rw [rev_bytes, List.all_reverse]; exact G.sq⟩
theorem AlignSymmetric : ancepslaw45_AlignSymmetric.Pure := by
  intro p q _ _
  refine Ev.rounds ?_
  unfold ancepslaw45_AlignSymmetric.f
  obtain ⟨b, hb⟩ := short_f p q
  refine Ev.bind awake_ev (Ev.pos rfl ?_)
  rw [hb]
  refine Ev.just ?_
  refine Ev.step (fun k => ancepslaw45_AlignSymmetric.j0.eq_2 _ _ _ _) (Ev.cond (fun h => Ev.bind awake_ev (Ev.now _)) (fun h => ?_))
  by_cases hg : givS p q = 0
  · have G := giv_ok hg
    have hp := G.hp
    have hq := G.hq
    refine Ev.bind (dist_ok G) (Ev.pos rfl (Ev.bind (dist_ok G.swap) (Ev.bind (back_ev p (by omega)) (Ev.bind (back_ev q (by omega)) (Ev.bind (dist_ok (gvRev G)) (Ev.pos rfl (Ev.pos rfl (Ev.pos ?_ (Ev.pos ?_ (Ev.bind (match_ev G) (Ev.val ?_)))))))))))
    · exact (D_swap _ _).symm
    · show D _ _ = D _ _
      rw [rev_bytes, rev_bytes, D_rev]
    · show ((D (bytesOf p) (bytesOf q) == 0) == mat (bytesOf p) (bytesOf q)) = true
      have hz := D_zero (bytesOf p) (bytesOf q)
      cases hm : mat (bytesOf p) (bytesOf q) with
      | true => rw [hz.2 hm]; rfl
      | false =>
        rw [hm] at hz
        have : ¬ D (bytesOf p) (bytesOf q) = 0 := fun e => Bool.false_ne_true (hz.1 e)
        rw [beq_eq_false_iff_ne.2 this]; rfl
  · exact Ev.bind (dist_no hg) (Ev.neg hg (Ev.val rfl))
end Go.Proofs.Ytnnonjjmlbemfaa.Pure
