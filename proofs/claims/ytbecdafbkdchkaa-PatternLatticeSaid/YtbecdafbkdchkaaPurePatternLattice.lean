/- Meet and Join of package pattern are commutative and absorb each other, and Join is associative: for valid patterns of one length (others are left out by the law's own guard). -/
import Derived.Test.YtbecdafbkdchkaaP2
import Derived.Test.YtbecdafbkdchkaaX8
namespace Go.Proofs.Ytbecdafbkdchkaa.Pure
open Go.RowKit Go.Proofs.Ytbecdafbkdchkaa.X Go.Proofs.Ytbecdafbkdchkaa.Lem Go.Proofs.YtbecdafbkdchkaaW.PrintWords Go.Proofs.YtbecdafbkdchkaaW.PrintLast
theorem lattice_all (p q r : ByteArray) (hp : validS p = 0) (hq : validS q = 0) (hr : validS r = 0) (h1 : p.size = q.size) (h2 : q.size = r.size) : Ev (fun k => ancepslaw04_PatternLattice.j0 k p q r false) true := by
  obtain ⟨lp, sp⟩ := valid_size hp
  obtain ⟨lq, sq⟩ := valid_size hq
  obtain ⟨lr, sr⟩ := valid_size hr
  have bpq := both_of hp hq h1
  have bqp := both_of hq hp h1.symm
  have jpq := str_valid (joinL_sign _ (bytesOf q) sp) (by rw [joinL_len _ _ (len_eq h1), bytesOf_length]; exact lp)
  have jqr := str_valid (joinL_sign _ (bytesOf r) sq) (by rw [joinL_len _ _ (len_eq h2), bytesOf_length]; exact lq)
  have sjpq : (strOfNums (joinL (bytesOf p) (bytesOf q))).size = p.size := by rw [jpq.2.2, joinL_len _ _ (len_eq h1), bytesOf_length]
  have sjqr : (strOfNums (joinL (bytesOf q) (bytesOf r))).size = q.size := by rw [jqr.2.2, joinL_len _ _ (len_eq h2), bytesOf_length]
  refine Ev.step (fun k => ancepslaw04_PatternLattice.j0.eq_2 _ _ _ _ _) (Ev.neg (by decide) (Ev.bind (join_ev p q) (Ev.bind (join_ev q p) ?_)))
  rw [joinS_of bpq, joinS_of bqp, ← joinL_comm (bytesOf p) (bytesOf q) (len_eq h1)]
  refine Ev.bind (meet_ev p _) ?_
  rw [meetS_of (both_of hp jpq.1 sjpq.symm), jpq.2.1, meet_joinL _ _ (len_eq h1)]
  refine Ev.pos rfl (Ev.pos rfl (Ev.pos rfl (Ev.pos rfl ?_)))
  rw [show ((finM [] (some (bytesOf p))).1.toList != p.toList) = false by show ((strOfNums ([] ++ bytesOf p)).toList != p.toList) = false; rw [List.nil_append, str_bytes]; simp]
  refine Ev.step (fun k => ancepslaw04_PatternLattice.j1.eq_2 _ _ _ _ _ _) (Ev.neg (by decide) (Ev.bind (join_ev _ r) (Ev.bind (join_ev q r) ?_)))
  rw [joinS_of (both_of jpq.1 hr (by rw [sjpq, h1, h2])), joinS_of (both_of hq hr h2)]
  refine Ev.bind (join_ev p _) ?_
  rw [joinS_of (both_of hp jqr.1 (by rw [sjqr, h1])), jpq.2.1, jqr.2.1, joinL_assoc _ _ _ (len_eq h1) (len_eq h2)]
  refine Ev.pos rfl (Ev.pos rfl ?_)
  rw [show ∀ x : ByteArray, (x.toList != x.toList) = false from fun x => by simp]
  refine Ev.step (fun k => ancepslaw04_PatternLattice.j2.eq_2 _ _ _ _) (Ev.neg (by decide) (Ev.bind (meet_ev p q) (Ev.bind (meet_ev q p) ?_)))
  rw [meetS_of bpq, meetS_of bqp, ← meetL_comm (bytesOf p) (bytesOf q) (len_eq h1)]
  refine Ev.pos rfl ?_
  rw [show ∀ x : Int, (x != x) = false from fun x => by simp]
  refine Ev.step (fun k => ancepslaw04_PatternLattice.j3.eq_2 _ _ _ _ _ _) (Ev.neg (by decide) ?_)
  cases hm : meetL (bytesOf p) (bytesOf q) with
  | none =>
    refine Ev.neg (show ¬ (12 : Int) = 0 by decide) (Ev.pos rfl (Ev.bind (match_ev p q) (Ev.val ?_)))
    unfold matchS
    rw [← meetL_match, hm]; simp
  | some a =>
    have sa := str_valid (meetL_sign _ _ a sp sq hm) (by rw [meetL_len _ _ a (len_eq h1) hm, bytesOf_length]; exact lp)
    refine Ev.pos rfl (Ev.bind (join_ev p _) ?_)
    show Ev (fun n => if (joinS p (strOfNums ([] ++ a))).2 = 0 then some ((joinS p (strOfNums ([] ++ a))).1.toList == p.toList) else some false) true
    rw [List.nil_append, joinS_of (both_of hp sa.1 (by rw [sa.2.2, meetL_len _ _ a (len_eq h1) hm, bytesOf_length])), sa.2.1, join_meetL _ _ a (len_eq h1) hm, str_bytes]
    exact Ev.pos rfl (Ev.val (by simp))
theorem PatternLattice : ancepslaw04_PatternLattice.Pure := by
  intro p q r _ _ _
  refine Ev.rounds ?_
  unfold ancepslaw04_PatternLattice.f
  have out : Ev (fun k => ancepslaw04_PatternLattice.j0 k p q r true) true := Ev.step (fun k => ancepslaw04_PatternLattice.j0.eq_2 _ _ _ _ _) (Ev.pos rfl (Ev.bind awake_ev (Ev.now _)))
  refine Ev.bind awake_ev (Ev.pos rfl (Ev.bind (rvalid_ev p) (Ev.cond (fun hp => Ev.bind (rvalid_ev q) (Ev.cond (fun hq => Ev.bind (rvalid_ev r) (Ev.cond (fun hr => Ev.cond (fun h1 => ?_) (fun _ => out)) (fun _ => out))) (fun _ => out))) (fun _ => out))))
  by_cases h2 : q.size = r.size
  · rw [show ((q.size : Int) != (r.size : Int)) = false by rw [h2]; simp]
    exact lattice_all p q r hp hq hr (by omega) h2
  · rw [show ((q.size : Int) != (r.size : Int)) = true by simpa using fun e : (q.size : Int) = r.size => h2 (by omega)]
    exact out
end Go.Proofs.Ytbecdafbkdchkaa.Pure
