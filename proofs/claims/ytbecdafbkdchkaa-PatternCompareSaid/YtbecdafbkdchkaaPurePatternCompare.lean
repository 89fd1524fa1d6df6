/- Compare of package pattern answers as the reference's Compare does, and is a total order: any strings of up to 300 bytes (longer ones are left out by the law's own guard). -/
import Derived.Test.YtbecdafbkdchkaaP4
import Derived.Test.YtbecdafbkdchkaaX13
namespace Go.Proofs.Ytbecdafbkdchkaa.Pure
open Go.RowKit Go.Proofs.Ytbecdafbkdchkaa.X Go.Proofs.Ytbecdafbkdchkaa.Lem Go.Proofs.YtbecdafbkdchkaaW.PrintWords Go.Proofs.YtbecdafbkdchkaaW.PrintLast
theorem rrank_f {c : Int} (h : 0 ≤ c ∧ c ≤ 255) : ancepsref04_rank.f c = some (rankS c) := by
  unfold ancepsref04_rank.f rankS
  rw [w64 (i := c) (by omega) (by omega), w64 (by omega) (by omega)]
  (repeat' split) <;> rfl
theorem rcmp_loop (p q : ByteArray) (hs : p.size = q.size) (hp : p.size ≤ 1000000) (d : Nat) : ∀ i : Nat, i + d = p.size → Ev (fun k => ancepsref04_Compare.l0 k p q (i : Int)) (cmpL ((bytesOf p).drop i) ((bytesOf q).drop i)) := by
  induction d with
  | zero =>
    intro i hi
    rw [drop_ge p i (by omega)]
    exact Ev.step (fun k => rfl) (Ev.neg (by omega) (Ev.now _))
  | succ d ih =>
    intro i hi
    refine Ev.step (fun k => rfl) (Ev.pos (by omega) (Ev.pos (by omega) (Ev.pos (by omega) ?_)))
    rw [drop_lt p i (by omega), drop_lt q i (by omega), cmpL]
    refine Ev.cond (fun h => ?_) (fun h => ?_)
    · rw [h, cmpI_self, if_pos rfl, w64 (by omega) (by omega)]
      exact ih (i + 1) (by omega)
    · rw [rrank_f (bt_range p i), rrank_f (bt_range q i)]
      refine Ev.just (Ev.just ?_)
      have hne : rankS (bt p i) ≠ rankS (bt q i) := fun e => h (rank_inj (bt_range p i).1 (bt_range q i).1 e)
      have hc : cmpI (rankS (bt p i)) (rankS (bt q i)) ≠ 0 := fun e => hne (cmp0 e)
      rw [if_neg hc]
      unfold cmpI
      refine Ev.cond (fun h2 => Ev.val (by rw [if_pos h2])) (fun h2 => Ev.val ?_)
      rw [if_neg h2, if_pos (by omega)]
theorem rcmp_ev (p q : ByteArray) (hp : p.size ≤ 1000000) : Ev (fun k => ancepsref04_Compare.f k p q) (cmpS p q) := by
  unfold ancepsref04_Compare.f cmpS
  refine Ev.cond (fun h => ?_) (fun h => ?_)
  · rw [h, cmpI_self, if_pos rfl]
    have := rcmp_loop p q (by omega) hp p.size 0 (by omega)
    rw [List.drop_zero, List.drop_zero] at this
    exact this
  · rw [if_neg (fun e => h (cmp0 e))]
    unfold cmpI
    refine Ev.cond (fun h2 => Ev.val (by rw [if_pos h2])) (fun h2 => Ev.val ?_)
    rw [if_neg h2, if_pos (by omega)]
theorem compare_j0 (p q r : ByteArray) (b : Bool) (hb : b = false → p.size ≤ 300 ∧ q.size ≤ 300 ∧ r.size ≤ 300) : Ev (fun k => ancepslaw04_PatternCompare.j0 k p q r b) true := by
  refine Ev.step (fun k => rfl) (Ev.cond (fun h => Ev.bind awake_ev (Ev.now _)) (fun h => ?_))
  obtain ⟨h1, h2, h3⟩ := hb (by simpa using h)
  refine Ev.bind (cmp_ev p q (by omega)) (Ev.bind (cmp_ev q r (by omega)) (Ev.bind (cmp_ev p r (by omega)) (Ev.bind (rcmp_ev p q (by omega)) (Ev.pos rfl (Ev.bind (cmp_ev q p (by omega)) ?_)))))
  have hr := cmpS_range p q
  rw [cmpS_neg p q, w64 (by omega) (by omega)]
  refine Ev.pos rfl (Ev.neg ?_ (Ev.cond (fun _ => Ev.now _) (fun h4 => Ev.cond (fun _ => Ev.now _) (fun h5 => Ev.val ?_))))
  · have : (cmpS p q == 0) = (p.toList == q.toList) := by
      rw [Bool.eq_iff_iff, beq_iff_eq, beq_iff_eq, cmpS_zero, bytes_ext]
    rw [this]; simp
  · exact decide_eq_true (cmpS_trans p q r (by omega) (by omega))
theorem PatternCompare : ancepslaw04_PatternCompare.Pure := by
  intro p q r _ _ _
  refine Ev.rounds ?_
  unfold ancepslaw04_PatternCompare.f
  refine Ev.bind awake_ev (Ev.pos rfl (Ev.cond (fun h => compare_j0 p q r true (fun h => by simp at h)) (fun h1 => Ev.cond (fun h => compare_j0 p q r true (fun h => by simp at h)) (fun h2 => compare_j0 p q r _ (fun h3 => ?_)))))
  rw [decide_eq_false_iff_not] at h3
  exact ⟨by omega, by omega, by omega⟩
end Go.Proofs.Ytbecdafbkdchkaa.Pure
