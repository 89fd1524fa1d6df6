/- WordlistChanges in plain words: Add and Remove change any list by any word, or return the errors; Remove undoes Add. -/
import Derived.Test.YtdaooagikacboaaW5
import Derived.Test.YtdaooagikacboaaW8
import Derived.Test.YtdaooagikacboaaX25
namespace Go.Proofs.Ytdaooagikacboaa.Lem
open Go.RowKit Go.Proofs.Ytdaooagikacboaa.X Go.Proofs.YtdaooagikacboaaW.PrintWords Go.Proofs.YtdaooagikacboaaW.PrintLast
theorem changes_j1 (l : List ByteArray) (w : ByteArray) (hl : l.length ≤ 420) : Ev (fun k => ancepslaw54_WordlistChanges.j1 k w (addS l w).2 false l (addS l w).1) true := by
  refine Ev.step (fun k => ancepslaw54_WordlistChanges.j1.eq_2 _ _ _ _ _ _) (Ev.neg Bool.false_ne_true (Ev.cond (fun h => ?_) (fun _ => Ev.val rfl)))
  have hp : (addS l w).1 = insL w l ∧ givenS l w = 0 ∧ ¬ w ∈ l ∧ l.length ≠ 400 := by
    unfold addS at h ⊢
    by_cases h1 : givenS l w = 0
    · rw [if_pos h1] at h ⊢
      by_cases h2 : w ∈ l
      · rw [if_pos h2] at h; cases h
      · rw [if_neg h2] at h ⊢
        by_cases h3 : l.length = 400
        · rw [if_pos h3] at h; cases h
        · rw [if_neg h3]; exact ⟨rfl, h1, h2, h3⟩
    · rw [if_neg h1] at h; exact absurd h h1
  obtain ⟨e, hg, hm, hn⟩ := hp
  rw [e]
  have hv := (validS_ok (given_ok hg).1).1
  have hr := rem_ev (insL w l) w (by rw [insL_len]; omega)
  rw [rem_ins (given_ok hg).1 (given_ok hg).2 hm (by omega)] at hr
  refine Ev.bind hr (Ev.pos rfl (Ev.bind (eqs_ev l (by omega)) (Ev.pos rfl (Ev.bind (phas_ev (insL w l) w (by rw [insL_len]; omega)) ?_))))
  rw [decide_eq_true (insL_mem w l)]
  refine Ev.pos rfl (Ev.bind (phas_ev l w (by omega)) (Ev.val ?_))
  rw [decide_eq_false hm]; rfl
theorem changes_j0 (l : List ByteArray) (w : ByteArray) (b : Bool) (hb : b = false → l.length ≤ 420) : Ev (fun k => ancepslaw54_WordlistChanges.j0 k w b l) true := by
  refine Ev.step (fun k => ancepslaw54_WordlistChanges.j0.eq_2 _ _ _ _) (Ev.cond (fun h => Ev.bind awake_ev (Ev.val rfl)) (fun h => ?_))
  have hl := hb (Bool.eq_false_iff.2 h)
  have h1 := addS_len l w
  have h2 := remS_len l w
  refine Ev.bind (copied_ev l (by omega)) (Ev.bind (add_ev l w (by omega)) (Ev.bind (radd_ev l w (by omega)) (Ev.bind (copied_ev l (by omega)) (Ev.bind (rem_ev l w (by omega)) (Ev.bind (rrem_ev l w (by omega)) (Ev.bind (copied_ev l (by omega)) (Ev.bind (valid_ev l (by omega)) (Ev.bind (rvalid_ev l (by omega)) (Ev.pos rfl (Ev.bind (copied_ev l (by omega)) (Ev.bind (phas_ev l w (by omega)) (Ev.bind (has_ev l w (by omega)) ?_))))))))))))
  refine Ev.neg (by simp) (Ev.pos rfl (Ev.bind (eqs_ev _ (by omega)) (Ev.pos rfl (Ev.pos rfl (Ev.bind (eqs_ev _ (by omega)) ?_)))))
  exact changes_j1 l w hl
end Go.Proofs.Ytdaooagikacboaa.Lem
namespace Go.Proofs.Ytdaooagikacboaa.Pure
open Go.RowKit Go.Proofs.Ytdaooagikacboaa.X Go.Proofs.YtdaooagikacboaaW.PrintWords Go.Proofs.YtdaooagikacboaaW.PrintLast Go.Proofs.Ytdaooagikacboaa.Lem
theorem WordlistChanges : ancepslaw54_WordlistChanges.Pure := by
  intro l w _ _ hx _
  refine Ev.rounds ?_
  unfold ancepslaw54_WordlistChanges.f
  refine Ev.bind awake_ev (Ev.pos rfl ?_)
  obtain ⟨t, ht, hh⟩ := few_ev l w hx
  exact Ev.bind ht (changes_j0 l w _ (fun h => (hh (by simpa using h)).1))
end Go.Proofs.Ytdaooagikacboaa.Pure
