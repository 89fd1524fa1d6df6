/- WordlistNext in plain words: Next returns the first word of any list behind any string that fits any mask, or the error. -/
import Derived.Test.YtdaooagikacboaaW3
import Derived.Test.YtdaooagikacboaaW4
import Derived.Test.YtdaooagikacboaaW5
import Derived.Test.YtdaooagikacboaaX16
namespace Go.Proofs.Ytdaooagikacboaa.Lem
open Go.RowKit Go.Proofs.Ytdaooagikacboaa.X Go.Proofs.YtdaooagikacboaaW.PrintWords Go.Proofs.YtdaooagikacboaaW.PrintLast
theorem rnext_loop (l : List ByteArray) (x m : ByteArray) (hl : l.length ≤ 1000000000) (hw : ∀ s ∈ l, wrongS s = 0) (hm : m.size ≤ 1000000) (hs : starsS m ≤ 1) (d : Nat) : ∀ i : Nat, i + d = l.length → Ev (fun k => ancepsref54_Next.l0 k x m (i : Int) l) (nextL (l.drop i) x m) := by
  induction d with
  | zero =>
    intro i hi
    rw [List.drop_eq_nil_of_le (by omega)]
    exact Ev.step (fun k => rfl) (Ev.neg (by omega) (Ev.val rfl))
  | succ d ih =>
    intro i hi
    have hn := ih (i + 1) (by omega)
    have hwi := hw _ (List.getElem_mem (show i < l.length by omega))
    rw [List.drop_eq_getElem_cons (show i < l.length by omega), nextL_cons]
    refine Ev.step (fun k => rfl) (Ev.pos (by omega) (Ev.pos (by omega) ?_))
    rw [rdOf_at l i (by omega), w64 (by omega) (by omega)]
    unfold after1
    refine Ev.cond (fun h1 => ?_) (fun h1 => ?_)
    · rw [show less x l[i] = true from h1, Bool.true_and]
      refine Ev.bind (rfits_ev _ _ m (Nat.le_refl _) (by have := (wrongS_ok hwi).2.1; omega) hm) ?_
      rw [fit_eq _ _ (word63 hwi) hs]
      exact Ev.cond (fun h2 => Ev.val (by rw [if_pos h2])) (fun h2 => by rw [if_neg h2]; exact hn)
    · rw [show less x l[i] = false from Bool.eq_false_iff.2 h1, Bool.false_and, if_neg Bool.false_ne_true]
      exact hn
theorem rnext_ev (l : List ByteArray) (x m : ByteArray) (hl : l.length ≤ 1000000000) : Ev (fun k => ancepsref54_Next.f k l x m) (nextS l x m) := by
  unfold ancepsref54_Next.f nextS askedS
  refine Ev.bind (rvalid_ev l hl) (Ev.cond (fun h => ?_) (fun h => Ev.val (by rw [if_neg h, if_neg h])))
  rw [if_pos h]
  refine Ev.bind (rmask_ev m) (Ev.cond (fun h2 => ?_) (fun h2 => Ev.val (by rw [if_neg h2])))
  rw [if_pos h2]
  exact rnext_loop l x m hl (valid_word h) (by have := (mask_ok h2).1; omega) (mask_ok h2).2 l.length 0 (by omega)
theorem next_j0 (l : List ByteArray) (x m : ByteArray) (b : Bool) (hb : b = false → l.length ≤ 420) : Ev (fun k => ancepslaw54_WordlistNext.j0 k x m b l) true := by
  refine Ev.step (fun k => ancepslaw54_WordlistNext.j0.eq_2 _ _ _ _ _) (Ev.cond (fun h => Ev.bind awake_ev (Ev.val rfl)) (fun h => ?_))
  have hl := hb (Bool.eq_false_iff.2 h)
  refine Ev.bind (copied_ev l (by omega)) (Ev.bind (next_ev l x m (by omega)) (Ev.bind (rnext_ev l x m (by omega)) (Ev.pos rfl (Ev.val ?_))))
  rw [beq_iff_eq]
end Go.Proofs.Ytdaooagikacboaa.Lem
namespace Go.Proofs.Ytdaooagikacboaa.Pure
open Go.RowKit Go.Proofs.Ytdaooagikacboaa.X Go.Proofs.YtdaooagikacboaaW.PrintWords Go.Proofs.YtdaooagikacboaaW.PrintLast Go.Proofs.Ytdaooagikacboaa.Lem
theorem WordlistNext : ancepslaw54_WordlistNext.Pure := by
  intro l0 a1 a2 _ _ hw _ _
  refine Ev.rounds ?_
  unfold ancepslaw54_WordlistNext.f
  refine Ev.bind awake_ev (Ev.pos rfl ?_)
  obtain ⟨t, ht, hh⟩ := few_ev l0 a2 hw
  refine Ev.bind ht (Ev.cond (fun h => ?_) (fun h => next_j0 l0 a1 a2 true (fun h2 => by cases h2)))
  exact next_j0 l0 a1 a2 _ (fun _ => (hh h).1)
end Go.Proofs.Ytdaooagikacboaa.Pure
