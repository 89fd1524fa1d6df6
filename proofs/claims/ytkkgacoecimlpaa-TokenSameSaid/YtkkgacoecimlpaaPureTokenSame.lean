/- Same of package token compares any lists of tokens (up to 400 of together 3000 bytes, by the law's own guard) as the reference's Same does, and is an equivalence relation. -/
import Derived.Test.YtkkgacoecimlpaaLemW
import Derived.Test.YtkkgacoecimlpaaLemF
import Derived.Test.YtkkgacoecimlpaaX18
namespace Go.Proofs.Ytkkgacoecimlpaa.Pure
open Go.RowKit Go.Proofs.Ytkkgacoecimlpaa.X Go.Proofs.Ytkkgacoecimlpaa.Lem Go.Proofs.YtkkgacoecimlpaaW.PrintWords Go.Proofs.YtkkgacoecimlpaaW.PrintLast
theorem sameS_symm (a b : List S31) : sameS a b = sameS b a := by unfold sameS; rw [Bool.eq_iff_iff, decide_eq_true_iff, decide_eq_true_iff]; exact eq_comm
theorem sameS_self (a : List S31) : sameS a a = true := decide_eq_true rfl
theorem sameS_trans {a b c : List S31} (h1 : sameS a b = true) (h2 : sameS b c = true) : sameS a c = true := by
  unfold sameS at *
  rw [decide_eq_true_iff] at *
  exact h1.trans h2
theorem same_j0 (a b c : List S31) (g : Bool) (hg : g = false → a.length ≤ 400 ∧ b.length ≤ 400 ∧ c.length ≤ 400) : Ev (fun k => ancepslaw05_TokenSame.j0 k a b c g) true := by
  refine Ev.step (fun k => rfl) (Ev.cond (fun h => Ev.bind awake_ev (Ev.now _)) (fun h => ?_))
  obtain ⟨h1, h2, h3⟩ := hg (by simpa using h)
  refine Ev.bind (same_ev a b (by omega)) (Ev.bind (same_ev b c (by omega)) (Ev.bind (same_ev a c (by omega)) (Ev.bind (rsame_ev a b (by omega)) (Ev.pos (by simp) (Ev.bind (same_ev b a (by omega)) (Ev.pos (by rw [sameS_symm]; simp) (Ev.bind (same_ev a a (by omega)) (Ev.pos (sameS_self a) (Ev.cond (fun h4 => Ev.cond (fun h5 => Ev.val (sameS_trans h4 h5)) (fun _ => Ev.now _)) (fun _ => Ev.now _))))))))))
theorem TokenSame : ancepslaw05_TokenSame.Pure := by
  intro a b c _ ha hx _ hb hy _ hc hz
  refine Ev.rounds ?_
  have big : ∀ l : List S31, l.length * 32 ≤ 140737488351232 → l.length ≤ 1000000000000000 := fun l h => by omega
  unfold ancepslaw05_TokenSame.f
  have out := same_j0 a b c true (fun h => by simp at h)
  refine Ev.bind awake_ev (Ev.pos rfl (Ev.bind (few_ev a (big a ha) (fun t h => (hx t h).2.1)) (Ev.cond (fun h1 => Ev.bind (few_ev b (big b hb) (fun t h => (hy t h).2.1)) (Ev.cond (fun h2 => Ev.bind (few_ev c (big c hc) (fun t h => (hz t h).2.1)) (same_j0 a b c _ (fun h3 => ?_))) (fun _ => out))) (fun _ => out))))
  exact ⟨(few_ok h1).1, (few_ok h2).1, (few_ok (by simpa using h3)).1⟩
end Go.Proofs.Ytkkgacoecimlpaa.Pure
