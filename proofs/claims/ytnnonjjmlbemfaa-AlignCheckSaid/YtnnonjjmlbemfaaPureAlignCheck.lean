/- Check accepts any steps and potentials exactly if these prove that the steps are a cheapest alignment: for any two strings, steps and potentials (what the law's own guard leaves out is left out by it). -/
import Derived.Test.YtnnonjjmlbemfaaAW
import Derived.Test.YtnnonjjmlbemfaaRT
import Derived.Test.YtnnonjjmlbemfaaC2
import Derived.Test.YtnnonjjmlbemfaaX25
import Derived.Test.YtnnonjjmlbemfaaXK
set_option linter.unusedVariables false
namespace Go.Proofs.Ytnnonjjmlbemfaa.Pure
open Go.RowKit Go.Proofs.Ytnnonjjmlbemfaa.X Go.Proofs.Ytnnonjjmlbemfaa.Lem Go.Proofs.Ytnnonjjmlbemfaa.Al Go.Proofs.YtnnonjjmlbemfaaW.PrintWords Go.Proofs.YtnnonjjmlbemfaaW.PrintLast
theorem rdist_ev {p q : ByteArray} (G : Gv p q) : Ev (fun k => ancepsref45_Distance.f k p q) (D (bytesOf p) (bytesOf q), 0) := by
  unfold ancepsref45_Distance.f
  have T := tabq_sh p q
  have hl := T.len
  have hr := T.row 0 (Nat.zero_le _)
  have r0 : ((rd_L2 (tab (bytesOf p) (bytesOf q)) 0).length : Int) = ((q.size + 1 : Nat) : Int) := by have := row_cl (tab (bytesOf p) (bytesOf q)) 0; rw [show ((0 : Nat) : Int) = 0 from rfl] at this; rw [this, hr]
  have z : rd (rd_L2 (tab (bytesOf p) (bytesOf q)) 0) 0 = D (bytesOf p) (bytesOf q) := by
    refine (rd_cl (tab (bytesOf p) (bytesOf q)) 0 0).trans ?_
    rw [tab_cl _ _ (Nat.zero_le _) (Nat.zero_le _), List.drop_zero, List.drop_zero]
  refine Ev.bind (rgiven_ev p q) (Ev.pos (giv_of G) (Ev.bind (table_ev G) (Ev.pos (by omega) (Ev.pos (by rw [r0]; omega) ?_))))
  rw [z]
  exact Ev.now _
theorem rdist_no {p q : ByteArray} (h : givS p q ≠ 0) : Ev (fun k => ancepsref45_Distance.f k p q) (0, givS p q) := by
  unfold ancepsref45_Distance.f
  exact Ev.bind (rgiven_ev p q) (Ev.neg h (Ev.now _))
theorem check_no {p q : ByteArray} (h : givS p q ≠ 0) (steps : List Int) (t : List (List Int)) : Ev (fun k => align_Check.f k p q steps t) false := by
  unfold align_Check.f
  exact Ev.bind (given_ev p q) (Ev.neg h (Ev.step (fun k => align_Check.j0.eq_2 _ _ _ _ _ _) (Ev.pos rfl (Ev.now _))))
theorem rcheck_no {p q : ByteArray} (h : givS p q ≠ 0) (steps : List Int) (t : List (List Int)) : Ev (fun k => ancepsref45_Check.f k p q steps t) false := by
  unfold ancepsref45_Check.f
  exact Ev.bind (rgiven_ev p q) (Ev.neg h (Ev.now _))
theorem AlignCheck : ancepslaw45_AlignCheck.Pure := by
  intro p q steps t
  refine Ev.rounds ?_
  unfold ancepslaw45_AlignCheck.f
  obtain ⟨b, hb⟩ := short_f p q
  refine Ev.bind awake_ev (Ev.pos rfl ?_)
  rw [hb]
  refine Ev.just (Ev.cond (fun hsh => Ev.cond (fun hs => ?_) (fun _ => Ev.now _)) (fun _ => Ev.now _))
  obtain ⟨hp, hq⟩ : p.size ≤ 70 ∧ q.size ≤ 70 := by
    subst hsh
    unfold ancepslaw45_short.f at hb
    by_cases h1 : (p.size : Int) ≤ 70
    · rw [if_pos h1] at hb
      have := of_decide_eq_true (Option.some.inj hb)
      omega
    · rw [if_neg h1] at hb; cases hb
  obtain ⟨f, f1, f2⟩ := few_ev t
  refine Ev.bind f1 (Ev.cond (fun hf => ?_) (fun _ => Ev.now _))
  obtain ⟨ht, hm⟩ := f2 hf
  unfold ancepslaw45_AlignCheck.m
  by_cases hg : givS p q = 0
  · have G := giv_ok hg
    obtain ⟨b1, c1, c2⟩ := check_ev G hm (by omega) steps hs
    obtain ⟨b2, d1, d2⟩ := rcheck_ev G hm (by omega) steps hs
    obtain rfl : b1 = b2 := by rw [Bool.eq_iff_iff, c2, d2]
    obtain ⟨c, ok, e1, e2, e3⟩ := cost_ev G steps hs
    refine Ev.bind c1 (Ev.bind d1 (Ev.pos rfl (Ev.bind e1 (Ev.bind (rdist_ev G) (Ev.val ?_)))))
    cases b1 with
    | false => rfl
    | true =>
      have hC := (c2.1 rfl).best
      show (c == D (bytesOf p) (bytesOf q)) = true
      cases ok with
      | false => rw [e3 rfl] at hC; cases hC
      | true => rw [e2 rfl] at hC; rw [beq_iff_eq]; exact Option.some.inj hC
  · obtain ⟨r, e1⟩ := cost_any hp hq steps hs
    exact Ev.bind (check_no hg steps t) (Ev.bind (rcheck_no hg steps t) (Ev.pos rfl (Ev.bind e1 (Ev.bind (rdist_no hg) (Ev.now _)))))
end Go.Proofs.Ytnnonjjmlbemfaa.Pure
