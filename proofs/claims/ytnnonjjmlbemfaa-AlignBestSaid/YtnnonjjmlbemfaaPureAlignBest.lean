/- Best returns the best alignment of any two patterns, and its cost, or the specified error; Check accepts it with Potentials: for any two strings (those over 70 bytes are left out by the law's own guard). -/
import Derived.Test.YtnnonjjmlbemfaaA3
import Derived.Test.YtnnonjjmlbemfaaR2
import Derived.Test.YtnnonjjmlbemfaaC1
import Derived.Test.YtnnonjjmlbemfaaX18
import Derived.Test.YtnnonjjmlbemfaaX8
import Derived.Test.YtnnonjjmlbemfaaX17
set_option linter.unusedVariables false
namespace Go.Proofs.Ytnnonjjmlbemfaa.Pure
open Go.RowKit Go.Proofs.Ytnnonjjmlbemfaa.X Go.Proofs.Ytnnonjjmlbemfaa.Lem Go.Proofs.Ytnnonjjmlbemfaa.Al Go.Proofs.YtnnonjjmlbemfaaW.PrintWords Go.Proofs.YtnnonjjmlbemfaaW.PrintLast
theorem eq_loop (l : List Int) (hl : l.length ≤ 1000) (d : Nat) : ∀ i : Nat, i + d = l.length → Ev (fun k => slices_Equal_int_int.l0 k l l (l.length : Int) (i : Int)) true := by
  induction d with
  | zero =>
    intro i hi
    exact Ev.step (fun k => slices_Equal_int_int.l0.eq_2 _ _ _ _ _) (Ev.neg (by omega) (Ev.now _))
  | succ d ih =>
    intro i hi
    refine Ev.step (fun k => slices_Equal_int_int.l0.eq_2 _ _ _ _ _) (Ev.pos (by omega) (Ev.pos (by omega) (Ev.pos (by omega) (Ev.pos (by omega) (Ev.pos rfl ?_)))))
    rw [w64 (by omega) (by omega)]
    exact ih (i + 1) (by omega)
theorem eq_ev (l : List Int) (hl : l.length ≤ 1000) : Ev (fun k => slices_Equal_int_int.f k l l) true := by
  unfold slices_Equal_int_int.f
  exact Ev.pos rfl (eq_loop l hl l.length 0 (by omega))
theorem tab_small {p q : ByteArray} (G : Gv p q) : Sm (tab (bytesOf p) (bytesOf q)) := by
  have T := tabq_sh p q
  intro i j
  by_cases hi : i ≤ p.size
  · by_cases hj : j ≤ q.size
    · rw [tabq_cl p q hi hj]
      have := D_small G i j
      omega
    · unfold cl
      rw [List.getD_eq_getElem?_getD (l := (tab (bytesOf p) (bytesOf q)).getD i []), List.getElem?_eq_none (by rw [T.row i hi]; omega)]
      exact ⟨by decide, by decide⟩
  · unfold cl
    rw [List.getD_eq_getElem?_getD (l := tab (bytesOf p) (bytesOf q)), List.getElem?_eq_none (by rw [T.len]; omega)]
    exact ⟨by simp, by simp⟩
theorem pot_ok {p q : ByteArray} (G : Gv p q) : Ev (fun k => align_Potentials.f k p q) (tab (bytesOf p) (bytesOf q), 0) := by
  unfold align_Potentials.f
  refine Ev.bind (given_ev p q) ?_
  rw [giv_of G]
  exact Ev.pos rfl (Ev.bind (grid_ev G) (Ev.now _))
theorem AlignBest : ancepslaw45_AlignBest.Pure := by
  intro p q _ _
  refine Ev.rounds ?_
  unfold ancepslaw45_AlignBest.f
  obtain ⟨b, hb⟩ := short_f p q
  refine Ev.bind awake_ev (Ev.pos rfl ?_)
  rw [hb]
  refine Ev.just ?_
  refine Ev.step (fun k => ancepslaw45_AlignBest.j0.eq_2 _ _ _ _) (Ev.cond (fun h => Ev.bind awake_ev (Ev.now _)) (fun h => ?_))
  by_cases hg : givS p q = 0
  · have G := giv_ok hg
    have hp := G.hp
    have hq := G.hq
    obtain ⟨l, h1, h2⟩ := bs_of G
    have hlen : (tab (bytesOf p) (bytesOf q)).length ≤ 1000000 := by rw [(tabq_sh p q).len]; omega
    obtain ⟨b, c1, c2⟩ := check_ev G (tab_small G) hlen l (by omega)
    obtain rfl : b = true := c2.2 (CK_tab h1)
    refine Ev.bind (best_f G h1 h2) (Ev.bind (rbest_f G h1 h2) (Ev.pos rfl (Ev.pos rfl (Ev.bind (eq_ev l (by omega)) (Ev.pos rfl ?_)))))
    refine Ev.step (fun k => ancepslaw45_AlignBest.j1.eq_2 _ _ _ _ _ _ _ _ _ _) (Ev.neg (by simp) (Ev.bind (pot_ok G) (Ev.pos rfl (Ev.bind c1 (Ev.now _)))))
  · refine Ev.bind (best_no hg) (Ev.bind (rbest_no hg) (Ev.pos rfl (Ev.pos rfl (Ev.bind (eq_ev [] (by simp)) (Ev.pos rfl ?_)))))
    show Ev (fun k => ancepslaw45_AlignBest.j1 k p q [] 0 (givS p q) [] 0 (givS p q) (givS p q != 0)) true
    rw [show (givS p q != 0) = true from bne_iff_ne.2 hg]
    exact Ev.step (fun k => ancepslaw45_AlignBest.j1.eq_2 _ _ _ _ _ _ _ _ _ _) (Ev.pos rfl (Ev.pos rfl (Ev.pos rfl (Ev.bind (eq_ev [] (by simp)) (Ev.now _)))))
end Go.Proofs.Ytnnonjjmlbemfaa.Pure
