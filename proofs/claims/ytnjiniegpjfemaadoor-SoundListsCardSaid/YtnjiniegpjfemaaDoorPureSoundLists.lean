/- Beats, Nuclei and Clusters of any few sounds are the reference's. -/
import Derived.Test.YtnjiniegpjfemaaDoorS3
import Derived.Test.YtnjiniegpjfemaaDoorX14
import Derived.Test.YtnjiniegpjfemaaDoorX16
import Derived.Test.YtnjiniegpjfemaaDoorX13
import Derived.Test.YtnjiniegpjfemaaDoorX15
namespace Go.Proofs.YtnjiniegpjfemaaDoor.Pure
open Go.RowKit Go.Proofs.YtnjiniegpjfemaaDoor.X Go.Proofs.YtnjiniegpjfemaaDoor.Lem Go.Proofs.YtnjiniegpjfemaaDoorW.PrintWords Go.Proofs.YtnjiniegpjfemaaDoorW.PrintLast
theorem rBeats_loop (l : List S23) (hl : l.length ≤ 100000) (d : Nat) : ∀ (i : Nat) (n : Int), i + d = l.length → 0 ≤ n → n ≤ 2 * i → Ev (fun k => ancepsref11_Beats.l0 k l n (i : Int)) (n + bsum (l.drop i)) := by
  induction d with
  | zero =>
    intro i n hi _ _
    rw [List.drop_of_length_le (by omega)]
    exact Ev.step (fun k => ancepsref11_Beats.l0.eq_2 _ _ _ _) (Ev.neg (by omega) (Ev.val (by simp [bsum])))
  | succ d ih =>
    intro i n hi h0 h1
    have hlt : i < l.length := by omega
    rw [List.drop_eq_getElem_cons hlt, bsum]
    have hb := beat_range l[i].f0
    have hj : Ev (fun k => ancepsref11_Beats.j1 k l n (i : Int) (decide (3 ≤ l[i].f0 ∧ l[i].f0 ≤ 8))) (n + (beat l[i].f0 + bsum (l.drop (i + 1)))) := by
      refine Ev.step (fun k => ancepsref11_Beats.j1.eq_2 _ _ _ _ _) ?_
      rw [rd_at l i hlt, w64 (i := (i : Int) + 1) (by omega) (by omega), w64 (i := n + 1) (by omega) (by omega), w64 (i := n + 1 + 1) (by omega) (by omega), ← Int.add_assoc]
      refine Ev.cond (fun h => ?_) (fun h => ?_)
      · have h := of_decide_eq_true h
        refine Ev.pos (by omega) (Ev.pos (by omega) (Ev.cond (fun h7 => ?_) (fun h7 => ?_)))
        · have e : beat l[i].f0 = 2 := by unfold beat; rw [if_pos h7]
          rw [e]
          have := ih (i + 1) (n + 1 + 1) (by omega) (by omega) (by omega)
          rw [show n + 1 + 1 = n + 2 by omega] at this ⊢
          exact this
        · have e : beat l[i].f0 = 1 := by unfold beat; rw [if_neg h7, if_pos h]
          rw [e]
          exact ih (i + 1) (n + 1) (by omega) (by omega) (by omega)
      · have h : ¬ (3 ≤ l[i].f0 ∧ l[i].f0 ≤ 8) := fun z => h (decide_eq_true z)
        have e : beat l[i].f0 = 0 := by unfold beat; rw [if_neg (show ¬ l[i].f0 = 7 by omega), if_neg h]
        rw [e, Int.add_zero]
        exact Ev.pos (by omega) (Ev.pos (by omega) (Ev.neg (by omega) (ih (i + 1) n (by omega) (by omega) (by omega))))
    refine Ev.step (fun k => ancepsref11_Beats.l0.eq_2 _ _ _ _) (Ev.pos (by omega) (Ev.pos (by omega) ?_))
    rw [rd_at l i hlt]
    refine Ev.cond (fun h => ?_) (fun h => ?_)
    · rw [show decide (l[i].f0 ≤ 8) = decide (3 ≤ l[i].f0 ∧ l[i].f0 ≤ 8) from decide_eq_decide.2 ⟨fun z => ⟨h, z⟩, fun z => z.2⟩]
      exact hj
    · rw [show false = decide (3 ≤ l[i].f0 ∧ l[i].f0 ≤ 8) from (decide_eq_false (fun z => h z.1)).symm]
      exact hj
theorem rNuclei_loop (l : List S23) (hl : l.length ≤ 100000) (d : Nat) : ∀ (i : Nat) (a : List Int), i + d = l.length → a.length ≤ i → Ev (fun k => ancepsref11_Nuclei.l0 k l a (i : Int)) (a ++ nucI i (l.drop i)) := by
  induction d with
  | zero =>
    intro i a hi _
    rw [List.drop_of_length_le (by omega)]
    exact Ev.step (fun k => rfl) (Ev.neg (by omega) (Ev.val (by simp [nucI])))
  | succ d ih =>
    intro i a hi ha
    have hlt : i < l.length := by omega
    rw [List.drop_eq_getElem_cons hlt, nucI]
    have hc : ancepsref11_Nucleus.f (rd_T23 l (i : Int)).f0 (rd_T23 l (i : Int)).f1 (rd_T23 l (i : Int)).f2 = some (nuc l[i].f0) := by rw [rd_at l i hlt]; exact rNucleus_f _ _ _
    refine Ev.step (fun k => rfl) (Ev.pos (by omega) (Ev.pos (by omega) (Ev.bind (Ev.now' hc) (Ev.cond (fun h => ?_) (fun h => ?_)))))
    · rw [if_pos h]
      refine Ev.pos (by omega) ?_
      rw [w64 (by omega) (by omega)]
      have := ih (i + 1) (a ++ [(i : Int)]) (by omega) (by rw [List.length_append]; simp; omega)
      rw [List.append_assoc] at this
      exact this
    · rw [if_neg h, w64 (by omega) (by omega)]
      exact ih (i + 1) a (by omega) (by omega)
theorem rClusters_loop (l : List S23) (hl : l.length ≤ 100000) (d : Nat) : ∀ (i : Nat) (us : List (List S23)) (z : List S23), i + d = l.length → us.length ≤ i → z.length ≤ i → Ev (fun k => ancepsref11_Clusters.l0 k l (us ++ [z]) (i : Int)) (us ++ clus z (l.drop i)) := by
  induction d with
  | zero =>
    intro i us z hi _ _
    rw [List.drop_of_length_le (by omega)]
    exact Ev.step (fun k => rfl) (Ev.neg (by omega) (Ev.val (by simp [clus])))
  | succ d ih =>
    intro i us z hi hu hz
    have hlt : i < l.length := by omega
    rw [List.drop_eq_getElem_cons hlt, clus]
    have hc : ancepsref11_Nucleus.f (rd_T23 l (i : Int)).f0 (rd_T23 l (i : Int)).f1 (rd_T23 l (i : Int)).f2 = some (nuc l[i].f0) := by rw [rd_at l i hlt]; exact rNucleus_f _ _ _
    refine Ev.step (fun k => rfl) (Ev.pos (by omega) (Ev.pos (by omega) (Ev.bind (Ev.now' hc) (Ev.cond (fun h => ?_) (fun h => ?_)))))
    · rw [if_pos h]
      refine Ev.pos (by rw [List.length_append]; simp; omega) ?_
      rw [w64 (i := (i : Int) + 1) (by omega) (by omega)]
      have := ih (i + 1) (us ++ [z]) [] (by omega) (by rw [List.length_append]; simp; omega) (by simp)
      rw [List.append_assoc us [z] (clus _ _)] at this
      exact this
    · rw [if_neg h, last_at us z (by omega), rd_snoc, set_snoc, w64 (i := (i : Int) + 1) (by omega) (by omega), rd_at l i hlt]
      exact Ev.pos (by omega) (Ev.pos (by rw [List.length_append]; simp; omega) (Ev.pos (by omega) (ih (i + 1) us (z ++ [l[i]]) (by omega) (by omega) (by rw [List.length_append]; simp; omega))))
theorem rBeats_ev (l : List S23) (hl : l.length ≤ 100000) : Ev (fun k => ancepsref11_Beats.f k l) (bsum l) := by
  have := rBeats_loop l hl l.length 0 0 (by omega) (by omega) (by omega)
  rw [List.drop_zero, Int.zero_add] at this
  exact this
theorem rNuclei_ev (l : List S23) (hl : l.length ≤ 100000) : Ev (fun k => ancepsref11_Nuclei.f k l) (nucI 0 l) := by
  have := rNuclei_loop l hl l.length 0 [] (by omega) (by simp)
  rw [List.drop_zero, List.nil_append] at this
  exact this
theorem rClusters_ev (l : List S23) (hl : l.length ≤ 100000) : Ev (fun k => ancepsref11_Clusters.f k l) (clus [] l) := by
  have := rClusters_loop l hl l.length 0 [] [] (by omega) (by simp) (by simp)
  rw [List.drop_zero, List.nil_append, List.nil_append] at this
  exact this
theorem eq_loop (l : List Int) (hl : l.length ≤ 100000) (d : Nat) : ∀ (i : Nat), i + d = l.length → Ev (fun k => slices_Equal_int_int.l0 k l l (l.length : Int) (i : Int)) true := by
  induction d with
  | zero => intro i hi; exact Ev.step (fun k => rfl) (Ev.neg (by omega) (Ev.now _))
  | succ d ih =>
    intro i hi
    refine Ev.step (fun k => rfl) (Ev.pos (by omega) (Ev.pos (by omega) (Ev.pos (by omega) (Ev.pos (by omega) (Ev.pos rfl ?_)))))
    rw [w64 (by omega) (by omega)]
    exact ih (i + 1) (by omega)
theorem equal_ev (l : List Int) (hl : l.length ≤ 100000) : Ev (fun k => slices_Equal_int_int.f k l l) true := by
  unfold slices_Equal_int_int.f
  exact Ev.pos rfl (eq_loop l hl l.length 0 (by omega))
theorem rd_L3_at (l : List (List S23)) (i : Nat) (h : i < l.length) : rd_L3 l (i : Int) = l[i] := by
  unfold rd_L3
  rw [Int.toNat_natCast, List.getD_eq_getElem?_getD, List.getElem?_eq_getElem h]; rfl
theorem sameL_loop (l : List (List S23)) (hl : l.length ≤ 100000) (hx : ∀ y ∈ l, y.length ≤ 100000) (d : Nat) : ∀ (i : Nat), i + d = l.length → Ev (fun k => ancepsref11_SameLists.l0 k l l (i : Int)) true := by
  induction d with
  | zero => intro i hi; exact Ev.step (fun k => rfl) (Ev.neg (by omega) (Ev.now _))
  | succ d ih =>
    intro i hi
    have hlt : i < l.length := by omega
    have hs := same_self l[i] (hx _ (List.getElem_mem hlt))
    rw [← rd_L3_at l i hlt] at hs
    refine Ev.step (fun k => rfl) (Ev.pos (by omega) (Ev.pos (by omega) (Ev.pos (by omega) (Ev.bind hs (Ev.pos rfl ?_)))))
    rw [w64 (by omega) (by omega)]
    exact ih (i + 1) (by omega)
theorem sameL_ev (l : List (List S23)) (hl : l.length ≤ 100000) (hx : ∀ y ∈ l, y.length ≤ 100000) : Ev (fun k => ancepsref11_SameLists.f k l l) true := by
  unfold ancepsref11_SameLists.f
  exact Ev.pos rfl (sameL_loop l hl hx l.length 0 (by omega))
theorem clone_f (l : List S23) (hl : l.length ≤ 100000) : api_Sound_22.f l = some l := by
  unfold api_Sound_22.f
  rw [Option.bind_some, if_pos (by simp; omega)]; rfl
theorem lists_j0 (l : List S23) (x : Bool) (hl : x = false → l.length ≤ 210) : Ev (fun k => ancepslaw11_SoundLists.j0 k l x) true := by
  refine Ev.step (fun k => rfl) (Ev.cond (fun h => Ev.bind awake_ev (Ev.now _)) (fun h => ?_))
  have hl := hl (by simpa using h)
  have hn := nucI_len l 0
  have hc := clus_len l [] 0
  refine Ev.bind (Ev.now' (clone_f l (by omega))) (Ev.bind (beats_ev l (by omega)) (Ev.bind (rBeats_ev l (by omega)) (Ev.pos rfl (Ev.bind (Ev.now' (clone_f l (by omega))) (Ev.bind (nuclei_ev l (by omega)) (Ev.bind (rNuclei_ev l (by omega)) (Ev.bind (equal_ev _ (by omega)) (Ev.pos rfl (Ev.bind (Ev.now' (clone_f l (by omega))) (Ev.bind (clusters_ev l (by omega)) (Ev.bind (rClusters_ev l (by omega)) (Ev.bind (sameL_ev _ (by omega) (fun y hy => ?_)) (Ev.now _)))))))))))))
  have := clus_mem l [] y hy
  simp only [List.length_nil] at this
  omega
theorem SoundLists : ancepslaw11_SoundLists.Pure := by
  intro l _ _ _
  refine Ev.rounds ?_
  unfold ancepslaw11_SoundLists.f
  obtain ⟨r, h1, h2⟩ := few_ev l 210 (by omega)
  refine Ev.bind awake_ev (Ev.pos rfl (Ev.bind h1 (lists_j0 l _ (fun h => ?_))))
  have := (h2 (by simpa using h)).1
  omega
end Go.Proofs.YtnjiniegpjfemaaDoor.Pure
