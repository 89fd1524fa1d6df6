/- Join of package text puts any words together (up to 60 of together 500 bytes, by the law's own guard), or gives the error, as the reference's Join does; Words finds them again. -/
import Derived.Test.YteokimhjojppcaaLemJ
import Derived.Test.YteokimhjojppcaaX16
namespace Go.Proofs.Yteokimhjojppcaa.Pure
open Go.RowKit Go.Proofs.Yteokimhjojppcaa.X Go.Proofs.Yteokimhjojppcaa.Lem Go.Proofs.YteokimhjojppcaaW.PrintWords Go.Proofs.YteokimhjojppcaaW.PrintLast
theorem found_loop (ws : List ByteArray) (hl : ws.length ≤ 60) (s : ByteArray) (hs : bytesOf s = joinW ws) (d : Nat) : ∀ i : Nat, i + d = ws.length → Ev (fun k => ancepslaw01_TextJoin.l0 k ws s (places 0 ws) ((places 0 ws).length : Int) (i : Int)) true := by
  have hpl := places_len ws 0
  induction d with
  | zero => intro i hi; exact Ev.step (fun k => ancepslaw01_TextJoin.l0.eq_2 _ _ _ _ _ _) (Ev.neg (by omega) (Ev.now _))
  | succ d ih =>
    intro i hi
    have hlt : i < (places 0 ws).length := by omega
    have hrd : rd_T31 (places 0 ws) (i : Int) = (places 0 ws)[i] := by unfold rd_T31; rw [Int.toNat_natCast, List.getD_eq_getElem?_getD, List.getElem?_eq_getElem hlt]; rfl
    have hp := places_at (joinW ws) ws 0 (Nat.zero_le _) (List.drop_zero ..) i _ ws[i] (List.getElem?_eq_getElem hlt) (List.getElem?_eq_getElem (by omega))
    have hsz : (joinW ws).length = s.size := by rw [← hs, bytesOf_length]
    rw [hsz] at hp
    obtain ⟨h1, h2, h3, h4⟩ := hp
    refine Ev.step (fun k => ancepslaw01_TextJoin.l0.eq_2 _ _ _ _ _ _) (Ev.pos (by omega) (Ev.pos (by omega) (Ev.pos (by omega) ?_)))
    rw [hrd, rdOf_at ws i (by omega), w64 (by omega) (by omega)]
    refine Ev.neg (by omega) (Ev.neg (by omega) (Ev.neg (by omega) (Ev.pos h1 (Ev.pos h2 (Ev.pos h3 (Ev.pos (by omega) (Ev.pos ?_ (ih (i + 1) (by omega)))))))))
    congr 1
    apply bytes_inj
    rw [← h4, ← hs]
    unfold bytesOf
    rw [ByteArray.data_extract, Array.toList_extract, List.map_take, List.map_drop, List.drop_take]
theorem join_j0 (ws : List ByteArray) (b : Bool) (hb : b = false → ws.length ≤ 60 ∧ sumW ws ≤ 500) : Ev (fun k => ancepslaw01_TextJoin.j0 k ws b) true := by
  refine Ev.step (fun k => ancepslaw01_TextJoin.j0.eq_2 _ _ _) (Ev.condJ (fun h => Ev.bind awake_ev (Ev.now _)) (fun h => ?_))
  obtain ⟨h1, h2⟩ := hb (by simpa using h)
  refine Ev.bind (a := ws) (Ev.now' ?_) (Ev.bind (join_ev ws (by omega) (by omega)) (Ev.bind (rjoin_ev ws (by omega) (by omega)) (Ev.pos rfl (Ev.pos rfl ?_))))
  · unfold slices_Clone_string_string.f
    rw [Option.bind_some, if_pos (by simp; omega)]; rfl
  have bad : (joinS ws).2 ≠ 0 → Ev (fun k => ancepslaw01_TextJoin.j1 k ws (joinS ws).1 (joinS ws).2 (joinS ws).1 (joinS ws).2 ((joinS ws).2 != 0)) true := fun h => by
    rw [show ((joinS ws).2 != 0) = true by simpa using h]
    exact Ev.step (fun k => ancepslaw01_TextJoin.j1.eq_2 _ _ _ _ _ _ _) (Ev.pos rfl (Ev.pos rfl (Ev.val (by simp))))
  by_cases hc : chk ws = 0
  · by_cases hz : (joinW ws).length > 120
    · exact bad (by unfold joinS; rw [if_pos hc, if_pos hz]; decide)
    · have hj : joinS ws = (strOfNums (joinW ws), 0) := by unfold joinS; rw [if_pos hc, if_neg hz]
      have hbs := bytesOf_str _ (joinW_range ws)
      have hsize : (strOfNums (joinW ws)).size = (joinW ws).length := strOfNums_size _
      have hv : validS (strOfNums (joinW ws)) = 0 := by
        unfold validS
        rw [hbs, joinW_ok ws (chk_good ws hc), hsize, if_neg (by omega)]; rfl
      have hw : wordsS (strOfNums (joinW ws)) = (places 0 ws, 0) := by
        unfold wordsS
        rw [if_pos hv, hbs, hsize, spans_join (joinW ws) ws 0 (Nat.zero_le _) (List.drop_zero ..) (chk_good ws hc) (fun e => absurd e.1 (by decide))]
        rfl
      rw [hj]
      refine Ev.step (fun k => ancepslaw01_TextJoin.j1.eq_2 _ _ _ _ _ _ _) (Ev.neg (show ¬ ((0 : Int) != 0) = true by decide) (Ev.bind (words_ev (strOfNums (joinW ws)) (by omega)) ?_))
      rw [hw]
      refine Ev.pos rfl ?_
      rw [show ((((places 0 ws, (0 : Int)).1.length : Nat) : Int) != (ws.length : Int)) = false by simp only [places_len]; simp]
      exact Ev.step (fun k => ancepslaw01_TextJoin.j2.eq_2 _ _ _ _ _) (Ev.neg (by decide) (found_loop ws h1 _ hbs ws.length 0 (by omega)))
  · exact bad (by unfold joinS; rw [if_neg hc]; exact hc)
theorem TextJoin : ancepslaw01_TextJoin.Pure := by
  intro ws _ _ hs
  refine Ev.rounds ?_
  unfold ancepslaw01_TextJoin.f
  refine Ev.bind awake_ev (Ev.pos rfl (Ev.condJ (fun h => join_j0 ws true (fun h => by simp at h)) (fun h => ?_)))
  obtain ⟨t, ht, hh⟩ := sum_ev ws (by omega) hs
  refine Ev.bind ht (join_j0 ws _ (fun h3 => ?_))
  rw [decide_eq_false_iff_not] at h3
  exact ⟨by omega, hh (by omega)⟩
end Go.Proofs.Yteokimhjojppcaa.Pure
