/- Choose of package apparatus exchanges the text of a row and a variant as the reference does, for any apparatus; all witnesses have the same as before, and chosen again, it is as before (what is larger than the law's own guards is left out by the law itself). -/
import Derived.Test.YtmjigfoldeekmaaVA3
import Derived.Test.YtmjigfoldeekmaaVA2
import Derived.Test.YtmjigfoldeekmaaX12
import Derived.Test.YtmjigfoldeekmaaX20
namespace Go.Proofs.Ytmjigfoldeekmaa.Pure
open Go.RowKit Go.Proofs.Ytmjigfoldeekmaa.X Go.Proofs.Ytmjigfoldeekmaa.Lem Go.Proofs.YtmjigfoldeekmaaW.PrintWords Go.Proofs.YtmjigfoldeekmaaW.PrintLast Go.Proofs.YtmjigfoldeekmaaW.PrintMore
theorem awake_ev : Ev (fun k => ancepslaw57_awake.f k) true := Ev.of (fun k => ancepslaw57_awake.mono k) (k := 60) (by kernel_rfl)
theorem same1_loop (ws : List ByteArray) (l : List S65) (i : Nat) (t : ByteArray) (v : List S67) (hv : v.length ≤ 1000000) (hi : i ≤ 1000000) (r : Bool) (hr : Ev (fun k => ancepsref57_Same.l0 k ((i : Int) + 1) ws l ws l) r) (d : Nat) : ∀ j : Nat, j + d = v.length → Ev (fun k => ancepsref57_Same.l1 k (i : Int) (j : Int) ws l ws l t v t v) r := by
  induction d with
  | zero =>
    intro j hj
    refine Ev.step (fun k => ancepsref57_Same.l1.eq_2 _ _ _ _ _ _ _ _ _ _ _) (Ev.neg (by omega) ?_)
    rw [w64 (by omega) (by omega)]
    exact hr
  | succ d ih =>
    intro j hj
    refine Ev.step (fun k => ancepsref57_Same.l1.eq_2 _ _ _ _ _ _ _ _ _ _ _) (Ev.pos (by omega) (Ev.pos (by omega) (Ev.pos (by omega) (Ev.neg (by simp) ?_))))
    rw [w64 (by omega) (by omega)]
    exact ih (j + 1) (by omega)
theorem same_loop (ws : List ByteArray) (l : List S65) (hs : SmallR l) (d : Nat) : ∀ i : Nat, i + d = l.length → Ev (fun k => ancepsref57_Same.l0 k (i : Int) ws l ws l) true := by
  have hl := hs.1
  induction d with
  | zero =>
    intro i hi
    exact Ev.step (fun k => ancepsref57_Same.l0.eq_2 _ _ _ _ _ _) (Ev.neg (by omega) (Ev.val rfl))
  | succ d ih =>
    intro i hi
    refine Ev.step (fun k => ancepsref57_Same.l0.eq_2 _ _ _ _ _ _) (Ev.pos (by omega) (Ev.pos (by omega) (Ev.pos (by omega) (Ev.pos rfl ?_))))
    refine Ev.step (fun k => ancepsref57_Same.j2.eq_2 _ _ _ _ _ _ _ _ _ _ _) (Ev.neg (by simp) ?_)
    rw [rdR]
    exact same1_loop ws l i _ _ (hs.at_ (by omega)).2.2 (by omega) true (ih (i + 1) (by omega)) _ 0 (Nat.zero_add _)
theorem same_ev (ws : List ByteArray) (l : List S65) (hwl : ws.length ≤ 1000000) (hs : SmallR l) : Ev (fun k => ancepsref57_Same.f k ws l ws l) true := by
  unfold ancepsref57_Same.f
  refine Ev.bind (equal_ev ws (by omega)) (Ev.pos rfl ?_)
  exact Ev.step (fun k => ancepsref57_Same.j0.eq_2 _ _ _ _ _ _) (Ev.neg (by simp) (same_loop ws l hs l.length 0 (by omega)))
/-- The apparatus whose row has been chosen. -/
theorem chosen_small {l : List S65} (hs : SmallR l) {a v n : Nat} (ha : a < l.length) (hv : v < (l.getD a z65).f1.length) : SmallR (l.set a (chosenR (l.getD a z65) v n)) := by
  obtain ⟨h1, h2, h3⟩ := hs.at_ ha
  refine ⟨by rw [List.length_set]; exact hs.1, fun x hx => ?_⟩
  rcases List.mem_or_eq_of_mem_set hx with hx | rfl
  · exact hs.2 x hx
  · refine ⟨h2.at_ hv, fun y hy => ?_, by show (List.set _ _ _).length ≤ _; rw [List.length_set]; exact h3⟩
    rcases List.mem_or_eq_of_mem_set hy with hy | rfl
    · exact h2 y hy
    · exact h1
theorem getD_setR (l : List S65) (a j : Nat) (x : S65) (ha : a < l.length) : (l.set a x).getD j z65 = if j = a then x else l.getD j z65 := by
  rw [List.getD_eq_getElem?_getD, List.getD_eq_getElem?_getD, List.getElem?_set]
  by_cases h : a = j
  · subst h; rw [if_pos rfl, if_pos ha, if_pos rfl]; rfl
  · rw [if_neg h, if_neg (fun e => h e.symm)]
section
variable {ws : List ByteArray} {l : List S65} {a v : Nat}
theorem chosen_app (hp : appS ws l = 0) (ha : a < l.length) (hv : v < (l.getD a z65).f1.length) : appS ws (l.set a (chosenR (l.getD a z65) v ws.length)) = 0 := by
  obtain ⟨h1, h2, h3⟩ := (appS_iff ws l).1 hp
  have hnl := namesS_len h1
  refine (appS_iff _ _).2 ⟨h1, by rw [List.length_set]; exact h2, fun j hj => ?_⟩
  rw [List.length_set] at hj
  rw [getD_setR l a j _ ha]
  by_cases e : j = a
  · rw [if_pos e]
    exact chosen_row (by omega) (h3 a ha) hv
  · rw [if_neg e]
    exact h3 j hj
theorem chosen_texts (hp : appS ws l = 0) (ha : a < l.length) (hv : v < (l.getD a z65).f1.length) {w : Nat} (hw : w < ws.length) : textsS (w : Int) (l.set a (chosenR (l.getD a z65) v ws.length)) = textsS (w : Int) l := by
  obtain ⟨h1, h2, h3⟩ := (appS_iff ws l).1 hp
  have hnl := namesS_len h1
  unfold textsS
  rw [List.map_set]
  have e : hasS (chosenR (l.getD a z65) v ws.length) (w : Int) = hasS (l.getD a z65) (w : Int) := chosen_has (by omega) (h3 a ha) hv hw
  rw [e]
  have hal : a < (l.map (fun r => hasS r (w : Int))).length := by rw [List.length_map]; exact ha
  have e2 : hasS (l.getD a z65) (w : Int) = (l.map (fun r => hasS r (w : Int)))[a] := by rw [List.getElem_map, getD_lt l _ ha]
  rw [e2, List.set_getElem_self]
theorem chosen_back (hp : appS ws l = 0) (ha : a < l.length) (hv : v < (l.getD a z65).f1.length) : (l.set a (chosenR (l.getD a z65) v ws.length)).set a (chosenR (chosenR (l.getD a z65) v ws.length) v ws.length) = l := by
  obtain ⟨h1, h2, h3⟩ := (appS_iff ws l).1 hp
  have hnl := namesS_len h1
  have h := chosen_again (by omega) (h3 a ha) hv
  have e : chosenR (chosenR (l.getD a z65) v ws.length) v ws.length = l.getD a z65 := h
  rw [List.set_set, e, getD_lt l _ ha, List.set_getElem_self]
end
theorem l0_loop (ws : List ByteArray) (l : List S65) (a v : Nat) (hw : Small ws) (hwl : ws.length ≤ 1000000) (hs : SmallR l) (hp : appS ws l = 0) (ha : a < l.length) (hv : v < (l.getD a z65).f1.length) (b : List S65) (hb : b = l.set a (chosenR (l.getD a z65) v ws.length)) (d : Nat) :
    ∀ i : Nat, i + d = ws.length → Ev (fun k => ancepslaw57_ApparatusChoose.l0 k (a : Int) (v : Int) ws (ws.length : Int) (i : Int) ws l ws b) true := by
  have hsb : SmallR b := by rw [hb]; exact chosen_small hs ha hv
  have hpb : appS ws b = 0 := by rw [hb]; exact chosen_app hp ha hv
  have hn := (appS_ok hp).1
  have hl := hs.1
  induction d with
  | zero =>
    intro i hi
    refine Ev.step (fun k => ancepslaw57_ApparatusChoose.l0.eq_2 _ _ _ _ _ _ _ _ _ _) (Ev.neg (by omega) ?_)
    have hc := ch_ev ws b (a : Int) (v : Int) hw hwl hsb
    have hba : b.getD a z65 = chosenR (l.getD a z65) v ws.length := by rw [hb, getD_setR l a a _ ha, if_pos rfl]
    have hbl : b.length = l.length := by rw [hb, List.length_set]
    have hvl : (chosenR (l.getD a z65) v ws.length).f1.length = (l.getD a z65).f1.length := List.length_set
    unfold chooseS at hc
    rw [if_pos hpb, Int.toNat_natCast, Int.toNat_natCast, hba, hvl, if_pos ⟨by omega, by omega, by omega, by omega⟩, hb, chosen_back hp ha hv, ← hb] at hc
    exact Ev.bind hc (Ev.pos rfl (Ev.bind (same_ev ws l hwl hs) (Ev.val rfl)))
  | succ d ih =>
    intro i hi
    refine Ev.step (fun k => ancepslaw57_ApparatusChoose.l0.eq_2 _ _ _ _ _ _ _ _ _ _) (Ev.pos (by omega) (Ev.pos (by omega) (Ev.pos (by omega) ?_)))
    rw [rdOf_getD, w64 (by omega) (by omega)]
    have h1 := of_ev ws b (ws.getD i ByteArray.empty) hw hwl hsb
    have h2 := rof_ev ws l (ws.getD i ByteArray.empty) hw hwl hs
    unfold ofS at h1 h2
    rw [if_pos hpb, idxF_name hn (by omega), if_neg (by omega), hb, chosen_texts hp ha hv (by omega), ← hb] at h1
    rw [if_pos hp, idxF_name hn (by omega), if_neg (by omega)] at h2
    refine Ev.bind h1 (Ev.bind h2 (Ev.pos rfl (Ev.bind (equal_ev _ ?_) (Ev.pos rfl (ih (i + 1) (by omega))))))
    show (textsS (i : Int) l).length ≤ 1000000000
    unfold textsS
    rw [List.length_map]
    omega
theorem ApparatusChoose : ancepslaw57_ApparatusChoose.Pure := by
  intro ws l a1 a2 h0 h1 h2 h3 h4 h5 _ _
  refine Ev.rounds (g := fun k => ancepslaw57_ApparatusChoose.f k ws l a1 a2) ?_
  have hw : Small ws := fun z hz => by have := h2 z hz; omega
  have hb : BigR l := ⟨by omega, fun z hz => by
    have hz1 := h5 z hz
    exact ⟨by have := hz1.1; omega, fun v hv => by have := hz1.2.2.2 v hv; omega, by have := hz1.2.2.1; omega⟩⟩
  obtain ⟨b, hf, hb2⟩ := few_ev ws l hw (by omega) hb
  have hj : Ev (fun k => ancepslaw57_ApparatusChoose.j0 k a1 a2 true ws l) true := Ev.step (fun k => ancepslaw57_ApparatusChoose.j0.eq_2 _ _ _ _ _ _) (Ev.pos rfl (Ev.bind awake_ev (Ev.val rfl)))
  unfold ancepslaw57_ApparatusChoose.f
  refine Ev.bind awake_ev (Ev.pos rfl (Ev.bind hf ?_))
  cases b with
  | false => exact hj
  | true =>
    obtain ⟨e1, e2, hs⟩ := hb2 rfl
    have hwl : ws.length ≤ 1000000 := by omega
    have hown : ancepslaw57_own.f ws l = some (ws, l) := by
      unfold ancepslaw57_own.f
      rw [if_pos ⟨hwl, hs.1, List.all_eq_true.2 fun x hx => decide_eq_true (hs.2 x hx).2.2⟩]
    refine Ev.step (fun k => ancepslaw57_ApparatusChoose.j0.eq_2 _ _ _ _ _ _) (Ev.neg Bool.false_ne_true (Ev.bind (Ev.now' hown) (Ev.bind (ch_ev ws l a1 a2 hw hwl hs) (Ev.bind (rch_ev ws l a1 a2 hw hwl hs) (Ev.pos rfl ?_)))))
    have herr : ∀ e : Int, e ≠ 0 → Ev (fun k => (ancepsref57_Same.f k ([] : List ByteArray) ([] : List S65) [] []).bind fun t362 => if t362 = true then ancepslaw57_ApparatusChoose.j1 k a1 a2 e e (e != 0) ws l [] [] [] [] else ancepslaw57_ApparatusChoose.j1 k a1 a2 e e true ws l [] [] [] []) true := by
      intro e he
      have hse := same_ev [] [] (by decide) ⟨by decide, fun x hx => by cases hx⟩
      refine Ev.bind hse (Ev.pos rfl ?_)
      exact Ev.step (fun k => ancepslaw57_ApparatusChoose.j1.eq_2 _ _ _ _ _ _ _ _ _ _ _ _) (Ev.pos (bne_iff_ne.2 he) (Ev.pos rfl (Ev.bind hse (Ev.val rfl))))
    unfold chooseS
    by_cases hp : appS ws l = 0
    · rw [if_pos hp]
      by_cases hc : 0 ≤ a1 ∧ a1 < (l.length : Int) ∧ 0 ≤ a2 ∧ a2 < ((l.getD a1.toNat z65).f1.length : Int)
      · rw [if_pos hc]
        obtain ⟨c1, c2, c3, c4⟩ := hc
        have ha : a1.toNat < l.length := by omega
        have hv : a2.toNat < (l.getD a1.toNat z65).f1.length := by omega
        have q1 : a1 = ((a1.toNat : Nat) : Int) := by omega
        have q2 : a2 = ((a2.toNat : Nat) : Int) := by omega
        refine Ev.bind (same_ev ws _ hwl (chosen_small hs ha hv)) (Ev.pos rfl ?_)
        refine Ev.step (fun k => ancepslaw57_ApparatusChoose.j1.eq_2 _ _ _ _ _ _ _ _ _ _ _ _) (Ev.neg (show ¬ ((0 : Int) != 0) = true by decide) ?_)
        have := l0_loop ws l a1.toNat a2.toNat hw hwl hs hp ha hv _ rfl ws.length 0 (by omega)
        rw [← q1, ← q2] at this
        exact this
      · rw [if_neg hc]
        exact herr 6 (by decide)
    · rw [if_neg hp]
      exact herr _ hp
end Go.Proofs.Ytmjigfoldeekmaa.Pure
