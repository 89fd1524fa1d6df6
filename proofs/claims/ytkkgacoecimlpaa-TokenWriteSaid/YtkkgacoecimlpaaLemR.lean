/- Plain lemmas over the printed functions of chapter 5: the reference's Write. -/
import Derived.Test.YtkkgacoecimlpaaLemQ
import Derived.Test.YtkkgacoecimlpaaX23
namespace Go.Proofs.Ytkkgacoecimlpaa.Lem
open Go.RowKit Go.Proofs.Ytkkgacoecimlpaa.X Go.Proofs.YtkkgacoecimlpaaW.PrintWords Go.Proofs.YtkkgacoecimlpaaW.PrintLast
theorem right_ev (t : S31) (hs : t.f1.size ≤ 1000000000) : Ev (fun k => ancepsref05_Right.f k t.f0 t.f1 t.f2) (rightT t) := by
  unfold ancepsref05_Right.f rightT
  refine Ev.cond (fun h1 => ?_) (fun h1 => Ev.cond (fun h2 => ?_) (fun h2 => Ev.cond (fun h3 => ?_) (fun h3 => Ev.cond (fun h4 => ?_) (fun h4 => ?_))))
  · rw [if_pos h1]; exact Ev.bind (risName_ev _ (by omega)) (Ev.now _)
  · rw [if_neg h1, if_pos h2]; exact Ev.bind (rnumber_ev _ (by omega)) (Ev.val (numS_ok _))
  · rw [if_neg h1, if_neg h2, if_pos h3]
    refine Ev.bind (rquote_ev _ (by omega)) (Ev.val ?_)
    have := fits_right (s := t.f1) 0
    rw [show rightT ⟨3, t.f1, 0⟩ = (decide (t.f1.size ≤ 60) && (bytesOf t.f1).all inside) from rfl] at this
    rw [this]
    unfold quoteS
    by_cases hf : fitsS t.f1 = 0
    · rw [if_pos hf, hf]
    · rw [if_neg hf]
  · rw [if_neg h1, if_neg h2, if_neg h3, if_pos h4]
    refine Ev.cond (fun h5 => Ev.pos (by omega) ?_) (fun h5 => Ev.val ?_)
    · rw [decide_eq_true (by omega : t.f1.size = 1), Bool.true_and]
      have hc : bytesOf t.f1 = [bt t.f1 0] := by rw [cons_of (by omega : 0 < t.f1.size), drop_ge _ _ (by omega)]
      exact Ev.bind (rsign_ev (bytesOf_range t.f1 (bt t.f1 0) (by rw [hc]; exact List.mem_cons_self))) (Ev.now _)
    · rw [decide_eq_false (by omega), Bool.false_and]
  · rw [if_neg h1, if_neg h2, if_neg h3, if_neg h4]; exact Ev.now _
theorem str_app (l m : List Int) : strOfNums l ++ strOfNums m = strOfNums (l ++ m) := by
  apply ByteArray.ext
  rw [ByteArray.data_append]
  apply Array.toList_inj.1
  rw [Array.toList_append, strOfNums_data, strOfNums_data, strOfNums_data, List.map_append]
theorem join_snoc : ∀ (ts : List S31) (t : S31), joinL (ts ++ [t]) = (if ts = [] then [] else joinL ts ++ [32]) ++ wrL t
  | [], t => rfl
  | [u], t => by rw [List.cons_append, List.nil_append, joinL, joinL, joinL, if_neg (by simp)]; simp
  | u :: v :: r, t => by
    have := join_snoc (v :: r) t
    rw [if_neg (by simp)] at this
    rw [List.cons_append, List.cons_append, joinL, ← List.cons_append, this, if_neg (by simp), joinL]
    simp
theorem join_mono : ∀ (ts : List S31) (i : Nat), (joinL (ts.take i)).length ≤ (joinL ts).length
  | [], i => by rw [List.take_nil]; exact Nat.le_refl _
  | [t], 0 => by rw [List.take_zero]; exact Nat.zero_le _
  | [t], i + 1 => by rw [List.take_succ_cons, List.take_nil]; exact Nat.le_refl _
  | t :: u :: r, 0 => by rw [List.take_zero]; exact Nat.zero_le _
  | t :: u :: r, 1 => by rw [List.take_succ_cons, List.take_zero, joinL, joinL, List.length_append]; omega
  | t :: u :: r, i + 2 => by
    have := join_mono (u :: r) (i + 1)
    rw [List.take_succ_cons] at this
    rw [List.take_succ_cons, List.take_succ_cons, joinL, joinL, List.length_append, List.length_append, List.length_cons, List.length_cons]; omega
def rwriteS (ts : List S31) : ByteArray × Int := if ts.all rightT then (if (joinL ts).length > 20000 then (⟨#[]⟩, 3) else (strOfNums (joinL ts), 0)) else (⟨#[]⟩, 1)
theorem rwrite_l1 (ts : List S31) (h1 : ts.length ≤ 1000000000) (h2 : (joinL ts).length ≤ 20000) (d : Nat) : ∀ i : Nat, i + d = ts.length → Ev (fun k => ancepsref05_Write.l1 k ts (strOfNums (joinL (ts.take i))) (i : Int)) (strOfNums (joinL ts), 0) := by
  induction d with
  | zero =>
    intro i hi
    rw [List.take_of_length_le (by omega)]
    refine Ev.step (fun k => ancepsref05_Write.l1.eq_2 _ _ _ _) (Ev.neg (by omega) (Ev.step (fun k => ancepsref05_Write.j2.eq_2 _ _ _ _ _) (Ev.neg (by decide) (Ev.neg ?_ (Ev.now _)))))
    rw [strOfNums_size]; omega
  | succ d ih =>
    intro i hi
    have hlt : i < ts.length := by omega
    have hm := join_mono ts i
    have hm1 := join_mono ts (i + 1)
    have hsz : (strOfNums (joinL (ts.take i))).size = (joinL (ts.take i)).length := strOfNums_size _
    rw [List.take_succ_eq_append_getElem hlt, join_snoc, List.length_append] at hm1
    have hnext := ih (i + 1) (by omega)
    rw [List.take_succ_eq_append_getElem hlt, join_snoc] at hnext
    have hq : (⟨#[34]⟩ : ByteArray) = strOfNums [34] := rfl
    have hsp : (⟨#[32]⟩ : ByteArray) = strOfNums [32] := rfl
    refine Ev.step (fun k => ancepsref05_Write.l1.eq_2 _ _ _ _) (Ev.pos (by omega) ?_)
    rw [decide_eq_true (by rw [hsz]; omega : ((strOfNums (joinL (ts.take i))).size : Int) ≤ 20000)]
    refine Ev.step (fun k => ancepsref05_Write.j2.eq_2 _ _ _ _ _) (Ev.pos rfl ?_)
    rw [rd_T31_nat, getD_lt _ _ hlt, w64 (by omega) (by omega)]
    have hfs : ((ts[i]).f1).size = (bytesOf (ts[i]).f1).length := (bytesOf_length _).symm
    have hfl : strOfNums (bytesOf (ts[i]).f1) = (ts[i]).f1 := str_bytes _
    refine Ev.cond (fun h => ?_) (fun h => ?_)
    · rw [if_neg (by intro e; have := congrArg List.length e; rw [List.length_take, List.length_nil] at this; omega), List.length_append, List.length_singleton] at hm1
      rw [if_neg (by intro e; have := congrArg List.length e; rw [List.length_take, List.length_nil] at this; omega)] at hnext
      refine Ev.pos (by rw [hsz]; omega) (Ev.pos (by omega) (Ev.pos (by omega) (Ev.cond (fun h3 => ?_) (fun h3 => ?_))))
      · have hw : wrL ts[i] = 34 :: (bytesOf (ts[i]).f1 ++ [34]) := by unfold wrL; rw [if_pos h3]
        rw [hw, List.length_cons, List.length_append, List.length_singleton] at hm1
        rw [hw] at hnext
        rw [hq, hsp, ← hfl, str_app, str_app, str_app, str_app, strOfNums_size, strOfNums_size, strOfNums_size, strOfNums_size]
        simp only [List.length_append, List.length_singleton]
        refine Ev.pos (by omega) (Ev.pos (by omega) (Ev.pos (by omega) ?_))
        simp only [List.append_assoc, List.cons_append, List.nil_append] at hnext ⊢
        exact hnext
      · have hw : wrL ts[i] = bytesOf (ts[i]).f1 := by unfold wrL; rw [if_neg h3]
        rw [hw] at hm1 hnext
        rw [hsp, ← hfl, str_app, str_app, strOfNums_size, strOfNums_size]
        simp only [List.length_append, List.length_singleton]
        exact Ev.pos (by omega) hnext
    · have hz : i = 0 := by omega
      subst hz
      rw [List.take_zero, if_pos rfl, List.nil_append] at hnext
      rw [List.take_zero, if_pos rfl, List.length_nil] at hm1
      refine Ev.pos (by omega) (Ev.pos (by omega) (Ev.cond (fun h3 => ?_) (fun h3 => ?_)))
      · have hw : wrL ts[0] = (34 : Int) :: (bytesOf (ts[0]).f1 ++ [34]) := by unfold wrL; rw [if_pos h3]
        rw [hw, List.length_cons, List.length_append, List.length_singleton] at hm1
        rw [hw] at hnext
        rw [hq, ← hfl, List.take_zero, joinL, str_app, str_app, str_app, strOfNums_size, strOfNums_size, strOfNums_size, strOfNums_size]
        simp only [List.length_append, List.length_singleton, List.length_nil]
        refine Ev.pos (by omega) (Ev.pos (by omega) (Ev.pos (by omega) ?_))
        simp only [List.cons_append, List.nil_append] at hnext ⊢
        exact hnext
      · have hw : wrL ts[0] = bytesOf (ts[0]).f1 := by unfold wrL; rw [if_neg h3]
        rw [hw] at hm1 hnext
        rw [← hfl, List.take_zero, joinL, str_app, strOfNums_size, strOfNums_size, List.nil_append]
        simp only [List.length_nil]
        exact Ev.pos (by omega) hnext
theorem rwrite_l0 (ts : List S31) (h1 : ts.length ≤ 1000000000) (h2 : ts.all rightT = true → (joinL ts).length ≤ 20000) (h3 : ∀ t ∈ ts, t.f1.size ≤ 1000000000) (d : Nat) : ∀ i : Nat, i + d = ts.length → (ts.take i).all rightT = true → Ev (fun k => ancepsref05_Write.l0 k ts (i : Int)) (rwriteS ts) := by
  induction d with
  | zero =>
    intro i hi ha
    rw [List.take_of_length_le (by omega)] at ha
    refine Ev.step (fun k => ancepsref05_Write.l0.eq_2 _ _ _) (Ev.neg (by omega) ?_)
    unfold rwriteS
    rw [if_pos ha, if_neg (by have := h2 ha; omega)]
    exact rwrite_l1 ts h1 (h2 ha) ts.length 0 (by omega)
  | succ d ih =>
    intro i hi ha
    have hlt : i < ts.length := by omega
    refine Ev.step (fun k => ancepsref05_Write.l0.eq_2 _ _ _) (Ev.pos (by omega) (Ev.pos (by omega) ?_))
    rw [rd_T31_nat, getD_lt _ _ hlt]
    refine Ev.bind (right_ev _ (h3 _ (List.getElem_mem hlt))) (Ev.cond (fun h => ?_) (fun h => Ev.val ?_))
    · rw [w64 (by omega) (by omega)]
      exact ih (i + 1) (by omega) (by rw [List.take_succ_eq_append_getElem hlt, List.all_append, ha, List.all_cons, h]; rfl)
    · unfold rwriteS
      rw [if_neg]
      intro hall
      exact h (List.all_eq_true.1 hall _ (List.getElem_mem hlt))
theorem rwrite_ev (ts : List S31) (h1 : ts.length ≤ 1000000000) (h2 : ts.all rightT = true → (joinL ts).length ≤ 20000) (h3 : ∀ t ∈ ts, t.f1.size ≤ 1000000000) : Ev (fun k => ancepsref05_Write.f k ts) (rwriteS ts) := by
  unfold ancepsref05_Write.f
  exact rwrite_l0 ts h1 h2 h3 ts.length 0 (by omega) rfl
end Go.Proofs.Ytkkgacoecimlpaa.Lem
