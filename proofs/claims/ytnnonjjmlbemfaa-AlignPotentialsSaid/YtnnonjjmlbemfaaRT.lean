/- The reference's table and Best in plain words: the same table, the same alignment. -/
import Derived.Test.YtnnonjjmlbemfaaR1
import Derived.Test.YtnnonjjmlbemfaaA0
import Derived.Test.YtnnonjjmlbemfaaX16
set_option linter.unusedVariables false
namespace Go.Proofs.Ytnnonjjmlbemfaa.Lem
open Go.RowKit Go.Proofs.Ytnnonjjmlbemfaa.X Go.Proofs.Ytnnonjjmlbemfaa.Al Go.Proofs.YtnnonjjmlbemfaaW.PrintWords Go.Proofs.YtnnonjjmlbemfaaW.PrintLast
theorem cl_set {g : List (List Int)} {i j : Nat} {v : Int} (hi : i < g.length) (hj : j < (g.getD i []).length) :
    (∀ i' j', cl (g.set i ((g.getD i []).set j v)) i' j' = if i' = i ∧ j' = j then v else cl g i' j') ∧ ∀ i', ((g.set i ((g.getD i []).set j v)).getD i' []).length = (g.getD i' []).length := by
  refine ⟨fun i' j' => ?_, fun i' => ?_⟩
  · unfold cl
    rw [getD_set _ _ _ _ _ hi]
    by_cases e : i' = i
    · subst e
      rw [if_pos rfl, getD_set _ _ _ _ _ hj]
      by_cases e2 : j' = j
      · rw [if_pos e2, if_pos ⟨rfl, e2⟩]
      · rw [if_neg e2, if_neg (fun x => e2 x.2)]
    · rw [if_neg e, if_neg (fun x => e x.1)]
  · rw [getD_set _ _ _ _ _ hi]
    by_cases e : i' = i
    · rw [if_pos e, List.length_set, e]
    · rw [if_neg e]
structure Kt (p q : ByteArray) (g : List (List Int)) (i j : Nat) : Prop where
  len : g.length = p.size + 1
  row : ∀ i', i ≤ i' → i' ≤ p.size → (g.getD i' []).length = q.size + 1
  z : i = p.size → cl g p.size q.size = 0
  lo : ∀ i' j', i < i' → i' ≤ p.size → j' ≤ q.size → cl g i' j' = D ((bytesOf p).drop i') ((bytesOf q).drop j')
  at_ : ∀ j', j ≤ j' → j' ≤ q.size → cl g i j' = D ((bytesOf p).drop i) ((bytesOf q).drop j')
theorem Kt.set {p q : ByteArray} {g : List (List Int)} {i j : Nat} (h : Kt p q g i (j + 1)) (hi : i ≤ p.size) (hj : j ≤ q.size) (hne : ¬ (i = p.size ∧ j = q.size)) (v : Int) :
    Kt p q (g.set i ((g.getD i []).set j v)) i (j + 1) ∧ cl (g.set i ((g.getD i []).set j v)) i j = v := by
  obtain ⟨s1, s2⟩ := cl_set (g := g) (i := i) (j := j) (v := v) (by rw [h.len]; omega) (by rw [h.row i (Nat.le_refl _) hi]; omega)
  refine ⟨⟨by rw [List.length_set]; exact h.len, fun i' a b => by rw [s2]; exact h.row i' a b, fun e => ?_, fun i' j' a b c => ?_, fun j' a b => ?_⟩, by rw [s1, if_pos ⟨rfl, rfl⟩]⟩
  · rw [s1, if_neg (fun x => hne ⟨e, x.2.symm⟩)]; exact h.z e
  · rw [s1, if_neg (by omega)]; exact h.lo i' j' a b c
  · rw [s1, if_neg (by omega)]; exact h.at_ j' a b
theorem table2 {p q : ByteArray} (G : Gv p q) {i j : Nat} (hi : i ≤ p.size) (hj : j ≤ q.size) (hne : ¬ (i = p.size ∧ j = q.size)) {r : List (List Int)}
    (ih : ∀ g, Kt p q g i j → Ev (fun k => ancepsref45_table.l1 k p q (i : Int) ((j : Int) - 1) g) r) (d : Nat) :
    ∀ (s : Nat) (g : List (List Int)), s + d = 5 → Kt p q g i (j + 1) → D ((bytesOf p).drop i) ((bytesOf q).drop j) ≤ cl g i j → cl g i j ≤ 1000000 →
      (∀ s', 0 ≤ s' → s' < (s : Int) → ∀ P' Q' c, st s' ((bytesOf p).drop i) ((bytesOf q).drop j) = some (P', Q', c) → cl g i j ≤ c + D P' Q') →
      Ev (fun k => ancepsref45_table.l2 k p q g (i : Int) (j : Int) (s : Int)) r := by
  have hp := G.hp
  have hq := G.hq
  have hnil : ¬ ((bytesOf p).drop i = [] ∧ (bytesOf q).drop j = []) := fun x => hne ⟨(drop_nil hi).1 x.1, (drop_nil hj).1 x.2⟩
  induction d with
  | zero =>
    intro s g hs hK h1 h2 h3
    obtain rfl : s = 5 := by omega
    refine Ev.step (fun k => ancepsref45_table.l2.eq_2 _ _ _ _ _ _ _) (Ev.neg (by decide) ?_)
    rw [w64 (by omega) (by omega)]
    have hv := D_of hnil h1 h3
    refine ih g ⟨hK.len, hK.row, hK.z, hK.lo, fun j' a b => ?_⟩
    by_cases e : j' = j
    · rw [e]; exact hv
    · exact hK.at_ j' (by omega) b
  | succ d ihd =>
    intro s g hs hK b1 b2 b3
    refine Ev.step (fun k => ancepsref45_table.l2.eq_2 _ _ _ _ _ _ _) (Ev.pos (by omega) ?_)
    rcases rstep_ev G hi hj (s : Int) with ⟨i', j', c, h1, h2, h3, h4, h5, h6, h7⟩ | ⟨h1, x, y, z, h2⟩
    · have hc := st_cost h6
      have hv : cl g i' j' = D ((bytesOf p).drop i') ((bytesOf q).drop j') := by
        by_cases e : i' = i
        · subst e; exact hK.at_ j' (by omega) h4
        · exact hK.lo i' j' (by omega) h3 h4
      have hD := D_small G i' j'
      have hD0 := D_small G i j
      have hst := D_step h6
      refine Ev.bind h7 (Ev.pos rfl (Ev.pos (by omega) (Ev.pos (by have := hK.len; omega) (Ev.pos (by omega) (Ev.pos (by rw [row_cl]; have := hK.row i (Nat.le_refl _) hi; omega)
        (Ev.pos (by show (0 : Int) ≤ (i' : Int); omega) (Ev.pos (by show (i' : Int) < _; have := hK.len; omega) (Ev.pos (by show (0 : Int) ≤ (j' : Int); omega) (Ev.pos (by show (j' : Int) < ((rd_L2 g (i' : Int)).length : Int); rw [row_cl]; have := hK.row i' h1 h3; omega) ?_)))))))))
      show Ev (fun k => ancepsref45_table.l2 k p q (g.set ((i : Int)).toNat ((rd_L2 g (i : Int)).set ((j : Int)).toNat (mn (rd (rd_L2 g (i : Int)) (j : Int)) (wrap64 (c + rd (rd_L2 g (i' : Int)) (j' : Int)))))) (i : Int) (j : Int) (wrap64 ((s : Int) + 1))) r
      rw [rd_cl, rd_cl, hv, w64 (i := c + _) (by omega) (by omega), w64 (i := (s : Int) + 1) (by omega) (by omega), Int.toNat_natCast, Int.toNat_natCast, row_cl]
      have hm : mn (cl g i j) (c + D ((bytesOf p).drop i') ((bytesOf q).drop j')) ≤ cl g i j ∧ mn (cl g i j) (c + D ((bytesOf p).drop i') ((bytesOf q).drop j')) ≤ c + D ((bytesOf p).drop i') ((bytesOf q).drop j') ∧ D ((bytesOf p).drop i) ((bytesOf q).drop j) ≤ mn (cl g i j) (c + D ((bytesOf p).drop i') ((bytesOf q).drop j')) := by
        unfold mn; omega
      generalize mn (cl g i j) (c + D ((bytesOf p).drop i') ((bytesOf q).drop j')) = v at hm
      obtain ⟨k1, k2⟩ := hK.set hi hj hne v
      refine ihd (s + 1) _ (by omega) k1 (by rw [k2]; exact hm.2.2) (by rw [k2]; omega) (fun s' a b P' Q' c' e => ?_)
      rw [k2]
      by_cases es : s' = s
      · subst es; rw [h6] at e; cases e; exact hm.2.1
      · have := b3 s' a (by omega) P' Q' c' e
        omega
    · refine Ev.bind h2 (Ev.neg Bool.false_ne_true ?_)
      rw [w64 (by omega) (by omega)]
      refine ihd (s + 1) g (by omega) hK b1 b2 (fun s' a b P' Q' c' e => ?_)
      by_cases es : s' = s
      · subst es; rw [h1] at e; cases e
      · exact b3 s' a (by omega) P' Q' c' e
theorem table1 {p q : ByteArray} (G : Gv p q) {i : Nat} (hi : i ≤ p.size) {r : List (List Int)} (ih : ∀ g, Kt p q g i 0 → Ev (fun k => ancepsref45_table.l0 k p q ((i : Int) - 1) g) r) (e : Nat) :
    ∀ g, e ≤ q.size + 1 → Kt p q g i e → Ev (fun k => ancepsref45_table.l1 k p q (i : Int) ((e : Int) - 1) g) r := by
  have hp := G.hp
  have hq := G.hq
  induction e with
  | zero =>
    intro g he hK
    refine Ev.step (fun k => ancepsref45_table.l1.eq_2 _ _ _ _ _ _) (Ev.neg (by omega) ?_)
    rw [w64 (by omega) (by omega)]
    exact ih g hK
  | succ j ihj =>
    intro g he hK
    refine Ev.step (fun k => ancepsref45_table.l1.eq_2 _ _ _ _ _ _) (Ev.pos (by omega) ?_)
    rw [show ((j + 1 : Nat) : Int) - 1 = (j : Int) by omega]
    by_cases hl : i = p.size ∧ j = q.size
    · obtain ⟨rfl, rfl⟩ := hl
      refine Ev.pos rfl ?_
      rw [show ((q.size : Int) == (q.size : Int)) = true by simp]
      refine Ev.step (fun k => ancepsref45_table.j2.eq_2 _ _ _ _ _ _ _) (Ev.pos rfl ?_)
      rw [w64 (by omega) (by omega)]
      refine ihj g (by omega) ⟨hK.len, hK.row, hK.z, hK.lo, fun j' a b => ?_⟩
      by_cases e : j' = q.size
      · subst e
        rw [hK.z rfl, (drop_nil (Nat.le_refl _)).2 rfl, (drop_nil (Nat.le_refl _)).2 rfl]; exact D_nil.symm
      · exact hK.at_ j' (by omega) b
    · have go : Ev (fun k => ancepsref45_table.j2 k p q g (i : Int) (j : Int) false) r := by
        refine Ev.step (fun k => ancepsref45_table.j2.eq_2 _ _ _ _ _ _ _) (Ev.neg (by decide) (Ev.pos (by omega) (Ev.pos (by have := hK.len; omega) (Ev.pos (by omega) (Ev.pos (by rw [row_cl]; have := hK.row i (Nat.le_refl _) hi; omega) ?_)))))
        rw [Int.toNat_natCast, Int.toNat_natCast, row_cl]
        obtain ⟨k1, k2⟩ := hK.set hi (show j ≤ q.size by omega) hl 1000000
        have hD := D_small G i j
        exact table2 G hi (by omega) hl (fun g' K => ihj g' (by omega) K) 5 0 _ rfl k1 (by rw [k2]; omega) (by rw [k2]; exact Int.le_refl _) (fun s' a b => by omega)
      refine Ev.cond (fun h => ?_) (fun h => go)
      rw [show ((j : Int) == (q.size : Int)) = false by rw [beq_eq_false_iff_ne]; omega]
      exact go
theorem table0 {p q : ByteArray} (G : Gv p q) (d : Nat) : ∀ g, d ≤ p.size + 1 → g.length = p.size + 1 → (∀ i', d ≤ i' → i' ≤ p.size → (g.getD i' []).length = q.size + 1) → (∀ i' j', d ≤ i' → i' ≤ p.size → j' ≤ q.size → cl g i' j' = D ((bytesOf p).drop i') ((bytesOf q).drop j')) →
    Ev (fun k => ancepsref45_table.l0 k p q ((d : Int) - 1) g) (tab (bytesOf p) (bytesOf q)) := by
  have hp := G.hp
  have hq := G.hq
  have e : wrap64 ((q.size : Int) + 1) = ((q.size + 1 : Nat) : Int) := by rw [w64 (by omega) (by omega)]; omega
  induction d with
  | zero =>
    intro g _ hl hr hk
    refine Ev.step (fun k => ancepsref45_table.l0.eq_2 _ _ _ _ _) (Ev.neg (by omega) (Ev.val ?_))
    exact sh_ext ⟨hl, fun i h => hr i (Nat.zero_le _) h⟩ (tabq_sh p q) (fun i j a b => (hk i j (Nat.zero_le _) a b).trans (tabq_cl p q a b).symm)
  | succ i ih =>
    intro g hd hl hr hk
    refine Ev.step (fun k => ancepsref45_table.l0.eq_2 _ _ _ _ _) (Ev.pos (by omega) ?_)
    rw [show ((i + 1 : Nat) : Int) - 1 = (i : Int) by omega, e]
    refine Ev.pos (by omega) (Ev.pos (by rw [Int.toNat_natCast]; omega) (Ev.pos (by omega) (Ev.pos (by omega) ?_)))
    rw [Int.toNat_natCast, Int.toNat_natCast]
    have hg : ∀ i', (g.set i (List.replicate (q.size + 1) 0)).getD i' [] = if i' = i then List.replicate (q.size + 1) 0 else g.getD i' [] := fun i' => getD_set _ _ _ _ _ (by omega)
    have := table1 G (i := i) (by omega) (fun g' K => ih g' (by omega) K.len K.row (fun i' j' a b c => by
      by_cases e : i' = i
      · subst e; exact K.at_ j' (Nat.zero_le _) c
      · exact K.lo i' j' (by omega) b c)) (q.size + 1) (g.set i (List.replicate (q.size + 1) 0)) (Nat.le_refl _) ⟨by rw [List.length_set]; exact hl, fun i' a b => by
        rw [hg]
        by_cases e : i' = i
        · rw [if_pos e, List.length_replicate]
        · rw [if_neg e]; exact hr i' (by omega) b, fun e => by
        unfold cl
        rw [hg, if_pos e.symm, List.getD_eq_getElem?_getD, List.getElem?_replicate]; split <;> rfl, fun i' j' a b c => by
        unfold cl
        rw [hg, if_neg (by omega)]
        exact hk i' j' (by omega) b c, fun j' a b => by omega⟩
    rw [show ((q.size + 1 : Nat) : Int) - 1 = (q.size : Int) by omega] at this
    exact this
theorem table_ev {p q : ByteArray} (G : Gv p q) : Ev (fun k => ancepsref45_table.f k p q) (tab (bytesOf p) (bytesOf q)) := by
  have hp := G.hp
  have hq := G.hq
  have e : wrap64 ((p.size : Int) + 1) = ((p.size + 1 : Nat) : Int) := by rw [w64 (by omega) (by omega)]; omega
  unfold ancepsref45_table.f
  rw [e]
  refine Ev.pos (by omega) (Ev.pos (by rw [Int.toNat_natCast]; omega) ?_)
  rw [Int.toNat_natCast]
  have := table0 G (p.size + 1) (List.replicate (p.size + 1) []) (Nat.le_refl _) (List.length_replicate ..) (fun i' a b => by omega) (fun i' j' a b => by omega)
  rw [show ((p.size + 1 : Nat) : Int) - 1 = (p.size : Int) by omega] at this
  exact this
end Go.Proofs.Ytnnonjjmlbemfaa.Lem
