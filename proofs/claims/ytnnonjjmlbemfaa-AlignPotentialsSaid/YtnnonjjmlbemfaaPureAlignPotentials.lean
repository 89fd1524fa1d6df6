/- Potentials, Distance and Count return what the reference returns: for any two strings (those over 70 bytes are left out by the law's own guard). -/
import Derived.Test.YtnnonjjmlbemfaaA3
import Derived.Test.YtnnonjjmlbemfaaRT
import Derived.Test.YtnnonjjmlbemfaaX28
set_option linter.unusedVariables false
namespace Go.Proofs.Ytnnonjjmlbemfaa.Pure
open Go.RowKit Go.Proofs.Ytnnonjjmlbemfaa.X Go.Proofs.Ytnnonjjmlbemfaa.Lem Go.Proofs.Ytnnonjjmlbemfaa.Al Go.Proofs.YtnnonjjmlbemfaaW.PrintWords Go.Proofs.YtnnonjjmlbemfaaW.PrintLast
theorem row4 (g : List (List Int)) (i : Nat) : rd_L4 g (i : Int) = g.getD i [] := by unfold rd_L4; rw [Int.toNat_natCast]
theorem rd4 (g : List (List Int)) (i j : Nat) : rd (rd_L4 g (i : Int)) (j : Int) = cl g i j := by unfold rd cl; rw [row4, Int.toNat_natCast]
theorem drop_inj {s : ByteArray} {i j : Nat} (hi : i ≤ s.size) (hj : j ≤ s.size) (h : (bytesOf s).drop i = (bytesOf s).drop j) : i = j := by
  have := congrArg List.length h
  rw [List.length_drop, List.length_drop, bl] at this
  omega
theorem both_ev {p q : ByteArray} (g : Gv p q) {i j : Nat} (hi : i ≤ p.size) (hj : j ≤ q.size) (s : Int) :
    (∃ (i' j' : Nat) (c : Int), i ≤ i' ∧ j ≤ j' ∧ i' ≤ p.size ∧ j' ≤ q.size ∧ Ev (fun k => align_step.f k p q (i : Int) (j : Int) s) ((i' : Int), (j' : Int), c, true) ∧ Ev (fun k => ancepsref45_Step.f k p q (i : Int) (j : Int) s) ((i' : Int), (j' : Int), c, true))
      ∨ ∃ x y z x' y' z', Ev (fun k => align_step.f k p q (i : Int) (j : Int) s) (x, y, z, false) ∧ Ev (fun k => ancepsref45_Step.f k p q (i : Int) (j : Int) s) (x', y', z', false) := by
  rcases step_ev g hi hj s with ⟨i', j', c, h1, h2, h3, h4, h5, h6, h7⟩ | ⟨h1, x, y, z, h2⟩
  · rcases rstep_ev g hi hj s with ⟨i2, j2, c2, k1, k2, k3, k4, k5, k6, k7⟩ | ⟨k1, _⟩
    · rw [h6] at k6
      simp only [Option.some.injEq, Prod.mk.injEq] at k6
      obtain rfl := drop_inj h3 k3 k6.1
      obtain rfl := drop_inj h4 k4 k6.2.1
      obtain rfl := k6.2.2
      exact .inl ⟨i', j', c, h1, h2, h3, h4, h7, k7⟩
    · rw [h6] at k1; cases k1
  · rcases rstep_ev g hi hj s with ⟨i2, j2, c2, k1, k2, k3, k4, k5, k6, k7⟩ | ⟨k1, x', y', z', k2⟩
    · rw [h1] at k6; cases k6
    · exact .inr ⟨x, y, z, x', y', z', h2, k2⟩
def Rg (v : Int) : Prop := 0 ≤ v ∧ v ≤ 4611686018427387905
theorem cap_same {a b : Int} (ha : Rg a) (hb : Rg b) : ∃ v, align_capped.f a b = some v ∧ ancepsref45_capped.f a b = some v ∧ Rg v := by
  unfold Rg at *
  unfold align_capped.f ancepsref45_capped.f
  rw [w64 (i := 4611686018427387904 - b) (by omega) (by omega), w64 (i := 4611686018427387905 - b) (by omega) (by omega)]
  by_cases h1 : a > 4611686018427387905 - b
  · rw [if_pos h1, if_pos (by omega)]
    exact ⟨_, rfl, rfl, by decide, by decide⟩
  · by_cases h2 : a > 4611686018427387904 - b
    · rw [if_pos h2, if_neg h1, w64 (i := a + b) (by omega) (by omega)]
      exact ⟨4611686018427387905, rfl, by congr 1; omega, by decide, by decide⟩
    · rw [if_neg h2, if_neg h1, w64 (i := a + b) (by omega) (by omega)]
      exact ⟨_, rfl, rfl, by omega, by omega⟩
/-- the map and the rows hold the same, from row i on; ahead of it the map is empty -/
structure Rl (p q : ByteArray) (i : Nat) (F : Int → Int → Int) (n : List (List Int)) : Prop where
  len : n.length = p.size + 1
  row : ∀ i', i ≤ i' → i' ≤ p.size → (n.getD i' []).length = q.size + 1
  at_ : ∀ i' j' : Nat, i ≤ i' → i' ≤ p.size → j' ≤ q.size → cl n i' j' = F (i' : Int) (j' : Int)
  low : ∀ i' j' : Nat, i' < i → F (i' : Int) (j' : Int) = 0
  rng : ∀ a b, Rg (F a b)
theorem Rl.set {p q : ByteArray} {i j : Nat} {F : Int → Int → Int} {n : List (List Int)} (h : Rl p q i F n) (hi : i ≤ p.size) (hj : j ≤ q.size) {v : Int} (hv : Rg v) :
    Rl p q i (align_Count.up F (i : Int) (j : Int) v) (n.set i ((n.getD i []).set j v)) := by
  have hl := h.len
  have hr := h.row i (Nat.le_refl _) hi
  obtain ⟨c1, c2⟩ := cl_set (g := n) (i := i) (j := j) (v := v) (by omega) (by omega)
  refine ⟨by rw [List.length_set]; exact hl, fun i' a b => by rw [c2]; exact h.row i' a b, fun i' j' a b c => ?_, fun i' j' a => ?_, fun a b => ?_⟩
  · rw [c1]
    unfold align_Count.up
    by_cases e : i' = i ∧ j' = j
    · rw [if_pos e, if_pos (by omega)]
    · rw [if_neg e, if_neg (by omega)]; exact h.at_ i' j' a b c
  · unfold align_Count.up
    rw [if_neg (by omega)]; exact h.low i' j' a
  · unfold align_Count.up
    split
    · exact hv
    · exact h.rng a b
theorem cnt3 {p q : ByteArray} (G : Gv p q) {i j : Nat} (hi : i ≤ p.size) (hj : j ≤ q.size)
    (ih : ∀ F n, Rl p q i F n → ∃ r, Ev (fun k => align_Count.l2 k p q (tab (bytesOf p) (bytesOf q)) (i : Int) ((j : Int) - 1) F) r ∧ Ev (fun k => ancepsref45_Count.l1 k p q (i : Int) ((j : Int) - 1) (tab (bytesOf p) (bytesOf q)) n) r) (d : Nat) :
    ∀ (s : Nat) F n, s + d = 5 → Rl p q i F n → ∃ r, Ev (fun k => align_Count.l3 k p q (tab (bytesOf p) (bytesOf q)) (i : Int) (j : Int) (s : Int) F) r ∧ Ev (fun k => ancepsref45_Count.l2 k p q (tab (bytesOf p) (bytesOf q)) n (i : Int) (j : Int) (s : Int)) r := by
  have hp := G.hp
  have hq := G.hq
  have T := tabq_sh p q
  have tl := T.len
  have tr := T.row i hi
  generalize tab (bytesOf p) (bytesOf q) = t at *
  induction d with
  | zero =>
    intro s F n hs R
    obtain rfl : s = 5 := by omega
    obtain ⟨r, h1, h2⟩ := ih F n R
    refine ⟨r, Ev.step (fun k => align_Count.l3.eq_2 _ _ _ _ _ _ _ _) (Ev.neg (by decide) ?_), Ev.step (fun k => ancepsref45_Count.l2.eq_2 _ _ _ _ _ _ _ _) (Ev.neg (by decide) ?_)⟩
    · rw [w64 (i := (j : Int) - 1) (by omega) (by omega)]; exact h1
    · rw [w64 (i := (j : Int) - 1) (by omega) (by omega)]; exact h2
  | succ d ihd =>
    intro s F n hs R
    have e : wrap64 ((s : Int) + 1) = ((s + 1 : Nat) : Int) := by rw [w64 (by omega) (by omega)]; omega
    have nl := R.len
    have nr := R.row i (Nat.le_refl _) hi
    rcases both_ev G hi hj (s : Int) with ⟨i', j', c, h1, h2, h3, h4, h5, h6⟩ | ⟨x, y, z, x', y', z', h5, h6⟩
    · have tr' := T.row i' h3
      have nr' := R.row i' h1 h3
      have pre : ∀ {r : Int × Int}, Ev (fun k => if wrap64 (c + cl t i' j') = cl t i j then ((align_capped.f (F i j) (F i' j')).bind fun v => align_Count.l3 k p q t i j ((s + 1 : Nat) : Int) (align_Count.up F i j v)) else align_Count.l3 k p q t i j ((s + 1 : Nat) : Int) F) r → Ev (fun k => align_Count.l3 k p q t (i : Int) (j : Int) (s : Int) F) r := by
        intro r h
        refine Ev.step (fun k => align_Count.l3.eq_2 _ _ _ _ _ _ _ _) (Ev.pos (by omega) (Ev.bind h5 (Ev.pos rfl (Ev.pos ?_ ?_))))
        · show ((0 ≤ (i' : Int) ∧ (i' : Int) < (t.length : Int)) ∧ (0 ≤ (j' : Int) ∧ (j' : Int) < ((rd_L2 t (i' : Int)).length : Int))) ∧ (0 ≤ (i : Int) ∧ (i : Int) < (t.length : Int)) ∧ (0 ≤ (j : Int) ∧ (j : Int) < ((rd_L2 t (i : Int)).length : Int))
          rw [row_cl, row_cl]; omega
        · show Ev (fun k => if wrap64 (c + rd (rd_L2 t (i' : Int)) (j' : Int)) = rd (rd_L2 t (i : Int)) (j : Int) then ((align_capped.f (F i j) (F i' j')).bind fun v => align_Count.l3 k p q t i j (wrap64 ((s : Int) + 1)) (align_Count.up F i j v)) else align_Count.l3 k p q t i j (wrap64 ((s : Int) + 1)) F) r
          rw [rd_cl, rd_cl, e]; exact h
      have pre2 : ∀ {r : Int × Int}, Ev (fun k => if cl t i j = wrap64 (c + cl t i' j') then ((ancepsref45_capped.f (cl n i j) (cl n i' j')).bind fun v => ancepsref45_Count.l2 k p q t (n.set i ((n.getD i []).set j v)) i j ((s + 1 : Nat) : Int)) else ancepsref45_Count.l2 k p q t n i j ((s + 1 : Nat) : Int)) r → Ev (fun k => ancepsref45_Count.l2 k p q t n (i : Int) (j : Int) (s : Int)) r := by
        intro r h
        refine Ev.step (fun k => ancepsref45_Count.l2.eq_2 _ _ _ _ _ _ _ _) (Ev.pos (by omega) (Ev.bind h6 (Ev.pos rfl (Ev.pos (by omega) (Ev.pos (by omega) (Ev.pos (by omega) (Ev.pos (by rw [row_cl]; omega) (Ev.pos (by show (0 : Int) ≤ (i' : Int); omega) (Ev.pos (by show (i' : Int) < _; omega) (Ev.pos (by show (0 : Int) ≤ (j' : Int); omega) (Ev.pos (by show (j' : Int) < ((rd_L2 t (i' : Int)).length : Int); rw [row_cl]; omega) ?_)))))))))))
        show Ev (fun k => if rd (rd_L2 t (i : Int)) (j : Int) = wrap64 (c + rd (rd_L2 t (i' : Int)) (j' : Int)) then (if (i : Int) < (n.length : Int) then (if (j : Int) < ((rd_L4 n (i : Int)).length : Int) then (if (i' : Int) < (n.length : Int) then (if (j' : Int) < ((rd_L4 n (i' : Int)).length : Int) then ((ancepsref45_capped.f (rd (rd_L4 n (i : Int)) (j : Int)) (rd (rd_L4 n (i' : Int)) (j' : Int))).bind fun v => ancepsref45_Count.l2 k p q t (n.set (i : Int).toNat ((rd_L4 n (i : Int)).set (j : Int).toNat v)) i j (wrap64 ((s : Int) + 1))) else none) else none) else none) else none) else ancepsref45_Count.l2 k p q t n i j (wrap64 ((s : Int) + 1))) r
        rw [rd_cl, rd_cl, e, rd4, rd4, row4, row4, Int.toNat_natCast, Int.toNat_natCast]
        by_cases hc : cl t i j = wrap64 (c + cl t i' j')
        · have h' : Ev (fun k => (ancepsref45_capped.f (cl n i j) (cl n i' j')).bind fun v => ancepsref45_Count.l2 k p q t (n.set i ((n.getD i []).set j v)) i j ((s + 1 : Nat) : Int)) r := by simpa only [if_pos hc] using h
          exact Ev.pos hc (Ev.pos (by omega) (Ev.pos (by omega) (Ev.pos (by omega) (Ev.pos (by omega) h'))))
        · have h' : Ev (fun k => ancepsref45_Count.l2 k p q t n i j ((s + 1 : Nat) : Int)) r := by simpa only [if_neg hc] using h
          exact Ev.neg hc h'
      by_cases hc : wrap64 (c + cl t i' j') = cl t i j
      · obtain ⟨v, v1, v2, v3⟩ := cap_same (R.rng (i : Int) (j : Int)) (R.rng (i' : Int) (j' : Int))
        obtain ⟨r, g1, g2⟩ := ihd (s + 1) _ _ (by omega) (R.set hi hj v3)
        refine ⟨r, pre (Ev.pos hc ?_), pre2 (Ev.pos hc.symm ?_)⟩
        · rw [v1]; exact Ev.just g1
        · rw [R.at_ i j (Nat.le_refl _) hi hj, R.at_ i' j' h1 h3 h4, v2]; exact Ev.just g2
      · obtain ⟨r, g1, g2⟩ := ihd (s + 1) _ _ (by omega) R
        exact ⟨r, pre (Ev.neg hc g1), pre2 (Ev.neg (fun x => hc x.symm) g2)⟩
    · obtain ⟨r, g1, g2⟩ := ihd (s + 1) _ _ (by omega) R
      refine ⟨r, Ev.step (fun k => align_Count.l3.eq_2 _ _ _ _ _ _ _ _) (Ev.pos (by omega) (Ev.bind h5 (Ev.neg Bool.false_ne_true ?_))), Ev.step (fun k => ancepsref45_Count.l2.eq_2 _ _ _ _ _ _ _ _) (Ev.pos (by omega) (Ev.bind h6 (Ev.neg Bool.false_ne_true ?_)))⟩
      · rw [e]; exact g1
      · rw [e]; exact g2
theorem cnt2 {p q : ByteArray} (G : Gv p q) {i : Nat} (hi : i ≤ p.size)
    (ih : ∀ F n, Rl p q i F n → ∃ r, Ev (fun k => align_Count.l1 k p q (tab (bytesOf p) (bytesOf q)) ((i : Int) - 1) F) r ∧ Ev (fun k => ancepsref45_Count.l0 k p q ((i : Int) - 1) (tab (bytesOf p) (bytesOf q)) n) r) (d : Nat) :
    ∀ F n, d ≤ q.size + 1 → ¬ (i = p.size ∧ d = q.size + 1) → Rl p q i F n → ∃ r, Ev (fun k => align_Count.l2 k p q (tab (bytesOf p) (bytesOf q)) (i : Int) ((d : Int) - 1) F) r ∧ Ev (fun k => ancepsref45_Count.l1 k p q (i : Int) ((d : Int) - 1) (tab (bytesOf p) (bytesOf q)) n) r := by
  have hp := G.hp
  have hq := G.hq
  induction d with
  | zero =>
    intro F n _ _ R
    obtain ⟨r, h1, h2⟩ := ih F n R
    refine ⟨r, Ev.step (fun k => align_Count.l2.eq_2 _ _ _ _ _ _ _) (Ev.neg (by omega) ?_), Ev.step (fun k => ancepsref45_Count.l1.eq_2 _ _ _ _ _ _ _) (Ev.neg (by omega) ?_)⟩
    · rw [w64 (i := (i : Int) - 1) (by omega) (by omega)]; exact h1
    · rw [w64 (i := (i : Int) - 1) (by omega) (by omega)]; exact h2
  | succ d ihd =>
    intro F n hd hne R
    obtain ⟨r, h1, h2⟩ := cnt3 G hi (show d ≤ q.size by omega) (fun F n R => ihd F n (by omega) (by omega) R) 5 0 F n rfl R
    have e : ((d + 1 : Nat) : Int) - 1 = (d : Int) := by omega
    rw [e]
    have j2 : Ev (fun k => ancepsref45_Count.j2 k p q (tab (bytesOf p) (bytesOf q)) n (i : Int) (d : Int) false) r := Ev.step (fun k => ancepsref45_Count.j2.eq_2 _ _ _ _ _ _ _ _) (Ev.neg (by decide) (Ev.step (fun k => ancepsref45_Count.j3.eq_2 _ _ _ _ _ _ _) h2))
    refine ⟨r, Ev.step (fun k => align_Count.l2.eq_2 _ _ _ _ _ _ _) (Ev.pos (by omega) h1), Ev.step (fun k => ancepsref45_Count.l1.eq_2 _ _ _ _ _ _ _) (Ev.pos (by omega) (Ev.cond (fun hx => ?_) (fun _ => j2)))⟩
    rw [show ((d : Int) == (q.size : Int)) = false from beq_eq_false_iff_ne.2 (by omega)]
    exact j2
theorem getD_self (n : List (List Int)) (i i' : Nat) (x : List Int) (h : i < n.length) : (n.set i x).getD i' [] = if i' = i then x else n.getD i' [] := by
  rw [List.getD_eq_getElem?_getD, List.getD_eq_getElem?_getD, List.getElem?_set]
  by_cases e : i = i'
  · subst e; rw [if_pos rfl, if_pos rfl, if_pos h]; rfl
  · rw [if_neg e, if_neg (fun x => e x.symm)]
theorem cl_zero {n : List (List Int)} {i : Nat} (h : i < n.length) (m i' j' : Nat) : cl (n.set i (List.replicate m 0)) i' j' = if i' = i then 0 else cl n i' j' := by
  unfold cl
  rw [getD_self n i i' _ h]
  by_cases e : i' = i
  · rw [if_pos e, if_pos e, List.getD_eq_getElem?_getD, List.getElem?_replicate]; split <;> rfl
  · rw [if_neg e, if_neg e]
theorem make_row {p q : ByteArray} (G : Gv p q) {i : Nat} (hi : i ≤ p.size) {n : List (List Int)} (hl : n.length = p.size + 1) {r : Int × Int}
    (h : Ev (fun k => ancepsref45_Count.l1 k p q (i : Int) (q.size : Int) (tab (bytesOf p) (bytesOf q)) (n.set i (List.replicate (q.size + 1) 0))) r) : Ev (fun k => ancepsref45_Count.l0 k p q (i : Int) (tab (bytesOf p) (bytesOf q)) n) r := by
  have hp := G.hp
  have hq := G.hq
  have e : wrap64 ((q.size : Int) + 1) = ((q.size + 1 : Nat) : Int) := by rw [w64 (by omega) (by omega)]; omega
  refine Ev.step (fun k => ancepsref45_Count.l0.eq_2 _ _ _ _ _ _) (Ev.pos (by omega) ?_)
  rw [e, Int.toNat_natCast, Int.toNat_natCast]
  exact Ev.pos (by omega) (Ev.pos (by omega) (Ev.pos (by omega) (Ev.pos (by omega) h)))
theorem cnt1 {p q : ByteArray} (G : Gv p q) (d : Nat) : ∀ F n, d ≤ p.size → Rl p q d F n → ∃ r, Ev (fun k => align_Count.l1 k p q (tab (bytesOf p) (bytesOf q)) ((d : Int) - 1) F) r ∧ Ev (fun k => ancepsref45_Count.l0 k p q ((d : Int) - 1) (tab (bytesOf p) (bytesOf q)) n) r := by
  have hp := G.hp
  have hq := G.hq
  induction d with
  | zero =>
    intro F n _ R
    have nl := R.len
    have nr := R.row 0 (Nat.le_refl _) (Nat.zero_le _)
    have z : rd (rd_L4 n 0) 0 = F 0 0 := (rd4 n 0 0).trans (R.at_ 0 0 (Nat.le_refl _) (Nat.zero_le _) (Nat.zero_le _))
    have r0 : ((rd_L4 n 0).length : Int) = ((q.size + 1 : Nat) : Int) := by have := row4 n 0; rw [show ((0 : Nat) : Int) = 0 from rfl] at this; rw [this, nr]
    by_cases h : F 0 0 ≤ 4611686018427387904
    · refine ⟨(F 0 0, 0), Ev.step (fun k => align_Count.l1.eq_2 _ _ _ _ _ _) (Ev.neg (by decide) (Ev.pos h (Ev.now _))), Ev.step (fun k => ancepsref45_Count.l0.eq_2 _ _ _ _ _ _) (Ev.neg (by decide) (Ev.pos (by omega) (Ev.pos (by rw [r0]; omega) ?_)))⟩
      rw [z]
      exact Ev.neg (by omega) (Ev.now _)
    · refine ⟨(0, 3), Ev.step (fun k => align_Count.l1.eq_2 _ _ _ _ _ _) (Ev.neg (by decide) (Ev.neg h (Ev.now _))), Ev.step (fun k => ancepsref45_Count.l0.eq_2 _ _ _ _ _ _) (Ev.neg (by decide) (Ev.pos (by omega) (Ev.pos (by rw [r0]; omega) ?_)))⟩
      rw [z]
      exact Ev.pos (by omega) (Ev.now _)
  | succ d ihd =>
    intro F n hd R
    have nl := R.len
    have e : ((d + 1 : Nat) : Int) - 1 = (d : Int) := by omega
    rw [e]
    have R' : Rl p q d F (n.set d (List.replicate (q.size + 1) 0)) := by
      refine ⟨by rw [List.length_set]; exact nl, fun i' a b => ?_, fun i' j' a b c => ?_, fun i' j' a => R.low i' j' (by omega), R.rng⟩
      · rw [getD_self _ _ _ _ (by omega)]
        by_cases h : i' = d
        · rw [if_pos h, List.length_replicate]
        · rw [if_neg h]; exact R.row i' (by omega) b
      · rw [cl_zero (by omega)]
        by_cases h : i' = d
        · rw [if_pos h, R.low i' j' (by omega)]
        · rw [if_neg h]; exact R.at_ i' j' (by omega) b c
    obtain ⟨r, h1, h2⟩ := cnt2 G (show d ≤ p.size by omega) (fun F n R => ihd F n (by omega) R) (q.size + 1) F _ (Nat.le_refl _) (by omega) R'
    have e2 : ((q.size + 1 : Nat) : Int) - 1 = (q.size : Int) := by omega
    rw [e2] at h1 h2
    exact ⟨r, Ev.step (fun k => align_Count.l1.eq_2 _ _ _ _ _ _) (Ev.pos (by omega) h1), make_row G (by omega) nl h2⟩
theorem count_ev {p q : ByteArray} (G : Gv p q) : ∃ r, Ev (fun k => align_Count.f k p q) r ∧ Ev (fun k => ancepsref45_Count.f k p q) r := by
  have hp := G.hp
  have hq := G.hq
  have ep : wrap64 ((p.size : Int) + 1) = ((p.size + 1 : Nat) : Int) := by rw [w64 (by omega) (by omega)]; omega
  have nl : (List.replicate (p.size + 1) ([] : List Int)).length = p.size + 1 := List.length_replicate ..
  have nl1 : ((List.replicate (p.size + 1) ([] : List Int)).set p.size (List.replicate (q.size + 1) 0)).length = p.size + 1 := by rw [List.length_set]; exact nl
  have row1 : (((List.replicate (p.size + 1) ([] : List Int)).set p.size (List.replicate (q.size + 1) 0)).getD p.size []) = List.replicate (q.size + 1) 0 := by rw [getD_self _ _ _ _ (by omega), if_pos rfl]
  have R : Rl p q p.size (align_Count.up (fun _ _ => 0) (p.size : Int) (q.size : Int) 1) (((List.replicate (p.size + 1) ([] : List Int)).set p.size (List.replicate (q.size + 1) 0)).set p.size ((((List.replicate (p.size + 1) ([] : List Int)).set p.size (List.replicate (q.size + 1) 0)).getD p.size []).set q.size 1)) := by
    refine Rl.set ⟨nl1, fun i' a b => ?_, fun i' j' a b c => ?_, fun _ _ _ => rfl, fun _ _ => ⟨by decide, by decide⟩⟩ (Nat.le_refl _) (Nat.le_refl _) ⟨by decide, by decide⟩
    · obtain rfl : i' = p.size := by omega
      rw [row1, List.length_replicate]
    · rw [cl_zero (by omega), if_pos (by omega)]
  obtain ⟨r, h1, h2⟩ := cnt3 G (Nat.le_refl p.size) (Nat.le_refl q.size) (fun F n R => cnt2 G (Nat.le_refl _) (fun F n R => cnt1 G p.size F n (Nat.le_refl _) R) q.size F n (by omega) (by omega) R) 5 0 _ _ rfl R
  refine ⟨r, ?_, ?_⟩
  · unfold align_Count.f
    refine Ev.bind (given_ev p q) (Ev.pos (giv_of G) (Ev.bind (grid_ev G) ?_))
    exact Ev.step (fun k => align_Count.l1.eq_2 _ _ _ _ _ _) (Ev.pos (by omega) (Ev.step (fun k => align_Count.l2.eq_2 _ _ _ _ _ _ _) (Ev.pos (by omega) h1)))
  · unfold ancepsref45_Count.f
    refine Ev.bind (rgiven_ev p q) (Ev.pos (giv_of G) (Ev.bind (table_ev G) ?_))
    rw [ep, Int.toNat_natCast]
    refine Ev.pos (by omega) (Ev.pos (by omega) (make_row G (Nat.le_refl _) nl ?_))
    refine Ev.step (fun k => ancepsref45_Count.l1.eq_2 _ _ _ _ _ _ _) (Ev.pos (by omega) (Ev.pos rfl ?_))
    rw [show ((q.size : Int) == (q.size : Int)) = true from beq_iff_eq.2 rfl]
    refine Ev.step (fun k => ancepsref45_Count.j2.eq_2 _ _ _ _ _ _ _ _) (Ev.pos rfl (Ev.pos (by omega) (Ev.pos (by rw [nl1]; omega) (Ev.pos (by omega) (Ev.pos (by rw [row4, row1, List.length_replicate]; omega) ?_)))))
    rw [row4, Int.toNat_natCast, Int.toNat_natCast]
    exact Ev.step (fun k => ancepsref45_Count.j3.eq_2 _ _ _ _ _ _ _) h2
theorem ints_loop (l : List Int) (hl : l.length ≤ 1000) (d : Nat) : ∀ i : Nat, i + d = l.length → Ev (fun k => ancepsref09_Ints.l0 k l l (i : Int)) true := by
  induction d with
  | zero => intro i hi; exact Ev.step (fun k => ancepsref09_Ints.l0.eq_2 _ _ _ _) (Ev.neg (by omega) (Ev.now _))
  | succ d ih =>
    intro i hi
    refine Ev.step (fun k => ancepsref09_Ints.l0.eq_2 _ _ _ _) (Ev.pos (by omega) (Ev.pos (by omega) (Ev.pos (by omega) (Ev.pos rfl ?_))))
    rw [w64 (by omega) (by omega)]
    exact ih (i + 1) (by omega)
theorem lists_loop (t : List (List Int)) (ht : t.length ≤ 1000) (hr : ∀ i, i < t.length → (t.getD i []).length ≤ 1000) (d : Nat) : ∀ i : Nat, i + d = t.length → Ev (fun k => ancepsref09_Lists.l0 k t t (i : Int)) true := by
  induction d with
  | zero => intro i hi; exact Ev.step (fun k => ancepsref09_Lists.l0.eq_2 _ _ _ _) (Ev.neg (by omega) (Ev.now _))
  | succ d ih =>
    intro i hi
    have h := hr i (by omega)
    have e : Ev (fun k => ancepsref09_Ints.f k (rd_L2 t (i : Int)) (rd_L2 t (i : Int))) true := by
      unfold ancepsref09_Ints.f
      rw [row_cl]
      exact Ev.pos rfl (ints_loop _ h _ 0 (Nat.zero_add _))
    refine Ev.step (fun k => ancepsref09_Lists.l0.eq_2 _ _ _ _) (Ev.pos (by omega) (Ev.pos (by omega) (Ev.pos (by omega) (Ev.bind e (Ev.pos rfl ?_)))))
    rw [w64 (by omega) (by omega)]
    exact ih (i + 1) (by omega)
theorem lists_ev (t : List (List Int)) (ht : t.length ≤ 1000) (hr : ∀ i, i < t.length → (t.getD i []).length ≤ 1000) : Ev (fun k => ancepsref09_Lists.f k t t) true := by
  unfold ancepsref09_Lists.f
  exact Ev.pos rfl (lists_loop t ht hr _ 0 (Nat.zero_add _))
theorem rdist_ev {p q : ByteArray} (G : Gv p q) : Ev (fun k => ancepsref45_Distance.f k p q) (D (bytesOf p) (bytesOf q), 0) := by
  unfold ancepsref45_Distance.f
  have T := tabq_sh p q
  have hl := T.len
  have hr := T.row 0 (Nat.zero_le _)
  have r0 : ((rd_L2 (tab (bytesOf p) (bytesOf q)) 0).length : Int) = ((q.size + 1 : Nat) : Int) := by have := row_cl (tab (bytesOf p) (bytesOf q)) 0; rw [show ((0 : Nat) : Int) = 0 from rfl] at this; rw [this, hr]
  have z : rd (rd_L2 (tab (bytesOf p) (bytesOf q)) 0) 0 = D (bytesOf p) (bytesOf q) := by
    refine (rd_cl (tab (bytesOf p) (bytesOf q)) 0 0).trans ?_
    rw [tab_cl _ _ (Nat.zero_le _) (Nat.zero_le _), List.drop_zero, List.drop_zero]
  refine Ev.bind (rgiven_ev p q) (Ev.pos (giv_of G) (Ev.bind (table_ev G) (Ev.pos (by omega) (Ev.pos (by rw [r0]; omega) ?_))))
  rw [z]
  exact Ev.now _
theorem AlignPotentials : ancepslaw45_AlignPotentials.Pure := by
  intro p q _ _
  refine Ev.rounds ?_
  unfold ancepslaw45_AlignPotentials.f
  obtain ⟨b, hb⟩ := short_f p q
  refine Ev.bind awake_ev (Ev.pos rfl ?_)
  rw [hb]
  refine Ev.just ?_
  refine Ev.step (fun k => ancepslaw45_AlignPotentials.j0.eq_2 _ _ _ _) (Ev.cond (fun h => Ev.bind awake_ev (Ev.now _)) (fun h => ?_))
  by_cases hg : givS p q = 0
  · have G := giv_ok hg
    have hp := G.hp
    have hq := G.hq
    have T := tabq_sh p q
    have pot : Ev (fun k => align_Potentials.f k p q) (tab (bytesOf p) (bytesOf q), 0) := by
      unfold align_Potentials.f
      exact Ev.bind (given_ev p q) (Ev.pos hg (Ev.bind (grid_ev G) (Ev.now _)))
    have rpot : Ev (fun k => ancepsref45_Potentials.f k p q) (tab (bytesOf p) (bytesOf q), 0) := by
      unfold ancepsref45_Potentials.f
      exact Ev.bind (rgiven_ev p q) (Ev.pos hg (Ev.bind (table_ev G) (Ev.now _)))
    obtain ⟨r, r1, r2⟩ := count_ev G
    have hl := T.len
    have ls := lists_ev (tab (bytesOf p) (bytesOf q)) (by omega) (fun i hi => by rw [T.row i (by omega)]; omega)
    exact Ev.bind pot (Ev.bind rpot (Ev.bind (dist_ok G) (Ev.bind (rdist_ev G) (Ev.bind r1 (Ev.bind r2 (Ev.pos rfl (Ev.bind ls (Ev.pos rfl (Ev.pos rfl (Ev.pos rfl (Ev.pos rfl (Ev.val (by simp)))))))))))))
  · have pot : Ev (fun k => align_Potentials.f k p q) ([], givS p q) := by
      unfold align_Potentials.f
      exact Ev.bind (given_ev p q) (Ev.neg hg (Ev.now _))
    have rpot : Ev (fun k => ancepsref45_Potentials.f k p q) ([], givS p q) := by
      unfold ancepsref45_Potentials.f
      exact Ev.bind (rgiven_ev p q) (Ev.neg hg (Ev.now _))
    have rd : Ev (fun k => ancepsref45_Distance.f k p q) (0, givS p q) := by
      unfold ancepsref45_Distance.f
      exact Ev.bind (rgiven_ev p q) (Ev.neg hg (Ev.now _))
    have r1 : Ev (fun k => align_Count.f k p q) (0, givS p q) := by
      unfold align_Count.f
      exact Ev.bind (given_ev p q) (Ev.neg hg (Ev.now _))
    have r2 : Ev (fun k => ancepsref45_Count.f k p q) (0, givS p q) := by
      unfold ancepsref45_Count.f
      exact Ev.bind (rgiven_ev p q) (Ev.neg hg (Ev.now _))
    have ls := lists_ev [] (by simp) (fun i hi => by simp at hi)
    exact Ev.bind pot (Ev.bind rpot (Ev.bind (dist_no hg) (Ev.bind rd (Ev.bind r1 (Ev.bind r2 (Ev.pos rfl (Ev.bind ls (Ev.pos rfl (Ev.pos rfl (Ev.pos rfl (Ev.pos rfl (Ev.val (by simp)))))))))))))
end Go.Proofs.Ytnnonjjmlbemfaa.Pure
