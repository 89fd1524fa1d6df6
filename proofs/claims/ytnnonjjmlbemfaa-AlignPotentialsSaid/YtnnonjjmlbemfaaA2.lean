/- align.grid and align.Best in plain words: the table of cheapest costs, the first of the cheapest alignments. -/
import Derived.Test.YtnnonjjmlbemfaaA1
import Derived.Test.YtnnonjjmlbemfaaA0
import Derived.Test.YtnnonjjmlbemfaaX4
import Derived.Test.YtnnonjjmlbemfaaX5
set_option linter.unusedVariables false
namespace Go.Proofs.Ytnnonjjmlbemfaa.Lem
open Go.RowKit Go.Proofs.Ytnnonjjmlbemfaa.X Go.Proofs.Ytnnonjjmlbemfaa.Al Go.Proofs.YtnnonjjmlbemfaaW.PrintWords Go.Proofs.YtnnonjjmlbemfaaW.PrintLast
/-- what may stand in 'best' when the kinds below s are done -/
def Bi (P Q : List Int) (b : Int) (s : Int) : Prop :=
  b ≤ 400 ∧ (b < 0 → ∀ s', 0 ≤ s' → s' < s → st s' P Q = none) ∧ (0 ≤ b → D P Q ≤ b ∧ ∀ s', 0 ≤ s' → s' < s → ∀ P' Q' c, st s' P Q = some (P', Q', c) → b ≤ c + D P' Q')
theorem grid3 {p q : ByteArray} (G : Gv p q) {i j : Nat} (hi : i ≤ p.size) (hj : j ≤ q.size) (hne : ¬ (i = p.size ∧ j = q.size)) {g : List (List Int)} (hK : Kn p q g i (j + 1)) {r : List (List Int)}
    (ih : Ev (fun k => align_grid.l2 k p q (i : Int) ((j : Int) - 1) (g.set i ((g.getD i []).set j (D ((bytesOf p).drop i) ((bytesOf q).drop j))))) r) (d : Nat) :
    ∀ (s : Nat) (b : Int), s + d = 5 → Bi ((bytesOf p).drop i) ((bytesOf q).drop j) b (s : Int) → Ev (fun k => align_grid.l3 k p q g (i : Int) (j : Int) b (s : Int)) r := by
  have hp := G.hp
  have hq := G.hq
  have hnil : ¬ ((bytesOf p).drop i = [] ∧ (bytesOf q).drop j = []) := fun x => hne ⟨(drop_nil hi).1 x.1, (drop_nil hj).1 x.2⟩
  induction d with
  | zero =>
    intro s b hs hB
    obtain rfl : s = 5 := by omega
    refine Ev.step (fun k => align_grid.l3.eq_2 _ _ _ _ _ _ _ _) (Ev.neg (by decide) (Ev.pos (by omega) (Ev.pos (by have := hK.sh.len; omega) (Ev.pos (by omega) (Ev.pos (by rw [row_cl]; have := hK.sh.row i hi; omega) ?_)))))
    rw [w64 (by omega) (by omega), Int.toNat_natCast, row_cl, Int.toNat_natCast]
    have hb : b = D ((bytesOf p).drop i) ((bytesOf q).drop j) := by
      by_cases h0 : b < 0
      · exact (D_not_none hnil (fun s' a c => hB.2.1 h0 s' a c)).elim
      · exact D_of hnil (hB.2.2 (by omega)).1 (hB.2.2 (by omega)).2
    rw [hb]
    exact ih
  | succ d ihd =>
    intro s b hs hB
    refine Ev.step (fun k => align_grid.l3.eq_2 _ _ _ _ _ _ _ _) (Ev.pos (by omega) ?_)
    rcases step_ev G hi hj (s : Int) with ⟨i', j', c, h1, h2, h3, h4, h5, h6, h7⟩ | ⟨h1, x, y, z, h2⟩
    · refine Ev.bind h7 (Ev.pos rfl ?_)
      have hc := st_cost h6
      have hv : cl g i' j' = D ((bytesOf p).drop i') ((bytesOf q).drop j') := by
        by_cases e : i' = i
        · subst e; exact hK.at_ j' (by omega) h4 hi
        · exact hK.lo i' j' (by omega) h3 h4
      have hD := D_small G i' j'
      have hst := D_step h6
      have hnew : Bi ((bytesOf p).drop i) ((bytesOf q).drop j) (c + D ((bytesOf p).drop i') ((bytesOf q).drop j')) (s : Int) → Bi ((bytesOf p).drop i) ((bytesOf q).drop j) (c + D ((bytesOf p).drop i') ((bytesOf q).drop j')) ((s + 1 : Nat) : Int) := by
        intro h
        refine ⟨h.1, fun h0 => absurd h0 (by omega), fun _ => ⟨hst, fun s' a b' P' Q' c' e => ?_⟩⟩
        by_cases es : s' = s
        · subst es; rw [h6] at e; cases e; exact Int.le_refl _
        · exact (h.2.2 (by omega)).2 s' a (by omega) P' Q' c' e
      refine Ev.cond (fun h0 => ?_) (fun h0 => ?_)
      · refine Ev.pos (by show (0 : Int) ≤ (i' : Int); omega) (Ev.pos (by show (i' : Int) < _; have := hK.sh.len; omega) (Ev.pos (by show (0 : Int) ≤ (j' : Int); omega) (Ev.pos (by show (j' : Int) < ((rd_L2 g (i' : Int)).length : Int); rw [row_cl]; have := hK.sh.row i' h3; omega) ?_)))
        show Ev (fun k => align_grid.l3 k p q g (i : Int) (j : Int) (wrap64 (c + rd (rd_L2 g (i' : Int)) (j' : Int))) (wrap64 ((s : Int) + 1))) r
        rw [rd_cl, hv, w64 (by omega) (by omega), w64 (by omega) (by omega)]
        refine ihd (s + 1) _ (by omega) (hnew ⟨by omega, fun h1 => by omega, fun _ => ⟨hst, fun s' a b' P' Q' c' e => ?_⟩⟩)
        rw [hB.2.1 h0 s' a b'] at e; cases e
      · refine Ev.pos (by show (0 : Int) ≤ (i' : Int); omega) (Ev.pos (by show (i' : Int) < _; have := hK.sh.len; omega) (Ev.pos (by show (0 : Int) ≤ (j' : Int); omega) (Ev.pos (by show (j' : Int) < ((rd_L2 g (i' : Int)).length : Int); rw [row_cl]; have := hK.sh.row i' h3; omega) ?_)))
        show Ev (fun k => if (wrap64 (c + rd (rd_L2 g (i' : Int)) (j' : Int))) < b then align_grid.l3 k p q g (i : Int) (j : Int) (wrap64 (c + rd (rd_L2 g (i' : Int)) (j' : Int))) (wrap64 ((s : Int) + 1)) else align_grid.l3 k p q g (i : Int) (j : Int) b (wrap64 ((s : Int) + 1))) r
        rw [rd_cl, hv, w64 (i := c + _) (by omega) (by omega), w64 (i := (s : Int) + 1) (by omega) (by omega)]
        have hB2 := hB.2.2 (by omega)
        refine Ev.cond (fun hlt => ?_) (fun hlt => ?_)
        · refine ihd (s + 1) _ (by omega) (hnew ⟨by omega, fun h1 => by omega, fun _ => ⟨hst, fun s' a b' P' Q' c' e => ?_⟩⟩)
          have := hB2.2 s' a b' P' Q' c' e
          omega
        · refine ihd (s + 1) _ (by omega) ⟨hB.1, fun h1 => absurd h1 h0, fun _ => ⟨hB2.1, fun s' a b' P' Q' c' e => ?_⟩⟩
          by_cases es : s' = s
          · subst es; rw [h6] at e; cases e; omega
          · exact hB2.2 s' a (by omega) P' Q' c' e
    · refine Ev.bind h2 (Ev.neg Bool.false_ne_true ?_)
      rw [w64 (by omega) (by omega)]
      refine ihd (s + 1) b (by omega) ⟨hB.1, fun h0 s' a b' => ?_, fun h0 => ⟨(hB.2.2 h0).1, fun s' a b' P' Q' c' e => ?_⟩⟩
      · by_cases es : s' = s
        · subst es; exact h1
        · exact hB.2.1 h0 s' a (by omega)
      · by_cases es : s' = s
        · subst es; rw [h1] at e; cases e
        · exact (hB.2.2 h0).2 s' a (by omega) P' Q' c' e
theorem grid2 {p q : ByteArray} (G : Gv p q) {i : Nat} (hi : i ≤ p.size) {r : List (List Int)} (ih : ∀ g, Kn p q g i 0 → Ev (fun k => align_grid.l1 k p q ((i : Int) - 1) g) r) (e : Nat) :
    ∀ g, e ≤ q.size + 1 → Kn p q g i e → Ev (fun k => align_grid.l2 k p q (i : Int) ((e : Int) - 1) g) r := by
  have hp := G.hp
  have hq := G.hq
  induction e with
  | zero =>
    intro g he hK
    refine Ev.step (fun k => align_grid.l2.eq_2 _ _ _ _ _ _) (Ev.neg (by omega) ?_)
    rw [w64 (by omega) (by omega)]
    exact ih g hK
  | succ j ihj =>
    intro g he hK
    refine Ev.step (fun k => align_grid.l2.eq_2 _ _ _ _ _ _) (Ev.pos (by omega) ?_)
    rw [show ((j + 1 : Nat) : Int) - 1 = (j : Int) by omega]
    by_cases hl : i = p.size ∧ j = q.size
    · obtain ⟨rfl, rfl⟩ := hl
      refine Ev.pos rfl ?_
      rw [show ((q.size : Int) == (q.size : Int)) = true by simp]
      refine Ev.step (fun k => align_grid.j3.eq_2 _ _ _ _ _ _ _) (Ev.pos rfl ?_)
      rw [w64 (by omega) (by omega)]
      refine ihj g (by omega) ⟨hK.sh, hK.z, hK.lo, fun j' a b c => ?_⟩
      by_cases e : j' = q.size
      · subst e
        rw [hK.z, (drop_nil (Nat.le_refl _)).2 rfl, (drop_nil (Nat.le_refl _)).2 rfl]; exact D_nil.symm
      · exact hK.at_ j' (by omega) b c
    · have go : Ev (fun k => align_grid.j3 k p q g (i : Int) (j : Int) false) r := by
        refine Ev.step (fun k => align_grid.j3.eq_2 _ _ _ _ _ _ _) (Ev.neg (by decide) ?_)
        exact grid3 G hi (by omega) hl hK (ihj _ (by omega) (hK.next hi (by omega) hl)) 5 0 (-1) rfl ⟨by decide, fun _ s' a b => by omega, fun h0 => absurd h0 (by decide)⟩
      refine Ev.cond (fun h => ?_) (fun h => go)
      rw [show ((j : Int) == (q.size : Int)) = false by rw [beq_eq_false_iff_ne]; omega]
      exact go
theorem grid1 {p q : ByteArray} (G : Gv p q) (d : Nat) : ∀ g, d ≤ p.size + 1 → Sh g p.size q.size → cl g p.size q.size = 0 → (∀ i' j', d ≤ i' → i' ≤ p.size → j' ≤ q.size → cl g i' j' = D ((bytesOf p).drop i') ((bytesOf q).drop j')) →
    Ev (fun k => align_grid.l1 k p q ((d : Int) - 1) g) (tab (bytesOf p) (bytesOf q)) := by
  have hp := G.hp
  have hq := G.hq
  induction d with
  | zero =>
    intro g _ hs hz hk
    refine Ev.step (fun k => align_grid.l1.eq_2 _ _ _ _ _) (Ev.neg (by omega) (Ev.val ?_))
    exact sh_ext hs (tabq_sh p q) (fun i j a b => (hk i j (Nat.zero_le _) a b).trans (tabq_cl p q a b).symm)
  | succ i ih =>
    intro g hd hs hz hk
    refine Ev.step (fun k => align_grid.l1.eq_2 _ _ _ _ _) (Ev.pos (by omega) ?_)
    rw [show ((i + 1 : Nat) : Int) - 1 = (i : Int) by omega]
    have := grid2 G (i := i) (by omega) (fun g' K => ih g' (by omega) K.sh K.z (fun i' j' a b c => by
      by_cases e : i' = i
      · subst e; exact K.at_ j' (Nat.zero_le _) c b
      · exact K.lo i' j' (by omega) b c)) (q.size + 1) g (Nat.le_refl _) ⟨hs, hz, fun i' j' a b c => hk i' j' (by omega) b c, fun j' a b _ => by omega⟩
    rw [show ((q.size + 1 : Nat) : Int) - 1 = (q.size : Int) by omega] at this
    exact this
theorem grid0 {p q : ByteArray} (G : Gv p q) (d : Nat) : ∀ (i : Nat) (g : List (List Int)), i + d = p.size + 1 → g.length = p.size + 1 → (∀ i', i' < i → g.getD i' [] = List.replicate (q.size + 1) 0) →
    Ev (fun k => align_grid.l0 k p q g ((p.size + 1 : Nat) : Int) (i : Int)) (tab (bytesOf p) (bytesOf q)) := by
  have hp := G.hp
  have hq := G.hq
  induction d with
  | zero =>
    intro i g hi hl hz
    obtain rfl : i = p.size + 1 := by omega
    refine Ev.step (fun k => align_grid.l0.eq_2 _ _ _ _ _ _) (Ev.neg (by omega) ?_)
    have := grid1 G (p.size + 1) g (Nat.le_refl _) ⟨hl, fun i' h => by rw [hz i' (by omega), List.length_replicate]⟩ (by unfold cl; rw [hz _ (by omega), List.getD_eq_getElem?_getD, List.getElem?_replicate]; split <;> rfl) (fun i' j' a b => by omega)
    rw [show ((p.size + 1 : Nat) : Int) - 1 = (p.size : Int) by omega] at this
    exact this
  | succ d ih =>
    intro i g hi hl hz
    have e : wrap64 ((q.size : Int) + 1) = ((q.size + 1 : Nat) : Int) := by rw [w64 (by omega) (by omega)]; omega
    refine Ev.step (fun k => align_grid.l0.eq_2 _ _ _ _ _ _) (Ev.pos (by omega) ?_)
    rw [e]
    refine Ev.pos (by omega) (Ev.pos (by rw [Int.toNat_natCast]; omega) (Ev.pos (by omega) (Ev.pos (by omega) ?_)))
    rw [w64 (by omega) (by omega), Int.toNat_natCast, Int.toNat_natCast]
    refine ih (i + 1) _ (by omega) (by rw [List.length_set]; exact hl) (fun i' h => ?_)
    rw [getD_set _ _ _ _ _ (by omega)]
    by_cases ei : i' = i
    · rw [if_pos ei]
    · rw [if_neg ei]; exact hz i' (by omega)
theorem grid_ev {p q : ByteArray} (G : Gv p q) : Ev (fun k => align_grid.f k p q) (tab (bytesOf p) (bytesOf q)) := by
  have hp := G.hp
  have hq := G.hq
  have e : wrap64 ((p.size : Int) + 1) = ((p.size + 1 : Nat) : Int) := by rw [w64 (by omega) (by omega)]; omega
  unfold align_grid.f
  rw [e]
  refine Ev.pos (by omega) (Ev.pos (by rw [Int.toNat_natCast]; omega) (Ev.just ?_))
  rw [Int.toNat_natCast, List.length_replicate]
  exact grid0 G (p.size + 1) 0 _ (by omega) (List.length_replicate ..) (fun i' h => by omega)
/-! Best -/
theorem best_ev {p q : ByteArray} (G : Gv p q) : ∀ (n : Nat) (l acc : List Int) (i j : Nat), i ≤ p.size → j ≤ q.size → p.size - i + (q.size - j) ≤ n → acc.length + l.length ≤ 1000 → Bs ((bytesOf p).drop i) ((bytesOf q).drop j) l →
    Ev (fun k => align_Best.l0 k p q acc (tab (bytesOf p) (bytesOf q)) (i : Int) (j : Int)) (acc ++ l, D (bytesOf p) (bytesOf q), 0) := by
  have hp := G.hp
  have hq := G.hq
  have T := tabq_sh p q
  intro n
  induction n with
  | zero =>
    intro l acc i j hi hj hn hl hb
    obtain rfl : i = p.size := by omega
    obtain rfl : j = q.size := by omega
    rw [(drop_nil (Nat.le_refl _)).2 rfl, (drop_nil (Nat.le_refl _)).2 rfl] at hb
    cases hb with
    | nil =>
      refine Ev.step (fun k => align_Best.l0.eq_2 _ _ _ _ _ _ _) (Ev.neg (by simp) (Ev.pos (by have := T.len; omega) (Ev.pos (by have := T.row 0 (by omega); have e := row_cl (tab (bytesOf p) (bytesOf q)) 0; rw [show ((0 : Nat) : Int) = 0 from rfl] at e; rw [e]; omega) (Ev.val ?_))))
      have e := rd_cl (tab (bytesOf p) (bytesOf q)) 0 0
      rw [show ((0 : Nat) : Int) = 0 from rfl, tabq_cl p q (Nat.zero_le _) (Nat.zero_le _), List.drop_zero, List.drop_zero] at e
      rw [e, List.append_nil]
    | step hs _ _ _ => have := st_len hs; simp at this
  | succ n ih =>
    intro l acc i j hi hj hn hl hb
    have hkeep := hb
    generalize hP : (bytesOf p).drop i = P at hb
    generalize hQ : (bytesOf q).drop j = Q at hb
    cases hb with
    | nil =>
      obtain rfl := (drop_nil hi).1 hP
      obtain rfl := (drop_nil hj).1 hQ
      refine Ev.step (fun k => align_Best.l0.eq_2 _ _ _ _ _ _ _) (Ev.neg (by simp) (Ev.pos (by have := T.len; omega) (Ev.pos (by have := T.row 0 (by omega); have e := row_cl (tab (bytesOf p) (bytesOf q)) 0; rw [show ((0 : Nat) : Int) = 0 from rfl] at e; rw [e]; omega) (Ev.val ?_))))
      have e := rd_cl (tab (bytesOf p) (bytesOf q)) 0 0
      rw [show ((0 : Nat) : Int) = 0 from rfl, tabq_cl p q (Nat.zero_le _) (Nat.zero_le _), List.drop_zero, List.drop_zero] at e
      rw [e, List.append_nil]
    | @step _ _ P' Q' l' s0 c hs hd hle hb =>
      subst hP
      subst hQ
      have hlen := st_len hs
      have hk := st_kind hs
      rw [List.length_cons] at hl
      have hne : (!((i : Int) == (p.size : Int)) || (!((j : Int) == (q.size : Int)))) = true := by
        rw [Bool.or_eq_true]
        by_cases h1 : i = p.size
        · by_cases h2 : j = q.size
          · rw [(drop_nil hi).2 h1, (drop_nil hj).2 h2] at hlen; simp at hlen
          · right; rw [Bool.not_eq_true', beq_eq_false_iff_ne]; omega
        · left; rw [Bool.not_eq_true', beq_eq_false_iff_ne]; omega
      refine Ev.step (fun k => align_Best.l0.eq_2 _ _ _ _ _ _ _) (Ev.pos hne ?_)
      have loop : ∀ (d : Nat) (s : Nat), (s : Int) + d = s0 → Ev (fun k => align_Best.l1 k p q acc (tab (bytesOf p) (bytesOf q)) (s : Int) (i : Int) (j : Int)) (acc ++ s0 :: l', D (bytesOf p) (bytesOf q), 0) := by
        intro d
        induction d with
        | zero =>
          intro s es
          obtain rfl : s0 = (s : Int) := by omega
          refine Ev.step (fun k => align_Best.l1.eq_2 _ _ _ _ _ _ _ _) (Ev.pos (by omega) ?_)
          rcases step_ev G hi hj (s : Int) with ⟨i', j', c', h1, h2, h3, h4, h5, h6, h7⟩ | ⟨h1, _⟩
          · rw [hs] at h6
            cases h6
            have hD := D_small G i' j'
            have hcc := st_cost hs
            refine Ev.bind h7 (Ev.pos rfl (Ev.pos (by show (0 : Int) ≤ (i' : Int); omega) (Ev.pos (by show (i' : Int) < _; have := T.len; omega) (Ev.pos (by show (0 : Int) ≤ (j' : Int); omega) (Ev.pos (by show (j' : Int) < ((rd_L2 _ (i' : Int)).length : Int); rw [row_cl]; have := T.row i' h3; omega)
              (Ev.pos (by omega) (Ev.pos (by have := T.len; omega) (Ev.pos (by omega) (Ev.pos (by rw [row_cl]; have := T.row i hi; omega) (Ev.pos ?_ (Ev.pos (by omega) ?_)))))))))))
            · show wrap64 (c + rd (rd_L2 _ (i' : Int)) (j' : Int)) = rd (rd_L2 _ (i : Int)) (j : Int)
              rw [rd_cl, rd_cl, tabq_cl p q h3 h4, tabq_cl p q hi hj, w64 (by omega) (by omega), hd]
            · have := ih l' (acc ++ [(s : Int)]) i' j' h3 h4 (by omega) (by rw [List.length_append, List.length_singleton]; omega) hb
              rw [List.append_assoc] at this
              exact this
          · rw [h1] at hs; cases hs
        | succ d ihd =>
          intro s es
          refine Ev.step (fun k => align_Best.l1.eq_2 _ _ _ _ _ _ _ _) (Ev.pos (by omega) ?_)
          rcases step_ev G hi hj (s : Int) with ⟨i', j', c', h1, h2, h3, h4, h5, h6, h7⟩ | ⟨h1, x, y, z, h2⟩
          · have hD := D_small G i' j'
            have hcc := st_cost h6
            refine Ev.bind h7 (Ev.pos rfl (Ev.pos (by show (0 : Int) ≤ (i' : Int); omega) (Ev.pos (by show (i' : Int) < _; have := T.len; omega) (Ev.pos (by show (0 : Int) ≤ (j' : Int); omega) (Ev.pos (by show (j' : Int) < ((rd_L2 _ (i' : Int)).length : Int); rw [row_cl]; have := T.row i' h3; omega)
              (Ev.pos (by omega) (Ev.pos (by have := T.len; omega) (Ev.pos (by omega) (Ev.pos (by rw [row_cl]; have := T.row i hi; omega) (Ev.neg ?_ ?_))))))))))
            · show ¬ wrap64 (c' + rd (rd_L2 _ (i' : Int)) (j' : Int)) = rd (rd_L2 _ (i : Int)) (j : Int)
              rw [rd_cl, rd_cl, tabq_cl p q h3 h4, tabq_cl p q hi hj, w64 (by omega) (by omega)]
              exact fun e => hle (s : Int) (by omega) (by omega) ⟨_, _, _, h6, e.symm⟩
            · rw [w64 (by omega) (by omega)]
              exact ihd (s + 1) (by omega)
          · refine Ev.bind h2 (Ev.neg Bool.false_ne_true ?_)
            rw [w64 (by omega) (by omega)]
            exact ihd (s + 1) (by omega)
      exact loop s0.toNat 0 (by omega)
/-- what Best answers -/
theorem best_f {p q : ByteArray} (G : Gv p q) {l : List Int} (h : Bs (bytesOf p) (bytesOf q) l) (hl : l.length ≤ 80) : Ev (fun k => align_Best.f k p q) (l, D (bytesOf p) (bytesOf q), 0) := by
  unfold align_Best.f
  refine Ev.bind (given_ev p q) ?_
  rw [giv_of G]
  refine Ev.pos rfl (Ev.bind (grid_ev G) ?_)
  have := best_ev G (p.size + q.size) l [] 0 0 (by omega) (by omega) (by omega) (by simp; omega) h
  exact this
theorem bs_of {p q : ByteArray} (G : Gv p q) : ∃ l, Bs (bytesOf p) (bytesOf q) l ∧ l.length ≤ 80 := by
  have hp := G.hp
  have hq := G.hq
  obtain ⟨l, h1, h2⟩ := Bs_ex 80 (bytesOf p) (bytesOf q) (by rw [bl, bl]; omega)
  exact ⟨l, h1, h2⟩
theorem best_no {p q : ByteArray} (h : ¬ givS p q = 0) : Ev (fun k => align_Best.f k p q) ([], 0, givS p q) := by
  unfold align_Best.f
  exact Ev.bind (given_ev p q) (Ev.neg h (Ev.now _))
end Go.Proofs.Ytnnonjjmlbemfaa.Lem
