/- align.Check in plain words. -/
import Derived.Test.YtnnonjjmlbemfaaA0
import Derived.Test.YtnnonjjmlbemfaaM3
import Derived.Test.YtnnonjjmlbemfaaX13
set_option linter.unusedVariables false
namespace Go.Proofs.Ytnnonjjmlbemfaa.Lem
open Go.RowKit Go.Proofs.Ytnnonjjmlbemfaa.X Go.Proofs.Ytnnonjjmlbemfaa.Al Go.Proofs.YtnnonjjmlbemfaaW.PrintWords Go.Proofs.YtnnonjjmlbemfaaW.PrintLast
theorem drop_rd' (l : List Int) (n : Nat) (h : n < l.length) : l.drop n = rd l (n : Int) :: l.drop (n + 1) := by
  rw [List.drop_eq_getElem_cons h]
  unfold rd
  rw [Int.toNat_natCast, List.getD_eq_getElem?_getD, List.getElem?_eq_getElem h]; rfl
theorem walk_loop {p q : ByteArray} (G : Gv p q) (l : List Int) (hl : l.length ≤ 100) (d : Nat) : ∀ (n i j : Nat) (sum : Int), n + d = l.length → i ≤ p.size → j ≤ q.size → 0 ≤ sum → sum ≤ 4 * n →
    ∃ (c : Int) (ok : Bool), Ev (fun k => align_walk_nil.l0 k p q sum l (l.length : Int) (n : Int) (i : Int) (j : Int)) (c, ok) ∧ (ok = true → ∃ c', co ((bytesOf p).drop i) ((bytesOf q).drop j) (l.drop n) = some c' ∧ c = sum + c') ∧ (ok = false → co ((bytesOf p).drop i) ((bytesOf q).drop j) (l.drop n) = none) := by
  induction d with
  | zero =>
    intro n i j sum hn hi hj h0 h1
    rw [List.drop_eq_nil_of_le (show l.length ≤ n by omega)]
    refine ⟨sum, decide (i = p.size) && decide (j = q.size), Ev.step (fun k => align_walk_nil.l0.eq_2 _ _ _ _ _ _ _ _ _) (Ev.neg (by omega) (Ev.val ?_)), fun h => ⟨0, ?_, by omega⟩, fun h => ?_⟩
    · congr 1
      rw [Bool.eq_iff_iff, Bool.and_eq_true, Bool.and_eq_true, beq_iff_eq, beq_iff_eq, decide_eq_true_eq, decide_eq_true_eq]; omega
    · simp only [Bool.and_eq_true, decide_eq_true_eq] at h
      unfold co
      rw [if_pos ⟨(drop_nil hi).2 h.1, (drop_nil hj).2 h.2⟩]
    · unfold co
      rw [if_neg]
      rintro ⟨a, b⟩
      rw [decide_eq_true ((drop_nil hi).1 a), decide_eq_true ((drop_nil hj).1 b)] at h
      cases h
  | succ d ih =>
    intro n i j sum hn hi hj h0 h1
    rw [drop_rd' l n (by omega)]
    unfold co
    rcases step_ev G hi hj (rd l (n : Int)) with ⟨i', j', c, a1, a2, a3, a4, a5, a6, a7⟩ | ⟨a1, x, y, z, a2⟩
    · have hc := st_cost a6
      obtain ⟨r, ok, b1, b2, b3⟩ := ih (n + 1) i' j' (sum + c) (by omega) a3 a4 (by omega) (by omega)
      rw [a6]
      refine ⟨r, ok, Ev.step (fun k => align_walk_nil.l0.eq_2 _ _ _ _ _ _ _ _ _) (Ev.pos (by omega) (Ev.pos (by omega) (Ev.pos (by omega) (Ev.bind a7 (Ev.pos rfl ?_))))), fun h => ?_, fun h => ?_⟩
      · show Ev (fun k => align_walk_nil.l0 k p q (wrap64 (sum + c)) l (l.length : Int) (wrap64 ((n : Int) + 1)) (i' : Int) (j' : Int)) (r, ok)
        rw [w64 (by omega) (by omega), w64 (by omega) (by omega)]
        exact b1
      · obtain ⟨c', e1, e2⟩ := b2 h
        exact ⟨c + c', by simp only [e1, Option.map_some], by omega⟩
      · simp only [b3 h, Option.map_none]
    · rw [a1]
      refine ⟨0, false, Ev.step (fun k => align_walk_nil.l0.eq_2 _ _ _ _ _ _ _ _ _) (Ev.pos (by omega) (Ev.pos (by omega) (Ev.pos (by omega) (Ev.bind a2 (Ev.neg Bool.false_ne_true (Ev.now _)))))), (fun h => absurd h (by decide)), (fun _ => rfl)⟩
theorem walk_ev {p q : ByteArray} (G : Gv p q) (l : List Int) (hl : l.length ≤ 100) :
    ∃ (c : Int) (ok : Bool), Ev (fun k => align_walk_nil.f k p q l) (c, ok) ∧ (ok = true → co (bytesOf p) (bytesOf q) l = some c) ∧ (ok = false → co (bytesOf p) (bytesOf q) l = none) := by
  obtain ⟨c, ok, h1, h2, h3⟩ := walk_loop G l hl l.length 0 0 0 0 (by omega) (Nat.zero_le _) (Nat.zero_le _) (by decide) (by decide)
  refine ⟨c, ok, h1, fun h => ?_, h3⟩
  obtain ⟨c', e1, e2⟩ := h2 h
  rw [e2, Int.zero_add]
  exact e1
/-- numbers whose sums stay small -/
def Sm (t : List (List Int)) : Prop := ∀ i j, -1000000 ≤ cl t i j ∧ cl t i j ≤ 1000000
theorem okk_of {p q : ByteArray} {t : List (List Int)} {i j : Nat} {s : Int} {i' j' : Nat} {c : Int} (hi : i' ≤ p.size) (hj : j' ≤ q.size)
    (h : st s ((bytesOf p).drop i) ((bytesOf q).drop j) = some ((bytesOf p).drop i', (bytesOf q).drop j', c)) : Okk (bytesOf p) (bytesOf q) t i j s ↔ cl t i j ≤ c + cl t i' j' := by
  have e1 : (bytesOf p).length - ((bytesOf p).drop i').length = i' := by rw [drop_len, bl]; omega
  have e2 : (bytesOf q).length - ((bytesOf q).drop j').length = j' := by rw [drop_len, bl]; omega
  constructor
  · intro a
    have := a _ _ _ h
    rwa [e1, e2] at this
  · intro a P' Q' c' e
    rw [h] at e
    cases e
    rw [e1, e2]; exact a
theorem okk_none {p q : ByteArray} {t : List (List Int)} {i j : Nat} {s : Int} (h : st s ((bytesOf p).drop i) ((bytesOf q).drop j) = none) : Okk (bytesOf p) (bytesOf q) t i j s := fun P' Q' c e => by rw [h] at e; cases e
theorem check3 {p q : ByteArray} (G : Gv p q) {t : List (List Int)} (hs : Sh t p.size q.size) (hm : Sm t) {i j : Nat} (hi : i ≤ p.size) (hj : j ≤ q.size) (xs : List (List Int)) (xl : Int) (row : List Int) (rl : Int) {R : Prop} {b : Bool} (hb : b = true ↔ R)
    (ih : Ev (fun k => align_Check.l2 k p q t (i : Int) xs xl (i : Int) row rl ((j + 1 : Nat) : Int)) b) (d : Nat) :
    ∀ s : Nat, s + d = 5 → ∃ b, Ev (fun k => align_Check.l3 k p q t (i : Int) (j : Int) (cl t i j) xs xl (i : Int) row rl (j : Int) (s : Int)) b ∧ (b = true ↔ A3 (bytesOf p) (bytesOf q) t i j s ∧ R) := by
  have hp := G.hp
  have hq := G.hq
  induction d with
  | zero =>
    intro s hs
    obtain rfl : s = 5 := by omega
    refine ⟨b, Ev.step (fun k => align_Check.l3.eq_2 _ _ _ _ _ _ _ _ _ _ _ _ _ _) (Ev.neg (by decide) ?_), ⟨fun h => ⟨A3_end, hb.1 h⟩, fun h => hb.2 h.2⟩⟩
    rw [w64 (by omega) (by omega)]
    exact ih
  | succ d ihd =>
    intro s hsd
    obtain ⟨b1, e1, e2⟩ := ihd (s + 1) (by omega)
    have e1' : Ev (fun k => align_Check.l3 k p q t (i : Int) (j : Int) (cl t i j) xs xl (i : Int) row rl (j : Int) (wrap64 ((s : Int) + 1))) b1 := by rw [w64 (by omega) (by omega)]; exact e1
    rcases step_ev G hi hj (s : Int) with ⟨i', j', c, h1, h2, h3, h4, h5, h6, h7⟩ | ⟨h1, x, y, z, h2⟩
    · have hc := st_cost h6
      have m1 := hm i j
      have m2 := hm i' j'
      have ho := okk_of (t := t) h3 h4 h6
      have pre : ∀ {r : Bool}, Ev (fun k => if cl t i j > c + cl t i' j' then some false else align_Check.l3 k p q t (i : Int) (j : Int) (cl t i j) xs xl (i : Int) row rl (j : Int) (wrap64 ((s : Int) + 1))) r → Ev (fun k => align_Check.l3 k p q t (i : Int) (j : Int) (cl t i j) xs xl (i : Int) row rl (j : Int) (s : Int)) r := by
        intro r h
        refine Ev.step (fun k => align_Check.l3.eq_2 _ _ _ _ _ _ _ _ _ _ _ _ _ _) (Ev.pos (by omega) (Ev.bind h7 (Ev.pos rfl (Ev.pos (by show (0 : Int) ≤ (i' : Int); omega) (Ev.pos (by show (i' : Int) < _; have := hs.len; omega) (Ev.pos (by show (0 : Int) ≤ (j' : Int); omega) (Ev.pos (by show (j' : Int) < ((rd_L2 t (i' : Int)).length : Int); rw [row_cl]; have := hs.row i' h3; omega) ?_)))))))
        show Ev (fun k => if cl t i j > wrap64 (c + rd (rd_L2 t (i' : Int)) (j' : Int)) then some false else align_Check.l3 k p q t (i : Int) (j : Int) (cl t i j) xs xl (i : Int) row rl (j : Int) (wrap64 ((s : Int) + 1))) r
        rw [rd_cl, w64 (i := c + _) (by omega) (by omega)]
        exact h
      by_cases hgt : cl t i j > c + cl t i' j'
      · refine ⟨false, pre (Ev.pos hgt (Ev.now _)), ⟨fun h => absurd h (by decide), fun h => ?_⟩⟩
        have := ho.1 ((A3_next (s := s) (show s < 5 by omega)).1 h.1).1
        omega
      · refine ⟨b1, pre (Ev.neg hgt e1'), ?_⟩
        rw [e2, A3_next (s := s) (show s < 5 by omega)]
        exact ⟨fun h => ⟨⟨ho.2 (by omega), h.1⟩, h.2⟩, fun h => ⟨h.1.2, h.2⟩⟩
    · refine ⟨b1, Ev.step (fun k => align_Check.l3.eq_2 _ _ _ _ _ _ _ _ _ _ _ _ _ _) (Ev.pos (by omega) (Ev.bind h2 (Ev.neg Bool.false_ne_true e1'))), ?_⟩
      rw [e2, A3_next (s := s) (show s < 5 by omega)]
      exact ⟨fun h => ⟨⟨okk_none h1, h.1⟩, h.2⟩, fun h => ⟨h.1.2, h.2⟩⟩
theorem check2 {p q : ByteArray} (G : Gv p q) {t : List (List Int)} (hs : Sh t p.size q.size) (hm : Sm t) {i : Nat} (hi : i ≤ p.size) (xl : Int) {R : Prop} {b : Bool} (hb : b = true ↔ R)
    (ih : Ev (fun k => align_Check.l1 k p q t t xl ((i + 1 : Nat) : Int)) b) (d : Nat) :
    ∀ j : Nat, j + d = q.size + 1 → ∃ b, Ev (fun k => align_Check.l2 k p q t (i : Int) t xl (i : Int) (rd_L2 t (i : Int)) ((rd_L2 t (i : Int)).length : Int) (j : Int)) b ∧ (b = true ↔ A2 (bytesOf p) (bytesOf q) t i j ∧ R) := by
  have hp := G.hp
  have hq := G.hq
  have hrow := hs.row i hi
  induction d with
  | zero =>
    intro j hj
    refine ⟨b, Ev.step (fun k => align_Check.l2.eq_2 _ _ _ _ _ _ _ _ _ _ _) (Ev.neg (by rw [row_cl]; omega) ?_), ⟨fun h => ⟨A2_end (by rw [bl]; omega), hb.1 h⟩, fun h => hb.2 h.2⟩⟩
    rw [w64 (by omega) (by omega)]
    exact ih
  | succ d ihd =>
    intro j hj
    obtain ⟨b1, e1, e2⟩ := ihd (j + 1) (by omega)
    obtain ⟨b2, f1, f2⟩ := check3 G hs hm hi (show j ≤ q.size by omega) t xl (rd_L2 t (i : Int)) ((rd_L2 t (i : Int)).length : Int) e2 e1 5 0 rfl
    refine ⟨b2, Ev.step (fun k => align_Check.l2.eq_2 _ _ _ _ _ _ _ _ _ _ _) (Ev.pos (by rw [row_cl]; omega) (Ev.pos (by omega) (Ev.pos (by rw [row_cl]; omega) ?_))), ?_⟩
    · rw [rd_cl]; exact f1
    · rw [f2, A2_next (show j ≤ (bytesOf q).length by rw [bl]; omega)]
      exact ⟨fun h => ⟨⟨h.1, h.2.1⟩, h.2.2⟩, fun h => ⟨h.1.1, h.1.2, h.2⟩⟩
theorem check1 {p q : ByteArray} (G : Gv p q) {t : List (List Int)} (hs : Sh t p.size q.size) (hm : Sm t) (d : Nat) :
    ∀ i : Nat, i + d = p.size + 1 → ∃ b, Ev (fun k => align_Check.l1 k p q t t (t.length : Int) (i : Int)) b ∧ (b = true ↔ A1 (bytesOf p) (bytesOf q) t i) := by
  have hp := G.hp
  have hq := G.hq
  have hl := hs.len
  induction d with
  | zero =>
    intro i hi
    exact ⟨true, Ev.step (fun k => align_Check.l1.eq_2 _ _ _ _ _ _ _) (Ev.neg (by omega) (Ev.now _)), ⟨fun _ => A1_end (by rw [bl]; omega), fun _ => rfl⟩⟩
  | succ d ihd =>
    intro i hi
    obtain ⟨b1, e1, e2⟩ := ihd (i + 1) (by omega)
    obtain ⟨b2, f1, f2⟩ := check2 G hs hm (show i ≤ p.size by omega) (t.length : Int) e2 e1 (q.size + 1) 0 (by omega)
    refine ⟨b2, Ev.step (fun k => align_Check.l1.eq_2 _ _ _ _ _ _ _) (Ev.pos (by omega) (Ev.pos (by omega) (Ev.pos (by omega) f1))), ?_⟩
    rw [f2, A1_next (show i ≤ (bytesOf p).length by rw [bl]; omega)]
theorem check0 {p q : ByteArray} (G : Gv p q) {t : List (List Int)} (hl : t.length = p.size + 1) (steps : List Int) {b : Bool} (hb : ∀ _ : Sh t p.size q.size, Ev (fun k => (align_walk_nil.f k p q steps).bind fun bt224 => (if bt224.2 = true then (if 0 < (t.length : Int) then (if 0 < ((rd_L2 t 0).length : Int) then (if bt224.1 = (rd (rd_L2 t 0) 0) then (if 0 ≤ (p.size : Int) then (if (p.size : Int) < (t.length : Int) then (if 0 ≤ (q.size : Int) then (if (q.size : Int) < ((rd_L2 t (p.size : Int)).length : Int) then (align_Check.j2 k p q t ((rd (rd_L2 t (p.size : Int)) (q.size : Int)) != 0)) else (none)) else (none)) else (none)) else (none)) else (align_Check.j2 k p q t true)) else (none)) else (none)) else (align_Check.j2 k p q t true))) b) (d : Nat) :
    ∀ i : Nat, i + d = p.size + 1 → (∀ i', i' < i → (t.getD i' []).length = q.size + 1) → (Sh t p.size q.size ∧ Ev (fun k => align_Check.l0 k p q steps t t (t.length : Int) (i : Int)) b) ∨ (¬ Sh t p.size q.size ∧ Ev (fun k => align_Check.l0 k p q steps t t (t.length : Int) (i : Int)) false) := by
  have hp := G.hp
  have hq := G.hq
  have e : wrap64 ((q.size : Int) + 1) = ((q.size + 1 : Nat) : Int) := by rw [w64 (by omega) (by omega)]; omega
  induction d with
  | zero =>
    intro i hi hr
    have hs : Sh t p.size q.size := ⟨hl, fun i' h => hr i' (by omega)⟩
    exact .inl ⟨hs, Ev.step (fun k => align_Check.l0.eq_2 _ _ _ _ _ _ _ _) (Ev.neg (by omega) (hb hs))⟩
  | succ d ihd =>
    intro i hi hr
    by_cases hrow : (t.getD i []).length = q.size + 1
    · have := ihd (i + 1) (by omega) (fun i' h => by
        by_cases e : i' = i
        · rw [e]; exact hrow
        · exact hr i' (by omega))
      have go : ∀ {r : Bool}, Ev (fun k => align_Check.l0 k p q steps t t (t.length : Int) ((i + 1 : Nat) : Int)) r → Ev (fun k => align_Check.l0 k p q steps t t (t.length : Int) (i : Int)) r := by
        intro r h
        refine Ev.step (fun k => align_Check.l0.eq_2 _ _ _ _ _ _ _ _) (Ev.pos (by omega) (Ev.pos (by omega) (Ev.pos (by omega) ?_)))
        rw [row_cl, e, w64 (by omega) (by omega)]
        exact Ev.pos (by rw [hrow]) h
      exact this.imp (fun h => ⟨h.1, go h.2⟩) (fun h => ⟨h.1, go h.2⟩)
    · refine .inr ⟨fun h => hrow (h.row i (by omega)), Ev.step (fun k => align_Check.l0.eq_2 _ _ _ _ _ _ _ _) (Ev.pos (by omega) (Ev.pos (by omega) (Ev.pos (by omega) ?_)))⟩
      rw [row_cl, e]
      exact Ev.neg (by omega) (Ev.now _)
theorem check_ev {p q : ByteArray} (G : Gv p q) {t : List (List Int)} (hm : Sm t) (hlen : t.length ≤ 1000000) (steps : List Int) (hl : steps.length ≤ 100) : ∃ b, Ev (fun k => align_Check.f k p q steps t) b ∧ (b = true ↔ CK (bytesOf p) (bytesOf q) steps t) := by
  have hp := G.hp
  have hq := G.hq
  have e : wrap64 ((p.size : Int) + 1) = ((p.size + 1 : Nat) : Int) := by rw [w64 (by omega) (by omega)]; omega
  have j0 : ∀ {b x : Bool}, Ev (fun k => align_Check.j0 k p q steps t x) b → x = ((t.length : Int) != ((p.size + 1 : Nat) : Int)) → Ev (fun k => align_Check.f k p q steps t) b := by
    intro b x h hx
    unfold align_Check.f
    refine Ev.bind (given_ev p q) ?_
    rw [giv_of G]
    refine Ev.pos rfl ?_
    rw [e, ← hx]
    exact h
  by_cases hlt : t.length = p.size + 1
  · have hx : false = ((t.length : Int) != ((p.size + 1 : Nat) : Int)) := by rw [hlt]; simp
    have main : ∃ b, (∀ _ : Sh t p.size q.size, Ev (fun k => (align_walk_nil.f k p q steps).bind fun bt224 => (if bt224.2 = true then (if 0 < (t.length : Int) then (if 0 < ((rd_L2 t 0).length : Int) then (if bt224.1 = (rd (rd_L2 t 0) 0) then (if 0 ≤ (p.size : Int) then (if (p.size : Int) < (t.length : Int) then (if 0 ≤ (q.size : Int) then (if (q.size : Int) < ((rd_L2 t (p.size : Int)).length : Int) then (align_Check.j2 k p q t ((rd (rd_L2 t (p.size : Int)) (q.size : Int)) != 0)) else (none)) else (none)) else (none)) else (none)) else (align_Check.j2 k p q t true)) else (none)) else (none)) else (align_Check.j2 k p q t true))) b) ∧ (Sh t p.size q.size → (b = true ↔ CK (bytesOf p) (bytesOf q) steps t)) := by
      by_cases hs : Sh t p.size q.size
      · have hsb : Sh t (bytesOf p).length (bytesOf q).length := by rw [bl, bl]; exact hs
        obtain ⟨c, ok, w1, w2, w3⟩ := walk_ev G steps hl
        have z00 : rd (rd_L2 t 0) 0 = cl t 0 0 := rd_cl t 0 0
        have zmn : rd (rd_L2 t (p.size : Int)) (q.size : Int) = cl t p.size q.size := rd_cl t _ _
        have r0 : ((rd_L2 t 0).length : Int) = ((q.size + 1 : Nat) : Int) := by have := row_cl t 0; rw [show ((0 : Nat) : Int) = 0 from rfl] at this; rw [this, hs.row 0 (Nat.zero_le _)]
        have rm : ((rd_L2 t (p.size : Int)).length : Int) = ((q.size + 1 : Nat) : Int) := by rw [row_cl, hs.row p.size (Nat.le_refl _)]
        have no : Ev (fun k => align_Check.j2 k p q t true) false := Ev.step (fun k => align_Check.j2.eq_2 _ _ _ _ _) (Ev.pos rfl (Ev.now _))
        cases ok with
        | false => exact ⟨false, fun _ => Ev.bind w1 (Ev.neg Bool.false_ne_true no), fun _ => ⟨fun h => absurd h (by decide), fun h => by have := h.co_; rw [w3 rfl] at this; cases this⟩⟩
        | true =>
          have hco := w2 rfl
          by_cases h00 : c = cl t 0 0
          · by_cases hz : cl t p.size q.size = 0
            · obtain ⟨b, c1, c2⟩ := check1 G hs hm (p.size + 1) 0 (by omega)
              refine ⟨b, fun _ => Ev.bind w1 (Ev.pos rfl (Ev.pos (by omega) (Ev.pos (by rw [r0]; omega) (Ev.pos (by rw [z00]; exact h00) (Ev.pos (by omega) (Ev.pos (by omega) (Ev.pos (by omega) (Ev.pos (by rw [rm]; omega) ?_)))))))), fun _ => ?_⟩
              · rw [zmn, hz]
                exact Ev.step (fun k => align_Check.j2.eq_2 _ _ _ _ _) (Ev.neg (by decide) c1)
              · rw [c2]
                exact ⟨fun h => ⟨hsb, h00 ▸ hco, by rw [bl, bl]; exact hz, h⟩, fun h => h.pot⟩
            · refine ⟨false, fun _ => Ev.bind w1 (Ev.pos rfl (Ev.pos (by omega) (Ev.pos (by rw [r0]; omega) (Ev.pos (by rw [z00]; exact h00) (Ev.pos (by omega) (Ev.pos (by omega) (Ev.pos (by omega) (Ev.pos (by rw [rm]; omega) ?_)))))))), fun _ => ⟨fun h => absurd h (by decide), fun h => by have := h.z; rw [bl, bl] at this; exact absurd this hz⟩⟩
              rw [zmn, show (cl t p.size q.size != 0) = true from bne_iff_ne.2 hz]
              exact no
          · refine ⟨false, fun _ => Ev.bind w1 (Ev.pos rfl (Ev.pos (by omega) (Ev.pos (by rw [r0]; omega) (Ev.neg (by rw [z00]; exact h00) no)))), fun _ => ⟨fun h => absurd h (by decide), fun h => ?_⟩⟩
            have := h.co_
            rw [hco] at this
            exact absurd (Option.some.inj this) h00
      · exact ⟨false, fun h => absurd h hs, fun h => absurd h hs⟩
    obtain ⟨b, m1, m2⟩ := main
    rcases check0 G hlt steps m1 (p.size + 1) 0 (by omega) (fun i' h => by omega) with ⟨hs, h⟩ | ⟨hs, h⟩
    · exact ⟨b, j0 (Ev.step (fun k => align_Check.j0.eq_2 _ _ _ _ _ _) (Ev.neg (by decide) h)) hx, m2 hs⟩
    · refine ⟨false, j0 (Ev.step (fun k => align_Check.j0.eq_2 _ _ _ _ _ _) (Ev.neg (by decide) h)) hx, ⟨fun h => absurd h (by decide), fun h => ?_⟩⟩
      have := h.sh
      rw [bl, bl] at this
      exact absurd this hs
  · refine ⟨false, j0 (x := true) (Ev.step (fun k => align_Check.j0.eq_2 _ _ _ _ _ _) (Ev.pos rfl (Ev.now _))) (by symm; rw [bne_iff_ne]; omega), ⟨fun h => absurd h (by decide), fun h => ?_⟩⟩
    have := h.sh.len
    rw [bl] at this
    exact absurd this hlt
end Go.Proofs.Ytnnonjjmlbemfaa.Lem
