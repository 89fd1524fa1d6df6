/- Pairs and Text return the pairs and the lines of any alignment, or the specified error: for any two strings and any steps (strings over 70 bytes and more than 100 steps are left out by the law's own guard). -/
import Derived.Test.YtnnonjjmlbemfaaA3
import Derived.Test.YtnnonjjmlbemfaaR3
import Derived.Test.YtnnonjjmlbemfaaX22
import Derived.Test.YtnnonjjmlbemfaaX23
import Derived.Test.YtnnonjjmlbemfaaX24
set_option linter.unusedVariables false
namespace Go.Proofs.Ytnnonjjmlbemfaa.Pure
open Go.RowKit Go.Proofs.Ytnnonjjmlbemfaa.X Go.Proofs.Ytnnonjjmlbemfaa.Lem Go.Proofs.Ytnnonjjmlbemfaa.Al Go.Proofs.YtnnonjjmlbemfaaW.PrintWords Go.Proofs.YtnnonjjmlbemfaaW.PrintLast
theorem drop_inj {s : ByteArray} {i j : Nat} (hi : i ≤ s.size) (hj : j ≤ s.size) (h : (bytesOf s).drop i = (bytesOf s).drop j) : i = j := by
  have := congrArg List.length h
  rw [drop_len, drop_len] at this
  omega
/-- both steps lead to one place -/
theorem both_ev {p q : ByteArray} (g : Gv p q) {i j : Nat} (hi : i ≤ p.size) (hj : j ≤ q.size) (s : Int) :
    (∃ (i' j' : Nat) (c : Int), i ≤ i' ∧ j ≤ j' ∧ i' ≤ p.size ∧ j' ≤ q.size ∧ st s ((bytesOf p).drop i) ((bytesOf q).drop j) = some ((bytesOf p).drop i', (bytesOf q).drop j', c) ∧ Ev (fun k => align_step.f k p q (i : Int) (j : Int) s) ((i' : Int), (j' : Int), c, true) ∧ Ev (fun k => ancepsref45_Step.f k p q (i : Int) (j : Int) s) ((i' : Int), (j' : Int), c, true))
      ∨ (st s ((bytesOf p).drop i) ((bytesOf q).drop j) = none ∧ ∃ x y z, Ev (fun k => align_step.f k p q (i : Int) (j : Int) s) (x, y, z, false)) := by
  rcases step_ev g hi hj s with ⟨i', j', c, h1, h2, h3, h4, h5, h6, h7⟩ | ⟨h1, x, y, z, h2⟩
  · rcases rstep_ev g hi hj s with ⟨i2, j2, c2, k1, k2, k3, k4, k5, k6, k7⟩ | ⟨k1, _⟩
    · rw [h6] at k6
      simp only [Option.some.injEq, Prod.mk.injEq] at k6
      obtain rfl := drop_inj h3 k3 k6.1
      obtain rfl := drop_inj h4 k4 k6.2.1
      obtain rfl := k6.2.2
      exact .inl ⟨i', j', c, h1, h2, h3, h4, h6, h7, k7⟩
    · rw [h6] at k1; cases k1
  · exact .inr ⟨h1, x, y, z, h2⟩
theorem cow_loop {p q : ByteArray} (G : Gv p q) (l : List Int) (hl : l.length ≤ 100) (d : Nat) : ∀ (n i j : Nat) (sum : Int), n + d = l.length → i ≤ p.size → j ≤ q.size → 0 ≤ sum → sum ≤ 4 * n →
    ∃ (c : Int) (ok : Bool), Ev (fun k => align_walk.l0 k p q sum l (n : Int) (i : Int) (j : Int)) (c, ok) ∧ (ok = true ↔ co ((bytesOf p).drop i) ((bytesOf q).drop j) (l.drop n) ≠ none) := by
  induction d with
  | zero =>
    intro n i j sum hn hi hj h0 h1
    rw [List.drop_eq_nil_of_le (show l.length ≤ n by omega)]
    refine ⟨sum, decide (i = p.size) && decide (j = q.size), Ev.step (fun k => align_walk.l0.eq_2 _ _ _ _ _ _ _ _) (Ev.neg (by omega) (Ev.val ?_)), ?_⟩
    · congr 1
      rw [Bool.eq_iff_iff, Bool.and_eq_true, Bool.and_eq_true, beq_iff_eq, beq_iff_eq, decide_eq_true_eq, decide_eq_true_eq]; omega
    · unfold co
      rw [Bool.and_eq_true, decide_eq_true_eq, decide_eq_true_eq]
      constructor
      · rintro ⟨a, b⟩
        rw [if_pos ⟨(drop_nil hi).2 a, (drop_nil hj).2 b⟩]; simp
      · intro h
        by_cases he : (bytesOf p).drop i = [] ∧ (bytesOf q).drop j = []
        · exact ⟨(drop_nil hi).1 he.1, (drop_nil hj).1 he.2⟩
        · rw [if_neg he] at h; exact absurd rfl h
  | succ d ih =>
    intro n i j sum hn hi hj h0 h1
    rw [drop_rd l n (by omega)]
    unfold co
    rcases step_ev G hi hj (rd l (n : Int)) with ⟨i', j', c, a1, a2, a3, a4, a5, a6, a7⟩ | ⟨a1, x, y, z, a2⟩
    · have hc := st_cost a6
      obtain ⟨r, ok, b1, b2⟩ := ih (n + 1) i' j' (sum + c) (by omega) a3 a4 (by omega) (by omega)
      rw [a6]
      refine ⟨r, ok, Ev.step (fun k => align_walk.l0.eq_2 _ _ _ _ _ _ _ _) (Ev.pos (by omega) (Ev.pos (by omega) (Ev.bind a7 (Ev.pos rfl ?_)))), ?_⟩
      · show Ev (fun k => align_walk.l0 k p q (wrap64 (sum + c)) l ((n : Int) + 1) (i' : Int) (j' : Int)) (r, ok)
        rw [w64 (by omega) (by omega)]
        exact b1
      · rw [b2]; simp
    · rw [a1]
      refine ⟨0, false, Ev.step (fun k => align_walk.l0.eq_2 _ _ _ _ _ _ _ _) (Ev.pos (by omega) (Ev.pos (by omega) (Ev.bind a2 (Ev.neg Bool.false_ne_true (Ev.now _))))), by simp⟩
theorem pr_len (s i j : Int) : (align_Pairs.pr s i j).length ≤ 2 := by
  unfold align_Pairs.pr
  split
  · simp
  · split
    · simp
    · split
      · simp
      · split <;> simp
theorem pr0 (i j : Int) : align_Pairs.pr 0 i j = [⟨i, j⟩] := by unfold align_Pairs.pr; simp
theorem pr1 (i j : Int) : align_Pairs.pr 1 i j = [⟨i, j⟩, ⟨i, j + 1⟩] := by unfold align_Pairs.pr; simp
theorem pr2 (i j : Int) : align_Pairs.pr 2 i j = [⟨i, j⟩, ⟨i + 1, j⟩] := by unfold align_Pairs.pr; simp
theorem pr3 (i j : Int) : align_Pairs.pr 3 i j = [⟨i, -1⟩] := by unfold align_Pairs.pr; simp
theorem pr4 (i j : Int) : align_Pairs.pr 4 i j = [⟨-1, j⟩] := by unfold align_Pairs.pr; simp
theorem pairs_any {p q : ByteArray} (G : Gv p q) (l : List Int) (hl : l.length ≤ 100) (d : Nat) : ∀ (n i j : Nat) (acc : List S45), n + d = l.length → i ≤ p.size → j ≤ q.size → acc.length ≤ 2 * n →
    ∃ R, Ev (fun k => align_Pairs.t0 k p q l (n : Int) (i : Int) (j : Int) acc) R ∧ (co ((bytesOf p).drop i) ((bytesOf q).drop j) (l.drop n) ≠ none → Ev (fun k => ancepsref45_Pairs.l0 k p q l acc (i : Int) (j : Int) (n : Int)) (R, 0)) := by
  have hp := G.hp
  have hq := G.hq
  induction d with
  | zero =>
    intro n i j acc hn hi hj ha
    exact ⟨acc, Ev.step (fun k => align_Pairs.t0.eq_2 _ _ _ _ _ _ _ _) (Ev.neg (by omega) (Ev.now _)), fun _ => Ev.step (fun k => ancepsref45_Pairs.l0.eq_2 _ _ _ _ _ _ _ _) (Ev.neg (by omega) (Ev.now _))⟩
  | succ d ih =>
    intro n i j acc hn hi hj ha
    rw [drop_rd l n (by omega)]
    unfold co
    rcases both_ev G hi hj (rd l (n : Int)) with ⟨i', j', c, a1, a2, a3, a4, a6, a7, a8⟩ | ⟨a1, x, y, z, a2⟩
    · have hk := st_kind a6
      have hpl := pr_len (rd l (n : Int)) (i : Int) (j : Int)
      obtain ⟨R, b1, b2⟩ := ih (n + 1) i' j' (acc ++ align_Pairs.pr (rd l (n : Int)) (i : Int) (j : Int)) (by omega) a3 a4 (by rw [List.length_append]; omega)
      rw [show ((n + 1 : Nat) : Int) = (n : Int) + 1 by omega] at b1
      rw [a6]
      refine ⟨R, Ev.step (fun k => align_Pairs.t0.eq_2 _ _ _ _ _ _ _ _) (Ev.pos (by omega) (Ev.bind a7 (Ev.pos rfl (Ev.pos (by omega) b1)))), fun h => ?_⟩
      have h2 : co ((bytesOf p).drop i') ((bytesOf q).drop j') (l.drop (n + 1)) ≠ none := fun e => h (by simp only [e, Option.map_none])
      have b2 := b2 h2
      have hA : (n : Int) < (l.length : Int) := by omega
      have hB : (0 : Int) ≤ (n : Int) := by omega
      have hC : acc.length < 8796093022208 := by omega
      have hD : acc.length + 2 < 8796093022208 := by omega
      have e1 : wrap64 ((n : Int) + 1) = ((n + 1 : Nat) : Int) := by rw [w64 (by omega) (by omega)]; omega
      have e2 : wrap64 ((i : Int) + 1) = (i : Int) + 1 := w64 (by omega) (by omega)
      have e3 : wrap64 ((j : Int) + 1) = (j : Int) + 1 := w64 (by omega) (by omega)
      clear h hpl ih hn ha
      rcases hk with e | e | e | e | e
      · rw [e, pr0] at b2
        exact Ev.step (f := fun k => (ancepsref45_Step.f k p q (i : Int) (j : Int) (rd l (n : Int))).bind fun b => ancepsref45_Pairs.l0 k p q l (acc ++ [⟨(i : Int), (j : Int)⟩]) b.1 b.2.1 ((n + 1 : Nat) : Int)) (fun k => by rw [ancepsref45_Pairs.l0.eq_2, if_pos hA, if_pos hB, if_pos e, if_pos hC, e1]) (Ev.bind a8 b2)
      · rw [e, pr1] at b2
        have e0 : ¬ rd l (n : Int) = 0 := by rw [e]; decide
        exact Ev.step (f := fun k => (ancepsref45_Step.f k p q (i : Int) (j : Int) (rd l (n : Int))).bind fun b => ancepsref45_Pairs.l0 k p q l (acc ++ [⟨(i : Int), (j : Int)⟩, ⟨(i : Int), (j : Int) + 1⟩]) b.1 b.2.1 ((n + 1 : Nat) : Int)) (fun k => by rw [ancepsref45_Pairs.l0.eq_2, if_pos hA, if_pos hB, if_neg e0, if_pos e, Option.bind_some, if_pos (show acc.length + List.length [_, _] < _ from hD), e1, e3]) (Ev.bind a8 b2)
      · rw [e, pr2] at b2
        have e0 : ¬ rd l (n : Int) = 0 := by rw [e]; decide
        have e01 : ¬ rd l (n : Int) = 1 := by rw [e]; decide
        exact Ev.step (f := fun k => (ancepsref45_Step.f k p q (i : Int) (j : Int) (rd l (n : Int))).bind fun b => ancepsref45_Pairs.l0 k p q l (acc ++ [⟨(i : Int), (j : Int)⟩, ⟨(i : Int) + 1, (j : Int)⟩]) b.1 b.2.1 ((n + 1 : Nat) : Int)) (fun k => by rw [ancepsref45_Pairs.l0.eq_2, if_pos hA, if_pos hB, if_neg e0, if_neg e01, if_pos e, Option.bind_some, if_pos (show acc.length + List.length [_, _] < _ from hD), e1, e2]) (Ev.bind a8 b2)
      · rw [e, pr3] at b2
        have e0 : ¬ rd l (n : Int) = 0 := by rw [e]; decide
        have e01 : ¬ rd l (n : Int) = 1 := by rw [e]; decide
        have e02 : ¬ rd l (n : Int) = 2 := by rw [e]; decide
        exact Ev.step (f := fun k => (ancepsref45_Step.f k p q (i : Int) (j : Int) (rd l (n : Int))).bind fun b => ancepsref45_Pairs.l0 k p q l (acc ++ [⟨(i : Int), -1⟩]) b.1 b.2.1 ((n + 1 : Nat) : Int)) (fun k => by rw [ancepsref45_Pairs.l0.eq_2, if_pos hA, if_pos hB, if_neg e0, if_neg e01, if_neg e02, if_pos e, if_pos hC, e1]) (Ev.bind a8 b2)
      · rw [e, pr4] at b2
        have e0 : ¬ rd l (n : Int) = 0 := by rw [e]; decide
        have e01 : ¬ rd l (n : Int) = 1 := by rw [e]; decide
        have e02 : ¬ rd l (n : Int) = 2 := by rw [e]; decide
        have e03 : ¬ rd l (n : Int) = 3 := by rw [e]; decide
        exact Ev.step (f := fun k => (ancepsref45_Step.f k p q (i : Int) (j : Int) (rd l (n : Int))).bind fun b => ancepsref45_Pairs.l0 k p q l (acc ++ [⟨-1, (j : Int)⟩]) b.1 b.2.1 ((n + 1 : Nat) : Int)) (fun k => by rw [ancepsref45_Pairs.l0.eq_2, if_pos hA, if_pos hB, if_neg e0, if_neg e01, if_neg e02, if_neg e03, if_pos hC, e1]) (Ev.bind a8 b2)
    · refine ⟨[], Ev.step (fun k => align_Pairs.t0.eq_2 _ _ _ _ _ _ _ _) (Ev.pos (by omega) (Ev.bind a2 (Ev.neg Bool.false_ne_true (Ev.now _)))), fun h => ?_⟩
      rw [a1] at h
      exact absurd rfl h
/-! the lines -/
def mkS (L : List UInt8) : ByteArray := ⟨L.toArray⟩
theorem mkS_app (L : List UInt8) (x : ByteArray) : mkS L ++ x = mkS (L ++ x.data.toList) := by
  apply ByteArray.ext
  rw [ByteArray.data_append]
  unfold mkS
  apply Array.toList_inj.1
  simp
theorem mkS_size (L : List UInt8) : (mkS L).size = L.length := by unfold mkS; rfl
theorem ext_same (s : ByteArray) (i : Nat) : (s.extract i i).data.toList = [] := by
  have : (s.extract i i).data.toList.length = (s.extract i i).size := Array.length_toList
  rw [ByteArray.size_extract] at this
  exact List.eq_nil_of_length_eq_zero (by omega)
theorem ext_len (s : ByteArray) (i i' : Nat) (h : s.size ≤ 40) : (s.extract i i').data.toList.length ≤ 40 ∧ (s.extract i i').size ≤ 40 := by
  have : (s.extract i i').data.toList.length = (s.extract i i').size := Array.length_toList
  rw [ByteArray.size_extract] at this
  rw [ByteArray.size_extract]
  omega
theorem la_len (p : ByteArray) (s : Int) (i i' : Nat) (h : i' ≤ i + 2) : (align_Text.la p s (i : Int) (i' : Int)).length ≤ 3 := by
  unfold align_Text.la
  have : (p.extract i i').data.toList.length = (p.extract i i').size := Array.length_toList
  rw [ByteArray.size_extract] at this
  rw [List.length_append, Int.toNat_natCast, Int.toNat_natCast]
  split <;> simp <;> omega
theorem lb_len (p : ByteArray) (s : Int) (i i' : Nat) (h : i' ≤ i + 2) : (align_Text.lb p s (i : Int) (i' : Int)).length ≤ 3 := by
  unfold align_Text.lb
  have : (p.extract i i').data.toList.length = (p.extract i i').size := Array.length_toList
  rw [ByteArray.size_extract] at this
  rw [List.length_append, Int.toNat_natCast, Int.toNat_natCast]
  split <;> simp <;> omega
theorem mk_len (s c : Int) : (align_Text.mk s c).length ≤ 2 := by
  unfold align_Text.mk
  split
  · split <;> simp
  · split <;> simp
theorem st_ahead {s : Int} {P Q P' Q' : List Int} {c : Int} (h : st s P Q = some (P', Q', c)) : P.length ≤ P'.length + 2 ∧ Q.length ≤ Q'.length + 2 ∧ (s = 3 → Q' = Q) ∧ (s = 4 → P' = P) := by
  obtain ⟨x, y, hp, rfl, rfl⟩ := st_pc h
  refine ⟨?_, ?_, ?_, ?_⟩
  · rw [List.length_append]; cases hp <;> simp <;> omega
  · rw [List.length_append]; cases hp <;> simp <;> omega
  · rintro rfl
    generalize hX : x ++ P' = X at h
    cases X with
    | nil => cases h
    | cons a P1 => simp only [st] at h; simp at h; rw [h.2.1]; rfl
  · rintro rfl
    generalize hY : y ++ Q' = Y at h
    cases Y with
    | nil => cases h
    | cons a P1 => simp only [st] at h; simp at h; rw [h.1]; rfl
theorem text_any {p q : ByteArray} (G : Gv p q) (l : List Int) (hl : l.length ≤ 100) (d : Nat) : ∀ (n i j : Nat) (L M R : List UInt8), n + d = l.length → i ≤ p.size → j ≤ q.size → L.length ≤ 3 * n → M.length ≤ 3 * n → R.length ≤ 3 * n →
    ∃ T, Ev (fun k => align_Text.t0 k p q l (n : Int) (i : Int) (j : Int) L M R) T ∧ T.1.length ≤ 2000 ∧ T.2.1.length ≤ 2000 ∧ T.2.2.length ≤ 2000 ∧ (co ((bytesOf p).drop i) ((bytesOf q).drop j) (l.drop n) ≠ none → Ev (fun k => ancepsref45_Text.l0 k p q l (mkS L) (mkS M) (mkS R) (i : Int) (j : Int) (n : Int)) (align_Text.out T, 0)) := by
  have hp := G.hp
  have hq := G.hq
  induction d with
  | zero =>
    intro n i j L M R hn hi hj hL hM hR
    refine ⟨(L, M, R), Ev.step (fun k => align_Text.t0.eq_2 _ _ _ _ _ _ _ _ _ _) (Ev.neg (by omega) (Ev.now _)), by show L.length ≤ _; omega, by show M.length ≤ _; omega, by show R.length ≤ _; omega, fun _ => ?_⟩
    have z1 : (⟨#[10]⟩ : ByteArray).size = 1 := rfl
    refine Ev.step (fun k => ancepsref45_Text.l0.eq_2 _ _ _ _ _ _ _ _ _ _) (Ev.neg (by omega) (Ev.pos ?_ (Ev.pos ?_ (Ev.pos ?_ (Ev.pos ?_ (Ev.pos ?_ (Ev.val rfl)))))))
    all_goals
      simp only [ByteArray.size_append, mkS_size, z1]
      omega
  | succ d ih =>
    intro n i j L M R hn hi hj hL hM hR
    rw [drop_rd l n (by omega)]
    unfold co
    rcases both_ev G hi hj (rd l (n : Int)) with ⟨i', j', c, a1, a2, a3, a4, a6, a7, a8⟩ | ⟨a1, x, y, z, a2⟩
    · have hk := st_kind a6
      have hah := st_ahead a6
      rw [drop_len, drop_len, drop_len, drop_len] at hah
      have l1 := la_len p (rd l (n : Int)) i i' (by omega)
      have l2 := lb_len q (rd l (n : Int)) j j' (by omega)
      have l3 := mk_len (rd l (n : Int)) c
      obtain ⟨T, b1, t1, t2, t3, b2⟩ := ih (n + 1) i' j' (L ++ align_Text.la p (rd l (n : Int)) (i : Int) (i' : Int)) (M ++ align_Text.mk (rd l (n : Int)) c) (R ++ align_Text.lb q (rd l (n : Int)) (j : Int) (j' : Int)) (by omega) a3 a4 (by rw [List.length_append]; omega) (by rw [List.length_append]; omega) (by rw [List.length_append]; omega)
      rw [show ((n + 1 : Nat) : Int) = (n : Int) + 1 by omega] at b1
      rw [a6]
      refine ⟨T, Ev.step (fun k => align_Text.t0.eq_2 _ _ _ _ _ _ _ _ _ _) (Ev.pos (by omega) (Ev.bind a7 (Ev.pos rfl (Ev.pos ⟨by omega, by omega, by omega⟩ b1)))), t1, t2, t3, fun h => ?_⟩
      have h2 : co ((bytesOf p).drop i') ((bytesOf q).drop j') (l.drop (n + 1)) ≠ none := fun e => h (by simp only [e, Option.map_none])
      have b2 := b2 h2
      have e1 : True → wrap64 ((n : Int) + 1) = ((n + 1 : Nat) : Int) := fun _ => by rw [w64 (by omega) (by omega)]; omega
      have x1 := ext_len p i i' hp
      have x2 := ext_len q j j' hq
      have z1 : (⟨#[32]⟩ : ByteArray).size = 1 := rfl
      refine Ev.step (fun k => ancepsref45_Text.l0.eq_2 _ _ _ _ _ _ _ _ _ _) (Ev.pos (by omega) (Ev.pos (by omega) (Ev.bind a8 (Ev.pos (by omega) (Ev.pos (by show (i : Int) ≤ (i' : Int); omega) (Ev.pos (by show (i' : Int) ≤ (p.size : Int); omega) (Ev.pos (by omega) (Ev.pos (by show (j : Int) ≤ (j' : Int); omega) (Ev.pos (by show (j' : Int) ≤ (q.size : Int); omega) ?_)))))))))
      show Ev (fun k => if rd l (n : Int) = 0 then ancepsref45_Text.j1 k p q l (mkS L) (mkS M) (mkS R) (n : Int) (i' : Int) (j' : Int) (p.extract ((i : Int)).toNat ((i' : Int)).toNat) (q.extract ((j : Int)).toNat ((j' : Int)).toNat) (⟨#[32]⟩ : ByteArray) (c == 0) else ancepsref45_Text.j1 k p q l (mkS L) (mkS M) (mkS R) (n : Int) (i' : Int) (j' : Int) (p.extract ((i : Int)).toNat ((i' : Int)).toNat) (q.extract ((j : Int)).toNat ((j' : Int)).toNat) (⟨#[32]⟩ : ByteArray) false) (align_Text.out T, 0)
      rw [Int.toNat_natCast, Int.toNat_natCast, Int.toNat_natCast, Int.toNat_natCast]
      unfold align_Text.la align_Text.lb at b2
      rw [Int.toNat_natCast, Int.toNat_natCast, Int.toNat_natCast, Int.toNat_natCast] at b2
      rcases hk with e | e | e | e | e
      · rw [e] at b2 ⊢
        rw [if_neg (show ¬ ((0 : Int) = 1 ∨ (0 : Int) = 4) by decide), if_neg (show ¬ ((0 : Int) = 2 ∨ (0 : Int) = 3) by decide), List.append_nil, List.append_nil] at b2
        refine Ev.pos rfl ?_
        by_cases hc : c = 0
        · rw [beq_iff_eq.2 hc]
          rw [show align_Text.mk 0 c = [61] by unfold align_Text.mk; rw [if_pos rfl, if_pos hc]] at b2
          refine Ev.step (fun k => ancepsref45_Text.j1.eq_2 _ _ _ _ _ _ _ _ _ _ _ _ _ _) (Ev.pos rfl (Ev.pos (by rw [mkS_size]; omega) (Ev.pos (by rw [mkS_size]; omega) (Ev.pos (by rw [mkS_size]; omega) ?_))))
          rw [mkS_app, mkS_app, mkS_app, e1 trivial]
          exact b2
        · rw [beq_eq_false_iff_ne.2 hc]
          rw [show align_Text.mk 0 c = [33] by unfold align_Text.mk; rw [if_pos rfl, if_neg hc]] at b2
          refine Ev.step (fun k => ancepsref45_Text.j1.eq_2 _ _ _ _ _ _ _ _ _ _ _ _ _ _) (Ev.neg (by decide) (Ev.pos (by omega) (Ev.pos (by omega) (Ev.pos e (Ev.pos (by rw [mkS_size]; omega) (Ev.pos (by rw [mkS_size]; omega) (Ev.pos (by rw [mkS_size]; omega) ?_)))))))
          rw [mkS_app, mkS_app, mkS_app, e1 trivial]
          exact b2
      · rw [e] at b2
        rw [if_pos (show ((1 : Int) = 1 ∨ (1 : Int) = 4) by decide), if_neg (show ¬ ((1 : Int) = 2 ∨ (1 : Int) = 3) by decide), List.append_nil] at b2
        refine Ev.neg (by rw [e]; decide) (Ev.step (fun k => ancepsref45_Text.j1.eq_2 _ _ _ _ _ _ _ _ _ _ _ _ _ _) (Ev.neg (by decide) (Ev.pos (by omega) (Ev.pos (by omega) (Ev.neg (by rw [e]; decide) (Ev.pos e (Ev.pos (by omega) (Ev.pos (by rw [mkS_size, ByteArray.size_append, z1]; omega) (Ev.pos (by rw [mkS_size]; omega) (Ev.pos (by rw [mkS_size]; omega) ?_))))))))))
        rw [mkS_app, mkS_app, mkS_app, e1 trivial]
        rw [show ((p.extract i i') ++ (⟨#[32]⟩ : ByteArray)).data.toList = (p.extract i i').data.toList ++ [32] by rw [ByteArray.data_append, Array.toList_append]]
        exact b2
      · rw [e] at b2
        rw [if_neg (show ¬ ((2 : Int) = 1 ∨ (2 : Int) = 4) by decide), if_pos (show ((2 : Int) = 2 ∨ (2 : Int) = 3) by decide), List.append_nil] at b2
        refine Ev.neg (by rw [e]; decide) (Ev.step (fun k => ancepsref45_Text.j1.eq_2 _ _ _ _ _ _ _ _ _ _ _ _ _ _) (Ev.neg (by decide) (Ev.pos (by omega) (Ev.pos (by omega) (Ev.neg (by rw [e]; decide) (Ev.neg (by rw [e]; decide) (Ev.pos e (Ev.pos (by omega) (Ev.pos (by rw [mkS_size]; omega) (Ev.pos (by rw [mkS_size]; omega) (Ev.pos (by rw [mkS_size, ByteArray.size_append, z1]; omega) ?_)))))))))))
        rw [mkS_app, mkS_app, mkS_app, e1 trivial]
        rw [show ((q.extract j j') ++ (⟨#[32]⟩ : ByteArray)).data.toList = (q.extract j j').data.toList ++ [32] by rw [ByteArray.data_append, Array.toList_append]]
        exact b2
      · have ej : j' = j := drop_inj a4 hj (hah.2.2.1 e)
        subst ej
        rw [e] at b2
        rw [if_neg (show ¬ ((3 : Int) = 1 ∨ (3 : Int) = 4) by decide), if_pos (show ((3 : Int) = 2 ∨ (3 : Int) = 3) by decide), List.append_nil, ext_same, List.nil_append] at b2
        refine Ev.neg (by rw [e]; decide) (Ev.step (fun k => ancepsref45_Text.j1.eq_2 _ _ _ _ _ _ _ _ _ _ _ _ _ _) (Ev.neg (by decide) (Ev.pos (by omega) (Ev.pos (by omega) (Ev.neg (by rw [e]; decide) (Ev.neg (by rw [e]; decide) (Ev.neg (by rw [e]; decide) (Ev.pos e (Ev.pos (by rw [mkS_size]; omega) (Ev.pos (by rw [mkS_size, z1]; omega) (Ev.pos (by rw [mkS_size]; omega) ?_)))))))))))
        rw [mkS_app, mkS_app, mkS_app, e1 trivial]
        exact b2
      · have ei : i' = i := drop_inj a3 hi (hah.2.2.2 e)
        subst ei
        rw [e] at b2
        rw [if_pos (show ((4 : Int) = 1 ∨ (4 : Int) = 4) by decide), if_neg (show ¬ ((4 : Int) = 2 ∨ (4 : Int) = 3) by decide), List.append_nil, ext_same, List.nil_append] at b2
        refine Ev.neg (by rw [e]; decide) (Ev.step (fun k => ancepsref45_Text.j1.eq_2 _ _ _ _ _ _ _ _ _ _ _ _ _ _) (Ev.neg (by decide) (Ev.pos (by omega) (Ev.pos (by omega) (Ev.neg (by rw [e]; decide) (Ev.neg (by rw [e]; decide) (Ev.neg (by rw [e]; decide) (Ev.neg (by rw [e]; decide) (Ev.pos (by rw [mkS_size]; omega) (Ev.pos (by rw [mkS_size, z1]; omega) (Ev.pos (by rw [mkS_size]; omega) ?_)))))))))))
        rw [mkS_app, mkS_app, mkS_app, e1 trivial]
        exact b2
    · refine ⟨([], [], []), Ev.step (fun k => align_Text.t0.eq_2 _ _ _ _ _ _ _ _ _ _) (Ev.pos (by omega) (Ev.bind a2 (Ev.neg Bool.false_ne_true (Ev.now _)))), by simp, by simp, by simp, fun h => ?_⟩
      rw [a1] at h
      exact absurd rfl h
theorem eqp_loop (l : List S45) (hl : l.length ≤ 1000) (d : Nat) : ∀ i : Nat, i + d = l.length → Ev (fun k => api_Pair.l0 k l l (l.length : Int) (i : Int)) true := by
  induction d with
  | zero =>
    intro i hi
    exact Ev.step (fun k => api_Pair.l0.eq_2 _ _ _ _ _) (Ev.neg (by omega) (Ev.now _))
  | succ d ih =>
    intro i hi
    refine Ev.step (fun k => api_Pair.l0.eq_2 _ _ _ _ _) (Ev.pos (by omega) (Ev.pos (by omega) (Ev.pos (by omega) (Ev.pos (by omega) (Ev.neg (by simp) ?_)))))
    rw [w64 (by omega) (by omega)]
    exact ih (i + 1) (by omega)
theorem eqp_ev (l : List S45) (hl : l.length ≤ 1000) : Ev (fun k => api_Pair.f k l l) true := by
  unfold api_Pair.f
  exact Ev.pos rfl (eqp_loop l hl l.length 0 (by omega))
theorem pairs_len {p q : ByteArray} (l : List Int) (hl : l.length ≤ 100) (k : Nat) : ∀ (n : Nat) (i j : Int) (acc R : List S45), acc.length ≤ 2 * n → n ≤ l.length → align_Pairs.t0 k p q l (n : Int) i j acc = some R → R.length ≤ 200 := by
  induction k with
  | zero => intro n i j acc R _ _ h; simp [align_Pairs.t0] at h
  | succ k ih =>
    intro n i j acc R ha hn h
    rw [align_Pairs.t0] at h
    by_cases hlt : (n : Int) < (l.length : Int)
    · rw [if_pos hlt] at h
      obtain ⟨b, hb, h⟩ := Option.bind_eq_some_iff.1 h
      split at h
      · split at h
        · have hpl := pr_len (rd l (n : Int)) i j
          rw [show (n : Int) + 1 = ((n + 1 : Nat) : Int) by omega] at h
          exact ih (n + 1) _ _ _ R (by rw [List.length_append]; omega) (by omega) h
        · cases h
      · cases h; simp
    · rw [if_neg hlt] at h; cases h; omega
theorem AlignPairs : ancepslaw45_AlignPairs.Pure := by
  intro p q steps _ _ _ _ _
  refine Ev.rounds ?_
  unfold ancepslaw45_AlignPairs.f
  have out : Ev (fun k => ancepslaw45_AlignPairs.j0 k p q steps true) true := Ev.step (fun k => ancepslaw45_AlignPairs.j0.eq_2 _ _ _ _ _) (Ev.pos rfl (Ev.bind awake_ev (Ev.now _)))
  obtain ⟨b, hb⟩ := short_f p q
  refine Ev.bind awake_ev (Ev.pos rfl ?_)
  rw [hb]
  refine Ev.just (Ev.cond (fun _ => ?_) (fun _ => out))
  by_cases hs : (steps.length : Int) > 100
  · rw [decide_eq_true hs]; exact out
  · rw [decide_eq_false hs]
    have hl : steps.length ≤ 100 := by omega
    refine Ev.step (fun k => ancepslaw45_AlignPairs.j0.eq_2 _ _ _ _ _) (Ev.neg (by decide) ?_)
    by_cases hg : givS p q = 0
    · have G := giv_ok hg
      obtain ⟨sum, ok, w1, w2⟩ := cow_loop G steps hl steps.length 0 0 0 0 (by omega) (Nat.zero_le _) (Nat.zero_le _) (by decide) (by decide)
      obtain ⟨R, b1, b2⟩ := pairs_any G steps hl steps.length 0 0 0 [] (by omega) (Nat.zero_le _) (Nat.zero_le _) (by simp)
      obtain ⟨T, d1, t1, t2, t3, d2⟩ := text_any G steps hl steps.length 0 0 0 [] [] [] (by omega) (Nat.zero_le _) (Nat.zero_le _) (by simp) (by simp) (by simp)
      obtain ⟨c, okc, c1, c2, c3⟩ := cost_ev G steps hl
      have hRl : R.length ≤ 200 := by
        obtain ⟨K, hK⟩ := b1
        exact pairs_len steps hl K 0 0 0 [] R (by simp) (by omega) (hK K (Nat.le_refl _))
      have P1 : Ev (fun k => align_Pairs.f k p q steps) (if ok = true then (R, 0) else ([], 1)) := by
        unfold align_Pairs.f
        refine Ev.bind (given_ev p q) ?_
        rw [giv_of G]
        refine Ev.pos rfl (Ev.pos ⟨G.hp, G.hq⟩ (Ev.bind w1 (Ev.bind b1 ?_)))
        cases ok
        · exact Ev.neg Bool.false_ne_true (Ev.now _)
        · exact Ev.pos rfl (Ev.now _)
      have P2 : Ev (fun k => align_Text.f k p q steps) (if ok = true then (align_Text.out T, 0) else (⟨#[]⟩, 1)) := by
        unfold align_Text.f
        refine Ev.bind (given_ev p q) ?_
        rw [giv_of G]
        refine Ev.pos rfl (Ev.pos ⟨G.hp, G.hq⟩ (Ev.bind w1 (Ev.bind d1 (Ev.pos ⟨t1, t2, t3⟩ ?_))))
        cases ok
        · exact Ev.neg Bool.false_ne_true (Ev.now _)
        · exact Ev.pos rfl (Ev.now _)
      rw [List.drop_zero, List.drop_zero, List.drop_zero] at w2
      have hsame : okc = ok := by
        cases okc with
        | true =>
          have := c2 rfl
          exact (w2.2 (by rw [this]; simp)).symm
        | false =>
          cases ok with
          | false => rfl
          | true => exact absurd (c3 rfl) (w2.1 rfl)
      subst hsame
      have Q1 : Ev (fun k => ancepsref45_Pairs.f k p q steps) (if okc = true then (R, 0) else ([], 1)) := by
        unfold ancepsref45_Pairs.f
        refine Ev.bind (rgiven_ev p q) ?_
        rw [giv_of G]
        refine Ev.pos rfl (Ev.bind c1 ?_)
        cases okc
        · exact Ev.neg Bool.false_ne_true (Ev.now _)
        · exact Ev.pos rfl (b2 (by rw [List.drop_zero, List.drop_zero, List.drop_zero]; exact w2.1 rfl))
      have Q2 : Ev (fun k => ancepsref45_Text.f k p q steps) (if okc = true then (align_Text.out T, 0) else (⟨#[]⟩, 1)) := by
        unfold ancepsref45_Text.f
        refine Ev.bind (rgiven_ev p q) ?_
        rw [giv_of G]
        refine Ev.pos rfl (Ev.bind c1 ?_)
        cases okc
        · exact Ev.neg Bool.false_ne_true (Ev.now _)
        · exact Ev.pos rfl (d2 (by rw [List.drop_zero, List.drop_zero, List.drop_zero]; exact w2.1 rfl))
      refine Ev.bind P1 (Ev.bind Q1 (Ev.bind P2 (Ev.bind Q2 (Ev.pos rfl (Ev.bind (a := true) ?_ (Ev.pos rfl (Ev.pos rfl (Ev.val (by simp)))))))))
      cases okc
      · exact eqp_ev [] (by simp)
      · exact eqp_ev R (by omega)
    · have P1 : Ev (fun k => align_Pairs.f k p q steps) ([], givS p q) := by
        unfold align_Pairs.f
        exact Ev.bind (given_ev p q) (Ev.neg hg (Ev.now _))
      have P2 : Ev (fun k => align_Text.f k p q steps) (⟨#[]⟩, givS p q) := by
        unfold align_Text.f
        exact Ev.bind (given_ev p q) (Ev.neg hg (Ev.now _))
      have Q1 : Ev (fun k => ancepsref45_Pairs.f k p q steps) ([], givS p q) := by
        unfold ancepsref45_Pairs.f
        exact Ev.bind (rgiven_ev p q) (Ev.neg hg (Ev.now _))
      have Q2 : Ev (fun k => ancepsref45_Text.f k p q steps) (⟨#[]⟩, givS p q) := by
        unfold ancepsref45_Text.f
        exact Ev.bind (rgiven_ev p q) (Ev.neg hg (Ev.now _))
      exact Ev.bind P1 (Ev.bind Q1 (Ev.bind P2 (Ev.bind Q2 (Ev.pos rfl (Ev.bind (eqp_ev [] (by simp)) (Ev.pos rfl (Ev.pos rfl (Ev.val (by simp)))))))))
end Go.Proofs.Ytnnonjjmlbemfaa.Pure
