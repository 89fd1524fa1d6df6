/- The reference's Given and Step in plain words: they take and lead as the program's. -/
import Derived.Test.YtnnonjjmlbemfaaA1
import Derived.Test.YtnnonjjmlbemfaaX10
import Derived.Test.YtnnonjjmlbemfaaX15
set_option linter.unusedVariables false
namespace Go.Proofs.Ytnnonjjmlbemfaa.Lem
open Go.RowKit Go.Proofs.Ytnnonjjmlbemfaa.X Go.Proofs.Ytnnonjjmlbemfaa.Al Go.Proofs.YtnnonjjmlbemfaaW.PrintWords Go.Proofs.YtnnonjjmlbemfaaW.PrintLast
theorem is_f (c : Int) : ancepsref04_Is.f c = some (isS c) := by
  unfold ancepsref04_Is.f isS
  by_cases h : c = 117
  · rw [if_pos h, decide_eq_true h, Bool.true_or]
  · rw [if_neg h, decide_eq_false h, Bool.false_or]
    by_cases h2 : c = 45
    · rw [if_pos h2, decide_eq_true h2, Bool.true_or]
    · rw [if_neg h2, decide_eq_false h2, Bool.false_or]; rfl
theorem rvalid_loop (s : ByteArray) (hs : s.size ≤ 60) (d : Nat) : ∀ i : Nat, i + d = s.size → Ev (fun k => ancepsref04_Valid.l0 k s (i : Int)) (if ((bytesOf s).drop i).all isS then 0 else 2) := by
  induction d with
  | zero =>
    intro i hi
    rw [drop_ge s i (by omega)]
    exact Ev.step (fun k => rfl) (Ev.neg (by omega) (Ev.val rfl))
  | succ d ih =>
    intro i hi
    refine Ev.step (fun k => rfl) (Ev.pos (by omega) (Ev.pos (by omega) ?_))
    rw [is_f, drop_lt s i (by omega), List.all_cons]
    refine Ev.just (Ev.cond (fun h => ?_) (fun h => Ev.val ?_))
    · rw [h, Bool.true_and, w64 (by omega) (by omega)]; exact ih (i + 1) (by omega)
    · rw [Bool.eq_false_iff.2 h]; rfl
theorem rvalid_ev (s : ByteArray) : Ev (fun k => ancepsref04_Valid.f k s) (validS s) := by
  unfold ancepsref04_Valid.f validS
  refine Ev.cond (fun h => Ev.val (by rw [if_pos (c := s.size > 60) (by omega)])) (fun h => ?_)
  rw [if_neg (c := s.size > 60) (by omega)]
  exact Ev.eq (by rw [List.drop_zero]) (rvalid_loop s (by omega) s.size 0 (by omega))
theorem rgiven_ev (p q : ByteArray) : Ev (fun k => ancepsref45_Given.f k p q) (givS p q) := by
  unfold ancepsref45_Given.f givS
  refine Ev.bind (rvalid_ev p) (Ev.cond (fun h => ?_) (fun h => Ev.val (if_neg h).symm))
  rw [if_pos h]
  refine Ev.cond (fun h2 => Ev.val (if_pos (by omega)).symm) (fun h2 => ?_)
  rw [if_neg (show ¬ p.size > 40 by omega)]
  refine Ev.bind (rvalid_ev q) (Ev.cond (fun h3 => ?_) (fun h3 => Ev.val (if_neg h3).symm))
  rw [if_pos h3]
  exact Ev.cond (fun h4 => Ev.val (if_pos (by omega)).symm) (fun h4 => Ev.val (if_neg (by omega)).symm)
theorem sgn {p : ByteArray} (h : (bytesOf p).all isS = true) {i : Nat} (hi : i < p.size) : bt p i = 117 ∨ bt p i = 45 ∨ bt p i = 120 := by
  have h1 : bt p i ∈ bytesOf p := by
    have e := drop_lt p i hi
    exact List.mem_of_mem_drop (i := i) (by rw [e]; exact List.mem_cons_self)
  have h2 := List.all_eq_true.1 h _ h1
  unfold isS at h2
  simp only [Bool.or_eq_true, decide_eq_true_eq] at h2
  exact h2
theorem rheavy_lt {a : ByteArray} (ha : (bytesOf a).all isS = true) {i : Nat} (h : i < a.size) : ancepsref45_heavy.f a (i : Int) = some (hv (bt a i)) := by
  unfold ancepsref45_heavy.f ancepsref45_allows.f
  rw [if_pos (by omega), if_pos (by omega)]
  rcases sgn ha h with e | e | e <;> rw [e] <;> rfl
theorem rheavy_ge {a : ByteArray} {i : Nat} (h : ¬ i < a.size) : ancepsref45_heavy.f a (i : Int) = some false := by
  unfold ancepsref45_heavy.f; rw [if_neg (by omega)]
theorem rlights_lt {a : ByteArray} (ha : (bytesOf a).all isS = true) {i : Nat} (hs : a.size ≤ 40) (h : i + 1 < a.size) : ancepsref45_lights.f a (i : Int) = some (lt (bt a i) && lt (bt a ((i + 1 : Nat) : Int))) := by
  unfold ancepsref45_lights.f ancepsref45_allows.f
  rw [w64 (by omega) (by omega), if_pos (by omega), if_pos (by omega), if_pos (by omega), if_pos (show (0 : Int) ≤ (i : Int) + 1 by omega), show (i : Int) + 1 = ((i + 1 : Nat) : Int) by omega]
  rcases sgn ha (show i < a.size by omega) with e | e | e <;> rcases sgn ha h with e2 | e2 | e2 <;> rw [e, e2] <;> rfl
theorem rlights_ge {a : ByteArray} {i : Nat} (hs : a.size ≤ 40) (hi : i ≤ 40) (h : ¬ i + 1 < a.size) : ancepsref45_lights.f a (i : Int) = some false := by
  unfold ancepsref45_lights.f
  rw [w64 (by omega) (by omega), if_neg (by omega)]
theorem rt3 (q : ByteArray) (i j s : Int) (h : s = 4 → ¬ j < (q.size : Int)) : Ev (fun k => ancepsref45_Step.j3 k q i j s false) (0, 0, 0, false) := by
  refine Ev.step (fun k => ancepsref45_Step.j3.eq_2 _ _ _ _ _ _) (Ev.neg (by decide) (Ev.cond (fun h4 => Ev.neg (h h4) (Ev.now _)) (fun _ => Ev.now _)))
theorem rt2 (p q : ByteArray) (i j s : Int) (h3 : s ≠ 3) (h : s = 4 → ¬ j < (q.size : Int)) : Ev (fun k => ancepsref45_Step.j2 k p q i j s false) (0, 0, 0, false) :=
  Ev.step (fun k => ancepsref45_Step.j2.eq_2 _ _ _ _ _ _ _) (Ev.neg (by decide) (Ev.neg h3 (rt3 q i j s h)))
theorem rt1 (p q : ByteArray) (i j s : Int) (h2 : s ≠ 2) (h3 : s ≠ 3) (h : s = 4 → ¬ j < (q.size : Int)) : Ev (fun k => ancepsref45_Step.j1 k p q i j s false) (0, 0, 0, false) :=
  Ev.step (fun k => ancepsref45_Step.j1.eq_2 _ _ _ _ _ _ _) (Ev.neg (by decide) (Ev.neg h2 (rt2 p q i j s h3 h)))
theorem rt0 (p q : ByteArray) (i j s : Int) (h1 : s ≠ 1) (h2 : s ≠ 2) (h3 : s ≠ 3) (h : s = 4 → ¬ j < (q.size : Int)) : Ev (fun k => ancepsref45_Step.j0 k p q i j s false) (0, 0, 0, false) :=
  Ev.step (fun k => ancepsref45_Step.j0.eq_2 _ _ _ _ _ _ _) (Ev.neg (by decide) (Ev.neg h1 (rt1 p q i j s h2 h3 h)))
/-- where the reference's step leads: as the program's -/
theorem rstep_ev {p q : ByteArray} (g : Gv p q) {i j : Nat} (hi : i ≤ p.size) (hj : j ≤ q.size) (s : Int) :
    (∃ (i' j' : Nat) (c : Int), i ≤ i' ∧ j ≤ j' ∧ i' ≤ p.size ∧ j' ≤ q.size ∧ i + j < i' + j' ∧ st s ((bytesOf p).drop i) ((bytesOf q).drop j) = some ((bytesOf p).drop i', (bytesOf q).drop j', c) ∧ Ev (fun k => ancepsref45_Step.f k p q (i : Int) (j : Int) s) ((i' : Int), (j' : Int), c, true))
      ∨ (st s ((bytesOf p).drop i) ((bytesOf q).drop j) = none ∧ ∃ x y z, Ev (fun k => ancepsref45_Step.f k p q (i : Int) (j : Int) s) (x, y, z, false)) := by
  have hp := g.hp
  have hq := g.hq
  unfold ancepsref45_Step.f
  by_cases s0 : s = 0
  · subst s0
    by_cases h1 : i < p.size
    · by_cases h2 : j < q.size
      · refine .inl ⟨i + 1, j + 1, sub (bt p i) (bt q j), by omega, by omega, by omega, by omega, by omega, ?_, ?_⟩
        · rw [drop_lt p i h1, drop_lt q j h2]; rfl
        · refine Ev.pos rfl (Ev.pos (by omega) ?_)
          rw [decide_eq_true (show (j : Int) < (q.size : Int) by omega)]
          refine Ev.step (fun k => ancepsref45_Step.j0.eq_2 _ _ _ _ _ _ _) (Ev.pos rfl (Ev.pos (by omega) (Ev.pos (by omega) (Ev.pos (by omega) (Ev.pos (by omega) ?_)))))
          rw [w64 (i := (i : Int) + 1) (by omega) (by omega), w64 (i := (j : Int) + 1) (by omega) (by omega)]
          unfold sub agr
          refine Ev.cond (fun e => Ev.val ?_) (fun e => Ev.cond (fun e2 => Ev.val ?_) (fun e2 => Ev.cond (fun e3 => Ev.val ?_) (fun e3 => Ev.val ?_)))
          · rw [beq_iff_eq.2 e]; rfl
          · rw [beq_iff_eq.2 e2]; simp
          · rw [beq_iff_eq.2 e3]; simp
          · rw [beq_eq_false_iff_ne.2 e, beq_eq_false_iff_ne.2 e2, beq_eq_false_iff_ne.2 e3]; rfl
      · refine .inr ⟨?_, 0, 0, 0, ?_⟩
        · rw [drop_lt p i h1, drop_ge q j (by omega)]; rfl
        · refine Ev.pos rfl (Ev.pos (by omega) ?_)
          rw [decide_eq_false (show ¬ (j : Int) < (q.size : Int) by omega)]
          exact rt0 p q i j 0 (by decide) (by decide) (by decide) (fun h => absurd h (by decide))
    · refine .inr ⟨?_, 0, 0, 0, Ev.pos rfl (Ev.neg (by omega) (rt0 p q i j 0 (by decide) (by decide) (by decide) (fun h => absurd h (by decide))))⟩
      rw [drop_ge p i (by omega)]; rfl
  · by_cases s1 : s = 1
    · subst s1
      have go : ∀ {r : Int × Int × Int × Bool}, Ev (fun k => (ancepsref45_heavy.f p (i : Int)).bind fun t => (if t = true then ((ancepsref45_lights.f q (j : Int)).bind fun t243 => (ancepsref45_Step.j1 k p q (i : Int) (j : Int) 1 t243)) else (ancepsref45_Step.j1 k p q (i : Int) (j : Int) 1 false))) r → Ev (fun k => if (1 : Int) = 0 then (if (i : Int) < (p.size : Int) then ancepsref45_Step.j0 k p q (i : Int) (j : Int) 1 (decide ((j : Int) < (q.size : Int))) else ancepsref45_Step.j0 k p q (i : Int) (j : Int) 1 false) else ancepsref45_Step.j0 k p q (i : Int) (j : Int) 1 false) r :=
        fun h => Ev.neg (by decide) (Ev.step (fun k => ancepsref45_Step.j0.eq_2 _ _ _ _ _ _ _) (Ev.neg (by decide) (Ev.pos rfl h)))
      have f1 := rt1 p q i j 1 (by decide) (by decide) (fun h => absurd h (by decide))
      by_cases h1 : i < p.size
      · rw [drop_lt p i h1]
        rw [rheavy_lt g.sp h1] at go
        by_cases h2 : j + 1 < q.size
        · rw [rlights_lt g.sq hq h2] at go
          rw [drop_lt q j (by omega), drop_lt q (j + 1) h2]
          have e : st 1 (bt p i :: (bytesOf p).drop (i + 1)) (bt q j :: bt q ((j + 1 : Nat) : Int) :: (bytesOf q).drop (j + 1 + 1)) = if (hv (bt p i) && lt (bt q j) && lt (bt q ((j + 1 : Nat) : Int))) = true then some ((bytesOf p).drop (i + 1), (bytesOf q).drop (j + 1 + 1), 1) else none := rfl
          rw [e]
          cases hh : hv (bt p i) with
          | false => rw [hh] at go; exact .inr ⟨rfl, _, _, _, go (Ev.just (Ev.neg (by decide) f1))⟩
          | true =>
            rw [hh] at go
            cases hl : lt (bt q j) with
            | false => rw [hl] at go; exact .inr ⟨rfl, _, _, _, go (Ev.just (Ev.pos rfl (Ev.just f1)))⟩
            | true =>
              rw [hl] at go
              cases hm : lt (bt q ((j + 1 : Nat) : Int)) with
              | false => rw [hm] at go; exact .inr ⟨rfl, _, _, _, go (Ev.just (Ev.pos rfl (Ev.just f1)))⟩
              | true =>
                rw [hm] at go
                refine .inl ⟨i + 1, j + 1 + 1, 1, by omega, by omega, by omega, by omega, by omega, rfl, go (Ev.just (Ev.pos rfl (Ev.just (Ev.step (fun k => ancepsref45_Step.j1.eq_2 _ _ _ _ _ _ _) (Ev.pos rfl (Ev.val ?_))))))⟩
                rw [w64 (by omega) (by omega), w64 (by omega) (by omega)]; rfl
        · rw [rlights_ge hq (by omega) h2] at go
          refine .inr ⟨?_, 0, 0, 0, go (Ev.just (Ev.cond (fun _ => Ev.just f1) (fun _ => f1)))⟩
          by_cases h3 : j < q.size
          · rw [drop_lt q j h3, drop_ge q (j + 1) (by omega)]; rfl
          · rw [drop_ge q j (by omega)]; rfl
      · rw [drop_ge p i (by omega)]
        rw [rheavy_ge h1] at go
        exact .inr ⟨rfl, 0, 0, 0, go (Ev.just (Ev.neg (by decide) f1))⟩
    · by_cases s2 : s = 2
      · subst s2
        have go : ∀ {r : Int × Int × Int × Bool}, Ev (fun k => (ancepsref45_lights.f p (i : Int)).bind fun t => (if t = true then ((ancepsref45_heavy.f q (j : Int)).bind fun t245 => (ancepsref45_Step.j2 k p q (i : Int) (j : Int) 2 t245)) else (ancepsref45_Step.j2 k p q (i : Int) (j : Int) 2 false))) r → Ev (fun k => if (2 : Int) = 0 then (if (i : Int) < (p.size : Int) then ancepsref45_Step.j0 k p q (i : Int) (j : Int) 2 (decide ((j : Int) < (q.size : Int))) else ancepsref45_Step.j0 k p q (i : Int) (j : Int) 2 false) else ancepsref45_Step.j0 k p q (i : Int) (j : Int) 2 false) r :=
          fun h => Ev.neg (by decide) (Ev.step (fun k => ancepsref45_Step.j0.eq_2 _ _ _ _ _ _ _) (Ev.neg (by decide) (Ev.neg (by decide) (Ev.step (fun k => ancepsref45_Step.j1.eq_2 _ _ _ _ _ _ _) (Ev.neg (by decide) (Ev.pos rfl h))))))
        have f2 := rt2 p q i j 2 (by decide) (fun h => absurd h (by decide))
        by_cases h1 : i + 1 < p.size
        · rw [drop_lt p i (by omega), drop_lt p (i + 1) h1]
          rw [rlights_lt g.sp hp h1] at go
          by_cases h2 : j < q.size
          · rw [rheavy_lt g.sq h2] at go
            rw [drop_lt q j h2]
            have e : st 2 (bt p i :: bt p ((i + 1 : Nat) : Int) :: (bytesOf p).drop (i + 1 + 1)) (bt q j :: (bytesOf q).drop (j + 1)) = if (lt (bt p i) && lt (bt p ((i + 1 : Nat) : Int)) && hv (bt q j)) = true then some ((bytesOf p).drop (i + 1 + 1), (bytesOf q).drop (j + 1), 1) else none := rfl
            rw [e]
            cases hl : lt (bt p i) with
            | false => rw [hl] at go; exact .inr ⟨rfl, _, _, _, go (Ev.just (Ev.neg (by simp) f2))⟩
            | true =>
              rw [hl] at go
              cases hm : lt (bt p ((i + 1 : Nat) : Int)) with
              | false => rw [hm] at go; exact .inr ⟨rfl, _, _, _, go (Ev.just (Ev.neg (by simp) f2))⟩
              | true =>
                rw [hm] at go
                cases hh : hv (bt q j) with
                | false => rw [hh] at go; exact .inr ⟨rfl, _, _, _, go (Ev.just (Ev.pos rfl (Ev.just f2)))⟩
                | true =>
                  rw [hh] at go
                  refine .inl ⟨i + 1 + 1, j + 1, 1, by omega, by omega, by omega, by omega, by omega, rfl, go (Ev.just (Ev.pos rfl (Ev.just (Ev.step (fun k => ancepsref45_Step.j2.eq_2 _ _ _ _ _ _ _) (Ev.pos rfl (Ev.val ?_))))))⟩
                  rw [w64 (by omega) (by omega), w64 (by omega) (by omega)]; rfl
          · rw [rheavy_ge h2] at go
            rw [drop_ge q j (by omega)]
            exact .inr ⟨rfl, 0, 0, 0, go (Ev.just (Ev.cond (fun _ => Ev.just f2) (fun _ => f2)))⟩
        · rw [rlights_ge hp (by omega) h1] at go
          refine .inr ⟨?_, 0, 0, 0, go (Ev.just (Ev.neg (by decide) f2))⟩
          by_cases h3 : i < p.size
          · rw [drop_lt p i h3, drop_ge p (i + 1) (by omega)]; rfl
          · rw [drop_ge p i (by omega)]; rfl
      · have go : ∀ {r : Int × Int × Int × Bool}, Ev (fun k => if s = 3 then (ancepsref45_Step.j3 k q (i : Int) (j : Int) s (decide ((i : Int) < (p.size : Int)))) else (ancepsref45_Step.j3 k q (i : Int) (j : Int) s false)) r → Ev (fun k => if s = 0 then (if (i : Int) < (p.size : Int) then ancepsref45_Step.j0 k p q (i : Int) (j : Int) s (decide ((j : Int) < (q.size : Int))) else ancepsref45_Step.j0 k p q (i : Int) (j : Int) s false) else ancepsref45_Step.j0 k p q (i : Int) (j : Int) s false) r :=
          fun h => Ev.neg s0 (Ev.step (fun k => ancepsref45_Step.j0.eq_2 _ _ _ _ _ _ _) (Ev.neg (by decide) (Ev.neg s1 (Ev.step (fun k => ancepsref45_Step.j1.eq_2 _ _ _ _ _ _ _) (Ev.neg (by decide) (Ev.neg s2 (Ev.step (fun k => ancepsref45_Step.j2.eq_2 _ _ _ _ _ _ _) (Ev.neg (by decide) h))))))))
        by_cases s3 : s = 3
        · subst s3
          by_cases h1 : i < p.size
          · refine .inl ⟨i + 1, j, 4, by omega, by omega, by omega, by omega, by omega, ?_, go (Ev.pos rfl ?_)⟩
            · rw [drop_lt p i h1]; rfl
            · rw [decide_eq_true (show (i : Int) < (p.size : Int) by omega)]
              refine Ev.step (fun k => ancepsref45_Step.j3.eq_2 _ _ _ _ _ _) (Ev.pos rfl (Ev.val ?_))
              rw [w64 (by omega) (by omega)]; rfl
          · refine .inr ⟨?_, 0, 0, 0, go (Ev.pos rfl ?_)⟩
            · rw [drop_ge p i (by omega)]; rfl
            · rw [decide_eq_false (show ¬ (i : Int) < (p.size : Int) by omega)]
              exact rt3 q i j 3 (fun h => absurd h (by decide))
        · by_cases s4 : s = 4
          · subst s4
            by_cases h1 : j < q.size
            · refine .inl ⟨i, j + 1, 4, by omega, by omega, by omega, by omega, by omega, ?_, go (Ev.neg (by decide) (Ev.step (fun k => ancepsref45_Step.j3.eq_2 _ _ _ _ _ _) (Ev.neg (by decide) (Ev.pos rfl (Ev.pos (by omega) (Ev.val ?_))))))⟩
              · rw [drop_lt q j h1]; rfl
              · rw [w64 (by omega) (by omega)]; rfl
            · refine .inr ⟨?_, 0, 0, 0, go (Ev.neg (by decide) (rt3 q i j 4 (fun _ => by omega)))⟩
              rw [drop_ge q j (by omega)]; rfl
          · refine .inr ⟨?_, 0, 0, 0, go (Ev.neg s3 (rt3 q i j s (fun h => absurd h s4)))⟩
            unfold st
            rw [if_neg s0, if_neg s1, if_neg s2, if_neg s3, if_neg s4]
end Go.Proofs.Ytnnonjjmlbemfaa.Lem
