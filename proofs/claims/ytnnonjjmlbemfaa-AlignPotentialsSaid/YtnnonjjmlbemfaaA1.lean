/- align.given and align.step in plain words: which two patterns are taken, and where a step leads. -/
import Derived.Test.YtnnonjjmlbemfaaBase
import Derived.Test.YtnnonjjmlbemfaaM1
import Derived.Test.YtnnonjjmlbemfaaX3
set_option linter.unusedVariables false
namespace Go.Proofs.Ytnnonjjmlbemfaa.Lem
open Go.RowKit Go.Proofs.Ytnnonjjmlbemfaa.X Go.Proofs.Ytnnonjjmlbemfaa.Al Go.Proofs.YtnnonjjmlbemfaaW.PrintWords Go.Proofs.YtnnonjjmlbemfaaW.PrintLast
theorem Ev.eq {α : Type} {g : Nat → Option α} {a b : α} (h : a = b) (k : Ev g a) : Ev g b := h ▸ k
def isS (c : Int) : Bool := decide (c = 117) || (decide (c = 45) || decide (c = 120))
theorem sign_all : ∀ n : Fin 256, pattern_isSign.f ((n.val : Nat) : Int) = some (isS ((n.val : Nat) : Int)) := by decide +kernel
theorem isSign_f {c : Int} (h : 0 ≤ c ∧ c ≤ 255) : pattern_isSign.f c = some (isS c) := by obtain ⟨n, rfl⟩ := byte_fin h; exact sign_all n
def validS (s : ByteArray) : Int := if s.size > 60 then 3 else if (bytesOf s).all isS then 0 else 2
theorem valid_loop (s : ByteArray) (hs : s.size ≤ 60) (d : Nat) : ∀ i : Nat, i + d = s.size → Ev (fun k => pattern_Valid.l0 k s (s.size : Int) (i : Int)) (if ((bytesOf s).drop i).all isS then 0 else 2) := by
  induction d with
  | zero =>
    intro i hi
    rw [drop_ge s i (by omega)]
    exact Ev.step (fun k => rfl) (Ev.neg (by omega) (Ev.val rfl))
  | succ d ih =>
    intro i hi
    refine Ev.step (fun k => rfl) (Ev.pos (by omega) (Ev.pos (by omega) (Ev.pos (by omega) ?_)))
    rw [isSign_f (bt_range s i), drop_lt s i (by omega), List.all_cons]
    refine Ev.just (Ev.cond (fun h => ?_) (fun h => Ev.val ?_))
    · rw [h, Bool.true_and, w64 (by omega) (by omega)]; exact ih (i + 1) (by omega)
    · rw [Bool.eq_false_iff.2 h]; rfl
theorem valid_ev (s : ByteArray) : Ev (fun k => pattern_Valid.f k s) (validS s) := by
  unfold pattern_Valid.f validS
  refine Ev.cond (fun h => Ev.val (by rw [if_pos (c := s.size > 60) (by omega)])) (fun h => ?_)
  rw [if_neg (c := s.size > 60) (by omega)]
  exact Ev.eq (by rw [List.drop_zero]) (valid_loop s (by omega) s.size 0 (by omega))
theorem valid_size {s : ByteArray} (h : validS s = 0) : s.size ≤ 60 ∧ (bytesOf s).all isS = true := by
  unfold validS at h
  by_cases h1 : s.size > 60
  · rw [if_pos h1] at h; exact absurd h (by decide)
  · rw [if_neg h1] at h
    refine ⟨by omega, ?_⟩
    cases ha : (bytesOf s).all isS with
    | true => rfl
    | false => rw [ha] at h; exact absurd h (by decide)
theorem valid_of {s : ByteArray} (h : s.size ≤ 60) (ha : (bytesOf s).all isS = true) : validS s = 0 := by
  unfold validS; rw [if_neg (by omega), ha]; rfl
def givS (p q : ByteArray) : Int := if validS p = 0 then (if p.size > 40 then 3 else if validS q = 0 then (if q.size > 40 then 3 else 0) else validS q) else validS p
theorem given_ev (p q : ByteArray) : Ev (fun k => align_given.f k p q) (givS p q) := by
  have e1 : wrap64 (0 + 1) = 1 := w64 (by decide) (by decide)
  have e2 : wrap64 (1 + 1) = 2 := w64 (by decide) (by decide)
  unfold align_given.f givS
  refine Ev.just ?_
  refine Ev.step (fun k => align_given.l0.eq_2 _ _ _ _) (Ev.pos (show (0 : Int) < 2 by decide) (Ev.pos (by decide) (Ev.pos (show (0 : Int) < 2 by decide) (Ev.bind (valid_ev p) (Ev.cond (fun h => ?_) (fun h => Ev.val (if_neg h).symm))))))
  rw [if_pos h]
  refine Ev.cond (fun h2 => Ev.val (if_pos (show p.size > 40 from by have h3 : (p.size : Int) > 40 := h2; omega)).symm) (fun h2 => ?_)
  rw [if_neg (show ¬ p.size > 40 from by have h3 : ¬ (p.size : Int) > 40 := h2; omega), e1]
  refine Ev.step (fun k => align_given.l0.eq_2 _ _ _ _) (Ev.pos (show (1 : Int) < 2 by decide) (Ev.pos (by decide) (Ev.pos (show (1 : Int) < 2 by decide) (Ev.bind (valid_ev q) (Ev.cond (fun h => ?_) (fun h => Ev.val (if_neg h).symm))))))
  rw [if_pos h]
  refine Ev.cond (fun h2 => Ev.val (if_pos (show q.size > 40 from by have h3 : (q.size : Int) > 40 := h2; omega)).symm) (fun h2 => ?_)
  rw [if_neg (show ¬ q.size > 40 from by have h3 : ¬ (q.size : Int) > 40 := h2; omega), e2]
  exact Ev.step (fun k => align_given.l0.eq_2 _ _ _ _) (Ev.neg (show ¬ (2 : Int) < 2 by decide) (Ev.val rfl))
structure Gv (p q : ByteArray) : Prop where
  hp : p.size ≤ 40
  hq : q.size ≤ 40
  sp : (bytesOf p).all isS = true
  sq : (bytesOf q).all isS = true
theorem giv_ok {p q : ByteArray} (h : givS p q = 0) : Gv p q := by
  unfold givS at h
  by_cases h1 : validS p = 0
  · rw [if_pos h1] at h
    by_cases h2 : p.size > 40
    · rw [if_pos h2] at h; exact absurd h (by decide)
    · rw [if_neg h2] at h
      by_cases h3 : validS q = 0
      · rw [if_pos h3] at h
        by_cases h4 : q.size > 40
        · rw [if_pos h4] at h; exact absurd h (by decide)
        · exact ⟨by omega, by omega, (valid_size h1).2, (valid_size h3).2⟩
      · rw [if_neg h3] at h; exact absurd h h3
  · rw [if_neg h1] at h; exact absurd h h1
theorem giv_of {p q : ByteArray} (h : Gv p q) : givS p q = 0 := by
  have h1 := h.hp
  have h2 := h.hq
  unfold givS
  rw [if_pos (valid_of (by omega) h.sp), if_neg (by omega), if_pos (valid_of (by omega) h.sq), if_neg (by omega)]
theorem Gv.swap {p q : ByteArray} (h : Gv p q) : Gv q p := ⟨h.hq, h.hp, h.sq, h.sp⟩
/-! a step -/
theorem agree_f (a b : Int) : align_agree.f a b = some (agr a b) := by
  unfold align_agree.f agr
  by_cases h : a = b
  · rw [if_pos h, beq_iff_eq.2 h]; rfl
  · rw [if_neg h, beq_eq_false_iff_ne.2 h]
    by_cases h2 : a = 120
    · rw [if_pos h2, beq_iff_eq.2 h2]; rfl
    · rw [if_neg h2, beq_eq_false_iff_ne.2 h2]; rfl
theorem heavy_lt {a : ByteArray} {i : Nat} (h : i < a.size) : align_heavy.f a (i : Int) = some (hv (bt a i)) := by
  unfold align_heavy.f; rw [if_pos (by omega), if_pos (by omega)]; rfl
theorem heavy_ge {a : ByteArray} {i : Nat} (h : ¬ i < a.size) : align_heavy.f a (i : Int) = some false := by
  unfold align_heavy.f; rw [if_neg (by omega)]
theorem lights_lt {a : ByteArray} {i : Nat} (hs : a.size ≤ 40) (h : i + 1 < a.size) : align_lights.f a (i : Int) = some (lt (bt a i) && lt (bt a ((i + 1 : Nat) : Int))) := by
  unfold align_lights.f
  rw [w64 (by omega) (by omega), if_pos (by omega), if_pos (by omega), if_pos (by omega)]
  by_cases h2 : bt a i = 45
  · rw [if_pos h2, show lt (bt a i) = false by unfold lt; rw [h2]; rfl]; rfl
  · rw [if_neg h2, if_pos (by omega), show lt (bt a i) = true by unfold lt; exact bne_iff_ne.2 h2, Bool.true_and]; rfl
theorem lights_ge {a : ByteArray} {i : Nat} (hs : a.size ≤ 40) (hi : i ≤ 40) (h : ¬ i + 1 < a.size) : align_lights.f a (i : Int) = some false := by
  unfold align_lights.f
  rw [w64 (by omega) (by omega), if_neg (by omega)]
theorem fs0 (k : Nat) (p q : ByteArray) (i j : Int) : align_step.f k p q i j 0 = if i = (p.size : Int) then (align_step.j0 k p q i j true i j) else (align_step.j0 k p q i j (j == (q.size : Int)) i j) := by unfold align_step.f; rw [if_pos rfl]
theorem fs1 (k : Nat) (p q : ByteArray) (i j : Int) : align_step.f k p q i j 1 = (align_heavy.f p i).bind fun t112 => (if t112 = true then ((align_lights.f q j).bind fun t113 => (some (wrap64 (i + 1), wrap64 (j + 2), 1, t113))) else (some (wrap64 (i + 1), wrap64 (j + 2), 1, false))) := by unfold align_step.f; rw [if_neg (by decide), if_pos rfl]
theorem fs2 (k : Nat) (p q : ByteArray) (i j : Int) : align_step.f k p q i j 2 = (align_lights.f p i).bind fun t114 => (if t114 = true then ((align_heavy.f q j).bind fun t115 => (some (wrap64 (i + 2), wrap64 (j + 1), 1, t115))) else (some (wrap64 (i + 2), wrap64 (j + 1), 1, false))) := by unfold align_step.f; rw [if_neg (by decide), if_neg (by decide), if_pos rfl]
theorem fs3 (k : Nat) (p q : ByteArray) (i j : Int) : align_step.f k p q i j 3 = some (wrap64 (i + 1), j, 4, decide (i < (p.size : Int))) := by unfold align_step.f; rw [if_neg (by decide), if_neg (by decide), if_neg (by decide), if_pos rfl]
theorem fs4 (k : Nat) (p q : ByteArray) (i j : Int) : align_step.f k p q i j 4 = some (i, wrap64 (j + 1), 4, decide (j < (q.size : Int))) := by unfold align_step.f; rw [if_neg (by decide), if_neg (by decide), if_neg (by decide), if_neg (by decide), if_pos rfl]
theorem fs5 (k : Nat) (p q : ByteArray) (i j s : Int) (s0 : ¬ s = 0) (s1 : ¬ s = 1) (s2 : ¬ s = 2) (s3 : ¬ s = 3) (s4 : ¬ s = 4) : align_step.f k p q i j s = some (i, j, 0, false) := by unfold align_step.f; rw [if_neg s0, if_neg s1, if_neg s2, if_neg s3, if_neg s4]
/-- where a step leads in the bytes: none if it cannot be done -/
theorem step_or {p q : ByteArray} (g : Gv p q) {i j : Nat} (hi : i ≤ p.size) (hj : j ≤ q.size) (s : Int) :
    (∃ (i' j' : Nat) (c : Int), i ≤ i' ∧ j ≤ j' ∧ i' ≤ p.size ∧ j' ≤ q.size ∧ i + j < i' + j' ∧ st s ((bytesOf p).drop i) ((bytesOf q).drop j) = some ((bytesOf p).drop i', (bytesOf q).drop j', c) ∧ ∀ k, align_step.f (k + 1) p q (i : Int) (j : Int) s = some ((i' : Int), (j' : Int), c, true))
      ∨ (st s ((bytesOf p).drop i) ((bytesOf q).drop j) = none ∧ ∃ x y z, ∀ k, align_step.f (k + 1) p q (i : Int) (j : Int) s = some (x, y, z, false)) := by
  have hp := g.hp
  have hq := g.hq
  by_cases s0 : s = 0
  · subst s0
    simp only [fs0]
    by_cases h1 : i < p.size
    · by_cases h2 : j < q.size
      · refine .inl ⟨i + 1, j + 1, sub (bt p i) (bt q j), by omega, by omega, by omega, by omega, by omega, ?_, fun k => ?_⟩
        · rw [drop_lt p i h1, drop_lt q j h2]; rfl
        · rw [if_neg (by omega), show ((j : Int) == (q.size : Int)) = false by rw [beq_eq_false_iff_ne]; omega, align_step.j0, if_neg (by decide), if_pos (by omega), if_pos (by omega), if_pos (by omega), if_pos (by omega), agree_f, Option.bind_some, w64 (by omega) (by omega), w64 (by omega) (by omega)]
          unfold sub
          cases agr (bt p i) (bt q j) <;> rfl
      · refine .inr ⟨?_, i, j, 0, fun k => ?_⟩
        · rw [drop_lt p i h1, drop_ge q j (by omega)]; rfl
        · rw [if_neg (by omega), show ((j : Int) == (q.size : Int)) = true by rw [beq_iff_eq]; omega, align_step.j0, if_pos rfl]
    · refine .inr ⟨?_, i, j, 0, fun k => ?_⟩
      · rw [drop_ge p i (by omega)]; rfl
      · rw [if_pos (by omega), align_step.j0, if_pos rfl]
  · by_cases s1 : s = 1
    · subst s1
      simp only [fs1]
      by_cases h1 : i < p.size
      · rw [heavy_lt h1, drop_lt p i h1, Option.bind_some]
        by_cases h2 : j + 1 < q.size
        · rw [lights_lt hq h2, drop_lt q j (by omega), drop_lt q (j + 1) h2]
          have e : st 1 (bt p i :: (bytesOf p).drop (i + 1)) (bt q j :: bt q ((j + 1 : Nat) : Int) :: (bytesOf q).drop (j + 1 + 1)) = if (hv (bt p i) && lt (bt q j) && lt (bt q ((j + 1 : Nat) : Int))) = true then some ((bytesOf p).drop (i + 1), (bytesOf q).drop (j + 1 + 1), 1) else none := rfl
          rw [e, w64 (by omega) (by omega), w64 (by omega) (by omega), Option.bind_some]
          cases hv (bt p i) with
          | false => exact .inr ⟨rfl, _, _, _, fun k => rfl⟩
          | true => cases lt (bt q j) with
            | false => exact .inr ⟨rfl, _, _, _, fun k => rfl⟩
            | true => cases lt (bt q ((j + 1 : Nat) : Int)) with
              | false => exact .inr ⟨rfl, _, _, _, fun k => rfl⟩
              | true => exact .inl ⟨i + 1, j + 1 + 1, 1, by omega, by omega, by omega, by omega, by omega, rfl, fun k => rfl⟩
        · rw [lights_ge hq (by omega) h2]
          refine .inr ⟨?_, ?_⟩
          · by_cases h3 : j < q.size
            · rw [drop_lt q j h3, drop_ge q (j + 1) (by omega)]; rfl
            · rw [drop_ge q j (by omega)]; rfl
          · cases hv (bt p i) with
            | false => exact ⟨_, _, _, fun k => rfl⟩
            | true => exact ⟨_, _, _, fun k => rfl⟩
      · rw [heavy_ge h1, drop_ge p i (by omega)]
        exact .inr ⟨rfl, _, _, _, fun k => rfl⟩
    · by_cases s2 : s = 2
      · subst s2
        simp only [fs2]
        by_cases h1 : i + 1 < p.size
        · rw [lights_lt hp h1, drop_lt p i (by omega), drop_lt p (i + 1) h1, Option.bind_some]
          by_cases h2 : j < q.size
          · rw [heavy_lt h2, drop_lt q j h2]
            have e : st 2 (bt p i :: bt p ((i + 1 : Nat) : Int) :: (bytesOf p).drop (i + 1 + 1)) (bt q j :: (bytesOf q).drop (j + 1)) = if (lt (bt p i) && lt (bt p ((i + 1 : Nat) : Int)) && hv (bt q j)) = true then some ((bytesOf p).drop (i + 1 + 1), (bytesOf q).drop (j + 1), 1) else none := rfl
            rw [e, w64 (by omega) (by omega), w64 (by omega) (by omega), Option.bind_some]
            cases lt (bt p i) with
            | false => exact .inr ⟨rfl, _, _, _, fun k => rfl⟩
            | true => cases lt (bt p ((i + 1 : Nat) : Int)) with
              | false => exact .inr ⟨rfl, _, _, _, fun k => rfl⟩
              | true => cases hv (bt q j) with
                | false => exact .inr ⟨rfl, _, _, _, fun k => rfl⟩
                | true => exact .inl ⟨i + 1 + 1, j + 1, 1, by omega, by omega, by omega, by omega, by omega, rfl, fun k => rfl⟩
          · rw [heavy_ge h2, drop_ge q j (by omega)]
            refine .inr ⟨rfl, ?_⟩
            cases (lt (bt p i) && lt (bt p ((i + 1 : Nat) : Int))) with
            | false => exact ⟨_, _, _, fun k => rfl⟩
            | true => exact ⟨_, _, _, fun k => rfl⟩
        · rw [lights_ge hp (by omega) h1]
          refine .inr ⟨?_, _, _, _, fun k => rfl⟩
          by_cases h3 : i < p.size
          · rw [drop_lt p i h3, drop_ge p (i + 1) (by omega)]; rfl
          · rw [drop_ge p i (by omega)]; rfl
      · by_cases s3 : s = 3
        · subst s3
          simp only [fs3]
          by_cases h1 : i < p.size
          · refine .inl ⟨i + 1, j, 4, by omega, by omega, by omega, by omega, by omega, ?_, fun k => ?_⟩
            · rw [drop_lt p i h1]; rfl
            · rw [w64 (by omega) (by omega), decide_eq_true (by omega)]; rfl
          · refine .inr ⟨?_, wrap64 (i + 1), j, 4, fun k => ?_⟩
            · rw [drop_ge p i (by omega)]; rfl
            · rw [decide_eq_false (by omega)]
        · by_cases s4 : s = 4
          · subst s4
            simp only [fs4]
            by_cases h1 : j < q.size
            · refine .inl ⟨i, j + 1, 4, by omega, by omega, by omega, by omega, by omega, ?_, fun k => ?_⟩
              · rw [drop_lt q j h1]; rfl
              · rw [w64 (by omega) (by omega), decide_eq_true (by omega)]; rfl
            · refine .inr ⟨?_, i, wrap64 (j + 1), 4, fun k => ?_⟩
              · rw [drop_ge q j (by omega)]; rfl
              · rw [decide_eq_false (by omega)]
          · refine .inr ⟨?_, i, j, 0, fun k => fs5 _ _ _ _ _ _ s0 s1 s2 s3 s4⟩
            unfold st
            rw [if_neg s0, if_neg s1, if_neg s2, if_neg s3, if_neg s4]
/-- the same as what the rounds come to -/
theorem step_ev {p q : ByteArray} (g : Gv p q) {i j : Nat} (hi : i ≤ p.size) (hj : j ≤ q.size) (s : Int) :
    (∃ (i' j' : Nat) (c : Int), i ≤ i' ∧ j ≤ j' ∧ i' ≤ p.size ∧ j' ≤ q.size ∧ i + j < i' + j' ∧ st s ((bytesOf p).drop i) ((bytesOf q).drop j) = some ((bytesOf p).drop i', (bytesOf q).drop j', c) ∧ Ev (fun k => align_step.f k p q (i : Int) (j : Int) s) ((i' : Int), (j' : Int), c, true))
      ∨ (st s ((bytesOf p).drop i) ((bytesOf q).drop j) = none ∧ ∃ x y z, Ev (fun k => align_step.f k p q (i : Int) (j : Int) s) (x, y, z, false)) := by
  rcases step_or g hi hj s with ⟨i', j', c, h1, h2, h3, h4, h5, h6, h7⟩ | ⟨h1, x, y, z, h2⟩
  · exact .inl ⟨i', j', c, h1, h2, h3, h4, h5, h6, Ev.step h7 (Ev.now _)⟩
  · exact .inr ⟨h1, x, y, z, Ev.step h2 (Ev.now _)⟩
end Go.Proofs.Ytnnonjjmlbemfaa.Lem
