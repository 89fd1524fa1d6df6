-- printed by this session's xprint.py: out of the translation, by the kit's print with additions; Lean checks it
import Derived.Test.YtdaooagikacboaaWShare
import Derived.Test.YtdaooagikacboaaWRepsOne
import Derived.Test.YtdaooagikacboaaX0
namespace Go.Proofs.Ytdaooagikacboaa.X
open Go.RowKit Go.Proofs.YtdaooagikacboaaW.PrintWords Go.Proofs.YtdaooagikacboaaW.PrintLast Go.Proofs.YtdaooagikacboaaW.PrintMore
attribute [local go_sem] max2_int min2_int max_two min_two max_three min_three max_four min_four isSome_setCell binOp_gtr_str binOp_leq_str binOp_geq_str   -- for this text's walks alone
set_option linter.unusedVariables false
set_option linter.unusedSimpArgs false

/-! ### ancepsref54_SameTree: function 18 -/
mutual
def ancepsref54_SameTree.l0 : Nat → List (S46) → List (S46) → Int → Option (Bool)
  | 0, _, _, _ => none
  | k + 1, x0, x1, x5 => if x5 < (x0.length : Int) then (if 0 ≤ x5 then (if x5 < (x1.length : Int) then (if ((rd_T46 x0 x5).f0) = ((rd_T46 x1 x5).f0) then (if (((rd_T46 x0 x5).f1) != ((rd_T46 x1 x5).f1)) = true then (ancepsref54_SameTree.j1 k x0 x1 x5 true) else (ancepsref54_SameTree.j1 k x0 x1 x5 ((((rd_T46 x0 x5).f2).length : Int) != (((rd_T46 x1 x5).f2).length : Int)))) else (ancepsref54_SameTree.j1 k x0 x1 x5 true)) else (none)) else (none)) else (some true)
def ancepsref54_SameTree.j1 : Nat → List (S46) → List (S46) → Int → Bool → Option (Bool)
  | 0, _, _, _, _ => none
  | k + 1, x0, x1, x5, x56 => if x56 = true then (some false) else (ancepsref54_SameTree.l1 k x0 x1 x5 0)
def ancepsref54_SameTree.l1 : Nat → List (S46) → List (S46) → Int → Int → Option (Bool)
  | 0, _, _, _, _ => none
  | k + 1, x0, x1, x5, x6 => if 0 ≤ x5 then (if x5 < (x0.length : Int) then (if x6 < (((rd_T46 x0 x5).f2).length : Int) then (if 0 ≤ x6 then (if x5 < (x1.length : Int) then (if x6 < (((rd_T46 x1 x5).f2).length : Int) then (if (rd ((rd_T46 x0 x5).f2) x6) = (rd ((rd_T46 x1 x5).f2) x6) then (ancepsref54_SameTree.l1 k x0 x1 x5 (wrap64 (x6 + 1))) else (some false)) else (none)) else (none)) else (none)) else (ancepsref54_SameTree.l0 k x0 x1 (wrap64 (x5 + 1)))) else (none)) else (none)
end
def ancepsref54_SameTree.f (k : Nat) (l0 : List (S46)) (l1 : List (S46)) : Option (Bool) := if (l0.length : Int) = (l1.length : Int) then (ancepsref54_SameTree.l0 k l0 l1 0) else (some false)
theorem ancepsref54_SameTree.mono_l : ∀ k, (∀ y0 y1 y2, LeO (ancepsref54_SameTree.l0 k y0 y1 y2) (ancepsref54_SameTree.l0 (k + 1) y0 y1 y2)) ∧ (∀ y0 y1 y2 y3, LeO (ancepsref54_SameTree.j1 k y0 y1 y2 y3) (ancepsref54_SameTree.j1 (k + 1) y0 y1 y2 y3)) ∧ (∀ y0 y1 y2 y3, LeO (ancepsref54_SameTree.l1 k y0 y1 y2 y3) (ancepsref54_SameTree.l1 (k + 1) y0 y1 y2 y3))
  | 0 => ⟨fun _ _ _ r h => by simp [ancepsref54_SameTree.l0] at h, fun _ _ _ _ r h => by simp [ancepsref54_SameTree.j1] at h, fun _ _ _ _ r h => by simp [ancepsref54_SameTree.l1] at h⟩
  | k + 1 => by
    obtain ⟨ih0, ih1, ih2⟩ := ancepsref54_SameTree.mono_l k
    refine ⟨?_, ?_, ?_⟩
    · intro y0 y1 y2
      unfold ancepsref54_SameTree.l0
      repeat' first
      | (with_reducible exact ih0 _ _ _)
      | (with_reducible exact ih1 _ _ _ _)
      | (with_reducible exact ih2 _ _ _ _)
      | (with_reducible exact LeO.refl _)
      | (with_reducible exact LeO.none _)
      | (with_reducible refine LeO.ite ?_ ?_)
      | (with_reducible refine LeO.bind ?_ (fun _ => ?_))
      | exact ih0 _ _ _
      | exact ih1 _ _ _ _
      | exact ih2 _ _ _ _
      | exact LeO.none _
      | refine LeO.ite ?_ ?_
      | refine LeO.bind ?_ (fun _ => ?_)
    · intro y0 y1 y2 y3
      unfold ancepsref54_SameTree.j1
      repeat' first
      | (with_reducible exact ih0 _ _ _)
      | (with_reducible exact ih1 _ _ _ _)
      | (with_reducible exact ih2 _ _ _ _)
      | (with_reducible exact LeO.refl _)
      | (with_reducible exact LeO.none _)
      | (with_reducible refine LeO.ite ?_ ?_)
      | (with_reducible refine LeO.bind ?_ (fun _ => ?_))
      | exact ih0 _ _ _
      | exact ih1 _ _ _ _
      | exact ih2 _ _ _ _
      | exact LeO.none _
      | refine LeO.ite ?_ ?_
      | refine LeO.bind ?_ (fun _ => ?_)
    · intro y0 y1 y2 y3
      unfold ancepsref54_SameTree.l1
      repeat' first
      | (with_reducible exact ih0 _ _ _)
      | (with_reducible exact ih1 _ _ _ _)
      | (with_reducible exact ih2 _ _ _ _)
      | (with_reducible exact LeO.refl _)
      | (with_reducible exact LeO.none _)
      | (with_reducible refine LeO.ite ?_ ?_)
      | (with_reducible refine LeO.bind ?_ (fun _ => ?_))
      | exact ih0 _ _ _
      | exact ih1 _ _ _ _
      | exact ih2 _ _ _ _
      | exact LeO.none _
      | refine LeO.ite ?_ ?_
      | refine LeO.bind ?_ (fun _ => ?_)
theorem ancepsref54_SameTree.mono : ∀ a0 a1 k, LeO (ancepsref54_SameTree.f k a0 a1) (ancepsref54_SameTree.f (k + 1) a0 a1) := by
  intro a0 a1 k
  obtain ⟨ih0, ih1, ih2⟩ := ancepsref54_SameTree.mono_l k
  unfold ancepsref54_SameTree.f
  repeat' first
      | (with_reducible exact ih0 _ _ _)
      | (with_reducible exact ih1 _ _ _ _)
      | (with_reducible exact ih2 _ _ _ _)
      | (with_reducible exact LeO.refl _)
      | (with_reducible exact LeO.none _)
      | (with_reducible refine LeO.ite ?_ ?_)
      | (with_reducible refine LeO.bind ?_ (fun _ => ?_))
      | exact ih0 _ _ _
      | exact ih1 _ _ _ _
      | exact ih2 _ _ _ _
      | exact LeO.none _
      | refine LeO.ite ?_ ?_
      | refine LeO.bind ?_ (fun _ => ?_)
set_option maxHeartbeats 8000000 in
set_option maxRecDepth 100000 in
theorem ancepsref54_SameTree.calls (k : Nat) (A0 : Option Addr) (c0 : Nat) (l0 : List (S46)) (A1 : Option Addr) (c1 : Nat) (l1 : List (S46)) (r : Bool) (w : World) (hr0 : Kd.C k46 w A0 l0.length l0) (hc0 : l0.length ≤ c0) (hr1 : Kd.C k46 w A1 l1.length l1) (hc1 : l1.length ≤ c1) (h : ancepsref54_SameTree.f k l0 l1 = some r) :
    Calls Try.prog 18 #[.slice A0 l0.length c0, .slice A1 l1.length c1] w fun e w' => e = .returned (.bool r) ∧ Drawn0 w w' := by
  have HR0 := Aside0.mk hr0
  have HC0 := Aside0.mk hc0
  clear hr0 hc0
  have HR1 := Aside0.mk hr1
  have HC1 := Aside0.mk hc1
  clear hr1 hc1
  have H : (if (l0.length : Int) = (l1.length : Int) then (ancepsref54_SameTree.l0 k l0 l1 0) else (some false)) = some r := h
  clear h
  by_cases c3 : (l0.length : Int) = (l1.length : Int)
  · rw [if_pos c3] at H
    have c3b0 : ((l0.length : Int) == (l1.length : Int)) = true := beq_iff_eq.mpr c3
    have c3b1 : ((l0.length : Int) != (l1.length : Int)) = false := bne_eq_false_iff_eq.mpr c3
    have c3b2 : (l0.length == l1.length) = true := by first | simpa using c3 | (simp at c3 ⊢; omega)
    clear c3
    have H' := Aside0.mk H
    clear H
    go_enter Try.func18, Try.ntmps18
    go_wp2
    repeat (go_quiet (fail); try go_wp2)
    go_loopg [5] k (fun kq v5 w' => ∃ (x5_1 : Int), v5 = .int .i64 x5_1 ∧ Aside0 (ancepsref54_SameTree.l0 kq l0 l1 x5_1 = some r) ∧ Aside0 (kq ≤ k) ∧ Drawn0 w w')
    case atStart => exact ⟨(0), (by first | rfl | (simp; done) | (simp [*]; done)), H', ⟨Nat.le_refl _⟩, by repeat (first | exact Drawn0.refl _ | apply Drawn0.step)⟩
    case round =>
      clear H'
      try clear c1
      try clear p2
      try clear c3
      try clear c3b0
      try clear c3b1
      try clear c3b2
      obtain ⟨x5_1, rfl, HA, HK1, ⟨m1, rfl⟩⟩ := hrel
      cases gk with
      | zero => exact absurd HA.out (by simp [ancepsref54_SameTree.l0])
      | succ k1 =>
        have H := HA.out
        clear HA
        simp only [ancepsref54_SameTree.l0] at H
        by_cases c4 : x5_1 < (l0.length : Int)
        · rw [if_pos c4] at H
          have c4b0 : decide (x5_1 < (l0.length : Int)) = true := decide_eq_true c4
          clear c4
          have HC5 := Aside0.mk H
          clear H
          go_upto_region 6 with (fail)
          repeat (go_quiet (fail); go_upto_region 6 with (fail))
          go_cut [56] (fun v56 wc => ∃ (kq : Nat) (x56_4 : Bool), v56 = .bool x56_4 ∧ Aside0 (ancepsref54_SameTree.j1 kq l0 l1 x5_1 x56_4 = some r) ∧ Aside0 (kq ≤ k1) ∧ Drawn0 w wc)
          case first =>
            have H := HC5.out
            clear HC5
            by_cases c6 : 0 ≤ x5_1
            · rw [if_pos c6] at H
              have c6b0 : decide (0 ≤ x5_1) = true := decide_eq_true c6
              clear c6
              (first | rw [c6b0] | (simp only [i64_w, i32_w]; rw [c6b0]) | skip)
              by_cases c7 : x5_1 < (l1.length : Int)
              · rw [if_pos c7] at H
                have c7b0 : decide (x5_1 < (l1.length : Int)) = true := decide_eq_true c7
                clear c7
                by_cases c8 : ((rd_T46 l0 x5_1).f0) = ((rd_T46 l1 x5_1).f0)
                · rw [if_pos c8] at H
                  have c8b0 : (((rd_T46 l0 x5_1).f0) == ((rd_T46 l1 x5_1).f0)) = true := beq_iff_eq.mpr c8
                  have c8b1 : (((rd_T46 l0 x5_1).f0) != ((rd_T46 l1 x5_1).f0)) = false := bne_eq_false_iff_eq.mpr c8
                  clear c8
                  by_cases c9 : (((rd_T46 l0 x5_1).f1) != ((rd_T46 l1 x5_1).f1)) = true
                  · rw [if_pos c9] at H
                    have c9b0 : (((rd_T46 l0 x5_1).f1) != ((rd_T46 l1 x5_1).f1)) = true := c9
                    (try (have c9b1 : decide (((rd_T46 l0 x5_1).f1) = ((rd_T46 l1 x5_1).f1)) = false := by simpa using c9))
                    (try (have c9b2 : (((rd_T46 l0 x5_1).f1) == ((rd_T46 l1 x5_1).f1)) = false := by simpa using c9))
                    (try (have c9b3 : ¬ (((rd_T46 l0 x5_1).f1) = ((rd_T46 l1 x5_1).f1)) := by simpa using c9))
                    clear c9
                    have H' := Aside0.mk H
                    clear H
                    have p241 : 0 ≤ (x5_1 : Int) := of_decide_eq_true (by first | (with_reducible assumption) | assumption)
                    have q241 : x5_1 < (l0.length : Int) := of_decide_eq_true (by first | (with_reducible assumption) | assumption)
                    obtain ⟨ad241, A241_2, c241_2, e241, hx241_0, hx241_1, hx241_2, hl241_2, hi241_2⟩ := at_T46 HR0.out x5_1 p241 q241
                    cases e241
                    have HR241_2 := Aside0.mk hi241_2
                    have HC241_2 := Aside0.mk hl241_2
                    clear hi241_2 hl241_2
                    replace p241 := eq_true p241
                    replace q241 := eq_true q241
                    have p242 : 0 ≤ (x5_1 : Int) := of_decide_eq_true (by first | (with_reducible assumption) | assumption)
                    have q242 : x5_1 < (l1.length : Int) := of_decide_eq_true (by first | (with_reducible assumption) | assumption)
                    obtain ⟨ad242, A242_2, c242_2, e242, hx242_0, hx242_1, hx242_2, hl242_2, hi242_2⟩ := at_T46 HR1.out x5_1 p242 q242
                    cases e242
                    have HR242_2 := Aside0.mk hi242_2
                    have HC242_2 := Aside0.mk hl242_2
                    clear hi242_2 hl242_2
                    replace p242 := eq_true p242
                    replace q242 := eq_true q242
                    have p243 : 0 ≤ (x5_1 : Int) := of_decide_eq_true (by first | (with_reducible assumption) | assumption)
                    have q243 : x5_1 < (l0.length : Int) := of_decide_eq_true (by first | (with_reducible assumption) | assumption)
                    obtain ⟨ad243, A243_2, c243_2, e243, hx243_0, hx243_1, hx243_2, hl243_2, hi243_2⟩ := at_T46 HR0.out x5_1 p243 q243
                    obtain rfl : ad241 = ad243 := (by injection e243)
                    have HR243_2 := Aside0.mk hi243_2
                    have HC243_2 := Aside0.mk hl243_2
                    clear hi243_2 hl243_2
                    replace p243 := eq_true p243
                    replace q243 := eq_true q243
                    have ea_ := Option.some.inj (hx241_2.symm.trans hx243_2)
                    injection ea_ with ea_ en_ ec_
                    subst ea_
                    subst ec_
                    clear en_
                    have p244 : 0 ≤ (x5_1 : Int) := of_decide_eq_true (by first | (with_reducible assumption) | assumption)
                    have q244 : x5_1 < (l1.length : Int) := of_decide_eq_true (by first | (with_reducible assumption) | assumption)
                    obtain ⟨ad244, A244_2, c244_2, e244, hx244_0, hx244_1, hx244_2, hl244_2, hi244_2⟩ := at_T46 HR1.out x5_1 p244 q244
                    obtain rfl : ad242 = ad244 := (by injection e244)
                    have HR244_2 := Aside0.mk hi244_2
                    have HC244_2 := Aside0.mk hl244_2
                    clear hi244_2 hl244_2
                    replace p244 := eq_true p244
                    replace q244 := eq_true q244
                    have ea_ := Option.some.inj (hx242_2.symm.trans hx244_2)
                    injection ea_ with ea_ en_ ec_
                    subst ea_
                    subst ec_
                    clear en_
                    go_wp2
                    repeat (go_quiet (fail); try go_wp2)
                    go_meet
                    case rel => exact ⟨_, (true), (by first | rfl | (simp; done) | (simp [*]; done)), H', ⟨by have := HK1.out; first | omega | exact Nat.le_refl _⟩, by repeat (first | exact Drawn0.refl _ | apply Drawn0.step)⟩
                  · rw [if_neg c9] at H
                    have c9b0 : (((rd_T46 l0 x5_1).f1) != ((rd_T46 l1 x5_1).f1)) = false := by simpa using c9
                    (try (have c9b1 : decide (((rd_T46 l0 x5_1).f1) = ((rd_T46 l1 x5_1).f1)) = true := by simpa using c9))
                    (try (have c9b2 : (((rd_T46 l0 x5_1).f1) == ((rd_T46 l1 x5_1).f1)) = true := by simpa using c9))
                    clear c9
                    have H' := Aside0.mk H
                    clear H
                    have p241 : 0 ≤ (x5_1 : Int) := of_decide_eq_true (by first | (with_reducible assumption) | assumption)
                    have q241 : x5_1 < (l0.length : Int) := of_decide_eq_true (by first | (with_reducible assumption) | assumption)
                    obtain ⟨ad241, A241_2, c241_2, e241, hx241_0, hx241_1, hx241_2, hl241_2, hi241_2⟩ := at_T46 HR0.out x5_1 p241 q241
                    cases e241
                    have HR241_2 := Aside0.mk hi241_2
                    have HC241_2 := Aside0.mk hl241_2
                    clear hi241_2 hl241_2
                    replace p241 := eq_true p241
                    replace q241 := eq_true q241
                    have p242 : 0 ≤ (x5_1 : Int) := of_decide_eq_true (by first | (with_reducible assumption) | assumption)
                    have q242 : x5_1 < (l1.length : Int) := of_decide_eq_true (by first | (with_reducible assumption) | assumption)
                    obtain ⟨ad242, A242_2, c242_2, e242, hx242_0, hx242_1, hx242_2, hl242_2, hi242_2⟩ := at_T46 HR1.out x5_1 p242 q242
                    cases e242
                    have HR242_2 := Aside0.mk hi242_2
                    have HC242_2 := Aside0.mk hl242_2
                    clear hi242_2 hl242_2
                    replace p242 := eq_true p242
                    replace q242 := eq_true q242
                    have p243 : 0 ≤ (x5_1 : Int) := of_decide_eq_true (by first | (with_reducible assumption) | assumption)
                    have q243 : x5_1 < (l0.length : Int) := of_decide_eq_true (by first | (with_reducible assumption) | assumption)
                    obtain ⟨ad243, A243_2, c243_2, e243, hx243_0, hx243_1, hx243_2, hl243_2, hi243_2⟩ := at_T46 HR0.out x5_1 p243 q243
                    obtain rfl : ad241 = ad243 := (by injection e243)
                    have HR243_2 := Aside0.mk hi243_2
                    have HC243_2 := Aside0.mk hl243_2
                    clear hi243_2 hl243_2
                    replace p243 := eq_true p243
                    replace q243 := eq_true q243
                    have ea_ := Option.some.inj (hx241_2.symm.trans hx243_2)
                    injection ea_ with ea_ en_ ec_
                    subst ea_
                    subst ec_
                    clear en_
                    have p244 : 0 ≤ (x5_1 : Int) := of_decide_eq_true (by first | (with_reducible assumption) | assumption)
                    have q244 : x5_1 < (l1.length : Int) := of_decide_eq_true (by first | (with_reducible assumption) | assumption)
                    obtain ⟨ad244, A244_2, c244_2, e244, hx244_0, hx244_1, hx244_2, hl244_2, hi244_2⟩ := at_T46 HR1.out x5_1 p244 q244
                    obtain rfl : ad242 = ad244 := (by injection e244)
                    have HR244_2 := Aside0.mk hi244_2
                    have HC244_2 := Aside0.mk hl244_2
                    clear hi244_2 hl244_2
                    replace p244 := eq_true p244
                    replace q244 := eq_true q244
                    have ea_ := Option.some.inj (hx242_2.symm.trans hx244_2)
                    injection ea_ with ea_ en_ ec_
                    subst ea_
                    subst ec_
                    clear en_
                    have p245 : 0 ≤ (x5_1 : Int) := of_decide_eq_true (by first | (with_reducible assumption) | assumption)
                    have q245 : x5_1 < (l0.length : Int) := of_decide_eq_true (by first | (with_reducible assumption) | assumption)
                    obtain ⟨ad245, A245_2, c245_2, e245, hx245_0, hx245_1, hx245_2, hl245_2, hi245_2⟩ := at_T46 HR0.out x5_1 p245 q245
                    obtain rfl : ad241 = ad245 := (by injection e245)
                    have HR245_2 := Aside0.mk hi245_2
                    have HC245_2 := Aside0.mk hl245_2
                    clear hi245_2 hl245_2
                    replace p245 := eq_true p245
                    replace q245 := eq_true q245
                    have ea_ := Option.some.inj (hx241_2.symm.trans hx245_2)
                    injection ea_ with ea_ en_ ec_
                    subst ea_
                    subst ec_
                    clear en_
                    have p246 : 0 ≤ (x5_1 : Int) := of_decide_eq_true (by first | (with_reducible assumption) | assumption)
                    have q246 : x5_1 < (l1.length : Int) := of_decide_eq_true (by first | (with_reducible assumption) | assumption)
                    obtain ⟨ad246, A246_2, c246_2, e246, hx246_0, hx246_1, hx246_2, hl246_2, hi246_2⟩ := at_T46 HR1.out x5_1 p246 q246
                    obtain rfl : ad242 = ad246 := (by injection e246)
                    have HR246_2 := Aside0.mk hi246_2
                    have HC246_2 := Aside0.mk hl246_2
                    clear hi246_2 hl246_2
                    replace p246 := eq_true p246
                    replace q246 := eq_true q246
                    have ea_ := Option.some.inj (hx242_2.symm.trans hx246_2)
                    injection ea_ with ea_ en_ ec_
                    subst ea_
                    subst ec_
                    clear en_
                    go_wp2
                    repeat (go_quiet (fail); try go_wp2)
                    go_meet
                    case rel => exact ⟨_, (((((rd_T46 l0 x5_1).f2).length : Int) != (((rd_T46 l1 x5_1).f2).length : Int))), (by first | rfl | (simp; done) | (simp [*]; done)), H', ⟨by have := HK1.out; first | omega | exact Nat.le_refl _⟩, by repeat (first | exact Drawn0.refl _ | apply Drawn0.step)⟩
                · rw [if_neg c8] at H
                  have c8b0 : (((rd_T46 l0 x5_1).f0) == ((rd_T46 l1 x5_1).f0)) = false := beq_eq_false_iff_ne.mpr c8
                  have c8b1 : (((rd_T46 l0 x5_1).f0) != ((rd_T46 l1 x5_1).f0)) = true := bne_iff_ne.mpr c8
                  have H' := Aside0.mk H
                  clear H
                  have p241 : 0 ≤ (x5_1 : Int) := of_decide_eq_true (by first | (with_reducible assumption) | assumption)
                  have q241 : x5_1 < (l0.length : Int) := of_decide_eq_true (by first | (with_reducible assumption) | assumption)
                  obtain ⟨ad241, A241_2, c241_2, e241, hx241_0, hx241_1, hx241_2, hl241_2, hi241_2⟩ := at_T46 HR0.out x5_1 p241 q241
                  cases e241
                  have HR241_2 := Aside0.mk hi241_2
                  have HC241_2 := Aside0.mk hl241_2
                  clear hi241_2 hl241_2
                  replace p241 := eq_true p241
                  replace q241 := eq_true q241
                  have p242 : 0 ≤ (x5_1 : Int) := of_decide_eq_true (by first | (with_reducible assumption) | assumption)
                  have q242 : x5_1 < (l1.length : Int) := of_decide_eq_true (by first | (with_reducible assumption) | assumption)
                  obtain ⟨ad242, A242_2, c242_2, e242, hx242_0, hx242_1, hx242_2, hl242_2, hi242_2⟩ := at_T46 HR1.out x5_1 p242 q242
                  cases e242
                  have HR242_2 := Aside0.mk hi242_2
                  have HC242_2 := Aside0.mk hl242_2
                  clear hi242_2 hl242_2
                  replace p242 := eq_true p242
                  replace q242 := eq_true q242
                  go_wp2
                  repeat (go_quiet (fail); try go_wp2)
                  go_meet
                  case rel => exact ⟨_, (true), (by first | rfl | (simp; done) | (simp [*]; done)), H', ⟨by have := HK1.out; first | omega | exact Nat.le_refl _⟩, by repeat (first | exact Drawn0.refl _ | apply Drawn0.step)⟩
              · rw [if_neg c7] at H
                exact absurd H (by simp)
            · rw [if_neg c6] at H
              exact absurd H (by simp)
          case rest =>
            clear HC5
            try clear c1
            try clear c2
            try clear p2
            try clear q2
            try clear hx2
            try clear c3
            try clear c3b0
            try clear c3b1
            try clear c3b2
            try clear c4
            try clear c4b0
            try clear c6
            try clear c6b0
            try clear c7
            try clear c7b0
            try clear c8
            try clear c8b0
            try clear c8b1
            try clear c9
            try clear c9b0
            try clear c9b1
            try clear c9b2
            try clear hx241_0
            try clear hx241_1
            try clear hx241_2
            try clear hx242_0
            try clear hx242_1
            try clear hx242_2
            try clear hx243_0
            try clear hx243_1
            try clear hx243_2
            try clear hx244_0
            try clear hx244_1
            try clear hx244_2
            try clear hx245_0
            try clear hx245_1
            try clear hx245_2
            try clear hx246_0
            try clear hx246_1
            try clear hx246_2
            try clear p2
            try clear p241
            try clear p242
            try clear p243
            try clear p244
            try clear p245
            try clear p246
            try clear q241
            try clear q242
            try clear q243
            try clear q244
            try clear q245
            try clear q246
            obtain ⟨kq, x56_4, rfl, HA, HJ4, ⟨mc4, rfl⟩⟩ := hcut
            cases kq with
            | zero => exact absurd HA.out (by simp [ancepsref54_SameTree.j1])
            | succ kj4 =>
              have H := HA.out
              clear HA
              simp only [ancepsref54_SameTree.j1] at H
              by_cases c10 : x56_4 = true
              · subst c10
                have H1 : (some false) = some r := by rw [if_pos rfl] at H; exact H
                clear H
                have H := H1
                clear H1
                obtain rfl := Option.some.inj H
                go_wp2
                repeat (go_quiet (fail); try go_wp2)
                go_ret
                exact ⟨by first | rfl | (simp; done) | (simp [*]; done), by repeat (first | exact Drawn0.refl _ | apply Drawn0.step)⟩
              · replace c10 := Bool.eq_false_iff.mpr c10
                subst c10
                have H1 : (ancepsref54_SameTree.l1 kj4 l0 l1 x5_1 0) = some r := by rw [if_neg (show ¬ (false = true) by decide)] at H; exact H
                clear H
                have H := H1
                clear H1
                have H' := Aside0.mk H
                clear H
                go_wp2
                repeat (go_quiet (fail); try go_wp2)
                go_loopg [6] kj4 (fun kq v6 w' => ∃ (x6_3 : Int), v6 = .int .i64 x6_3 ∧ Aside0 (ancepsref54_SameTree.l1 kq l0 l1 x5_1 x6_3 = some r) ∧ Aside0 (kq ≤ kj4) ∧ Drawn0 w w')
                case atStart => exact ⟨(0), (by first | rfl | (simp; done) | (simp [*]; done)), H', ⟨Nat.le_refl _⟩, by repeat (first | exact Drawn0.refl _ | apply Drawn0.step)⟩
                case round =>
                  clear H'
                  try clear c1
                  try clear c2
                  try clear p2
                  try clear q2
                  try clear hx2
                  try clear c3
                  try clear c3b0
                  try clear c3b1
                  try clear c3b2
                  try clear c4
                  try clear c4b0
                  try clear c6
                  try clear c6b0
                  try clear c7
                  try clear c7b0
                  try clear c8
                  try clear c8b0
                  try clear c8b1
                  try clear c9
                  try clear c9b0
                  try clear c9b1
                  try clear c9b2
                  try clear c10
                  try clear hx241_0
                  try clear hx241_1
                  try clear hx241_2
                  try clear hx242_0
                  try clear hx242_1
                  try clear hx242_2
                  try clear hx243_0
                  try clear hx243_1
                  try clear hx243_2
                  try clear hx244_0
                  try clear hx244_1
                  try clear hx244_2
                  try clear hx245_0
                  try clear hx245_1
                  try clear hx245_2
                  try clear hx246_0
                  try clear hx246_1
                  try clear hx246_2
                  try clear p2
                  try clear p241
                  try clear p242
                  try clear p243
                  try clear p244
                  try clear p245
                  try clear p246
                  try clear q2
                  try clear q241
                  try clear q242
                  try clear q243
                  try clear q244
                  try clear q245
                  try clear q246
                  obtain ⟨x6_3, rfl, HA, HK3, ⟨m3, rfl⟩⟩ := hrel
                  cases gk with
                  | zero => exact absurd HA.out (by simp [ancepsref54_SameTree.l1])
                  | succ k3 =>
                    have H := HA.out
                    clear HA
                    simp only [ancepsref54_SameTree.l1] at H
                    by_cases c11 : 0 ≤ x5_1
                    · rw [if_pos c11] at H
                      have c11b0 : decide (0 ≤ x5_1) = true := decide_eq_true c11
                      clear c11
                      by_cases c12 : x5_1 < (l0.length : Int)
                      · rw [if_pos c12] at H
                        have c12b0 : decide (x5_1 < (l0.length : Int)) = true := decide_eq_true c12
                        clear c12
                        by_cases c13 : x6_3 < (((rd_T46 l0 x5_1).f2).length : Int)
                        · rw [if_pos c13] at H
                          have c13b0 : decide (x6_3 < (((rd_T46 l0 x5_1).f2).length : Int)) = true := decide_eq_true c13
                          clear c13
                          by_cases c14 : 0 ≤ x6_3
                          · rw [if_pos c14] at H
                            have c14b0 : decide (0 ≤ x6_3) = true := decide_eq_true c14
                            clear c14
                            by_cases c15 : x5_1 < (l1.length : Int)
                            · rw [if_pos c15] at H
                              have c15b0 : decide (x5_1 < (l1.length : Int)) = true := decide_eq_true c15
                              clear c15
                              by_cases c16 : x6_3 < (((rd_T46 l1 x5_1).f2).length : Int)
                              · rw [if_pos c16] at H
                                have c16b0 : decide (x6_3 < (((rd_T46 l1 x5_1).f2).length : Int)) = true := decide_eq_true c16
                                clear c16
                                by_cases c17 : (rd ((rd_T46 l0 x5_1).f2) x6_3) = (rd ((rd_T46 l1 x5_1).f2) x6_3)
                                · rw [if_pos c17] at H
                                  have c17b0 : ((rd ((rd_T46 l0 x5_1).f2) x6_3) == (rd ((rd_T46 l1 x5_1).f2) x6_3)) = true := beq_iff_eq.mpr c17
                                  have c17b1 : ((rd ((rd_T46 l0 x5_1).f2) x6_3) != (rd ((rd_T46 l1 x5_1).f2) x6_3)) = false := bne_eq_false_iff_eq.mpr c17
                                  clear c17
                                  have H' := Aside0.mk H
                                  clear H
                                  have p247 : 0 ≤ (x5_1 : Int) := of_decide_eq_true (by first | (with_reducible assumption) | assumption)
                                  have q247 : x5_1 < (l0.length : Int) := of_decide_eq_true (by first | (with_reducible assumption) | assumption)
                                  obtain ⟨ad247, A247_2, c247_2, e247, hx247_0, hx247_1, hx247_2, hl247_2, hi247_2⟩ := at_T46 HR0.out x5_1 p247 q247
                                  cases e247
                                  have HR247_2 := Aside0.mk hi247_2
                                  have HC247_2 := Aside0.mk hl247_2
                                  clear hi247_2 hl247_2
                                  replace p247 := eq_true p247
                                  replace q247 := eq_true q247
                                  have p248 : 0 ≤ (x5_1 : Int) := of_decide_eq_true (by first | (with_reducible assumption) | assumption)
                                  have q248 : x5_1 < (l0.length : Int) := of_decide_eq_true (by first | (with_reducible assumption) | assumption)
                                  obtain ⟨ad248, A248_2, c248_2, e248, hx248_0, hx248_1, hx248_2, hl248_2, hi248_2⟩ := at_T46 HR0.out x5_1 p248 q248
                                  obtain rfl : ad247 = ad248 := (by injection e248)
                                  have HR248_2 := Aside0.mk hi248_2
                                  have HC248_2 := Aside0.mk hl248_2
                                  clear hi248_2 hl248_2
                                  replace p248 := eq_true p248
                                  replace q248 := eq_true q248
                                  have ea_ := Option.some.inj (hx247_2.symm.trans hx248_2)
                                  injection ea_ with ea_ en_ ec_
                                  subst ea_
                                  subst ec_
                                  clear en_
                                  have p249 : 0 ≤ (x6_3 : Int) := of_decide_eq_true (by first | (with_reducible assumption) | assumption)
                                  have q249 : x6_3 < (((rd_T46 l0 x5_1).f2).length : Int) := of_decide_eq_true (by first | (with_reducible assumption) | assumption)
                                  obtain ⟨ad249, e249, hx249_0⟩ := Kd.at_int HR248_2.out x6_3 p249 q249
                                  cases e249
                                  replace p249 := eq_true p249
                                  replace q249 := eq_true q249
                                  have p250 : 0 ≤ (x5_1 : Int) := of_decide_eq_true (by first | (with_reducible assumption) | assumption)
                                  have q250 : x5_1 < (l1.length : Int) := of_decide_eq_true (by first | (with_reducible assumption) | assumption)
                                  obtain ⟨ad250, A250_2, c250_2, e250, hx250_0, hx250_1, hx250_2, hl250_2, hi250_2⟩ := at_T46 HR1.out x5_1 p250 q250
                                  cases e250
                                  have HR250_2 := Aside0.mk hi250_2
                                  have HC250_2 := Aside0.mk hl250_2
                                  clear hi250_2 hl250_2
                                  replace p250 := eq_true p250
                                  replace q250 := eq_true q250
                                  have p251 : 0 ≤ (x6_3 : Int) := of_decide_eq_true (by first | (with_reducible assumption) | assumption)
                                  have q251 : x6_3 < (((rd_T46 l1 x5_1).f2).length : Int) := of_decide_eq_true (by first | (with_reducible assumption) | assumption)
                                  obtain ⟨ad251, e251, hx251_0⟩ := Kd.at_int HR250_2.out x6_3 p251 q251
                                  cases e251
                                  replace p251 := eq_true p251
                                  replace q251 := eq_true q251
                                  go_wp2
                                  repeat (go_quiet (fail); try go_wp2)
                                  go_roundg k3
                                  case measure => have := HK1.out; have := HJ4.out; have := HK3.out; omega
                                  case rel => exact ⟨(wrap64 (x6_3 + 1)), (by first | rfl | (simp; done) | (simp [*]; done)), H', ⟨by have := HK1.out; have := HJ4.out; have := HK3.out; omega⟩, by repeat (first | exact Drawn0.refl _ | apply Drawn0.step)⟩
                                · rw [if_neg c17] at H
                                  have c17b0 : ((rd ((rd_T46 l0 x5_1).f2) x6_3) == (rd ((rd_T46 l1 x5_1).f2) x6_3)) = false := beq_eq_false_iff_ne.mpr c17
                                  have c17b1 : ((rd ((rd_T46 l0 x5_1).f2) x6_3) != (rd ((rd_T46 l1 x5_1).f2) x6_3)) = true := bne_iff_ne.mpr c17
                                  obtain rfl := Option.some.inj H
                                  have p247 : 0 ≤ (x5_1 : Int) := of_decide_eq_true (by first | (with_reducible assumption) | assumption)
                                  have q247 : x5_1 < (l0.length : Int) := of_decide_eq_true (by first | (with_reducible assumption) | assumption)
                                  obtain ⟨ad247, A247_2, c247_2, e247, hx247_0, hx247_1, hx247_2, hl247_2, hi247_2⟩ := at_T46 HR0.out x5_1 p247 q247
                                  cases e247
                                  have HR247_2 := Aside0.mk hi247_2
                                  have HC247_2 := Aside0.mk hl247_2
                                  clear hi247_2 hl247_2
                                  replace p247 := eq_true p247
                                  replace q247 := eq_true q247
                                  have p248 : 0 ≤ (x5_1 : Int) := of_decide_eq_true (by first | (with_reducible assumption) | assumption)
                                  have q248 : x5_1 < (l0.length : Int) := of_decide_eq_true (by first | (with_reducible assumption) | assumption)
                                  obtain ⟨ad248, A248_2, c248_2, e248, hx248_0, hx248_1, hx248_2, hl248_2, hi248_2⟩ := at_T46 HR0.out x5_1 p248 q248
                                  obtain rfl : ad247 = ad248 := (by injection e248)
                                  have HR248_2 := Aside0.mk hi248_2
                                  have HC248_2 := Aside0.mk hl248_2
                                  clear hi248_2 hl248_2
                                  replace p248 := eq_true p248
                                  replace q248 := eq_true q248
                                  have ea_ := Option.some.inj (hx247_2.symm.trans hx248_2)
                                  injection ea_ with ea_ en_ ec_
                                  subst ea_
                                  subst ec_
                                  clear en_
                                  have p249 : 0 ≤ (x6_3 : Int) := of_decide_eq_true (by first | (with_reducible assumption) | assumption)
                                  have q249 : x6_3 < (((rd_T46 l0 x5_1).f2).length : Int) := of_decide_eq_true (by first | (with_reducible assumption) | assumption)
                                  obtain ⟨ad249, e249, hx249_0⟩ := Kd.at_int HR248_2.out x6_3 p249 q249
                                  cases e249
                                  replace p249 := eq_true p249
                                  replace q249 := eq_true q249
                                  have p250 : 0 ≤ (x5_1 : Int) := of_decide_eq_true (by first | (with_reducible assumption) | assumption)
                                  have q250 : x5_1 < (l1.length : Int) := of_decide_eq_true (by first | (with_reducible assumption) | assumption)
                                  obtain ⟨ad250, A250_2, c250_2, e250, hx250_0, hx250_1, hx250_2, hl250_2, hi250_2⟩ := at_T46 HR1.out x5_1 p250 q250
                                  cases e250
                                  have HR250_2 := Aside0.mk hi250_2
                                  have HC250_2 := Aside0.mk hl250_2
                                  clear hi250_2 hl250_2
                                  replace p250 := eq_true p250
                                  replace q250 := eq_true q250
                                  have p251 : 0 ≤ (x6_3 : Int) := of_decide_eq_true (by first | (with_reducible assumption) | assumption)
                                  have q251 : x6_3 < (((rd_T46 l1 x5_1).f2).length : Int) := of_decide_eq_true (by first | (with_reducible assumption) | assumption)
                                  obtain ⟨ad251, e251, hx251_0⟩ := Kd.at_int HR250_2.out x6_3 p251 q251
                                  cases e251
                                  replace p251 := eq_true p251
                                  replace q251 := eq_true q251
                                  go_wp2
                                  repeat (go_quiet (fail); try go_wp2)
                                  go_ret
                                  exact ⟨by first | rfl | (simp; done) | (simp [*]; done), by repeat (first | exact Drawn0.refl _ | apply Drawn0.step)⟩
                              · rw [if_neg c16] at H
                                exact absurd H (by simp)
                            · rw [if_neg c15] at H
                              exact absurd H (by simp)
                          · rw [if_neg c14] at H
                            exact absurd H (by simp)
                        · rw [if_neg c13] at H
                          have c13b0 : decide (x6_3 < (((rd_T46 l0 x5_1).f2).length : Int)) = false := decide_eq_false c13
                          clear c13
                          have H' := Aside0.mk H
                          clear H
                          have p247 : 0 ≤ (x5_1 : Int) := of_decide_eq_true (by first | (with_reducible assumption) | assumption)
                          have q247 : x5_1 < (l0.length : Int) := of_decide_eq_true (by first | (with_reducible assumption) | assumption)
                          obtain ⟨ad247, A247_2, c247_2, e247, hx247_0, hx247_1, hx247_2, hl247_2, hi247_2⟩ := at_T46 HR0.out x5_1 p247 q247
                          cases e247
                          have HR247_2 := Aside0.mk hi247_2
                          have HC247_2 := Aside0.mk hl247_2
                          clear hi247_2 hl247_2
                          replace p247 := eq_true p247
                          replace q247 := eq_true q247
                          go_wp2
                          repeat (go_quiet (fail); try go_wp2)
                          go_roundg k3
                          case measure => have := HK1.out; have := HJ4.out; have := HK3.out; omega
                          case rel => exact ⟨(wrap64 (x5_1 + 1)), (by first | rfl | (simp; done) | (simp [*]; done)), H', ⟨by have := HK1.out; have := HJ4.out; have := HK3.out; omega⟩, by repeat (first | exact Drawn0.refl _ | apply Drawn0.step)⟩
                      · rw [if_neg c12] at H
                        exact absurd H (by simp)
                    · rw [if_neg c11] at H
                      exact absurd H (by simp)
        · rw [if_neg c4] at H
          have c4b0 : decide (x5_1 < (l0.length : Int)) = false := decide_eq_false c4
          clear c4
          obtain rfl := Option.some.inj H
          go_wp2
          repeat (go_quiet (fail); try go_wp2)
          go_ret
          exact ⟨by first | rfl | (simp; done) | (simp [*]; done), by repeat (first | exact Drawn0.refl _ | apply Drawn0.step)⟩
  · rw [if_neg c3] at H
    have c3b0 : ((l0.length : Int) == (l1.length : Int)) = false := beq_eq_false_iff_ne.mpr c3
    have c3b1 : ((l0.length : Int) != (l1.length : Int)) = true := bne_iff_ne.mpr c3
    have c3b2 : (l0.length == l1.length) = false := by first | simpa using c3 | (simp at c3 ⊢; omega)
    obtain rfl := Option.some.inj H
    go_enter Try.func18, Try.ntmps18
    go_wp2
    repeat (go_quiet (fail); try go_wp2)
    go_ret
    exact ⟨by first | rfl | (simp; done) | (simp [*]; done), by repeat (first | exact Drawn0.refl _ | apply Drawn0.step)⟩

-- NOT PRINTED: function 41 (wordlist_CheckTree_1)

end Go.Proofs.Ytdaooagikacboaa.X
