-- printed by this session's xprint.py: out of the translation, by the kit's print with additions; Lean checks it
import Derived.Test.YtnnonjjmlbemfaaWShare
import Derived.Test.YtnnonjjmlbemfaaWRepsOne
import Derived.Test.YtnnonjjmlbemfaaX0
namespace Go.Proofs.Ytnnonjjmlbemfaa.X
open Go.RowKit Go.Proofs.YtnnonjjmlbemfaaW.PrintWords Go.Proofs.YtnnonjjmlbemfaaW.PrintLast Go.Proofs.YtnnonjjmlbemfaaW.PrintMore
attribute [local go_sem] max2_int min2_int max_two min_two max_three min_three max_four min_four isSome_setCell binOp_gtr_str binOp_leq_str   -- for this text's walks alone
set_option linter.unusedVariables false
set_option linter.unusedSimpArgs false

/-! ### ancepsref45_small: function 40 -/
mutual
def ancepsref45_small.l0 : Nat → List (List Int) → Int → Option (Bool)
  | 0, _, _ => none
  | k + 1, x0, x3 => if x3 < (x0.length : Int) then (ancepsref45_small.l1 k x0 x3 0) else (some true)
def ancepsref45_small.l1 : Nat → List (List Int) → Int → Int → Option (Bool)
  | 0, _, _, _ => none
  | k + 1, x0, x3, x4 => if 0 ≤ x3 then (if x3 < (x0.length : Int) then (if x4 < ((rd_L2 x0 x3).length : Int) then (if 0 ≤ x4 then (if (rd (rd_L2 x0 x3) x4) < (-1000000) then (some false) else (if (rd (rd_L2 x0 x3) x4) > 1000000 then (some false) else (ancepsref45_small.l1 k x0 x3 (wrap64 (x4 + 1))))) else (none)) else (ancepsref45_small.l0 k x0 (wrap64 (x3 + 1)))) else (none)) else (none)
end
def ancepsref45_small.f (k : Nat) (l0 : List (List Int)) : Option (Bool) := ancepsref45_small.l0 k l0 0
theorem ancepsref45_small.mono_l : ∀ k, (∀ y0 y1, LeO (ancepsref45_small.l0 k y0 y1) (ancepsref45_small.l0 (k + 1) y0 y1)) ∧ (∀ y0 y1 y2, LeO (ancepsref45_small.l1 k y0 y1 y2) (ancepsref45_small.l1 (k + 1) y0 y1 y2))
  | 0 => ⟨fun _ _ r h => by simp [ancepsref45_small.l0] at h, fun _ _ _ r h => by simp [ancepsref45_small.l1] at h⟩
  | k + 1 => by
    obtain ⟨ih0, ih1⟩ := ancepsref45_small.mono_l k
    refine ⟨?_, ?_⟩
    · intro y0 y1
      unfold ancepsref45_small.l0
      repeat' first
      | (with_reducible exact ih0 _ _)
      | (with_reducible exact ih1 _ _ _)
      | (with_reducible exact LeO.refl _)
      | (with_reducible exact LeO.none _)
      | (with_reducible refine LeO.ite ?_ ?_)
      | (with_reducible refine LeO.bind ?_ (fun _ => ?_))
      | exact ih0 _ _
      | exact ih1 _ _ _
      | exact LeO.none _
      | refine LeO.ite ?_ ?_
      | refine LeO.bind ?_ (fun _ => ?_)
    · intro y0 y1 y2
      unfold ancepsref45_small.l1
      repeat' first
      | (with_reducible exact ih0 _ _)
      | (with_reducible exact ih1 _ _ _)
      | (with_reducible exact LeO.refl _)
      | (with_reducible exact LeO.none _)
      | (with_reducible refine LeO.ite ?_ ?_)
      | (with_reducible refine LeO.bind ?_ (fun _ => ?_))
      | exact ih0 _ _
      | exact ih1 _ _ _
      | exact LeO.none _
      | refine LeO.ite ?_ ?_
      | refine LeO.bind ?_ (fun _ => ?_)
theorem ancepsref45_small.mono : ∀ a0 k, LeO (ancepsref45_small.f k a0) (ancepsref45_small.f (k + 1) a0) := by
  intro a0 k
  obtain ⟨ih0, ih1⟩ := ancepsref45_small.mono_l k
  unfold ancepsref45_small.f
  repeat' first
      | (with_reducible exact ih0 _ _)
      | (with_reducible exact ih1 _ _ _)
      | (with_reducible exact LeO.refl _)
      | (with_reducible exact LeO.none _)
      | (with_reducible refine LeO.ite ?_ ?_)
      | (with_reducible refine LeO.bind ?_ (fun _ => ?_))
      | exact ih0 _ _
      | exact ih1 _ _ _
      | exact LeO.none _
      | refine LeO.ite ?_ ?_
      | refine LeO.bind ?_ (fun _ => ?_)
set_option maxHeartbeats 8000000 in
set_option maxRecDepth 100000 in
theorem ancepsref45_small.calls (k : Nat) (A0 : Option Addr) (c0 : Nat) (l0 : List (List Int)) (r : Bool) (w : World) (hr0 : Kd.C (Kd.slice 3 (Kd.int .i64)) w A0 l0.length l0) (hc0 : l0.length ≤ c0) (h : ancepsref45_small.f k l0 = some r) :
    Calls Try.prog 40 #[.slice A0 l0.length c0] w fun e w' => e = .returned (.bool r) ∧ Drawn0 w w' := by
  have HR0 := Aside0.mk hr0
  have HC0 := Aside0.mk hc0
  clear hr0 hc0
  have H : (ancepsref45_small.l0 k l0 0) = some r := h
  clear h
  have H' := Aside0.mk H
  clear H
  go_enter Try.func40, Try.ntmps40
  go_wp2
  go_loopg [3] k (fun kq v3 w' => ∃ (x3_1 : Int), v3 = .int .i64 x3_1 ∧ Aside0 (ancepsref45_small.l0 kq l0 x3_1 = some r) ∧ Aside0 (kq ≤ k) ∧ Drawn0 w w')
  case atStart => exact ⟨(0), (by first | rfl | (simp; done) | (simp [*]; done)), H', ⟨Nat.le_refl _⟩, by repeat (first | exact Drawn0.refl _ | apply Drawn0.step)⟩
  case round =>
    clear H'
    obtain ⟨x3_1, rfl, HA, HK1, ⟨m1, rfl⟩⟩ := hrel
    cases gk with
    | zero => exact absurd HA.out (by simp [ancepsref45_small.l0])
    | succ k1 =>
      have H := HA.out
      clear HA
      simp only [ancepsref45_small.l0] at H
      by_cases c2 : x3_1 < (l0.length : Int)
      · rw [if_pos c2] at H
        have c2b0 : decide (x3_1 < (l0.length : Int)) = true := decide_eq_true c2
        clear c2
        have H' := Aside0.mk H
        clear H
        go_wp2
        go_loopg [4] k1 (fun kq v4 w' => ∃ (x4_2 : Int), v4 = .int .i64 x4_2 ∧ Aside0 (ancepsref45_small.l1 kq l0 x3_1 x4_2 = some r) ∧ Aside0 (kq ≤ k1) ∧ Drawn0 w w')
        case atStart => exact ⟨(0), (by first | rfl | (simp; done) | (simp [*]; done)), H', ⟨Nat.le_refl _⟩, by repeat (first | exact Drawn0.refl _ | apply Drawn0.step)⟩
        case round =>
          clear H'
          try clear c2
          try clear c2b0
          try clear p2
          obtain ⟨x4_2, rfl, HA, HK2, ⟨m2, rfl⟩⟩ := hrel
          cases gk with
          | zero => exact absurd HA.out (by simp [ancepsref45_small.l1])
          | succ k2 =>
            have H := HA.out
            clear HA
            simp only [ancepsref45_small.l1] at H
            by_cases c3 : 0 ≤ x3_1
            · rw [if_pos c3] at H
              have c3b0 : decide (0 ≤ x3_1) = true := decide_eq_true c3
              clear c3
              by_cases c4 : x3_1 < (l0.length : Int)
              · rw [if_pos c4] at H
                have c4b0 : decide (x3_1 < (l0.length : Int)) = true := decide_eq_true c4
                clear c4
                by_cases c5 : x4_2 < ((rd_L2 l0 x3_1).length : Int)
                · rw [if_pos c5] at H
                  have c5b0 : decide (x4_2 < ((rd_L2 l0 x3_1).length : Int)) = true := decide_eq_true c5
                  clear c5
                  by_cases c6 : 0 ≤ x4_2
                  · rw [if_pos c6] at H
                    have c6b0 : decide (0 ≤ x4_2) = true := decide_eq_true c6
                    clear c6
                    by_cases c7 : (rd (rd_L2 l0 x3_1) x4_2) < (-1000000)
                    · rw [if_pos c7] at H
                      have c7b0 : decide ((rd (rd_L2 l0 x3_1) x4_2) < (-1000000)) = true := decide_eq_true c7
                      clear c7
                      obtain rfl := Option.some.inj H
                      have p538 : 0 ≤ (x3_1 : Int) := of_decide_eq_true (by first | (with_reducible assumption) | assumption)
                      have q538 : x3_1 < (l0.length : Int) := of_decide_eq_true (by first | (with_reducible assumption) | assumption)
                      obtain ⟨ad538, A538_0, c538_0, e538, hx538_0, hl538_0, hi538_0⟩ := at_L2 HR0.out x3_1 p538 q538
                      cases e538
                      have HR538_0 := Aside0.mk hi538_0
                      have HC538_0 := Aside0.mk hl538_0
                      clear hi538_0 hl538_0
                      replace p538 := eq_true p538
                      replace q538 := eq_true q538
                      have p539 : 0 ≤ (x3_1 : Int) := of_decide_eq_true (by first | (with_reducible assumption) | assumption)
                      have q539 : x3_1 < (l0.length : Int) := of_decide_eq_true (by first | (with_reducible assumption) | assumption)
                      obtain ⟨ad539, A539_0, c539_0, e539, hx539_0, hl539_0, hi539_0⟩ := at_L2 HR0.out x3_1 p539 q539
                      obtain rfl : ad538 = ad539 := (by injection e539)
                      have HR539_0 := Aside0.mk hi539_0
                      have HC539_0 := Aside0.mk hl539_0
                      clear hi539_0 hl539_0
                      replace p539 := eq_true p539
                      replace q539 := eq_true q539
                      have ea_ := Option.some.inj (hx538_0.symm.trans hx539_0)
                      injection ea_ with ea_ en_ ec_
                      subst ea_
                      subst ec_
                      clear en_
                      have p540 : 0 ≤ (x4_2 : Int) := of_decide_eq_true (by first | (with_reducible assumption) | assumption)
                      have q540 : x4_2 < ((rd_L2 l0 x3_1).length : Int) := of_decide_eq_true (by first | (with_reducible assumption) | assumption)
                      obtain ⟨ad540, e540, hx540_0⟩ := Kd.at_int HR539_0.out x4_2 p540 q540
                      cases e540
                      replace p540 := eq_true p540
                      replace q540 := eq_true q540
                      go_wp2
                      go_ret
                      exact ⟨by first | rfl | (simp; done) | (simp [*]; done), by repeat (first | exact Drawn0.refl _ | apply Drawn0.step)⟩
                    · rw [if_neg c7] at H
                      have c7b0 : decide ((rd (rd_L2 l0 x3_1) x4_2) < (-1000000)) = false := decide_eq_false c7
                      clear c7
                      by_cases c8 : (rd (rd_L2 l0 x3_1) x4_2) > 1000000
                      · rw [if_pos c8] at H
                        have c8b0 : decide (1000000 < (rd (rd_L2 l0 x3_1) x4_2)) = true := decide_eq_true c8
                        clear c8
                        obtain rfl := Option.some.inj H
                        have p538 : 0 ≤ (x3_1 : Int) := of_decide_eq_true (by first | (with_reducible assumption) | assumption)
                        have q538 : x3_1 < (l0.length : Int) := of_decide_eq_true (by first | (with_reducible assumption) | assumption)
                        obtain ⟨ad538, A538_0, c538_0, e538, hx538_0, hl538_0, hi538_0⟩ := at_L2 HR0.out x3_1 p538 q538
                        cases e538
                        have HR538_0 := Aside0.mk hi538_0
                        have HC538_0 := Aside0.mk hl538_0
                        clear hi538_0 hl538_0
                        replace p538 := eq_true p538
                        replace q538 := eq_true q538
                        have p539 : 0 ≤ (x3_1 : Int) := of_decide_eq_true (by first | (with_reducible assumption) | assumption)
                        have q539 : x3_1 < (l0.length : Int) := of_decide_eq_true (by first | (with_reducible assumption) | assumption)
                        obtain ⟨ad539, A539_0, c539_0, e539, hx539_0, hl539_0, hi539_0⟩ := at_L2 HR0.out x3_1 p539 q539
                        obtain rfl : ad538 = ad539 := (by injection e539)
                        have HR539_0 := Aside0.mk hi539_0
                        have HC539_0 := Aside0.mk hl539_0
                        clear hi539_0 hl539_0
                        replace p539 := eq_true p539
                        replace q539 := eq_true q539
                        have ea_ := Option.some.inj (hx538_0.symm.trans hx539_0)
                        injection ea_ with ea_ en_ ec_
                        subst ea_
                        subst ec_
                        clear en_
                        have p540 : 0 ≤ (x4_2 : Int) := of_decide_eq_true (by first | (with_reducible assumption) | assumption)
                        have q540 : x4_2 < ((rd_L2 l0 x3_1).length : Int) := of_decide_eq_true (by first | (with_reducible assumption) | assumption)
                        obtain ⟨ad540, e540, hx540_0⟩ := Kd.at_int HR539_0.out x4_2 p540 q540
                        cases e540
                        replace p540 := eq_true p540
                        replace q540 := eq_true q540
                        have p541 : 0 ≤ (x3_1 : Int) := of_decide_eq_true (by first | (with_reducible assumption) | assumption)
                        have q541 : x3_1 < (l0.length : Int) := of_decide_eq_true (by first | (with_reducible assumption) | assumption)
                        obtain ⟨ad541, A541_0, c541_0, e541, hx541_0, hl541_0, hi541_0⟩ := at_L2 HR0.out x3_1 p541 q541
                        obtain rfl : ad538 = ad541 := (by injection e541)
                        have HR541_0 := Aside0.mk hi541_0
                        have HC541_0 := Aside0.mk hl541_0
                        clear hi541_0 hl541_0
                        replace p541 := eq_true p541
                        replace q541 := eq_true q541
                        have ea_ := Option.some.inj (hx538_0.symm.trans hx541_0)
                        injection ea_ with ea_ en_ ec_
                        subst ea_
                        subst ec_
                        clear en_
                        have p542 : 0 ≤ (x4_2 : Int) := of_decide_eq_true (by first | (with_reducible assumption) | assumption)
                        have q542 : x4_2 < ((rd_L2 l0 x3_1).length : Int) := of_decide_eq_true (by first | (with_reducible assumption) | assumption)
                        obtain ⟨ad542, e542, hx542_0⟩ := Kd.at_int HR541_0.out x4_2 p542 q542
                        cases e542
                        replace p542 := eq_true p542
                        replace q542 := eq_true q542
                        go_wp2
                        go_ret
                        exact ⟨by first | rfl | (simp; done) | (simp [*]; done), by repeat (first | exact Drawn0.refl _ | apply Drawn0.step)⟩
                      · rw [if_neg c8] at H
                        have c8b0 : decide (1000000 < (rd (rd_L2 l0 x3_1) x4_2)) = false := decide_eq_false c8
                        clear c8
                        have H' := Aside0.mk H
                        clear H
                        have p538 : 0 ≤ (x3_1 : Int) := of_decide_eq_true (by first | (with_reducible assumption) | assumption)
                        have q538 : x3_1 < (l0.length : Int) := of_decide_eq_true (by first | (with_reducible assumption) | assumption)
                        obtain ⟨ad538, A538_0, c538_0, e538, hx538_0, hl538_0, hi538_0⟩ := at_L2 HR0.out x3_1 p538 q538
                        cases e538
                        have HR538_0 := Aside0.mk hi538_0
                        have HC538_0 := Aside0.mk hl538_0
                        clear hi538_0 hl538_0
                        replace p538 := eq_true p538
                        replace q538 := eq_true q538
                        have p539 : 0 ≤ (x3_1 : Int) := of_decide_eq_true (by first | (with_reducible assumption) | assumption)
                        have q539 : x3_1 < (l0.length : Int) := of_decide_eq_true (by first | (with_reducible assumption) | assumption)
                        obtain ⟨ad539, A539_0, c539_0, e539, hx539_0, hl539_0, hi539_0⟩ := at_L2 HR0.out x3_1 p539 q539
                        obtain rfl : ad538 = ad539 := (by injection e539)
                        have HR539_0 := Aside0.mk hi539_0
                        have HC539_0 := Aside0.mk hl539_0
                        clear hi539_0 hl539_0
                        replace p539 := eq_true p539
                        replace q539 := eq_true q539
                        have ea_ := Option.some.inj (hx538_0.symm.trans hx539_0)
                        injection ea_ with ea_ en_ ec_
                        subst ea_
                        subst ec_
                        clear en_
                        have p540 : 0 ≤ (x4_2 : Int) := of_decide_eq_true (by first | (with_reducible assumption) | assumption)
                        have q540 : x4_2 < ((rd_L2 l0 x3_1).length : Int) := of_decide_eq_true (by first | (with_reducible assumption) | assumption)
                        obtain ⟨ad540, e540, hx540_0⟩ := Kd.at_int HR539_0.out x4_2 p540 q540
                        cases e540
                        replace p540 := eq_true p540
                        replace q540 := eq_true q540
                        have p541 : 0 ≤ (x3_1 : Int) := of_decide_eq_true (by first | (with_reducible assumption) | assumption)
                        have q541 : x3_1 < (l0.length : Int) := of_decide_eq_true (by first | (with_reducible assumption) | assumption)
                        obtain ⟨ad541, A541_0, c541_0, e541, hx541_0, hl541_0, hi541_0⟩ := at_L2 HR0.out x3_1 p541 q541
                        obtain rfl : ad538 = ad541 := (by injection e541)
                        have HR541_0 := Aside0.mk hi541_0
                        have HC541_0 := Aside0.mk hl541_0
                        clear hi541_0 hl541_0
                        replace p541 := eq_true p541
                        replace q541 := eq_true q541
                        have ea_ := Option.some.inj (hx538_0.symm.trans hx541_0)
                        injection ea_ with ea_ en_ ec_
                        subst ea_
                        subst ec_
                        clear en_
                        have p542 : 0 ≤ (x4_2 : Int) := of_decide_eq_true (by first | (with_reducible assumption) | assumption)
                        have q542 : x4_2 < ((rd_L2 l0 x3_1).length : Int) := of_decide_eq_true (by first | (with_reducible assumption) | assumption)
                        obtain ⟨ad542, e542, hx542_0⟩ := Kd.at_int HR541_0.out x4_2 p542 q542
                        cases e542
                        replace p542 := eq_true p542
                        replace q542 := eq_true q542
                        go_wp2
                        go_roundg k2
                        case measure => have := HK1.out; have := HK2.out; omega
                        case rel => exact ⟨(wrap64 (x4_2 + 1)), (by first | rfl | (simp; done) | (simp [*]; done)), H', ⟨by have := HK1.out; have := HK2.out; omega⟩, by repeat (first | exact Drawn0.refl _ | apply Drawn0.step)⟩
                  · rw [if_neg c6] at H
                    exact absurd H (by simp)
                · rw [if_neg c5] at H
                  have c5b0 : decide (x4_2 < ((rd_L2 l0 x3_1).length : Int)) = false := decide_eq_false c5
                  clear c5
                  have H' := Aside0.mk H
                  clear H
                  have p538 : 0 ≤ (x3_1 : Int) := of_decide_eq_true (by first | (with_reducible assumption) | assumption)
                  have q538 : x3_1 < (l0.length : Int) := of_decide_eq_true (by first | (with_reducible assumption) | assumption)
                  obtain ⟨ad538, A538_0, c538_0, e538, hx538_0, hl538_0, hi538_0⟩ := at_L2 HR0.out x3_1 p538 q538
                  cases e538
                  have HR538_0 := Aside0.mk hi538_0
                  have HC538_0 := Aside0.mk hl538_0
                  clear hi538_0 hl538_0
                  replace p538 := eq_true p538
                  replace q538 := eq_true q538
                  go_wp2
                  go_roundg k2
                  case measure => have := HK1.out; have := HK2.out; omega
                  case rel => exact ⟨(wrap64 (x3_1 + 1)), (by first | rfl | (simp; done) | (simp [*]; done)), H', ⟨by have := HK1.out; have := HK2.out; omega⟩, by repeat (first | exact Drawn0.refl _ | apply Drawn0.step)⟩
              · rw [if_neg c4] at H
                exact absurd H (by simp)
            · rw [if_neg c3] at H
              exact absurd H (by simp)
      · rw [if_neg c2] at H
        have c2b0 : decide (x3_1 < (l0.length : Int)) = false := decide_eq_false c2
        clear c2
        obtain rfl := Option.some.inj H
        go_wp2
        go_ret
        exact ⟨by first | rfl | (simp; done) | (simp [*]; done), by repeat (first | exact Drawn0.refl _ | apply Drawn0.step)⟩

/-! ### ancepsref45_Few: function 17 -/
mutual
def ancepsref45_Few.l0 : Nat → List (List Int) → Int → Option (Bool)
  | 0, _, _ => none
  | k + 1, x0, x3 => if x3 < (x0.length : Int) then (ancepsref45_Few.j1 k x0 x3 (decide (x3 < 50))) else (ancepsref45_Few.j1 k x0 x3 false)
def ancepsref45_Few.j1 : Nat → List (List Int) → Int → Bool → Option (Bool)
  | 0, _, _, _ => none
  | k + 1, x0, x3, x11 => if x11 = true then (if 0 ≤ x3 then (if x3 < (x0.length : Int) then (if ((rd_L2 x0 x3).length : Int) > 45 then (some false) else (ancepsref45_Few.l0 k x0 (wrap64 (x3 + 1)))) else (none)) else (none)) else (if (x0.length : Int) ≤ 45 then ((ancepsref45_small.f k x0).bind fun t544 => (some t544)) else (some false))
end
def ancepsref45_Few.f (k : Nat) (l0 : List (List Int)) : Option (Bool) := ancepsref45_Few.l0 k l0 0
theorem ancepsref45_Few.mono_l : ∀ k, (∀ y0 y1, LeO (ancepsref45_Few.l0 k y0 y1) (ancepsref45_Few.l0 (k + 1) y0 y1)) ∧ (∀ y0 y1 y2, LeO (ancepsref45_Few.j1 k y0 y1 y2) (ancepsref45_Few.j1 (k + 1) y0 y1 y2))
  | 0 => ⟨fun _ _ r h => by simp [ancepsref45_Few.l0] at h, fun _ _ _ r h => by simp [ancepsref45_Few.j1] at h⟩
  | k + 1 => by
    obtain ⟨ih0, ih1⟩ := ancepsref45_Few.mono_l k
    refine ⟨?_, ?_⟩
    · intro y0 y1
      unfold ancepsref45_Few.l0
      repeat' first
      | (with_reducible exact ih0 _ _)
      | (with_reducible exact ih1 _ _ _)
      | (with_reducible exact ancepsref45_small.mono _ _)
      | (with_reducible exact LeO.refl _)
      | (with_reducible exact LeO.none _)
      | (with_reducible refine LeO.ite ?_ ?_)
      | (with_reducible refine LeO.bind ?_ (fun _ => ?_))
      | exact ih0 _ _
      | exact ih1 _ _ _
      | exact ancepsref45_small.mono _ _
      | exact LeO.none _
      | refine LeO.ite ?_ ?_
      | refine LeO.bind ?_ (fun _ => ?_)
    · intro y0 y1 y2
      unfold ancepsref45_Few.j1
      repeat' first
      | (with_reducible exact ih0 _ _)
      | (with_reducible exact ih1 _ _ _)
      | (with_reducible exact ancepsref45_small.mono _ _)
      | (with_reducible exact LeO.refl _)
      | (with_reducible exact LeO.none _)
      | (with_reducible refine LeO.ite ?_ ?_)
      | (with_reducible refine LeO.bind ?_ (fun _ => ?_))
      | exact ih0 _ _
      | exact ih1 _ _ _
      | exact ancepsref45_small.mono _ _
      | exact LeO.none _
      | refine LeO.ite ?_ ?_
      | refine LeO.bind ?_ (fun _ => ?_)
theorem ancepsref45_Few.mono : ∀ a0 k, LeO (ancepsref45_Few.f k a0) (ancepsref45_Few.f (k + 1) a0) := by
  intro a0 k
  obtain ⟨ih0, ih1⟩ := ancepsref45_Few.mono_l k
  unfold ancepsref45_Few.f
  repeat' first
      | (with_reducible exact ih0 _ _)
      | (with_reducible exact ih1 _ _ _)
      | (with_reducible exact ancepsref45_small.mono _ _)
      | (with_reducible exact LeO.refl _)
      | (with_reducible exact LeO.none _)
      | (with_reducible refine LeO.ite ?_ ?_)
      | (with_reducible refine LeO.bind ?_ (fun _ => ?_))
      | exact ih0 _ _
      | exact ih1 _ _ _
      | exact ancepsref45_small.mono _ _
      | exact LeO.none _
      | refine LeO.ite ?_ ?_
      | refine LeO.bind ?_ (fun _ => ?_)
set_option maxHeartbeats 8000000 in
set_option maxRecDepth 100000 in
theorem ancepsref45_Few.calls (k : Nat) (A0 : Option Addr) (c0 : Nat) (l0 : List (List Int)) (r : Bool) (w : World) (hr0 : Kd.C (Kd.slice 3 (Kd.int .i64)) w A0 l0.length l0) (hc0 : l0.length ≤ c0) (h : ancepsref45_Few.f k l0 = some r) :
    Calls Try.prog 17 #[.slice A0 l0.length c0] w fun e w' => e = .returned (.bool r) ∧ Drawn0 w w' := by
  have HR0 := Aside0.mk hr0
  have HC0 := Aside0.mk hc0
  clear hr0 hc0
  have H : (ancepsref45_Few.l0 k l0 0) = some r := h
  clear h
  have H' := Aside0.mk H
  clear H
  go_enter Try.func17, Try.ntmps17
  go_wp2
  go_loopg [3] k (fun kq v3 w' => ∃ (x3_1 : Int), v3 = .int .i64 x3_1 ∧ Aside0 (ancepsref45_Few.l0 kq l0 x3_1 = some r) ∧ Aside0 (kq ≤ k) ∧ Drawn0 w w')
  case atStart => exact ⟨(0), (by first | rfl | (simp; done) | (simp [*]; done)), H', ⟨Nat.le_refl _⟩, by repeat (first | exact Drawn0.refl _ | apply Drawn0.step)⟩
  case round =>
    clear H'
    try clear c1
    obtain ⟨x3_1, rfl, HA, HK1, ⟨m1, rfl⟩⟩ := hrel
    cases gk with
    | zero => exact absurd HA.out (by simp [ancepsref45_Few.l0])
    | succ k1 =>
      have H := HA.out
      clear HA
      simp only [ancepsref45_Few.l0] at H
      have HC2 := Aside0.mk H
      clear H
      go_upto_region 2 with (fail)
      go_cut [11] (fun v11 wc => ∃ (kq : Nat) (x11_1 : Bool), v11 = .bool x11_1 ∧ Aside0 (ancepsref45_Few.j1 kq l0 x3_1 x11_1 = some r) ∧ Aside0 (kq ≤ k1) ∧ Drawn0 w wc)
      case first =>
        have H := HC2.out
        clear HC2
        by_cases c3 : x3_1 < (l0.length : Int)
        · rw [if_pos c3] at H
          have c3b0 : decide (x3_1 < (l0.length : Int)) = true := decide_eq_true c3
          clear c3
          (first | rw [c3b0] | (simp only [i64_w, i32_w]; rw [c3b0]) | skip)
          have H' := Aside0.mk H
          clear H
          go_wp2
          go_meet
          case rel => exact ⟨_, (decide (x3_1 < 50)), (by first | rfl | (simp; done) | (simp [*]; done)), H', ⟨by have := HK1.out; first | omega | exact Nat.le_refl _⟩, by repeat (first | exact Drawn0.refl _ | apply Drawn0.step)⟩
        · rw [if_neg c3] at H
          have c3b0 : decide (x3_1 < (l0.length : Int)) = false := decide_eq_false c3
          clear c3
          (first | rw [c3b0] | (simp only [i64_w, i32_w]; rw [c3b0]) | skip)
          have H' := Aside0.mk H
          clear H
          go_wp2
          go_meet
          case rel => exact ⟨_, (false), (by first | rfl | (simp; done) | (simp [*]; done)), H', ⟨by have := HK1.out; first | omega | exact Nat.le_refl _⟩, by repeat (first | exact Drawn0.refl _ | apply Drawn0.step)⟩
      case rest =>
        clear HC2
        try clear c1
        try clear p2
        try clear c3
        try clear c3b0
        obtain ⟨kq, x11_1, rfl, HA, HJ1, ⟨mc1, rfl⟩⟩ := hcut
        cases kq with
        | zero => exact absurd HA.out (by simp [ancepsref45_Few.j1])
        | succ kj1 =>
          have H := HA.out
          clear HA
          simp only [ancepsref45_Few.j1] at H
          by_cases c4 : x11_1 = true
          · subst c4
            have H1 : (if 0 ≤ x3_1 then (if x3_1 < (l0.length : Int) then (if ((rd_L2 l0 x3_1).length : Int) > 45 then (some false) else (ancepsref45_Few.l0 kj1 l0 (wrap64 (x3_1 + 1)))) else (none)) else (none)) = some r := by rw [if_pos rfl] at H; exact H
            clear H
            have H := H1
            clear H1
            by_cases c5 : 0 ≤ x3_1
            · rw [if_pos c5] at H
              have c5b0 : decide (0 ≤ x3_1) = true := decide_eq_true c5
              clear c5
              by_cases c6 : x3_1 < (l0.length : Int)
              · rw [if_pos c6] at H
                have c6b0 : decide (x3_1 < (l0.length : Int)) = true := decide_eq_true c6
                clear c6
                by_cases c7 : ((rd_L2 l0 x3_1).length : Int) > 45
                · rw [if_pos c7] at H
                  have c7b0 : decide (45 < ((rd_L2 l0 x3_1).length : Int)) = true := decide_eq_true c7
                  have c7b1 : decide (45 < (rd_L2 l0 x3_1).length) = true := decide_eq_true (by omega)
                  clear c7
                  obtain rfl := Option.some.inj H
                  have p543 : 0 ≤ (x3_1 : Int) := of_decide_eq_true (by first | (with_reducible assumption) | assumption)
                  have q543 : x3_1 < (l0.length : Int) := of_decide_eq_true (by first | (with_reducible assumption) | assumption)
                  obtain ⟨ad543, A543_0, c543_0, e543, hx543_0, hl543_0, hi543_0⟩ := at_L2 HR0.out x3_1 p543 q543
                  cases e543
                  have HR543_0 := Aside0.mk hi543_0
                  have HC543_0 := Aside0.mk hl543_0
                  clear hi543_0 hl543_0
                  replace p543 := eq_true p543
                  replace q543 := eq_true q543
                  go_wp2
                  go_ret
                  exact ⟨by first | rfl | (simp; done) | (simp [*]; done), by repeat (first | exact Drawn0.refl _ | apply Drawn0.step)⟩
                · rw [if_neg c7] at H
                  have c7b0 : decide (45 < ((rd_L2 l0 x3_1).length : Int)) = false := decide_eq_false c7
                  have c7b1 : decide (45 < (rd_L2 l0 x3_1).length) = false := decide_eq_false (by omega)
                  clear c7
                  have H' := Aside0.mk H
                  clear H
                  have p543 : 0 ≤ (x3_1 : Int) := of_decide_eq_true (by first | (with_reducible assumption) | assumption)
                  have q543 : x3_1 < (l0.length : Int) := of_decide_eq_true (by first | (with_reducible assumption) | assumption)
                  obtain ⟨ad543, A543_0, c543_0, e543, hx543_0, hl543_0, hi543_0⟩ := at_L2 HR0.out x3_1 p543 q543
                  cases e543
                  have HR543_0 := Aside0.mk hi543_0
                  have HC543_0 := Aside0.mk hl543_0
                  clear hi543_0 hl543_0
                  replace p543 := eq_true p543
                  replace q543 := eq_true q543
                  go_wp2
                  go_roundg kj1
                  case measure => have := HK1.out; have := HJ1.out; omega
                  case rel => exact ⟨(wrap64 (x3_1 + 1)), (by first | rfl | (simp; done) | (simp [*]; done)), H', ⟨by have := HK1.out; have := HJ1.out; omega⟩, by repeat (first | exact Drawn0.refl _ | apply Drawn0.step)⟩
              · rw [if_neg c6] at H
                exact absurd H (by simp)
            · rw [if_neg c5] at H
              exact absurd H (by simp)
          · replace c4 := Bool.eq_false_iff.mpr c4
            subst c4
            have H1 : (if (l0.length : Int) ≤ 45 then ((ancepsref45_small.f kj1 l0).bind fun t544 => (some t544)) else (some false)) = some r := by rw [if_neg (show ¬ (false = true) by decide)] at H; exact H
            clear H
            have H := H1
            clear H1
            by_cases c8 : (l0.length : Int) ≤ 45
            · rw [if_pos c8] at H
              have c8b0 : decide ((l0.length : Int) ≤ 45) = true := decide_eq_true c8
              have c8b1 : decide (l0.length ≤ 45) = true := decide_eq_true (by omega)
              clear c8
              replace H := Option.bind_eq_some_iff.mp H
              obtain ⟨t544, A90, H⟩ := H
              replace H : (some t544) = some r := H
              have A9 := Aside0.mk A90
              clear A90
              obtain rfl := Option.some.inj H
              go_wp2_with (first | (go_at_call 40; (with_reducible refine (ancepsref45_small.calls kj1 _ _ l0 t544 _ ?side1 ?side2 A9.out).mono ?_); (case side1 => repeat (first | exact HR0.out | (with_reducible refine Kd.C_alloc ?_ _) | (with_reducible refine Kd.C_drewN ?_ _) | (with_reducible refine Kd.C_drew ?_))); (case side2 => exact HC0.out); rintro e w' ⟨rfl, ⟨nd, rfl⟩⟩))
              go_ret
              exact ⟨by first | rfl | (simp; done) | (simp [*]; done), by repeat (first | exact Drawn0.refl _ | apply Drawn0.step)⟩
            · rw [if_neg c8] at H
              have c8b0 : decide ((l0.length : Int) ≤ 45) = false := decide_eq_false c8
              have c8b1 : decide (l0.length ≤ 45) = false := decide_eq_false (by omega)
              clear c8
              obtain rfl := Option.some.inj H
              go_wp2
              go_ret
              exact ⟨by first | rfl | (simp; done) | (simp [*]; done), by repeat (first | exact Drawn0.refl _ | apply Drawn0.step)⟩

end Go.Proofs.Ytnnonjjmlbemfaa.X
