-- halved indents
-- printed by this session's xprint.py: out of the translation, by the kit's print with additions; Lean checks it
import Derived.Test.YtnnonjjmlbemfaaWShare
import Derived.Test.YtnnonjjmlbemfaaWRepsOne
import Derived.Test.YtnnonjjmlbemfaaX0
import Derived.Test.YtnnonjjmlbemfaaX10
import Derived.Test.YtnnonjjmlbemfaaX15
import Derived.Test.YtnnonjjmlbemfaaX19
namespace Go.Proofs.Ytnnonjjmlbemfaa.X
open Go.RowKit Go.Proofs.YtnnonjjmlbemfaaW.PrintWords Go.Proofs.YtnnonjjmlbemfaaW.PrintLast Go.Proofs.YtnnonjjmlbemfaaW.PrintMore
attribute [local go_sem] max2_int min2_int max_two min_two max_three min_three max_four min_four isSome_setCell binOp_gtr_str binOp_leq_str   -- for this text's walks alone
set_option linter.unusedVariables false
set_option linter.unusedSimpArgs false

/-! ### ancepsref45_right: function 44 -/
mutual
def ancepsref45_right.l0 : Nat → ByteArray → ByteArray → List (List Int) → Int → Option (Bool)
 | 0, _, _, _, _ => none
 | k + 1, x0, x1, x2, x7 => if x7 ≤ (x0.size : Int) then (if 0 ≤ x7 then (if x7 < (x2.length : Int) then (if ((rd_L2 x2 x7).length : Int) = (wrap64 ((x1.size : Int) + 1)) then (ancepsref45_right.l0 k x0 x1 x2 (wrap64 (x7 + 1))) else (some false)) else (none)) else (none)) else (ancepsref45_right.l1 k x0 x1 x2 0)
def ancepsref45_right.l1 : Nat → ByteArray → ByteArray → List (List Int) → Int → Option (Bool)
 | 0, _, _, _, _ => none
 | k + 1, x0, x1, x2, x8 => if x8 ≤ (x0.size : Int) then (ancepsref45_right.l2 k x0 x1 x2 x8 0) else (if 0 ≤ (x0.size : Int) then (if (x0.size : Int) < (x2.length : Int) then (if 0 ≤ (x1.size : Int) then (if (x1.size : Int) < ((rd_L2 x2 (x0.size : Int)).length : Int) then (some ((rd (rd_L2 x2 (x0.size : Int)) (x1.size : Int)) == 0)) else (none)) else (none)) else (none)) else (none))
def ancepsref45_right.l2 : Nat → ByteArray → ByteArray → List (List Int) → Int → Int → Option (Bool)
 | 0, _, _, _, _, _ => none
 | k + 1, x0, x1, x2, x8, x9 => if x9 ≤ (x1.size : Int) then (ancepsref45_right.l3 k x0 x1 x2 x8 x9 0) else (ancepsref45_right.l1 k x0 x1 x2 (wrap64 (x8 + 1)))
def ancepsref45_right.l3 : Nat → ByteArray → ByteArray → List (List Int) → Int → Int → Int → Option (Bool)
 | 0, _, _, _, _, _, _ => none
 | k + 1, x0, x1, x2, x8, x9, x10 => if x10 ≤ 4 then ((ancepsref45_Step.f k x0 x1 x8 x9 x10).bind fun bt548 => (if bt548.2.2.2 = true then (if 0 ≤ x8 then (if x8 < (x2.length : Int) then (if 0 ≤ x9 then (if x9 < ((rd_L2 x2 x8).length : Int) then (if 0 ≤ bt548.1 then (if bt548.1 < (x2.length : Int) then (if 0 ≤ bt548.2.1 then (if bt548.2.1 < ((rd_L2 x2 bt548.1).length : Int) then (if (rd (rd_L2 x2 x8) x9) > (rd (rd_L2 x2 bt548.1) bt548.2.1) then (if (wrap64 ((rd (rd_L2 x2 x8) x9) - (rd (rd_L2 x2 bt548.1) bt548.2.1))) > bt548.2.2.1 then (some false) else (ancepsref45_right.l3 k x0 x1 x2 x8 x9 (wrap64 (x10 + 1)))) else (ancepsref45_right.l3 k x0 x1 x2 x8 x9 (wrap64 (x10 + 1)))) else (none)) else (none)) else (none)) else (none)) else (none)) else (none)) else (none)) else (none)) else (ancepsref45_right.l3 k x0 x1 x2 x8 x9 (wrap64 (x10 + 1))))) else (ancepsref45_right.l2 k x0 x1 x2 x8 (wrap64 (x9 + 1)))
end
def ancepsref45_right.f (k : Nat) (a0 : ByteArray) (a1 : ByteArray) (l2 : List (List Int)) : Option (Bool) := if (l2.length : Int) = (wrap64 ((a0.size : Int) + 1)) then (ancepsref45_right.l0 k a0 a1 l2 0) else (some false)
theorem ancepsref45_right.mono_l : ∀ k, (∀ y0 y1 y2 y3, LeO (ancepsref45_right.l0 k y0 y1 y2 y3) (ancepsref45_right.l0 (k + 1) y0 y1 y2 y3)) ∧ (∀ y0 y1 y2 y3, LeO (ancepsref45_right.l1 k y0 y1 y2 y3) (ancepsref45_right.l1 (k + 1) y0 y1 y2 y3)) ∧ (∀ y0 y1 y2 y3 y4, LeO (ancepsref45_right.l2 k y0 y1 y2 y3 y4) (ancepsref45_right.l2 (k + 1) y0 y1 y2 y3 y4)) ∧ (∀ y0 y1 y2 y3 y4 y5, LeO (ancepsref45_right.l3 k y0 y1 y2 y3 y4 y5) (ancepsref45_right.l3 (k + 1) y0 y1 y2 y3 y4 y5))
 | 0 => ⟨fun _ _ _ _ r h => by simp [ancepsref45_right.l0] at h, fun _ _ _ _ r h => by simp [ancepsref45_right.l1] at h, fun _ _ _ _ _ r h => by simp [ancepsref45_right.l2] at h, fun _ _ _ _ _ _ r h => by simp [ancepsref45_right.l3] at h⟩
 | k + 1 => by
  obtain ⟨ih0, ih1, ih2, ih3⟩ := ancepsref45_right.mono_l k
  refine ⟨?_, ?_, ?_, ?_⟩
  ·intro y0 y1 y2 y3
   unfold ancepsref45_right.l0
   repeat' first
   | (with_reducible exact ih0 _ _ _ _)
   | (with_reducible exact ih1 _ _ _ _)
   | (with_reducible exact ih2 _ _ _ _ _)
   | (with_reducible exact ih3 _ _ _ _ _ _)
   | (with_reducible exact ancepsref45_Step.mono _ _ _ _ _ _)
   | (with_reducible exact LeO.refl _)
   | (with_reducible exact LeO.none _)
   | (with_reducible refine LeO.ite ?_ ?_)
   | (with_reducible refine LeO.bind ?_ (fun _ => ?_))
   | exact ih0 _ _ _ _
   | exact ih1 _ _ _ _
   | exact ih2 _ _ _ _ _
   | exact ih3 _ _ _ _ _ _
   | exact ancepsref45_Step.mono _ _ _ _ _ _
   | exact LeO.none _
   | refine LeO.ite ?_ ?_
   | refine LeO.bind ?_ (fun _ => ?_)
  ·intro y0 y1 y2 y3
   unfold ancepsref45_right.l1
   repeat' first
   | (with_reducible exact ih0 _ _ _ _)
   | (with_reducible exact ih1 _ _ _ _)
   | (with_reducible exact ih2 _ _ _ _ _)
   | (with_reducible exact ih3 _ _ _ _ _ _)
   | (with_reducible exact ancepsref45_Step.mono _ _ _ _ _ _)
   | (with_reducible exact LeO.refl _)
   | (with_reducible exact LeO.none _)
   | (with_reducible refine LeO.ite ?_ ?_)
   | (with_reducible refine LeO.bind ?_ (fun _ => ?_))
   | exact ih0 _ _ _ _
   | exact ih1 _ _ _ _
   | exact ih2 _ _ _ _ _
   | exact ih3 _ _ _ _ _ _
   | exact ancepsref45_Step.mono _ _ _ _ _ _
   | exact LeO.none _
   | refine LeO.ite ?_ ?_
   | refine LeO.bind ?_ (fun _ => ?_)
  ·intro y0 y1 y2 y3 y4
   unfold ancepsref45_right.l2
   repeat' first
   | (with_reducible exact ih0 _ _ _ _)
   | (with_reducible exact ih1 _ _ _ _)
   | (with_reducible exact ih2 _ _ _ _ _)
   | (with_reducible exact ih3 _ _ _ _ _ _)
   | (with_reducible exact ancepsref45_Step.mono _ _ _ _ _ _)
   | (with_reducible exact LeO.refl _)
   | (with_reducible exact LeO.none _)
   | (with_reducible refine LeO.ite ?_ ?_)
   | (with_reducible refine LeO.bind ?_ (fun _ => ?_))
   | exact ih0 _ _ _ _
   | exact ih1 _ _ _ _
   | exact ih2 _ _ _ _ _
   | exact ih3 _ _ _ _ _ _
   | exact ancepsref45_Step.mono _ _ _ _ _ _
   | exact LeO.none _
   | refine LeO.ite ?_ ?_
   | refine LeO.bind ?_ (fun _ => ?_)
  ·intro y0 y1 y2 y3 y4 y5
   unfold ancepsref45_right.l3
   repeat' first
   | (with_reducible exact ih0 _ _ _ _)
   | (with_reducible exact ih1 _ _ _ _)
   | (with_reducible exact ih2 _ _ _ _ _)
   | (with_reducible exact ih3 _ _ _ _ _ _)
   | (with_reducible exact ancepsref45_Step.mono _ _ _ _ _ _)
   | (with_reducible exact LeO.refl _)
   | (with_reducible exact LeO.none _)
   | (with_reducible refine LeO.ite ?_ ?_)
   | (with_reducible refine LeO.bind ?_ (fun _ => ?_))
   | exact ih0 _ _ _ _
   | exact ih1 _ _ _ _
   | exact ih2 _ _ _ _ _
   | exact ih3 _ _ _ _ _ _
   | exact ancepsref45_Step.mono _ _ _ _ _ _
   | exact LeO.none _
   | refine LeO.ite ?_ ?_
   | refine LeO.bind ?_ (fun _ => ?_)
theorem ancepsref45_right.mono : ∀ a0 a1 a2 k, LeO (ancepsref45_right.f k a0 a1 a2) (ancepsref45_right.f (k + 1) a0 a1 a2) := by
 intro a0 a1 a2 k
 obtain ⟨ih0, ih1, ih2, ih3⟩ := ancepsref45_right.mono_l k
 unfold ancepsref45_right.f
 repeat' first
   | (with_reducible exact ih0 _ _ _ _)
   | (with_reducible exact ih1 _ _ _ _)
   | (with_reducible exact ih2 _ _ _ _ _)
   | (with_reducible exact ih3 _ _ _ _ _ _)
   | (with_reducible exact ancepsref45_Step.mono _ _ _ _ _ _)
   | (with_reducible exact LeO.refl _)
   | (with_reducible exact LeO.none _)
   | (with_reducible refine LeO.ite ?_ ?_)
   | (with_reducible refine LeO.bind ?_ (fun _ => ?_))
   | exact ih0 _ _ _ _
   | exact ih1 _ _ _ _
   | exact ih2 _ _ _ _ _
   | exact ih3 _ _ _ _ _ _
   | exact ancepsref45_Step.mono _ _ _ _ _ _
   | exact LeO.none _
   | refine LeO.ite ?_ ?_
   | refine LeO.bind ?_ (fun _ => ?_)
set_option maxHeartbeats 8000000 in
set_option maxRecDepth 100000 in
theorem ancepsref45_right.calls (k : Nat) (a0 : ByteArray) (a1 : ByteArray) (A2 : Option Addr) (c2 : Nat) (l2 : List (List Int)) (r : Bool) (w : World) (hr2 : Kd.C (Kd.slice 3 (Kd.int .i64)) w A2 l2.length l2) (hc2 : l2.length ≤ c2) (h : ancepsref45_right.f k a0 a1 l2 = some r) :
  Calls Try.prog 44 #[.string a0, .string a1, .slice A2 l2.length c2] w fun e w' => e = .returned (.bool r) ∧ Drawn0 w w' := by
 have HR2 := Aside0.mk hr2
 have HC2 := Aside0.mk hc2
 clear hr2 hc2
 have H : (if (l2.length : Int) = (wrap64 ((a0.size : Int) + 1)) then (ancepsref45_right.l0 k a0 a1 l2 0) else (some false)) = some r := h
 clear h
 by_cases c4 : (l2.length : Int) = (wrap64 ((a0.size : Int) + 1))
 ·rw [if_pos c4] at H
  have c4b0 : ((l2.length : Int) == (wrap64 ((a0.size : Int) + 1))) = true := beq_iff_eq.mpr c4
  have c4b1 : ((l2.length : Int) != (wrap64 ((a0.size : Int) + 1))) = false := bne_eq_false_iff_eq.mpr c4
  clear c4
  have H' := Aside0.mk H
  clear H
  go_enter Try.func44, Try.ntmps44
  go_wp2
  repeat (go_quiet (fail); try go_wp2)
  go_loopg [7] k (fun kq v7 w' => ∃ (x7_1 : Int), v7 = .int .i64 x7_1 ∧ Aside0 (ancepsref45_right.l0 kq a0 a1 l2 x7_1 = some r) ∧ Aside0 (kq ≤ k) ∧ Drawn0 w w')
  case atStart => exact ⟨(0), (by first | rfl | (simp; done) | (simp [*]; done)), H', ⟨Nat.le_refl _⟩, by repeat (first | exact Drawn0.refl _ | apply Drawn0.step)⟩
  case round =>
   clear H'
   try clear c2
   try clear p2
   try clear c4
   try clear c4b0
   try clear c4b1
   obtain ⟨x7_1, rfl, HA, HK1, ⟨m1, rfl⟩⟩ := hrel
   cases gk with
   | zero => exact absurd HA.out (by simp [ancepsref45_right.l0])
   | succ k1 =>
    have H := HA.out
    clear HA
    simp only [ancepsref45_right.l0] at H
    by_cases c5 : x7_1 ≤ (a0.size : Int)
    ·rw [if_pos c5] at H
     have c5b0 : decide (x7_1 ≤ (a0.size : Int)) = true := decide_eq_true c5
     clear c5
     by_cases c6 : 0 ≤ x7_1
     ·rw [if_pos c6] at H
      have c6b0 : decide (0 ≤ x7_1) = true := decide_eq_true c6
      clear c6
      by_cases c7 : x7_1 < (l2.length : Int)
      ·rw [if_pos c7] at H
       have c7b0 : decide (x7_1 < (l2.length : Int)) = true := decide_eq_true c7
       clear c7
       by_cases c8 : ((rd_L2 l2 x7_1).length : Int) = (wrap64 ((a1.size : Int) + 1))
       ·rw [if_pos c8] at H
        have c8b0 : (((rd_L2 l2 x7_1).length : Int) == (wrap64 ((a1.size : Int) + 1))) = true := beq_iff_eq.mpr c8
        have c8b1 : (((rd_L2 l2 x7_1).length : Int) != (wrap64 ((a1.size : Int) + 1))) = false := bne_eq_false_iff_eq.mpr c8
        clear c8
        have H' := Aside0.mk H
        clear H
        have p545 : 0 ≤ (x7_1 : Int) := of_decide_eq_true (by first | (with_reducible assumption) | assumption)
        have q545 : x7_1 < (l2.length : Int) := of_decide_eq_true (by first | (with_reducible assumption) | assumption)
        obtain ⟨ad545, A545_0, c545_0, e545, hx545_0, hl545_0, hi545_0⟩ := at_L2 HR2.out x7_1 p545 q545
        cases e545
        have HR545_0 := Aside0.mk hi545_0
        have HC545_0 := Aside0.mk hl545_0
        clear hi545_0 hl545_0
        replace p545 := eq_true p545
        replace q545 := eq_true q545
        go_wp2
        repeat (go_quiet (fail); try go_wp2)
        go_roundg k1
        case measure => have := HK1.out; omega
        case rel => exact ⟨(wrap64 (x7_1 + 1)), (by first | rfl | (simp; done) | (simp [*]; done)), H', ⟨by have := HK1.out; omega⟩, by repeat (first | exact Drawn0.refl _ | apply Drawn0.step)⟩
       ·rw [if_neg c8] at H
        have c8b0 : (((rd_L2 l2 x7_1).length : Int) == (wrap64 ((a1.size : Int) + 1))) = false := beq_eq_false_iff_ne.mpr c8
        have c8b1 : (((rd_L2 l2 x7_1).length : Int) != (wrap64 ((a1.size : Int) + 1))) = true := bne_iff_ne.mpr c8
        obtain rfl := Option.some.inj H
        have p545 : 0 ≤ (x7_1 : Int) := of_decide_eq_true (by first | (with_reducible assumption) | assumption)
        have q545 : x7_1 < (l2.length : Int) := of_decide_eq_true (by first | (with_reducible assumption) | assumption)
        obtain ⟨ad545, A545_0, c545_0, e545, hx545_0, hl545_0, hi545_0⟩ := at_L2 HR2.out x7_1 p545 q545
        cases e545
        have HR545_0 := Aside0.mk hi545_0
        have HC545_0 := Aside0.mk hl545_0
        clear hi545_0 hl545_0
        replace p545 := eq_true p545
        replace q545 := eq_true q545
        go_wp2
        repeat (go_quiet (fail); try go_wp2)
        go_ret
        exact ⟨by first | rfl | (simp; done) | (simp [*]; done), by repeat (first | exact Drawn0.refl _ | apply Drawn0.step)⟩
      ·rw [if_neg c7] at H
       exact absurd H (by simp)
     ·rw [if_neg c6] at H
      exact absurd H (by simp)
    ·rw [if_neg c5] at H
     have c5b0 : decide (x7_1 ≤ (a0.size : Int)) = false := decide_eq_false c5
     clear c5
     have H' := Aside0.mk H
     clear H
     go_wp2
     repeat (go_quiet (fail); try go_wp2)
     go_loopg [8] k1 (fun kq v8 w' => ∃ (x8_2 : Int), v8 = .int .i64 x8_2 ∧ Aside0 (ancepsref45_right.l1 kq a0 a1 l2 x8_2 = some r) ∧ Aside0 (kq ≤ k1) ∧ Drawn0 w w')
     case atStart => exact ⟨(0), (by first | rfl | (simp; done) | (simp [*]; done)), H', ⟨Nat.le_refl _⟩, by repeat (first | exact Drawn0.refl _ | apply Drawn0.step)⟩
     case round =>
      clear H'
      try clear c2
      try clear p2
      try clear c4
      try clear c4b0
      try clear c4b1
      try clear c5
      try clear c5b0
      try clear p5
      try clear q5
      try clear hx5
      try clear c6
      try clear c6b0
      try clear p6
      try clear c7
      try clear c7b0
      try clear c8
      try clear c8b0
      try clear c8b1
      try clear hx545_0
      try clear p2
      try clear p545
      try clear q545
      obtain ⟨x8_2, rfl, HA, HK2, ⟨m2, rfl⟩⟩ := hrel
      cases gk with
      | zero => exact absurd HA.out (by simp [ancepsref45_right.l1])
      | succ k2 =>
       have H := HA.out
       clear HA
       simp only [ancepsref45_right.l1] at H
       by_cases c9 : x8_2 ≤ (a0.size : Int)
       ·rw [if_pos c9] at H
        have c9b0 : decide (x8_2 ≤ (a0.size : Int)) = true := decide_eq_true c9
        clear c9
        have H' := Aside0.mk H
        clear H
        go_wp2
        repeat (go_quiet (fail); try go_wp2)
        go_loopg [9] k2 (fun kq v9 w' => ∃ (x9_3 : Int), v9 = .int .i64 x9_3 ∧ Aside0 (ancepsref45_right.l2 kq a0 a1 l2 x8_2 x9_3 = some r) ∧ Aside0 (kq ≤ k2) ∧ Drawn0 w w')
        case atStart => exact ⟨(0), (by first | rfl | (simp; done) | (simp [*]; done)), H', ⟨Nat.le_refl _⟩, by repeat (first | exact Drawn0.refl _ | apply Drawn0.step)⟩
        case round =>
         clear H'
         try clear c2
         try clear p2
         try clear c4
         try clear c4b0
         try clear c4b1
         try clear c5
         try clear c5b0
         try clear p5
         try clear q5
         try clear hx5
         try clear c6
         try clear c6b0
         try clear p6
         try clear c7
         try clear c7b0
         try clear c8
         try clear c8b0
         try clear c8b1
         try clear c9
         try clear c9b0
         try clear hx545_0
         try clear p2
         try clear p5
         try clear p545
         try clear p6
         try clear q5
         try clear q545
         obtain ⟨x9_3, rfl, HA, HK3, ⟨m3, rfl⟩⟩ := hrel
         cases gk with
         | zero => exact absurd HA.out (by simp [ancepsref45_right.l2])
         | succ k3 =>
          have H := HA.out
          clear HA
          simp only [ancepsref45_right.l2] at H
          by_cases c10 : x9_3 ≤ (a1.size : Int)
          ·rw [if_pos c10] at H
           have c10b0 : decide (x9_3 ≤ (a1.size : Int)) = true := decide_eq_true c10
           clear c10
           have H' := Aside0.mk H
           clear H
           go_wp2
           repeat (go_quiet (fail); try go_wp2)
           go_loopg [10] k3 (fun kq v10 w' => ∃ (x10_4 : Int), v10 = .int .i64 x10_4 ∧ Aside0 (ancepsref45_right.l3 kq a0 a1 l2 x8_2 x9_3 x10_4 = some r) ∧ Aside0 (kq ≤ k3) ∧ Drawn0 w w')
           case atStart => exact ⟨(0), (by first | rfl | (simp; done) | (simp [*]; done)), H', ⟨Nat.le_refl _⟩, by repeat (first | exact Drawn0.refl _ | apply Drawn0.step)⟩
           case round =>
            clear H'
            try clear c1
            try clear c2
            try clear p2
            try clear c4
            try clear c4b0
            try clear c4b1
            try clear c5
            try clear c5b0
            try clear p5
            try clear q5
            try clear hx5
            try clear c6
            try clear c6b0
            try clear p6
            try clear c7
            try clear c7b0
            try clear c8
            try clear c8b0
            try clear c8b1
            try clear c9
            try clear c9b0
            try clear c10
            try clear c10b0
            try clear hx545_0
            try clear p2
            try clear p5
            try clear p545
            try clear p6
            try clear q5
            try clear q545
            obtain ⟨x10_4, rfl, HA, HK4, ⟨m4, rfl⟩⟩ := hrel
            cases gk with
            | zero => exact absurd HA.out (by simp [ancepsref45_right.l3])
            | succ k4 =>
             have H := HA.out
             clear HA
             simp only [ancepsref45_right.l3] at H
             by_cases c11 : x10_4 ≤ 4
             ·rw [if_pos c11] at H
              have c11b0 : decide (x10_4 ≤ 4) = true := decide_eq_true c11
              clear c11
              replace H := Option.bind_eq_some_iff.mp H
              obtain ⟨⟨t548, t549, t550, t551⟩, A120, H⟩ := H
              replace H : (if t551 = true then (if 0 ≤ x8_2 then (if x8_2 < (l2.length : Int) then (if 0 ≤ x9_3 then (if x9_3 < ((rd_L2 l2 x8_2).length : Int) then (if 0 ≤ t548 then (if t548 < (l2.length : Int) then (if 0 ≤ t549 then (if t549 < ((rd_L2 l2 t548).length : Int) then (if (rd (rd_L2 l2 x8_2) x9_3) > (rd (rd_L2 l2 t548) t549) then (if (wrap64 ((rd (rd_L2 l2 x8_2) x9_3) - (rd (rd_L2 l2 t548) t549))) > t550 then (some false) else (ancepsref45_right.l3 k4 a0 a1 l2 x8_2 x9_3 (wrap64 (x10_4 + 1)))) else (ancepsref45_right.l3 k4 a0 a1 l2 x8_2 x9_3 (wrap64 (x10_4 + 1)))) else (none)) else (none)) else (none)) else (none)) else (none)) else (none)) else (none)) else (none)) else (ancepsref45_right.l3 k4 a0 a1 l2 x8_2 x9_3 (wrap64 (x10_4 + 1)))) = some r := H
              have A12 := Aside0.mk A120
              clear A120
              by_cases c13 : t551 = true
              ·subst c13
               have H1 : (if 0 ≤ x8_2 then (if x8_2 < (l2.length : Int) then (if 0 ≤ x9_3 then (if x9_3 < ((rd_L2 l2 x8_2).length : Int) then (if 0 ≤ t548 then (if t548 < (l2.length : Int) then (if 0 ≤ t549 then (if t549 < ((rd_L2 l2 t548).length : Int) then (if (rd (rd_L2 l2 x8_2) x9_3) > (rd (rd_L2 l2 t548) t549) then (if (wrap64 ((rd (rd_L2 l2 x8_2) x9_3) - (rd (rd_L2 l2 t548) t549))) > t550 then (some false) else (ancepsref45_right.l3 k4 a0 a1 l2 x8_2 x9_3 (wrap64 (x10_4 + 1)))) else (ancepsref45_right.l3 k4 a0 a1 l2 x8_2 x9_3 (wrap64 (x10_4 + 1)))) else (none)) else (none)) else (none)) else (none)) else (none)) else (none)) else (none)) else (none)) = some r := by rw [if_pos rfl] at H; exact H
               clear H
               have H := H1
               clear H1
               by_cases c14 : 0 ≤ x8_2
               ·rw [if_pos c14] at H
                have c14b0 : decide (0 ≤ x8_2) = true := decide_eq_true c14
                clear c14
                by_cases c15 : x8_2 < (l2.length : Int)
                ·rw [if_pos c15] at H
                 have c15b0 : decide (x8_2 < (l2.length : Int)) = true := decide_eq_true c15
                 clear c15
                 by_cases c16 : 0 ≤ x9_3
                 ·rw [if_pos c16] at H
                  have c16b0 : decide (0 ≤ x9_3) = true := decide_eq_true c16
                  clear c16
                  by_cases c17 : x9_3 < ((rd_L2 l2 x8_2).length : Int)
                  ·rw [if_pos c17] at H
                   have c17b0 : decide (x9_3 < ((rd_L2 l2 x8_2).length : Int)) = true := decide_eq_true c17
                   clear c17
                   by_cases c18 : 0 ≤ t548
                   ·rw [if_pos c18] at H
                    have c18b0 : decide (0 ≤ t548) = true := decide_eq_true c18
                    clear c18
                    by_cases c19 : t548 < (l2.length : Int)
                    ·rw [if_pos c19] at H
                     have c19b0 : decide (t548 < (l2.length : Int)) = true := decide_eq_true c19
                     clear c19
                     by_cases c20 : 0 ≤ t549
                     ·rw [if_pos c20] at H
                      have c20b0 : decide (0 ≤ t549) = true := decide_eq_true c20
                      clear c20
                      by_cases c21 : t549 < ((rd_L2 l2 t548).length : Int)
                      ·rw [if_pos c21] at H
                       have c21b0 : decide (t549 < ((rd_L2 l2 t548).length : Int)) = true := decide_eq_true c21
                       clear c21
                       by_cases c22 : (rd (rd_L2 l2 x8_2) x9_3) > (rd (rd_L2 l2 t548) t549)
                       ·rw [if_pos c22] at H
                        have c22b0 : decide ((rd (rd_L2 l2 t548) t549) < (rd (rd_L2 l2 x8_2) x9_3)) = true := decide_eq_true c22
                        clear c22
                        by_cases c23 : (wrap64 ((rd (rd_L2 l2 x8_2) x9_3) - (rd (rd_L2 l2 t548) t549))) > t550
                        ·rw [if_pos c23] at H
                         have c23b0 : decide (t550 < (wrap64 ((rd (rd_L2 l2 x8_2) x9_3) - (rd (rd_L2 l2 t548) t549)))) = true := decide_eq_true c23
                         clear c23
                         obtain rfl := Option.some.inj H
                         go_wp2_with (first | (go_at_call 45; (with_reducible refine (ancepsref45_Step.calls k4 a0 a1 x8_2 x9_3 x10_4 t548 t549 t550 true _ A12.out).mono ?_); rintro e w' ⟨rfl, ⟨nd, rfl⟩⟩; (try first | exact ⟨rfl, _, World.drewN_drewN _ _ _⟩ | exact ⟨rfl, _, Eq.trans (World.drewN_drewN _ _ _) (congrArg (World.drewN _) (Nat.add_assoc _ _ _))⟩); have p552 : 0 ≤ (x8_2 : Int) := of_decide_eq_true (by first | (with_reducible assumption) | assumption); have q552 : x8_2 < (l2.length : Int) := of_decide_eq_true (by first | (with_reducible assumption) | assumption); obtain ⟨ad552, A552_0, c552_0, e552, hx552_0, hl552_0, hi552_0⟩ := at_L2 HR2.out x8_2 p552 q552; cases e552; have HR552_0 := Aside0.mk hi552_0; have HC552_0 := Aside0.mk hl552_0; clear hi552_0 hl552_0; replace p552 := eq_true p552; replace q552 := eq_true q552; have p553 : 0 ≤ (x9_3 : Int) := of_decide_eq_true (by first | (with_reducible assumption) | assumption); have q553 : x9_3 < ((rd_L2 l2 x8_2).length : Int) := of_decide_eq_true (by first | (with_reducible assumption) | assumption); obtain ⟨ad553, e553, hx553_0⟩ := Kd.at_int HR552_0.out x9_3 p553 q553; cases e553; replace p553 := eq_true p553; replace q553 := eq_true q553; have p554 : 0 ≤ (t548 : Int) := of_decide_eq_true (by first | (with_reducible assumption) | assumption); have q554 : t548 < (l2.length : Int) := of_decide_eq_true (by first | (with_reducible assumption) | assumption); obtain ⟨ad554, A554_0, c554_0, e554, hx554_0, hl554_0, hi554_0⟩ := at_L2 HR2.out t548 p554 q554; obtain rfl : ad552 = ad554 := (by injection e554); have HR554_0 := Aside0.mk hi554_0; have HC554_0 := Aside0.mk hl554_0; clear hi554_0 hl554_0; replace p554 := eq_true p554; replace q554 := eq_true q554; have p555 : 0 ≤ (t549 : Int) := of_decide_eq_true (by first | (with_reducible assumption) | assumption); have q555 : t549 < ((rd_L2 l2 t548).length : Int) := of_decide_eq_true (by first | (with_reducible assumption) | assumption); obtain ⟨ad555, e555, hx555_0⟩ := Kd.at_int HR554_0.out t549 p555 q555; cases e555; replace p555 := eq_true p555; replace q555 := eq_true q555; have p556 : 0 ≤ (x8_2 : Int) := of_decide_eq_true (by first | (with_reducible assumption) | assumption); have q556 : x8_2 < (l2.length : Int) := of_decide_eq_true (by first | (with_reducible assumption) | assumption); obtain ⟨ad556, A556_0, c556_0, e556, hx556_0, hl556_0, hi556_0⟩ := at_L2 HR2.out x8_2 p556 q556; obtain rfl : ad552 = ad556 := (by injection e556); have HR556_0 := Aside0.mk hi556_0; have HC556_0 := Aside0.mk hl556_0; clear hi556_0 hl556_0; replace p556 := eq_true p556; replace q556 := eq_true q556; have ea_ := Option.some.inj (hx552_0.symm.trans hx556_0); injection ea_ with ea_ en_ ec_; subst ea_; subst ec_; clear en_; have p557 : 0 ≤ (x9_3 : Int) := of_decide_eq_true (by first | (with_reducible assumption) | assumption); have q557 : x9_3 < ((rd_L2 l2 x8_2).length : Int) := of_decide_eq_true (by first | (with_reducible assumption) | assumption); obtain ⟨ad557, e557, hx557_0⟩ := Kd.at_int HR556_0.out x9_3 p557 q557; cases e557; replace p557 := eq_true p557; replace q557 := eq_true q557; have p558 : 0 ≤ (t548 : Int) := of_decide_eq_true (by first | (with_reducible assumption) | assumption); have q558 : t548 < (l2.length : Int) := of_decide_eq_true (by first | (with_reducible assumption) | assumption); obtain ⟨ad558, A558_0, c558_0, e558, hx558_0, hl558_0, hi558_0⟩ := at_L2 HR2.out t548 p558 q558; obtain rfl : ad552 = ad558 := (by injection e558); have HR558_0 := Aside0.mk hi558_0; have HC558_0 := Aside0.mk hl558_0; clear hi558_0 hl558_0; replace p558 := eq_true p558; replace q558 := eq_true q558; have ea_ := Option.some.inj (hx554_0.symm.trans hx558_0); injection ea_ with ea_ en_ ec_; subst ea_; subst ec_; clear en_; have p559 : 0 ≤ (t549 : Int) := of_decide_eq_true (by first | (with_reducible assumption) | assumption); have q559 : t549 < ((rd_L2 l2 t548).length : Int) := of_decide_eq_true (by first | (with_reducible assumption) | assumption); obtain ⟨ad559, e559, hx559_0⟩ := Kd.at_int HR558_0.out t549 p559 q559; cases e559; replace p559 := eq_true p559; replace q559 := eq_true q559))
                         repeat (go_quiet (first | (go_at_call 45; (with_reducible refine (ancepsref45_Step.calls k4 a0 a1 x8_2 x9_3 x10_4 t548 t549 t550 true _ A12.out).mono ?_); (try clear A12); rintro e w' ⟨rfl, ⟨nd, rfl⟩⟩; (try first | exact ⟨rfl, _, World.drewN_drewN _ _ _⟩ | exact ⟨rfl, _, Eq.trans (World.drewN_drewN _ _ _) (congrArg (World.drewN _) (Nat.add_assoc _ _ _))⟩); have p552 : 0 ≤ (x8_2 : Int) := of_decide_eq_true (by first | (with_reducible assumption) | assumption); have q552 : x8_2 < (l2.length : Int) := of_decide_eq_true (by first | (with_reducible assumption) | assumption); obtain ⟨ad552, A552_0, c552_0, e552, hx552_0, hl552_0, hi552_0⟩ := at_L2 HR2.out x8_2 p552 q552; cases e552; have HR552_0 := Aside0.mk hi552_0; have HC552_0 := Aside0.mk hl552_0; clear hi552_0 hl552_0; replace p552 := eq_true p552; replace q552 := eq_true q552; have p553 : 0 ≤ (x9_3 : Int) := of_decide_eq_true (by first | (with_reducible assumption) | assumption); have q553 : x9_3 < ((rd_L2 l2 x8_2).length : Int) := of_decide_eq_true (by first | (with_reducible assumption) | assumption); obtain ⟨ad553, e553, hx553_0⟩ := Kd.at_int HR552_0.out x9_3 p553 q553; cases e553; replace p553 := eq_true p553; replace q553 := eq_true q553; have p554 : 0 ≤ (t548 : Int) := of_decide_eq_true (by first | (with_reducible assumption) | assumption); have q554 : t548 < (l2.length : Int) := of_decide_eq_true (by first | (with_reducible assumption) | assumption); obtain ⟨ad554, A554_0, c554_0, e554, hx554_0, hl554_0, hi554_0⟩ := at_L2 HR2.out t548 p554 q554; obtain rfl : ad552 = ad554 := (by injection e554); have HR554_0 := Aside0.mk hi554_0; have HC554_0 := Aside0.mk hl554_0; clear hi554_0 hl554_0; replace p554 := eq_true p554; replace q554 := eq_true q554; have p555 : 0 ≤ (t549 : Int) := of_decide_eq_true (by first | (with_reducible assumption) | assumption); have q555 : t549 < ((rd_L2 l2 t548).length : Int) := of_decide_eq_true (by first | (with_reducible assumption) | assumption); obtain ⟨ad555, e555, hx555_0⟩ := Kd.at_int HR554_0.out t549 p555 q555; cases e555; replace p555 := eq_true p555; replace q555 := eq_true q555; have p556 : 0 ≤ (x8_2 : Int) := of_decide_eq_true (by first | (with_reducible assumption) | assumption); have q556 : x8_2 < (l2.length : Int) := of_decide_eq_true (by first | (with_reducible assumption) | assumption); obtain ⟨ad556, A556_0, c556_0, e556, hx556_0, hl556_0, hi556_0⟩ := at_L2 HR2.out x8_2 p556 q556; obtain rfl : ad552 = ad556 := (by injection e556); have HR556_0 := Aside0.mk hi556_0; have HC556_0 := Aside0.mk hl556_0; clear hi556_0 hl556_0; replace p556 := eq_true p556; replace q556 := eq_true q556; have ea_ := Option.some.inj (hx552_0.symm.trans hx556_0); injection ea_ with ea_ en_ ec_; subst ea_; subst ec_; clear en_; have p557 : 0 ≤ (x9_3 : Int) := of_decide_eq_true (by first | (with_reducible assumption) | assumption); have q557 : x9_3 < ((rd_L2 l2 x8_2).length : Int) := of_decide_eq_true (by first | (with_reducible assumption) | assumption); obtain ⟨ad557, e557, hx557_0⟩ := Kd.at_int HR556_0.out x9_3 p557 q557; cases e557; replace p557 := eq_true p557; replace q557 := eq_true q557; have p558 : 0 ≤ (t548 : Int) := of_decide_eq_true (by first | (with_reducible assumption) | assumption); have q558 : t548 < (l2.length : Int) := of_decide_eq_true (by first | (with_reducible assumption) | assumption); obtain ⟨ad558, A558_0, c558_0, e558, hx558_0, hl558_0, hi558_0⟩ := at_L2 HR2.out t548 p558 q558; obtain rfl : ad552 = ad558 := (by injection e558); have HR558_0 := Aside0.mk hi558_0; have HC558_0 := Aside0.mk hl558_0; clear hi558_0 hl558_0; replace p558 := eq_true p558; replace q558 := eq_true q558; have ea_ := Option.some.inj (hx554_0.symm.trans hx558_0); injection ea_ with ea_ en_ ec_; subst ea_; subst ec_; clear en_; have p559 : 0 ≤ (t549 : Int) := of_decide_eq_true (by first | (with_reducible assumption) | assumption); have q559 : t549 < ((rd_L2 l2 t548).length : Int) := of_decide_eq_true (by first | (with_reducible assumption) | assumption); obtain ⟨ad559, e559, hx559_0⟩ := Kd.at_int HR558_0.out t549 p559 q559; cases e559; replace p559 := eq_true p559; replace q559 := eq_true q559)); try go_wp2_with (first | (go_at_call 45; (with_reducible refine (ancepsref45_Step.calls k4 a0 a1 x8_2 x9_3 x10_4 t548 t549 t550 true _ A12.out).mono ?_); (try clear A12); rintro e w' ⟨rfl, ⟨nd, rfl⟩⟩; (try first | exact ⟨rfl, _, World.drewN_drewN _ _ _⟩ | exact ⟨rfl, _, Eq.trans (World.drewN_drewN _ _ _) (congrArg (World.drewN _) (Nat.add_assoc _ _ _))⟩); have p552 : 0 ≤ (x8_2 : Int) := of_decide_eq_true (by first | (with_reducible assumption) | assumption); have q552 : x8_2 < (l2.length : Int) := of_decide_eq_true (by first | (with_reducible assumption) | assumption); obtain ⟨ad552, A552_0, c552_0, e552, hx552_0, hl552_0, hi552_0⟩ := at_L2 HR2.out x8_2 p552 q552; cases e552; have HR552_0 := Aside0.mk hi552_0; have HC552_0 := Aside0.mk hl552_0; clear hi552_0 hl552_0; replace p552 := eq_true p552; replace q552 := eq_true q552; have p553 : 0 ≤ (x9_3 : Int) := of_decide_eq_true (by first | (with_reducible assumption) | assumption); have q553 : x9_3 < ((rd_L2 l2 x8_2).length : Int) := of_decide_eq_true (by first | (with_reducible assumption) | assumption); obtain ⟨ad553, e553, hx553_0⟩ := Kd.at_int HR552_0.out x9_3 p553 q553; cases e553; replace p553 := eq_true p553; replace q553 := eq_true q553; have p554 : 0 ≤ (t548 : Int) := of_decide_eq_true (by first | (with_reducible assumption) | assumption); have q554 : t548 < (l2.length : Int) := of_decide_eq_true (by first | (with_reducible assumption) | assumption); obtain ⟨ad554, A554_0, c554_0, e554, hx554_0, hl554_0, hi554_0⟩ := at_L2 HR2.out t548 p554 q554; obtain rfl : ad552 = ad554 := (by injection e554); have HR554_0 := Aside0.mk hi554_0; have HC554_0 := Aside0.mk hl554_0; clear hi554_0 hl554_0; replace p554 := eq_true p554; replace q554 := eq_true q554; have p555 : 0 ≤ (t549 : Int) := of_decide_eq_true (by first | (with_reducible assumption) | assumption); have q555 : t549 < ((rd_L2 l2 t548).length : Int) := of_decide_eq_true (by first | (with_reducible assumption) | assumption); obtain ⟨ad555, e555, hx555_0⟩ := Kd.at_int HR554_0.out t549 p555 q555; cases e555; replace p555 := eq_true p555; replace q555 := eq_true q555; have p556 : 0 ≤ (x8_2 : Int) := of_decide_eq_true (by first | (with_reducible assumption) | assumption); have q556 : x8_2 < (l2.length : Int) := of_decide_eq_true (by first | (with_reducible assumption) | assumption); obtain ⟨ad556, A556_0, c556_0, e556, hx556_0, hl556_0, hi556_0⟩ := at_L2 HR2.out x8_2 p556 q556; obtain rfl : ad552 = ad556 := (by injection e556); have HR556_0 := Aside0.mk hi556_0; have HC556_0 := Aside0.mk hl556_0; clear hi556_0 hl556_0; replace p556 := eq_true p556; replace q556 := eq_true q556; have ea_ := Option.some.inj (hx552_0.symm.trans hx556_0); injection ea_ with ea_ en_ ec_; subst ea_; subst ec_; clear en_; have p557 : 0 ≤ (x9_3 : Int) := of_decide_eq_true (by first | (with_reducible assumption) | assumption); have q557 : x9_3 < ((rd_L2 l2 x8_2).length : Int) := of_decide_eq_true (by first | (with_reducible assumption) | assumption); obtain ⟨ad557, e557, hx557_0⟩ := Kd.at_int HR556_0.out x9_3 p557 q557; cases e557; replace p557 := eq_true p557; replace q557 := eq_true q557; have p558 : 0 ≤ (t548 : Int) := of_decide_eq_true (by first | (with_reducible assumption) | assumption); have q558 : t548 < (l2.length : Int) := of_decide_eq_true (by first | (with_reducible assumption) | assumption); obtain ⟨ad558, A558_0, c558_0, e558, hx558_0, hl558_0, hi558_0⟩ := at_L2 HR2.out t548 p558 q558; obtain rfl : ad552 = ad558 := (by injection e558); have HR558_0 := Aside0.mk hi558_0; have HC558_0 := Aside0.mk hl558_0; clear hi558_0 hl558_0; replace p558 := eq_true p558; replace q558 := eq_true q558; have ea_ := Option.some.inj (hx554_0.symm.trans hx558_0); injection ea_ with ea_ en_ ec_; subst ea_; subst ec_; clear en_; have p559 : 0 ≤ (t549 : Int) := of_decide_eq_true (by first | (with_reducible assumption) | assumption); have q559 : t549 < ((rd_L2 l2 t548).length : Int) := of_decide_eq_true (by first | (with_reducible assumption) | assumption); obtain ⟨ad559, e559, hx559_0⟩ := Kd.at_int HR558_0.out t549 p559 q559; cases e559; replace p559 := eq_true p559; replace q559 := eq_true q559)))
                         go_ret
                         exact ⟨by first | rfl | (simp; done) | (simp [*]; done), by repeat (first | exact Drawn0.refl _ | apply Drawn0.step)⟩
                        ·rw [if_neg c23] at H
                         have c23b0 : decide (t550 < (wrap64 ((rd (rd_L2 l2 x8_2) x9_3) - (rd (rd_L2 l2 t548) t549)))) = false := decide_eq_false c23
                         clear c23
                         have H' := Aside0.mk H
                         clear H
                         go_wp2_with (first | (go_at_call 45; (with_reducible refine (ancepsref45_Step.calls k4 a0 a1 x8_2 x9_3 x10_4 t548 t549 t550 true _ A12.out).mono ?_); rintro e w' ⟨rfl, ⟨nd, rfl⟩⟩; (try first | exact ⟨rfl, _, World.drewN_drewN _ _ _⟩ | exact ⟨rfl, _, Eq.trans (World.drewN_drewN _ _ _) (congrArg (World.drewN _) (Nat.add_assoc _ _ _))⟩); have p552 : 0 ≤ (x8_2 : Int) := of_decide_eq_true (by first | (with_reducible assumption) | assumption); have q552 : x8_2 < (l2.length : Int) := of_decide_eq_true (by first | (with_reducible assumption) | assumption); obtain ⟨ad552, A552_0, c552_0, e552, hx552_0, hl552_0, hi552_0⟩ := at_L2 HR2.out x8_2 p552 q552; cases e552; have HR552_0 := Aside0.mk hi552_0; have HC552_0 := Aside0.mk hl552_0; clear hi552_0 hl552_0; replace p552 := eq_true p552; replace q552 := eq_true q552; have p553 : 0 ≤ (x9_3 : Int) := of_decide_eq_true (by first | (with_reducible assumption) | assumption); have q553 : x9_3 < ((rd_L2 l2 x8_2).length : Int) := of_decide_eq_true (by first | (with_reducible assumption) | assumption); obtain ⟨ad553, e553, hx553_0⟩ := Kd.at_int HR552_0.out x9_3 p553 q553; cases e553; replace p553 := eq_true p553; replace q553 := eq_true q553; have p554 : 0 ≤ (t548 : Int) := of_decide_eq_true (by first | (with_reducible assumption) | assumption); have q554 : t548 < (l2.length : Int) := of_decide_eq_true (by first | (with_reducible assumption) | assumption); obtain ⟨ad554, A554_0, c554_0, e554, hx554_0, hl554_0, hi554_0⟩ := at_L2 HR2.out t548 p554 q554; obtain rfl : ad552 = ad554 := (by injection e554); have HR554_0 := Aside0.mk hi554_0; have HC554_0 := Aside0.mk hl554_0; clear hi554_0 hl554_0; replace p554 := eq_true p554; replace q554 := eq_true q554; have p555 : 0 ≤ (t549 : Int) := of_decide_eq_true (by first | (with_reducible assumption) | assumption); have q555 : t549 < ((rd_L2 l2 t548).length : Int) := of_decide_eq_true (by first | (with_reducible assumption) | assumption); obtain ⟨ad555, e555, hx555_0⟩ := Kd.at_int HR554_0.out t549 p555 q555; cases e555; replace p555 := eq_true p555; replace q555 := eq_true q555; have p556 : 0 ≤ (x8_2 : Int) := of_decide_eq_true (by first | (with_reducible assumption) | assumption); have q556 : x8_2 < (l2.length : Int) := of_decide_eq_true (by first | (with_reducible assumption) | assumption); obtain ⟨ad556, A556_0, c556_0, e556, hx556_0, hl556_0, hi556_0⟩ := at_L2 HR2.out x8_2 p556 q556; obtain rfl : ad552 = ad556 := (by injection e556); have HR556_0 := Aside0.mk hi556_0; have HC556_0 := Aside0.mk hl556_0; clear hi556_0 hl556_0; replace p556 := eq_true p556; replace q556 := eq_true q556; have ea_ := Option.some.inj (hx552_0.symm.trans hx556_0); injection ea_ with ea_ en_ ec_; subst ea_; subst ec_; clear en_; have p557 : 0 ≤ (x9_3 : Int) := of_decide_eq_true (by first | (with_reducible assumption) | assumption); have q557 : x9_3 < ((rd_L2 l2 x8_2).length : Int) := of_decide_eq_true (by first | (with_reducible assumption) | assumption); obtain ⟨ad557, e557, hx557_0⟩ := Kd.at_int HR556_0.out x9_3 p557 q557; cases e557; replace p557 := eq_true p557; replace q557 := eq_true q557; have p558 : 0 ≤ (t548 : Int) := of_decide_eq_true (by first | (with_reducible assumption) | assumption); have q558 : t548 < (l2.length : Int) := of_decide_eq_true (by first | (with_reducible assumption) | assumption); obtain ⟨ad558, A558_0, c558_0, e558, hx558_0, hl558_0, hi558_0⟩ := at_L2 HR2.out t548 p558 q558; obtain rfl : ad552 = ad558 := (by injection e558); have HR558_0 := Aside0.mk hi558_0; have HC558_0 := Aside0.mk hl558_0; clear hi558_0 hl558_0; replace p558 := eq_true p558; replace q558 := eq_true q558; have ea_ := Option.some.inj (hx554_0.symm.trans hx558_0); injection ea_ with ea_ en_ ec_; subst ea_; subst ec_; clear en_; have p559 : 0 ≤ (t549 : Int) := of_decide_eq_true (by first | (with_reducible assumption) | assumption); have q559 : t549 < ((rd_L2 l2 t548).length : Int) := of_decide_eq_true (by first | (with_reducible assumption) | assumption); obtain ⟨ad559, e559, hx559_0⟩ := Kd.at_int HR558_0.out t549 p559 q559; cases e559; replace p559 := eq_true p559; replace q559 := eq_true q559))
                         repeat (go_quiet (first | (go_at_call 45; (with_reducible refine (ancepsref45_Step.calls k4 a0 a1 x8_2 x9_3 x10_4 t548 t549 t550 true _ A12.out).mono ?_); (try clear A12); rintro e w' ⟨rfl, ⟨nd, rfl⟩⟩; (try first | exact ⟨rfl, _, World.drewN_drewN _ _ _⟩ | exact ⟨rfl, _, Eq.trans (World.drewN_drewN _ _ _) (congrArg (World.drewN _) (Nat.add_assoc _ _ _))⟩); have p552 : 0 ≤ (x8_2 : Int) := of_decide_eq_true (by first | (with_reducible assumption) | assumption); have q552 : x8_2 < (l2.length : Int) := of_decide_eq_true (by first | (with_reducible assumption) | assumption); obtain ⟨ad552, A552_0, c552_0, e552, hx552_0, hl552_0, hi552_0⟩ := at_L2 HR2.out x8_2 p552 q552; cases e552; have HR552_0 := Aside0.mk hi552_0; have HC552_0 := Aside0.mk hl552_0; clear hi552_0 hl552_0; replace p552 := eq_true p552; replace q552 := eq_true q552; have p553 : 0 ≤ (x9_3 : Int) := of_decide_eq_true (by first | (with_reducible assumption) | assumption); have q553 : x9_3 < ((rd_L2 l2 x8_2).length : Int) := of_decide_eq_true (by first | (with_reducible assumption) | assumption); obtain ⟨ad553, e553, hx553_0⟩ := Kd.at_int HR552_0.out x9_3 p553 q553; cases e553; replace p553 := eq_true p553; replace q553 := eq_true q553; have p554 : 0 ≤ (t548 : Int) := of_decide_eq_true (by first | (with_reducible assumption) | assumption); have q554 : t548 < (l2.length : Int) := of_decide_eq_true (by first | (with_reducible assumption) | assumption); obtain ⟨ad554, A554_0, c554_0, e554, hx554_0, hl554_0, hi554_0⟩ := at_L2 HR2.out t548 p554 q554; obtain rfl : ad552 = ad554 := (by injection e554); have HR554_0 := Aside0.mk hi554_0; have HC554_0 := Aside0.mk hl554_0; clear hi554_0 hl554_0; replace p554 := eq_true p554; replace q554 := eq_true q554; have p555 : 0 ≤ (t549 : Int) := of_decide_eq_true (by first | (with_reducible assumption) | assumption); have q555 : t549 < ((rd_L2 l2 t548).length : Int) := of_decide_eq_true (by first | (with_reducible assumption) | assumption); obtain ⟨ad555, e555, hx555_0⟩ := Kd.at_int HR554_0.out t549 p555 q555; cases e555; replace p555 := eq_true p555; replace q555 := eq_true q555; have p556 : 0 ≤ (x8_2 : Int) := of_decide_eq_true (by first | (with_reducible assumption) | assumption); have q556 : x8_2 < (l2.length : Int) := of_decide_eq_true (by first | (with_reducible assumption) | assumption); obtain ⟨ad556, A556_0, c556_0, e556, hx556_0, hl556_0, hi556_0⟩ := at_L2 HR2.out x8_2 p556 q556; obtain rfl : ad552 = ad556 := (by injection e556); have HR556_0 := Aside0.mk hi556_0; have HC556_0 := Aside0.mk hl556_0; clear hi556_0 hl556_0; replace p556 := eq_true p556; replace q556 := eq_true q556; have ea_ := Option.some.inj (hx552_0.symm.trans hx556_0); injection ea_ with ea_ en_ ec_; subst ea_; subst ec_; clear en_; have p557 : 0 ≤ (x9_3 : Int) := of_decide_eq_true (by first | (with_reducible assumption) | assumption); have q557 : x9_3 < ((rd_L2 l2 x8_2).length : Int) := of_decide_eq_true (by first | (with_reducible assumption) | assumption); obtain ⟨ad557, e557, hx557_0⟩ := Kd.at_int HR556_0.out x9_3 p557 q557; cases e557; replace p557 := eq_true p557; replace q557 := eq_true q557; have p558 : 0 ≤ (t548 : Int) := of_decide_eq_true (by first | (with_reducible assumption) | assumption); have q558 : t548 < (l2.length : Int) := of_decide_eq_true (by first | (with_reducible assumption) | assumption); obtain ⟨ad558, A558_0, c558_0, e558, hx558_0, hl558_0, hi558_0⟩ := at_L2 HR2.out t548 p558 q558; obtain rfl : ad552 = ad558 := (by injection e558); have HR558_0 := Aside0.mk hi558_0; have HC558_0 := Aside0.mk hl558_0; clear hi558_0 hl558_0; replace p558 := eq_true p558; replace q558 := eq_true q558; have ea_ := Option.some.inj (hx554_0.symm.trans hx558_0); injection ea_ with ea_ en_ ec_; subst ea_; subst ec_; clear en_; have p559 : 0 ≤ (t549 : Int) := of_decide_eq_true (by first | (with_reducible assumption) | assumption); have q559 : t549 < ((rd_L2 l2 t548).length : Int) := of_decide_eq_true (by first | (with_reducible assumption) | assumption); obtain ⟨ad559, e559, hx559_0⟩ := Kd.at_int HR558_0.out t549 p559 q559; cases e559; replace p559 := eq_true p559; replace q559 := eq_true q559)); try go_wp2_with (first | (go_at_call 45; (with_reducible refine (ancepsref45_Step.calls k4 a0 a1 x8_2 x9_3 x10_4 t548 t549 t550 true _ A12.out).mono ?_); (try clear A12); rintro e w' ⟨rfl, ⟨nd, rfl⟩⟩; (try first | exact ⟨rfl, _, World.drewN_drewN _ _ _⟩ | exact ⟨rfl, _, Eq.trans (World.drewN_drewN _ _ _) (congrArg (World.drewN _) (Nat.add_assoc _ _ _))⟩); have p552 : 0 ≤ (x8_2 : Int) := of_decide_eq_true (by first | (with_reducible assumption) | assumption); have q552 : x8_2 < (l2.length : Int) := of_decide_eq_true (by first | (with_reducible assumption) | assumption); obtain ⟨ad552, A552_0, c552_0, e552, hx552_0, hl552_0, hi552_0⟩ := at_L2 HR2.out x8_2 p552 q552; cases e552; have HR552_0 := Aside0.mk hi552_0; have HC552_0 := Aside0.mk hl552_0; clear hi552_0 hl552_0; replace p552 := eq_true p552; replace q552 := eq_true q552; have p553 : 0 ≤ (x9_3 : Int) := of_decide_eq_true (by first | (with_reducible assumption) | assumption); have q553 : x9_3 < ((rd_L2 l2 x8_2).length : Int) := of_decide_eq_true (by first | (with_reducible assumption) | assumption); obtain ⟨ad553, e553, hx553_0⟩ := Kd.at_int HR552_0.out x9_3 p553 q553; cases e553; replace p553 := eq_true p553; replace q553 := eq_true q553; have p554 : 0 ≤ (t548 : Int) := of_decide_eq_true (by first | (with_reducible assumption) | assumption); have q554 : t548 < (l2.length : Int) := of_decide_eq_true (by first | (with_reducible assumption) | assumption); obtain ⟨ad554, A554_0, c554_0, e554, hx554_0, hl554_0, hi554_0⟩ := at_L2 HR2.out t548 p554 q554; obtain rfl : ad552 = ad554 := (by injection e554); have HR554_0 := Aside0.mk hi554_0; have HC554_0 := Aside0.mk hl554_0; clear hi554_0 hl554_0; replace p554 := eq_true p554; replace q554 := eq_true q554; have p555 : 0 ≤ (t549 : Int) := of_decide_eq_true (by first | (with_reducible assumption) | assumption); have q555 : t549 < ((rd_L2 l2 t548).length : Int) := of_decide_eq_true (by first | (with_reducible assumption) | assumption); obtain ⟨ad555, e555, hx555_0⟩ := Kd.at_int HR554_0.out t549 p555 q555; cases e555; replace p555 := eq_true p555; replace q555 := eq_true q555; have p556 : 0 ≤ (x8_2 : Int) := of_decide_eq_true (by first | (with_reducible assumption) | assumption); have q556 : x8_2 < (l2.length : Int) := of_decide_eq_true (by first | (with_reducible assumption) | assumption); obtain ⟨ad556, A556_0, c556_0, e556, hx556_0, hl556_0, hi556_0⟩ := at_L2 HR2.out x8_2 p556 q556; obtain rfl : ad552 = ad556 := (by injection e556); have HR556_0 := Aside0.mk hi556_0; have HC556_0 := Aside0.mk hl556_0; clear hi556_0 hl556_0; replace p556 := eq_true p556; replace q556 := eq_true q556; have ea_ := Option.some.inj (hx552_0.symm.trans hx556_0); injection ea_ with ea_ en_ ec_; subst ea_; subst ec_; clear en_; have p557 : 0 ≤ (x9_3 : Int) := of_decide_eq_true (by first | (with_reducible assumption) | assumption); have q557 : x9_3 < ((rd_L2 l2 x8_2).length : Int) := of_decide_eq_true (by first | (with_reducible assumption) | assumption); obtain ⟨ad557, e557, hx557_0⟩ := Kd.at_int HR556_0.out x9_3 p557 q557; cases e557; replace p557 := eq_true p557; replace q557 := eq_true q557; have p558 : 0 ≤ (t548 : Int) := of_decide_eq_true (by first | (with_reducible assumption) | assumption); have q558 : t548 < (l2.length : Int) := of_decide_eq_true (by first | (with_reducible assumption) | assumption); obtain ⟨ad558, A558_0, c558_0, e558, hx558_0, hl558_0, hi558_0⟩ := at_L2 HR2.out t548 p558 q558; obtain rfl : ad552 = ad558 := (by injection e558); have HR558_0 := Aside0.mk hi558_0; have HC558_0 := Aside0.mk hl558_0; clear hi558_0 hl558_0; replace p558 := eq_true p558; replace q558 := eq_true q558; have ea_ := Option.some.inj (hx554_0.symm.trans hx558_0); injection ea_ with ea_ en_ ec_; subst ea_; subst ec_; clear en_; have p559 : 0 ≤ (t549 : Int) := of_decide_eq_true (by first | (with_reducible assumption) | assumption); have q559 : t549 < ((rd_L2 l2 t548).length : Int) := of_decide_eq_true (by first | (with_reducible assumption) | assumption); obtain ⟨ad559, e559, hx559_0⟩ := Kd.at_int HR558_0.out t549 p559 q559; cases e559; replace p559 := eq_true p559; replace q559 := eq_true q559)))
                         go_roundg k4
                         case measure => have := HK1.out; have := HK2.out; have := HK3.out; have := HK4.out; omega
                         case rel => exact ⟨(wrap64 (x10_4 + 1)), (by first | rfl | (simp; done) | (simp [*]; done)), H', ⟨by have := HK1.out; have := HK2.out; have := HK3.out; have := HK4.out; omega⟩, by repeat (first | exact Drawn0.refl _ | apply Drawn0.step)⟩
                       ·rw [if_neg c22] at H
                        have c22b0 : decide ((rd (rd_L2 l2 t548) t549) < (rd (rd_L2 l2 x8_2) x9_3)) = false := decide_eq_false c22
                        clear c22
                        have H' := Aside0.mk H
                        clear H
                        go_wp2_with (first | (go_at_call 45; (with_reducible refine (ancepsref45_Step.calls k4 a0 a1 x8_2 x9_3 x10_4 t548 t549 t550 true _ A12.out).mono ?_); rintro e w' ⟨rfl, ⟨nd, rfl⟩⟩; (try first | exact ⟨rfl, _, World.drewN_drewN _ _ _⟩ | exact ⟨rfl, _, Eq.trans (World.drewN_drewN _ _ _) (congrArg (World.drewN _) (Nat.add_assoc _ _ _))⟩); have p552 : 0 ≤ (x8_2 : Int) := of_decide_eq_true (by first | (with_reducible assumption) | assumption); have q552 : x8_2 < (l2.length : Int) := of_decide_eq_true (by first | (with_reducible assumption) | assumption); obtain ⟨ad552, A552_0, c552_0, e552, hx552_0, hl552_0, hi552_0⟩ := at_L2 HR2.out x8_2 p552 q552; cases e552; have HR552_0 := Aside0.mk hi552_0; have HC552_0 := Aside0.mk hl552_0; clear hi552_0 hl552_0; replace p552 := eq_true p552; replace q552 := eq_true q552; have p553 : 0 ≤ (x9_3 : Int) := of_decide_eq_true (by first | (with_reducible assumption) | assumption); have q553 : x9_3 < ((rd_L2 l2 x8_2).length : Int) := of_decide_eq_true (by first | (with_reducible assumption) | assumption); obtain ⟨ad553, e553, hx553_0⟩ := Kd.at_int HR552_0.out x9_3 p553 q553; cases e553; replace p553 := eq_true p553; replace q553 := eq_true q553; have p554 : 0 ≤ (t548 : Int) := of_decide_eq_true (by first | (with_reducible assumption) | assumption); have q554 : t548 < (l2.length : Int) := of_decide_eq_true (by first | (with_reducible assumption) | assumption); obtain ⟨ad554, A554_0, c554_0, e554, hx554_0, hl554_0, hi554_0⟩ := at_L2 HR2.out t548 p554 q554; obtain rfl : ad552 = ad554 := (by injection e554); have HR554_0 := Aside0.mk hi554_0; have HC554_0 := Aside0.mk hl554_0; clear hi554_0 hl554_0; replace p554 := eq_true p554; replace q554 := eq_true q554; have p555 : 0 ≤ (t549 : Int) := of_decide_eq_true (by first | (with_reducible assumption) | assumption); have q555 : t549 < ((rd_L2 l2 t548).length : Int) := of_decide_eq_true (by first | (with_reducible assumption) | assumption); obtain ⟨ad555, e555, hx555_0⟩ := Kd.at_int HR554_0.out t549 p555 q555; cases e555; replace p555 := eq_true p555; replace q555 := eq_true q555))
                        repeat (go_quiet (first | (go_at_call 45; (with_reducible refine (ancepsref45_Step.calls k4 a0 a1 x8_2 x9_3 x10_4 t548 t549 t550 true _ A12.out).mono ?_); (try clear A12); rintro e w' ⟨rfl, ⟨nd, rfl⟩⟩; (try first | exact ⟨rfl, _, World.drewN_drewN _ _ _⟩ | exact ⟨rfl, _, Eq.trans (World.drewN_drewN _ _ _) (congrArg (World.drewN _) (Nat.add_assoc _ _ _))⟩); have p552 : 0 ≤ (x8_2 : Int) := of_decide_eq_true (by first | (with_reducible assumption) | assumption); have q552 : x8_2 < (l2.length : Int) := of_decide_eq_true (by first | (with_reducible assumption) | assumption); obtain ⟨ad552, A552_0, c552_0, e552, hx552_0, hl552_0, hi552_0⟩ := at_L2 HR2.out x8_2 p552 q552; cases e552; have HR552_0 := Aside0.mk hi552_0; have HC552_0 := Aside0.mk hl552_0; clear hi552_0 hl552_0; replace p552 := eq_true p552; replace q552 := eq_true q552; have p553 : 0 ≤ (x9_3 : Int) := of_decide_eq_true (by first | (with_reducible assumption) | assumption); have q553 : x9_3 < ((rd_L2 l2 x8_2).length : Int) := of_decide_eq_true (by first | (with_reducible assumption) | assumption); obtain ⟨ad553, e553, hx553_0⟩ := Kd.at_int HR552_0.out x9_3 p553 q553; cases e553; replace p553 := eq_true p553; replace q553 := eq_true q553; have p554 : 0 ≤ (t548 : Int) := of_decide_eq_true (by first | (with_reducible assumption) | assumption); have q554 : t548 < (l2.length : Int) := of_decide_eq_true (by first | (with_reducible assumption) | assumption); obtain ⟨ad554, A554_0, c554_0, e554, hx554_0, hl554_0, hi554_0⟩ := at_L2 HR2.out t548 p554 q554; obtain rfl : ad552 = ad554 := (by injection e554); have HR554_0 := Aside0.mk hi554_0; have HC554_0 := Aside0.mk hl554_0; clear hi554_0 hl554_0; replace p554 := eq_true p554; replace q554 := eq_true q554; have p555 : 0 ≤ (t549 : Int) := of_decide_eq_true (by first | (with_reducible assumption) | assumption); have q555 : t549 < ((rd_L2 l2 t548).length : Int) := of_decide_eq_true (by first | (with_reducible assumption) | assumption); obtain ⟨ad555, e555, hx555_0⟩ := Kd.at_int HR554_0.out t549 p555 q555; cases e555; replace p555 := eq_true p555; replace q555 := eq_true q555)); try go_wp2_with (first | (go_at_call 45; (with_reducible refine (ancepsref45_Step.calls k4 a0 a1 x8_2 x9_3 x10_4 t548 t549 t550 true _ A12.out).mono ?_); (try clear A12); rintro e w' ⟨rfl, ⟨nd, rfl⟩⟩; (try first | exact ⟨rfl, _, World.drewN_drewN _ _ _⟩ | exact ⟨rfl, _, Eq.trans (World.drewN_drewN _ _ _) (congrArg (World.drewN _) (Nat.add_assoc _ _ _))⟩); have p552 : 0 ≤ (x8_2 : Int) := of_decide_eq_true (by first | (with_reducible assumption) | assumption); have q552 : x8_2 < (l2.length : Int) := of_decide_eq_true (by first | (with_reducible assumption) | assumption); obtain ⟨ad552, A552_0, c552_0, e552, hx552_0, hl552_0, hi552_0⟩ := at_L2 HR2.out x8_2 p552 q552; cases e552; have HR552_0 := Aside0.mk hi552_0; have HC552_0 := Aside0.mk hl552_0; clear hi552_0 hl552_0; replace p552 := eq_true p552; replace q552 := eq_true q552; have p553 : 0 ≤ (x9_3 : Int) := of_decide_eq_true (by first | (with_reducible assumption) | assumption); have q553 : x9_3 < ((rd_L2 l2 x8_2).length : Int) := of_decide_eq_true (by first | (with_reducible assumption) | assumption); obtain ⟨ad553, e553, hx553_0⟩ := Kd.at_int HR552_0.out x9_3 p553 q553; cases e553; replace p553 := eq_true p553; replace q553 := eq_true q553; have p554 : 0 ≤ (t548 : Int) := of_decide_eq_true (by first | (with_reducible assumption) | assumption); have q554 : t548 < (l2.length : Int) := of_decide_eq_true (by first | (with_reducible assumption) | assumption); obtain ⟨ad554, A554_0, c554_0, e554, hx554_0, hl554_0, hi554_0⟩ := at_L2 HR2.out t548 p554 q554; obtain rfl : ad552 = ad554 := (by injection e554); have HR554_0 := Aside0.mk hi554_0; have HC554_0 := Aside0.mk hl554_0; clear hi554_0 hl554_0; replace p554 := eq_true p554; replace q554 := eq_true q554; have p555 : 0 ≤ (t549 : Int) := of_decide_eq_true (by first | (with_reducible assumption) | assumption); have q555 : t549 < ((rd_L2 l2 t548).length : Int) := of_decide_eq_true (by first | (with_reducible assumption) | assumption); obtain ⟨ad555, e555, hx555_0⟩ := Kd.at_int HR554_0.out t549 p555 q555; cases e555; replace p555 := eq_true p555; replace q555 := eq_true q555)))
                        go_roundg k4
                        case measure => have := HK1.out; have := HK2.out; have := HK3.out; have := HK4.out; omega
                        case rel => exact ⟨(wrap64 (x10_4 + 1)), (by first | rfl | (simp; done) | (simp [*]; done)), H', ⟨by have := HK1.out; have := HK2.out; have := HK3.out; have := HK4.out; omega⟩, by repeat (first | exact Drawn0.refl _ | apply Drawn0.step)⟩
                      ·rw [if_neg c21] at H
                       exact absurd H (by simp)
                     ·rw [if_neg c20] at H
                      exact absurd H (by simp)
                    ·rw [if_neg c19] at H
                     exact absurd H (by simp)
                   ·rw [if_neg c18] at H
                    exact absurd H (by simp)
                  ·rw [if_neg c17] at H
                   exact absurd H (by simp)
                 ·rw [if_neg c16] at H
                  exact absurd H (by simp)
                ·rw [if_neg c15] at H
                 exact absurd H (by simp)
               ·rw [if_neg c14] at H
                exact absurd H (by simp)
              ·replace c13 := Bool.eq_false_iff.mpr c13
               subst c13
               have H1 : (ancepsref45_right.l3 k4 a0 a1 l2 x8_2 x9_3 (wrap64 (x10_4 + 1))) = some r := by rw [if_neg (show ¬ (false = true) by decide)] at H; exact H
               clear H
               have H := H1
               clear H1
               have H' := Aside0.mk H
               clear H
               go_wp2_with (first | (go_at_call 45; (with_reducible refine (ancepsref45_Step.calls k4 a0 a1 x8_2 x9_3 x10_4 t548 t549 t550 false _ A12.out).mono ?_); rintro e w' ⟨rfl, ⟨nd, rfl⟩⟩; (try first | exact ⟨rfl, _, World.drewN_drewN _ _ _⟩ | exact ⟨rfl, _, Eq.trans (World.drewN_drewN _ _ _) (congrArg (World.drewN _) (Nat.add_assoc _ _ _))⟩)))
               repeat (go_quiet (first | (go_at_call 45; (with_reducible refine (ancepsref45_Step.calls k4 a0 a1 x8_2 x9_3 x10_4 t548 t549 t550 false _ A12.out).mono ?_); (try clear A12); rintro e w' ⟨rfl, ⟨nd, rfl⟩⟩; (try first | exact ⟨rfl, _, World.drewN_drewN _ _ _⟩ | exact ⟨rfl, _, Eq.trans (World.drewN_drewN _ _ _) (congrArg (World.drewN _) (Nat.add_assoc _ _ _))⟩))); try go_wp2_with (first | (go_at_call 45; (with_reducible refine (ancepsref45_Step.calls k4 a0 a1 x8_2 x9_3 x10_4 t548 t549 t550 false _ A12.out).mono ?_); (try clear A12); rintro e w' ⟨rfl, ⟨nd, rfl⟩⟩; (try first | exact ⟨rfl, _, World.drewN_drewN _ _ _⟩ | exact ⟨rfl, _, Eq.trans (World.drewN_drewN _ _ _) (congrArg (World.drewN _) (Nat.add_assoc _ _ _))⟩))))
               go_roundg k4
               case measure => have := HK1.out; have := HK2.out; have := HK3.out; have := HK4.out; omega
               case rel => exact ⟨(wrap64 (x10_4 + 1)), (by first | rfl | (simp; done) | (simp [*]; done)), H', ⟨by have := HK1.out; have := HK2.out; have := HK3.out; have := HK4.out; omega⟩, by repeat (first | exact Drawn0.refl _ | apply Drawn0.step)⟩
             ·rw [if_neg c11] at H
              have c11b0 : decide (x10_4 ≤ 4) = false := decide_eq_false c11
              clear c11
              have H' := Aside0.mk H
              clear H
              go_wp2
              repeat (go_quiet (fail); try go_wp2)
              go_roundg k4
              case measure => have := HK1.out; have := HK2.out; have := HK3.out; have := HK4.out; omega
              case rel => exact ⟨(wrap64 (x9_3 + 1)), (by first | rfl | (simp; done) | (simp [*]; done)), H', ⟨by have := HK1.out; have := HK2.out; have := HK3.out; have := HK4.out; omega⟩, by repeat (first | exact Drawn0.refl _ | apply Drawn0.step)⟩
          ·rw [if_neg c10] at H
           have c10b0 : decide (x9_3 ≤ (a1.size : Int)) = false := decide_eq_false c10
           clear c10
           have H' := Aside0.mk H
           clear H
           go_wp2
           repeat (go_quiet (fail); try go_wp2)
           go_roundg k3
           case measure => have := HK1.out; have := HK2.out; have := HK3.out; omega
           case rel => exact ⟨(wrap64 (x8_2 + 1)), (by first | rfl | (simp; done) | (simp [*]; done)), H', ⟨by have := HK1.out; have := HK2.out; have := HK3.out; omega⟩, by repeat (first | exact Drawn0.refl _ | apply Drawn0.step)⟩
       ·rw [if_neg c9] at H
        have c9b0 : decide (x8_2 ≤ (a0.size : Int)) = false := decide_eq_false c9
        clear c9
        by_cases c24 : 0 ≤ (a0.size : Int)
        ·rw [if_pos c24] at H
         have c24b0 : decide (0 ≤ (a0.size : Int)) = true := decide_eq_true c24
         have c24b1 : decide (0 ≤ a0.size) = true := decide_eq_true (by omega)
         clear c24
         by_cases c25 : (a0.size : Int) < (l2.length : Int)
         ·rw [if_pos c25] at H
          have c25b0 : decide ((a0.size : Int) < (l2.length : Int)) = true := decide_eq_true c25
          have c25b1 : decide (a0.size < l2.length) = true := decide_eq_true (Int.ofNat_lt.mp c25)
          clear c25
          by_cases c26 : 0 ≤ (a1.size : Int)
          ·rw [if_pos c26] at H
           have c26b0 : decide (0 ≤ (a1.size : Int)) = true := decide_eq_true c26
           have c26b1 : decide (0 ≤ a1.size) = true := decide_eq_true (by omega)
           clear c26
           by_cases c27 : (a1.size : Int) < ((rd_L2 l2 (a0.size : Int)).length : Int)
           ·rw [if_pos c27] at H
            have c27b0 : decide ((a1.size : Int) < ((rd_L2 l2 (a0.size : Int)).length : Int)) = true := decide_eq_true c27
            have c27b1 : decide (a1.size < (rd_L2 l2 (a0.size : Int)).length) = true := decide_eq_true (Int.ofNat_lt.mp c27)
            clear c27
            obtain rfl := Option.some.inj H
            have p546 : 0 ≤ ((a0.size : Int) : Int) := of_decide_eq_true (by first | (with_reducible assumption) | assumption)
            have q546 : (a0.size : Int) < (l2.length : Int) := of_decide_eq_true (by first | (with_reducible assumption) | assumption)
            obtain ⟨ad546, A546_0, c546_0, e546, hx546_0, hl546_0, hi546_0⟩ := at_L2 HR2.out (a0.size : Int) p546 q546
            (try simp only [Int.toNat_natCast] at hx546_0)
            cases e546
            have HR546_0 := Aside0.mk hi546_0
            have HC546_0 := Aside0.mk hl546_0
            clear hi546_0 hl546_0
            replace p546 := eq_true p546
            replace q546 := eq_true q546
            have p547 : 0 ≤ ((a1.size : Int) : Int) := of_decide_eq_true (by first | (with_reducible assumption) | assumption)
            have q547 : (a1.size : Int) < ((rd_L2 l2 (a0.size : Int)).length : Int) := of_decide_eq_true (by first | (with_reducible assumption) | assumption)
            obtain ⟨ad547, e547, hx547_0⟩ := Kd.at_int HR546_0.out (a1.size : Int) p547 q547
            (try simp only [Int.toNat_natCast] at hx547_0)
            cases e547
            replace p547 := eq_true p547
            replace q547 := eq_true q547
            go_wp2
            repeat (go_quiet (fail); try go_wp2)
            go_ret
            exact ⟨by first | rfl | (simp; done) | (simp [*]; done), by repeat (first | exact Drawn0.refl _ | apply Drawn0.step)⟩
           ·rw [if_neg c27] at H
            exact absurd H (by simp)
          ·rw [if_neg c26] at H
           exact absurd H (by simp)
         ·rw [if_neg c25] at H
          exact absurd H (by simp)
        ·rw [if_neg c24] at H
         exact absurd H (by simp)
 ·rw [if_neg c4] at H
  have c4b0 : ((l2.length : Int) == (wrap64 ((a0.size : Int) + 1))) = false := beq_eq_false_iff_ne.mpr c4
  have c4b1 : ((l2.length : Int) != (wrap64 ((a0.size : Int) + 1))) = true := bne_iff_ne.mpr c4
  obtain rfl := Option.some.inj H
  go_enter Try.func44, Try.ntmps44
  go_wp2
  repeat (go_quiet (fail); try go_wp2)
  go_ret
  exact ⟨by first | rfl | (simp; done) | (simp [*]; done), by repeat (first | exact Drawn0.refl _ | apply Drawn0.step)⟩

/-! ### ancepsref45_Check: function 19 -/
def ancepsref45_Check.f (k : Nat) (a0 : ByteArray) (a1 : ByteArray) (l2 : List Int) (l3 : List (List Int)) : Option (Bool) := (ancepsref45_Given.f k a0 a1).bind fun t560 => (if t560 = 0 then ((ancepsref45_Cost.f k a0 a1 l2).bind fun bt561 => (if bt561.2 = true then ((ancepsref45_right.f k a0 a1 l3).bind fun t563 => (if t563 = true then (if 0 < (l3.length : Int) then (if 0 < ((rd_L2 l3 0).length : Int) then (some ((rd (rd_L2 l3 0) 0) == bt561.1)) else (none)) else (none)) else (some false))) else (some false))) else (some false))
theorem ancepsref45_Check.mono : ∀ a0 a1 a2 a3 k, LeO (ancepsref45_Check.f k a0 a1 a2 a3) (ancepsref45_Check.f (k + 1) a0 a1 a2 a3) := by
 intro a0 a1 a2 a3 k
 unfold ancepsref45_Check.f
 repeat' first
   | (with_reducible exact ancepsref45_Cost.mono _ _ _ _)
   | (with_reducible exact ancepsref45_Given.mono _ _ _)
   | (with_reducible exact ancepsref45_right.mono _ _ _ _)
   | (with_reducible exact LeO.refl _)
   | (with_reducible exact LeO.none _)
   | (with_reducible refine LeO.ite ?_ ?_)
   | (with_reducible refine LeO.bind ?_ (fun _ => ?_))
   | exact ancepsref45_Cost.mono _ _ _ _
   | exact ancepsref45_Given.mono _ _ _
   | exact ancepsref45_right.mono _ _ _ _
   | exact LeO.none _
   | refine LeO.ite ?_ ?_
   | refine LeO.bind ?_ (fun _ => ?_)
set_option maxHeartbeats 8000000 in
set_option maxRecDepth 100000 in
theorem ancepsref45_Check.calls (k : Nat) (a0 : ByteArray) (a1 : ByteArray) (A2 : Option Addr) (c2 : Nat) (l2 : List Int) (A3 : Option Addr) (c3 : Nat) (l3 : List (List Int)) (r : Bool) (w : World) (hr2 : Kd.C (Kd.int .i64) w A2 l2.length l2) (hc2 : l2.length ≤ c2) (hr3 : Kd.C (Kd.slice 3 (Kd.int .i64)) w A3 l3.length l3) (hc3 : l3.length ≤ c3) (h : ancepsref45_Check.f k a0 a1 l2 l3 = some r) :
  Calls Try.prog 19 #[.string a0, .string a1, .slice A2 l2.length c2, .slice A3 l3.length c3] w fun e w' => e = .returned (.bool r) ∧ Drawn0 w w' := by
 have HR2 := Aside0.mk hr2
 have HC2 := Aside0.mk hc2
 clear hr2 hc2
 have HR3 := Aside0.mk hr3
 have HC3 := Aside0.mk hc3
 clear hr3 hc3
 have H : ((ancepsref45_Given.f k a0 a1).bind fun t560 => (if t560 = 0 then ((ancepsref45_Cost.f k a0 a1 l2).bind fun bt561 => (if bt561.2 = true then ((ancepsref45_right.f k a0 a1 l3).bind fun t563 => (if t563 = true then (if 0 < (l3.length : Int) then (if 0 < ((rd_L2 l3 0).length : Int) then (some ((rd (rd_L2 l3 0) 0) == bt561.1)) else (none)) else (none)) else (some false))) else (some false))) else (some false))) = some r := h
 clear h
 replace H := Option.bind_eq_some_iff.mp H
 obtain ⟨t560, A50, H⟩ := H
 replace H : (if t560 = 0 then ((ancepsref45_Cost.f k a0 a1 l2).bind fun bt561 => (if bt561.2 = true then ((ancepsref45_right.f k a0 a1 l3).bind fun t563 => (if t563 = true then (if 0 < (l3.length : Int) then (if 0 < ((rd_L2 l3 0).length : Int) then (some ((rd (rd_L2 l3 0) 0) == bt561.1)) else (none)) else (none)) else (some false))) else (some false))) else (some false)) = some r := H
 have A5 := Aside0.mk A50
 clear A50
 by_cases c6 : t560 = 0
 ·rw [if_pos c6] at H
  have c6b0 : (t560 == 0) = true := beq_iff_eq.mpr c6
  have c6b1 : (t560 != 0) = false := bne_eq_false_iff_eq.mpr c6
  clear c6
  replace H := Option.bind_eq_some_iff.mp H
  obtain ⟨⟨t561, t562⟩, A70, H⟩ := H
  replace H : (if t562 = true then ((ancepsref45_right.f k a0 a1 l3).bind fun t563 => (if t563 = true then (if 0 < (l3.length : Int) then (if 0 < ((rd_L2 l3 0).length : Int) then (some ((rd (rd_L2 l3 0) 0) == t561)) else (none)) else (none)) else (some false))) else (some false)) = some r := H
  have A7 := Aside0.mk A70
  clear A70
  by_cases c8 : t562 = true
  ·subst c8
   have H1 : ((ancepsref45_right.f k a0 a1 l3).bind fun t563 => (if t563 = true then (if 0 < (l3.length : Int) then (if 0 < ((rd_L2 l3 0).length : Int) then (some ((rd (rd_L2 l3 0) 0) == t561)) else (none)) else (none)) else (some false))) = some r := by rw [if_pos rfl] at H; exact H
   clear H
   have H := H1
   clear H1
   replace H := Option.bind_eq_some_iff.mp H
   obtain ⟨t563, A90, H⟩ := H
   replace H : (if t563 = true then (if 0 < (l3.length : Int) then (if 0 < ((rd_L2 l3 0).length : Int) then (some ((rd (rd_L2 l3 0) 0) == t561)) else (none)) else (none)) else (some false)) = some r := H
   have A9 := Aside0.mk A90
   clear A90
   by_cases c10 : t563 = true
   ·subst c10
    have H1 : (if 0 < (l3.length : Int) then (if 0 < ((rd_L2 l3 0).length : Int) then (some ((rd (rd_L2 l3 0) 0) == t561)) else (none)) else (none)) = some r := by rw [if_pos rfl] at H; exact H
    clear H
    have H := H1
    clear H1
    by_cases c11 : 0 < (l3.length : Int)
    ·rw [if_pos c11] at H
     have c11b0 : decide (0 < (l3.length : Int)) = true := decide_eq_true c11
     have c11b1 : decide (0 < l3.length) = true := decide_eq_true (by omega)
     clear c11
     by_cases c12 : 0 < ((rd_L2 l3 0).length : Int)
     ·rw [if_pos c12] at H
      have c12b0 : decide (0 < ((rd_L2 l3 0).length : Int)) = true := decide_eq_true c12
      have c12b1 : decide (0 < (rd_L2 l3 0).length) = true := decide_eq_true (by omega)
      clear c12
      obtain rfl := Option.some.inj H
      go_enter Try.func19, Try.ntmps19
      go_wp2_with (first | ((with_reducible refine gate_callee (f := 16) rfl ?_); refine goesL_ (some 13) rfl rfl Try.func16 (by kernel_rfl) rfl #[.string a0, .string a1] rfl (by (try simp only [List.map_toArray, List.map_cons, List.map_nil]); first | done | rfl | (simp only [List.length_drop, List.length_take]; rfl)) ?_; (with_reducible refine (ancepsref45_Given.calls k a0 a1 t560 _ A5.out).mono ?_); rintro e w' ⟨rfl, ⟨nd, rfl⟩⟩; refine ⟨_, rfl, ?_⟩) | ((with_reducible refine gate_callee (f := 20) rfl ?_); refine goesL_ (some 19) rfl rfl Try.func20 (by kernel_rfl) rfl #[.string a0, .string a1, .slice A2 l2.length c2] rfl (by (try simp only [List.map_toArray, List.map_cons, List.map_nil]); first | done | rfl | (simp only [List.length_drop, List.length_take]; rfl)) ?_; (with_reducible refine (ancepsref45_Cost.calls k a0 a1 _ _ l2 t561 true _ ?side1 ?side2 A7.out).mono ?_); (case side1 => repeat (first | exact HR2.out | (with_reducible refine Kd.C_alloc ?_ _) | (with_reducible refine Kd.C_drewN ?_ _) | (with_reducible refine Kd.C_drew ?_))); (case side2 => exact HC2.out); rintro e w' ⟨rfl, ⟨nd, rfl⟩⟩; refine ⟨_, rfl, ?_⟩) | (go_at_call 44; (with_reducible refine (ancepsref45_right.calls k a0 a1 _ _ l3 true _ ?side1 ?side2 A9.out).mono ?_); (case side1 => repeat (first | exact HR3.out | (with_reducible refine Kd.C_alloc ?_ _) | (with_reducible refine Kd.C_drewN ?_ _) | (with_reducible refine Kd.C_drew ?_))); (case side2 => exact HC3.out); rintro e w' ⟨rfl, ⟨nd, rfl⟩⟩; have p564 : 0 ≤ (0 : Int) := (by omega); have q564 : 0 < (l3.length : Int) := of_decide_eq_true (by first | (with_reducible assumption) | assumption); obtain ⟨ad564, A564_0, c564_0, e564, hx564_0, hl564_0, hi564_0⟩ := at_L2 HR3.out 0 p564 q564; cases e564; have qi564 : (0 < l3.length) = True := eq_true (by omega); (try rw [show ((0 : Int)).toNat = 0 from rfl] at hx564_0); (try rw [Addr.add_zero'] at hx564_0); have HR564_0 := Aside0.mk hi564_0; have HC564_0 := Aside0.mk hl564_0; clear hi564_0 hl564_0; replace p564 := eq_true p564; replace q564 := eq_true q564; have p565 : 0 ≤ (0 : Int) := (by omega); have q565 : 0 < ((rd_L2 l3 0).length : Int) := of_decide_eq_true (by first | (with_reducible assumption) | assumption); obtain ⟨ad565, e565, hx565_0⟩ := Kd.at_int HR564_0.out 0 p565 q565; cases e565; have qi565 : (0 < (rd_L2 l3 0).length) = True := eq_true (by omega); (try rw [show ((0 : Int)).toNat = 0 from rfl] at hx565_0); (try rw [Addr.add_zero'] at hx565_0); replace p565 := eq_true p565; replace q565 := eq_true q565))
      go_ret
      exact ⟨by first | rfl | (simp; done) | (simp [*]; done), by repeat (first | exact Drawn0.refl _ | apply Drawn0.step)⟩
     ·rw [if_neg c12] at H
      exact absurd H (by simp)
    ·rw [if_neg c11] at H
     exact absurd H (by simp)
   ·replace c10 := Bool.eq_false_iff.mpr c10
    subst c10
    have H1 : (some false) = some r := by rw [if_neg (show ¬ (false = true) by decide)] at H; exact H
    clear H
    have H := H1
    clear H1
    obtain rfl := Option.some.inj H
    go_enter Try.func19, Try.ntmps19
    go_wp2_with (first | ((with_reducible refine gate_callee (f := 16) rfl ?_); refine goesL_ (some 13) rfl rfl Try.func16 (by kernel_rfl) rfl #[.string a0, .string a1] rfl (by (try simp only [List.map_toArray, List.map_cons, List.map_nil]); first | done | rfl | (simp only [List.length_drop, List.length_take]; rfl)) ?_; (with_reducible refine (ancepsref45_Given.calls k a0 a1 t560 _ A5.out).mono ?_); rintro e w' ⟨rfl, ⟨nd, rfl⟩⟩; refine ⟨_, rfl, ?_⟩) | ((with_reducible refine gate_callee (f := 20) rfl ?_); refine goesL_ (some 19) rfl rfl Try.func20 (by kernel_rfl) rfl #[.string a0, .string a1, .slice A2 l2.length c2] rfl (by (try simp only [List.map_toArray, List.map_cons, List.map_nil]); first | done | rfl | (simp only [List.length_drop, List.length_take]; rfl)) ?_; (with_reducible refine (ancepsref45_Cost.calls k a0 a1 _ _ l2 t561 true _ ?side1 ?side2 A7.out).mono ?_); (case side1 => repeat (first | exact HR2.out | (with_reducible refine Kd.C_alloc ?_ _) | (with_reducible refine Kd.C_drewN ?_ _) | (with_reducible refine Kd.C_drew ?_))); (case side2 => exact HC2.out); rintro e w' ⟨rfl, ⟨nd, rfl⟩⟩; refine ⟨_, rfl, ?_⟩) | (go_at_call 44; (with_reducible refine (ancepsref45_right.calls k a0 a1 _ _ l3 false _ ?side1 ?side2 A9.out).mono ?_); (case side1 => repeat (first | exact HR3.out | (with_reducible refine Kd.C_alloc ?_ _) | (with_reducible refine Kd.C_drewN ?_ _) | (with_reducible refine Kd.C_drew ?_))); (case side2 => exact HC3.out); rintro e w' ⟨rfl, ⟨nd, rfl⟩⟩))
    go_ret
    exact ⟨by first | rfl | (simp; done) | (simp [*]; done), by repeat (first | exact Drawn0.refl _ | apply Drawn0.step)⟩
  ·replace c8 := Bool.eq_false_iff.mpr c8
   subst c8
   have H1 : (some false) = some r := by rw [if_neg (show ¬ (false = true) by decide)] at H; exact H
   clear H
   have H := H1
   clear H1
   obtain rfl := Option.some.inj H
   go_enter Try.func19, Try.ntmps19
   go_wp2_with (first | ((with_reducible refine gate_callee (f := 16) rfl ?_); refine goesL_ (some 13) rfl rfl Try.func16 (by kernel_rfl) rfl #[.string a0, .string a1] rfl (by (try simp only [List.map_toArray, List.map_cons, List.map_nil]); first | done | rfl | (simp only [List.length_drop, List.length_take]; rfl)) ?_; (with_reducible refine (ancepsref45_Given.calls k a0 a1 t560 _ A5.out).mono ?_); rintro e w' ⟨rfl, ⟨nd, rfl⟩⟩; refine ⟨_, rfl, ?_⟩) | ((with_reducible refine gate_callee (f := 20) rfl ?_); refine goesL_ (some 19) rfl rfl Try.func20 (by kernel_rfl) rfl #[.string a0, .string a1, .slice A2 l2.length c2] rfl (by (try simp only [List.map_toArray, List.map_cons, List.map_nil]); first | done | rfl | (simp only [List.length_drop, List.length_take]; rfl)) ?_; (with_reducible refine (ancepsref45_Cost.calls k a0 a1 _ _ l2 t561 false _ ?side1 ?side2 A7.out).mono ?_); (case side1 => repeat (first | exact HR2.out | (with_reducible refine Kd.C_alloc ?_ _) | (with_reducible refine Kd.C_drewN ?_ _) | (with_reducible refine Kd.C_drew ?_))); (case side2 => exact HC2.out); rintro e w' ⟨rfl, ⟨nd, rfl⟩⟩; refine ⟨_, rfl, ?_⟩))
   go_ret
   exact ⟨by first | rfl | (simp; done) | (simp [*]; done), by repeat (first | exact Drawn0.refl _ | apply Drawn0.step)⟩
 ·rw [if_neg c6] at H
  have c6b0 : (t560 == 0) = false := beq_eq_false_iff_ne.mpr c6
  have c6b1 : (t560 != 0) = true := bne_iff_ne.mpr c6
  obtain rfl := Option.some.inj H
  go_enter Try.func19, Try.ntmps19
  go_wp2_with (first | ((with_reducible refine gate_callee (f := 16) rfl ?_); refine goesL_ (some 13) rfl rfl Try.func16 (by kernel_rfl) rfl #[.string a0, .string a1] rfl (by (try simp only [List.map_toArray, List.map_cons, List.map_nil]); first | done | rfl | (simp only [List.length_drop, List.length_take]; rfl)) ?_; (with_reducible refine (ancepsref45_Given.calls k a0 a1 t560 _ A5.out).mono ?_); rintro e w' ⟨rfl, ⟨nd, rfl⟩⟩; refine ⟨_, rfl, ?_⟩))
  go_ret
  exact ⟨by first | rfl | (simp; done) | (simp [*]; done), by repeat (first | exact Drawn0.refl _ | apply Drawn0.step)⟩

-- NOT PRINTED: function 5 (ancepslaw45_AlignCheck)

end Go.Proofs.Ytnnonjjmlbemfaa.X
