-- halved indents
-- printed by this session's xprint.py: out of the translation, by the kit's print with additions; Lean checks it
import Derived.Test.YtnnonjjmlbemfaaWShare
import Derived.Test.YtnnonjjmlbemfaaWRepsOne
import Derived.Test.YtnnonjjmlbemfaaX0
import Derived.Test.YtnnonjjmlbemfaaX14
namespace Go.Proofs.Ytnnonjjmlbemfaa.X
open Go.RowKit Go.Proofs.YtnnonjjmlbemfaaW.PrintWords Go.Proofs.YtnnonjjmlbemfaaW.PrintLast Go.Proofs.YtnnonjjmlbemfaaW.PrintMore
attribute [local go_sem] max2_int min2_int max_two min_two max_three min_three max_four min_four isSome_setCell binOp_gtr_str binOp_leq_str   -- for this text's walks alone
set_option linter.unusedVariables false
set_option linter.unusedSimpArgs false

/-! ### ancepsref45_Step: function 45 -/
mutual
def ancepsref45_Step.j0 : Nat → ByteArray → ByteArray → Int → Int → Int → Bool → Option (Int × Int × Int × Bool)
 | 0, _, _, _, _, _, _ => none
 | k + 1, x0, x1, x2, x3, x4, x14 => if x14 = true then (if 0 ≤ x2 then (if x2 < (x0.size : Int) then (if 0 ≤ x3 then (if x3 < (x1.size : Int) then (if (bt x0 x2) = (bt x1 x3) then (some (wrap64 (x2 + 1), wrap64 (x3 + 1), 0, true)) else (if (bt x0 x2) = 120 then (some (wrap64 (x2 + 1), wrap64 (x3 + 1), 0, true)) else (if (bt x1 x3) = 120 then (some (wrap64 (x2 + 1), wrap64 (x3 + 1), 0, true)) else (some (wrap64 (x2 + 1), wrap64 (x3 + 1), 3, true))))) else (none)) else (none)) else (none)) else (none)) else (if x4 = 1 then ((ancepsref45_heavy.f x0 x2).bind fun t233 => (if t233 = true then ((ancepsref45_lights.f x1 x3).bind fun t234 => (ancepsref45_Step.j1 k x0 x1 x2 x3 x4 t234)) else (ancepsref45_Step.j1 k x0 x1 x2 x3 x4 false))) else (ancepsref45_Step.j1 k x0 x1 x2 x3 x4 false))
def ancepsref45_Step.j1 : Nat → ByteArray → ByteArray → Int → Int → Int → Bool → Option (Int × Int × Int × Bool)
 | 0, _, _, _, _, _, _ => none
 | k + 1, x0, x1, x2, x3, x4, x56 => if x56 = true then (some (wrap64 (x2 + 1), wrap64 (x3 + 2), 1, true)) else (if x4 = 2 then ((ancepsref45_lights.f x0 x2).bind fun t235 => (if t235 = true then ((ancepsref45_heavy.f x1 x3).bind fun t236 => (ancepsref45_Step.j2 k x0 x1 x2 x3 x4 t236)) else (ancepsref45_Step.j2 k x0 x1 x2 x3 x4 false))) else (ancepsref45_Step.j2 k x0 x1 x2 x3 x4 false))
def ancepsref45_Step.j2 : Nat → ByteArray → ByteArray → Int → Int → Int → Bool → Option (Int × Int × Int × Bool)
 | 0, _, _, _, _, _, _ => none
 | k + 1, x0, x1, x2, x3, x4, x73 => if x73 = true then (some (wrap64 (x2 + 2), wrap64 (x3 + 1), 1, true)) else (if x4 = 3 then (ancepsref45_Step.j3 k x1 x2 x3 x4 (decide (x2 < (x0.size : Int)))) else (ancepsref45_Step.j3 k x1 x2 x3 x4 false))
def ancepsref45_Step.j3 : Nat → ByteArray → Int → Int → Int → Bool → Option (Int × Int × Int × Bool)
 | 0, _, _, _, _, _ => none
 | k + 1, x1, x2, x3, x4, x90 => if x90 = true then (some (wrap64 (x2 + 1), x3, 4, true)) else (if x4 = 4 then (if x3 < (x1.size : Int) then (some (x2, wrap64 (x3 + 1), 4, true)) else (some (0, 0, 0, false))) else (some (0, 0, 0, false)))
end
def ancepsref45_Step.f (k : Nat) (a0 : ByteArray) (a1 : ByteArray) (a2 : Int) (a3 : Int) (a4 : Int) : Option (Int × Int × Int × Bool) := if a4 = 0 then (if a2 < (a0.size : Int) then (ancepsref45_Step.j0 k a0 a1 a2 a3 a4 (decide (a3 < (a1.size : Int)))) else (ancepsref45_Step.j0 k a0 a1 a2 a3 a4 false)) else (ancepsref45_Step.j0 k a0 a1 a2 a3 a4 false)
theorem ancepsref45_Step.mono_l : ∀ k, (∀ y0 y1 y2 y3 y4 y5, LeO (ancepsref45_Step.j0 k y0 y1 y2 y3 y4 y5) (ancepsref45_Step.j0 (k + 1) y0 y1 y2 y3 y4 y5)) ∧ (∀ y0 y1 y2 y3 y4 y5, LeO (ancepsref45_Step.j1 k y0 y1 y2 y3 y4 y5) (ancepsref45_Step.j1 (k + 1) y0 y1 y2 y3 y4 y5)) ∧ (∀ y0 y1 y2 y3 y4 y5, LeO (ancepsref45_Step.j2 k y0 y1 y2 y3 y4 y5) (ancepsref45_Step.j2 (k + 1) y0 y1 y2 y3 y4 y5)) ∧ (∀ y0 y1 y2 y3 y4, LeO (ancepsref45_Step.j3 k y0 y1 y2 y3 y4) (ancepsref45_Step.j3 (k + 1) y0 y1 y2 y3 y4))
 | 0 => ⟨fun _ _ _ _ _ _ r h => by simp [ancepsref45_Step.j0] at h, fun _ _ _ _ _ _ r h => by simp [ancepsref45_Step.j1] at h, fun _ _ _ _ _ _ r h => by simp [ancepsref45_Step.j2] at h, fun _ _ _ _ _ r h => by simp [ancepsref45_Step.j3] at h⟩
 | k + 1 => by
  obtain ⟨ih0, ih1, ih2, ih3⟩ := ancepsref45_Step.mono_l k
  refine ⟨?_, ?_, ?_, ?_⟩
  ·intro y0 y1 y2 y3 y4 y5
   unfold ancepsref45_Step.j0
   repeat' first
   | (with_reducible exact ih0 _ _ _ _ _ _)
   | (with_reducible exact ih1 _ _ _ _ _ _)
   | (with_reducible exact ih2 _ _ _ _ _ _)
   | (with_reducible exact ih3 _ _ _ _ _)
   | (with_reducible exact LeO.refl _)
   | (with_reducible exact LeO.none _)
   | (with_reducible refine LeO.ite ?_ ?_)
   | (with_reducible refine LeO.bind ?_ (fun _ => ?_))
   | exact ih0 _ _ _ _ _ _
   | exact ih1 _ _ _ _ _ _
   | exact ih2 _ _ _ _ _ _
   | exact ih3 _ _ _ _ _
   | exact LeO.none _
   | refine LeO.ite ?_ ?_
   | refine LeO.bind ?_ (fun _ => ?_)
  ·intro y0 y1 y2 y3 y4 y5
   unfold ancepsref45_Step.j1
   repeat' first
   | (with_reducible exact ih0 _ _ _ _ _ _)
   | (with_reducible exact ih1 _ _ _ _ _ _)
   | (with_reducible exact ih2 _ _ _ _ _ _)
   | (with_reducible exact ih3 _ _ _ _ _)
   | (with_reducible exact LeO.refl _)
   | (with_reducible exact LeO.none _)
   | (with_reducible refine LeO.ite ?_ ?_)
   | (with_reducible refine LeO.bind ?_ (fun _ => ?_))
   | exact ih0 _ _ _ _ _ _
   | exact ih1 _ _ _ _ _ _
   | exact ih2 _ _ _ _ _ _
   | exact ih3 _ _ _ _ _
   | exact LeO.none _
   | refine LeO.ite ?_ ?_
   | refine LeO.bind ?_ (fun _ => ?_)
  ·intro y0 y1 y2 y3 y4 y5
   unfold ancepsref45_Step.j2
   repeat' first
   | (with_reducible exact ih0 _ _ _ _ _ _)
   | (with_reducible exact ih1 _ _ _ _ _ _)
   | (with_reducible exact ih2 _ _ _ _ _ _)
   | (with_reducible exact ih3 _ _ _ _ _)
   | (with_reducible exact LeO.refl _)
   | (with_reducible exact LeO.none _)
   | (with_reducible refine LeO.ite ?_ ?_)
   | (with_reducible refine LeO.bind ?_ (fun _ => ?_))
   | exact ih0 _ _ _ _ _ _
   | exact ih1 _ _ _ _ _ _
   | exact ih2 _ _ _ _ _ _
   | exact ih3 _ _ _ _ _
   | exact LeO.none _
   | refine LeO.ite ?_ ?_
   | refine LeO.bind ?_ (fun _ => ?_)
  ·intro y0 y1 y2 y3 y4
   unfold ancepsref45_Step.j3
   repeat' first
   | (with_reducible exact ih0 _ _ _ _ _ _)
   | (with_reducible exact ih1 _ _ _ _ _ _)
   | (with_reducible exact ih2 _ _ _ _ _ _)
   | (with_reducible exact ih3 _ _ _ _ _)
   | (with_reducible exact LeO.refl _)
   | (with_reducible exact LeO.none _)
   | (with_reducible refine LeO.ite ?_ ?_)
   | (with_reducible refine LeO.bind ?_ (fun _ => ?_))
   | exact ih0 _ _ _ _ _ _
   | exact ih1 _ _ _ _ _ _
   | exact ih2 _ _ _ _ _ _
   | exact ih3 _ _ _ _ _
   | exact LeO.none _
   | refine LeO.ite ?_ ?_
   | refine LeO.bind ?_ (fun _ => ?_)
theorem ancepsref45_Step.mono : ∀ a0 a1 a2 a3 a4 k, LeO (ancepsref45_Step.f k a0 a1 a2 a3 a4) (ancepsref45_Step.f (k + 1) a0 a1 a2 a3 a4) := by
 intro a0 a1 a2 a3 a4 k
 obtain ⟨ih0, ih1, ih2, ih3⟩ := ancepsref45_Step.mono_l k
 unfold ancepsref45_Step.f
 repeat' first
   | (with_reducible exact ih0 _ _ _ _ _ _)
   | (with_reducible exact ih1 _ _ _ _ _ _)
   | (with_reducible exact ih2 _ _ _ _ _ _)
   | (with_reducible exact ih3 _ _ _ _ _)
   | (with_reducible exact LeO.refl _)
   | (with_reducible exact LeO.none _)
   | (with_reducible refine LeO.ite ?_ ?_)
   | (with_reducible refine LeO.bind ?_ (fun _ => ?_))
   | exact ih0 _ _ _ _ _ _
   | exact ih1 _ _ _ _ _ _
   | exact ih2 _ _ _ _ _ _
   | exact ih3 _ _ _ _ _
   | exact LeO.none _
   | refine LeO.ite ?_ ?_
   | refine LeO.bind ?_ (fun _ => ?_)
set_option maxHeartbeats 8000000 in
set_option maxRecDepth 100000 in
theorem ancepsref45_Step.calls (k : Nat) (a0 : ByteArray) (a1 : ByteArray) (a2 : Int) (a3 : Int) (a4 : Int) (r1 : Int) (r2 : Int) (r3 : Int) (r4 : Bool) (w : World) (h : ancepsref45_Step.f k a0 a1 a2 a3 a4 = some (r1, r2, r3, r4)) :
  Calls Try.prog 45 #[.string a0, .string a1, .int .i64 a2, .int .i64 a3, .int .i64 a4] w fun e w' => e = .returned (.tuple #[.int .i64 r1, .int .i64 r2, .int .i64 r3, .bool r4]) ∧ Drawn0 w w' := by
 have H : (if a4 = 0 then (if a2 < (a0.size : Int) then (ancepsref45_Step.j0 k a0 a1 a2 a3 a4 (decide (a3 < (a1.size : Int)))) else (ancepsref45_Step.j0 k a0 a1 a2 a3 a4 false)) else (ancepsref45_Step.j0 k a0 a1 a2 a3 a4 false)) = some (r1, r2, r3, r4) := h
 clear h
 have HC6 := Aside0.mk H
 clear H
 go_enter Try.func45, Try.ntmps45
 go_upto_region 1 with (fail)
 repeat (go_quiet (fail); go_upto_region 1 with (fail))
 go_cut [14] (fun v14 wc => ∃ (kq : Nat) (x14_5 : Bool), v14 = .bool x14_5 ∧ Aside0 (ancepsref45_Step.j0 kq a0 a1 a2 a3 a4 x14_5 = some (r1, r2, r3, r4)) ∧ Aside0 (kq ≤ k) ∧ Drawn0 w wc)
 case first =>
  have H := HC6.out
  clear HC6
  by_cases c7 : a4 = 0
  ·rw [if_pos c7] at H
   have c7b0 : (a4 == 0) = true := beq_iff_eq.mpr c7
   have c7b1 : (a4 != 0) = false := bne_eq_false_iff_eq.mpr c7
   clear c7
   (first | rw [c7b0] | (simp only [i64_w, i32_w]; rw [c7b0]) | skip)
   by_cases c8 : a2 < (a0.size : Int)
   ·rw [if_pos c8] at H
    have c8b0 : decide (a2 < (a0.size : Int)) = true := decide_eq_true c8
    clear c8
    have H' := Aside0.mk H
    clear H
    go_wp2
    repeat (go_quiet (fail); try go_wp2)
    go_meet
    case rel => exact ⟨_, (decide (a3 < (a1.size : Int))), (by first | rfl | (simp; done) | (simp [*]; done)), H', ⟨by first | omega | exact Nat.le_refl _⟩, by repeat (first | exact Drawn0.refl _ | apply Drawn0.step)⟩
   ·rw [if_neg c8] at H
    have c8b0 : decide (a2 < (a0.size : Int)) = false := decide_eq_false c8
    clear c8
    have H' := Aside0.mk H
    clear H
    go_wp2
    repeat (go_quiet (fail); try go_wp2)
    go_meet
    case rel => exact ⟨_, (false), (by first | rfl | (simp; done) | (simp [*]; done)), H', ⟨by first | omega | exact Nat.le_refl _⟩, by repeat (first | exact Drawn0.refl _ | apply Drawn0.step)⟩
  ·rw [if_neg c7] at H
   have c7b0 : (a4 == 0) = false := beq_eq_false_iff_ne.mpr c7
   have c7b1 : (a4 != 0) = true := bne_iff_ne.mpr c7
   (first | rw [c7b0] | (simp only [i64_w, i32_w]; rw [c7b0]) | skip)
   have H' := Aside0.mk H
   clear H
   go_wp2
   repeat (go_quiet (fail); try go_wp2)
   go_meet
   case rel => exact ⟨_, (false), (by first | rfl | (simp; done) | (simp [*]; done)), H', ⟨by first | omega | exact Nat.le_refl _⟩, by repeat (first | exact Drawn0.refl _ | apply Drawn0.step)⟩
 case rest =>
  clear HC6
  try clear p2
  try clear c4
  try clear c7
  try clear c7b0
  try clear c7b1
  try clear c8
  try clear c8b0
  obtain ⟨kq, x14_5, rfl, HA, HJ5, ⟨mc5, rfl⟩⟩ := hcut
  cases kq with
  | zero => exact absurd HA.out (by simp [ancepsref45_Step.j0])
  | succ kj5 =>
   have H := HA.out
   clear HA
   simp only [ancepsref45_Step.j0] at H
   by_cases c9 : x14_5 = true
   ·subst c9
    have H1 : (if 0 ≤ a2 then (if a2 < (a0.size : Int) then (if 0 ≤ a3 then (if a3 < (a1.size : Int) then (if (bt a0 a2) = (bt a1 a3) then (some (wrap64 (a2 + 1), wrap64 (a3 + 1), 0, true)) else (if (bt a0 a2) = 120 then (some (wrap64 (a2 + 1), wrap64 (a3 + 1), 0, true)) else (if (bt a1 a3) = 120 then (some (wrap64 (a2 + 1), wrap64 (a3 + 1), 0, true)) else (some (wrap64 (a2 + 1), wrap64 (a3 + 1), 3, true))))) else (none)) else (none)) else (none)) else (none)) = some (r1, r2, r3, r4) := by rw [if_pos rfl] at H; exact H
    clear H
    have H := H1
    clear H1
    by_cases c10 : 0 ≤ a2
    ·rw [if_pos c10] at H
     have c10b0 : decide (0 ≤ a2) = true := decide_eq_true c10
     clear c10
     by_cases c11 : a2 < (a0.size : Int)
     ·rw [if_pos c11] at H
      have c11b0 : decide (a2 < (a0.size : Int)) = true := decide_eq_true c11
      clear c11
      by_cases c13 : 0 ≤ a3
      ·rw [if_pos c13] at H
       have c13b0 : decide (0 ≤ a3) = true := decide_eq_true c13
       clear c13
       by_cases c14 : a3 < (a1.size : Int)
       ·rw [if_pos c14] at H
        have c14b0 : decide (a3 < (a1.size : Int)) = true := decide_eq_true c14
        clear c14
        by_cases c16 : (bt a0 a2) = (bt a1 a3)
        ·rw [if_pos c16] at H
         have c16b0 : ((bt a0 a2) == (bt a1 a3)) = true := beq_iff_eq.mpr c16
         have c16b1 : ((bt a0 a2) != (bt a1 a3)) = false := bne_eq_false_iff_eq.mpr c16
         clear c16
         simp only [Option.some.injEq, Prod.mk.injEq] at H
         obtain ⟨rfl, rfl, rfl, rfl⟩ := H
         have p12 : 0 ≤ (a2 : Int) := of_decide_eq_true (by first | (with_reducible assumption) | assumption)
         have q12 : a2 < (a0.size : Int) := of_decide_eq_true (by first | (with_reducible assumption) | assumption)
         have hx12 := bt_at a0 a2
         replace p12 := eq_true p12
         replace q12 := eq_true q12
         have p15 : 0 ≤ (a3 : Int) := of_decide_eq_true (by first | (with_reducible assumption) | assumption)
         have q15 : a3 < (a1.size : Int) := of_decide_eq_true (by first | (with_reducible assumption) | assumption)
         have hx15 := bt_at a1 a3
         replace p15 := eq_true p15
         replace q15 := eq_true q15
         go_wp2
         repeat (go_quiet (fail); try go_wp2)
         refine bodyPost_ret (results_list (rs := [.tmp 10, .tmp 11, .tmp 12, .tmp 13]) rfl (by simp) (.tmp (.tmp (.tmp (.tmp .nil))))) rfl ?_
         exact ⟨by first | rfl | (simp; done) | (simp [*]; done), by repeat (first | exact Drawn0.refl _ | apply Drawn0.step)⟩
        ·rw [if_neg c16] at H
         have c16b0 : ((bt a0 a2) == (bt a1 a3)) = false := beq_eq_false_iff_ne.mpr c16
         have c16b1 : ((bt a0 a2) != (bt a1 a3)) = true := bne_iff_ne.mpr c16
         by_cases c18 : (bt a0 a2) = 120
         ·rw [if_pos c18] at H
          have c18b0 : ((bt a0 a2) == 120) = true := beq_iff_eq.mpr c18
          have c18b1 : ((bt a0 a2) != 120) = false := bne_eq_false_iff_eq.mpr c18
          clear c18
          simp only [Option.some.injEq, Prod.mk.injEq] at H
          obtain ⟨rfl, rfl, rfl, rfl⟩ := H
          have p12 : 0 ≤ (a2 : Int) := of_decide_eq_true (by first | (with_reducible assumption) | assumption)
          have q12 : a2 < (a0.size : Int) := of_decide_eq_true (by first | (with_reducible assumption) | assumption)
          have hx12 := bt_at a0 a2
          replace p12 := eq_true p12
          replace q12 := eq_true q12
          have p15 : 0 ≤ (a3 : Int) := of_decide_eq_true (by first | (with_reducible assumption) | assumption)
          have q15 : a3 < (a1.size : Int) := of_decide_eq_true (by first | (with_reducible assumption) | assumption)
          have hx15 := bt_at a1 a3
          replace p15 := eq_true p15
          replace q15 := eq_true q15
          have p17 : 0 ≤ (a2 : Int) := of_decide_eq_true (by first | (with_reducible assumption) | assumption)
          have q17 : a2 < (a0.size : Int) := of_decide_eq_true (by first | (with_reducible assumption) | assumption)
          have hx17 := bt_at a0 a2
          replace p17 := eq_true p17
          replace q17 := eq_true q17
          go_wp2
          repeat (go_quiet (fail); try go_wp2)
          refine bodyPost_ret (results_list (rs := [.tmp 10, .tmp 11, .tmp 12, .tmp 13]) rfl (by simp) (.tmp (.tmp (.tmp (.tmp .nil))))) rfl ?_
          exact ⟨by first | rfl | (simp; done) | (simp [*]; done), by repeat (first | exact Drawn0.refl _ | apply Drawn0.step)⟩
         ·rw [if_neg c18] at H
          have c18b0 : ((bt a0 a2) == 120) = false := beq_eq_false_iff_ne.mpr c18
          have c18b1 : ((bt a0 a2) != 120) = true := bne_iff_ne.mpr c18
          by_cases c20 : (bt a1 a3) = 120
          ·rw [if_pos c20] at H
           have c20b0 : ((bt a1 a3) == 120) = true := beq_iff_eq.mpr c20
           have c20b1 : ((bt a1 a3) != 120) = false := bne_eq_false_iff_eq.mpr c20
           clear c20
           simp only [Option.some.injEq, Prod.mk.injEq] at H
           obtain ⟨rfl, rfl, rfl, rfl⟩ := H
           have p12 : 0 ≤ (a2 : Int) := of_decide_eq_true (by first | (with_reducible assumption) | assumption)
           have q12 : a2 < (a0.size : Int) := of_decide_eq_true (by first | (with_reducible assumption) | assumption)
           have hx12 := bt_at a0 a2
           replace p12 := eq_true p12
           replace q12 := eq_true q12
           have p15 : 0 ≤ (a3 : Int) := of_decide_eq_true (by first | (with_reducible assumption) | assumption)
           have q15 : a3 < (a1.size : Int) := of_decide_eq_true (by first | (with_reducible assumption) | assumption)
           have hx15 := bt_at a1 a3
           replace p15 := eq_true p15
           replace q15 := eq_true q15
           have p17 : 0 ≤ (a2 : Int) := of_decide_eq_true (by first | (with_reducible assumption) | assumption)
           have q17 : a2 < (a0.size : Int) := of_decide_eq_true (by first | (with_reducible assumption) | assumption)
           have hx17 := bt_at a0 a2
           replace p17 := eq_true p17
           replace q17 := eq_true q17
           have p19 : 0 ≤ (a3 : Int) := of_decide_eq_true (by first | (with_reducible assumption) | assumption)
           have q19 : a3 < (a1.size : Int) := of_decide_eq_true (by first | (with_reducible assumption) | assumption)
           have hx19 := bt_at a1 a3
           replace p19 := eq_true p19
           replace q19 := eq_true q19
           go_wp2
           repeat (go_quiet (fail); try go_wp2)
           refine bodyPost_ret (results_list (rs := [.tmp 10, .tmp 11, .tmp 12, .tmp 13]) rfl (by simp) (.tmp (.tmp (.tmp (.tmp .nil))))) rfl ?_
           exact ⟨by first | rfl | (simp; done) | (simp [*]; done), by repeat (first | exact Drawn0.refl _ | apply Drawn0.step)⟩
          ·rw [if_neg c20] at H
           have c20b0 : ((bt a1 a3) == 120) = false := beq_eq_false_iff_ne.mpr c20
           have c20b1 : ((bt a1 a3) != 120) = true := bne_iff_ne.mpr c20
           simp only [Option.some.injEq, Prod.mk.injEq] at H
           obtain ⟨rfl, rfl, rfl, rfl⟩ := H
           have p12 : 0 ≤ (a2 : Int) := of_decide_eq_true (by first | (with_reducible assumption) | assumption)
           have q12 : a2 < (a0.size : Int) := of_decide_eq_true (by first | (with_reducible assumption) | assumption)
           have hx12 := bt_at a0 a2
           replace p12 := eq_true p12
           replace q12 := eq_true q12
           have p15 : 0 ≤ (a3 : Int) := of_decide_eq_true (by first | (with_reducible assumption) | assumption)
           have q15 : a3 < (a1.size : Int) := of_decide_eq_true (by first | (with_reducible assumption) | assumption)
           have hx15 := bt_at a1 a3
           replace p15 := eq_true p15
           replace q15 := eq_true q15
           have p17 : 0 ≤ (a2 : Int) := of_decide_eq_true (by first | (with_reducible assumption) | assumption)
           have q17 : a2 < (a0.size : Int) := of_decide_eq_true (by first | (with_reducible assumption) | assumption)
           have hx17 := bt_at a0 a2
           replace p17 := eq_true p17
           replace q17 := eq_true q17
           have p19 : 0 ≤ (a3 : Int) := of_decide_eq_true (by first | (with_reducible assumption) | assumption)
           have q19 : a3 < (a1.size : Int) := of_decide_eq_true (by first | (with_reducible assumption) | assumption)
           have hx19 := bt_at a1 a3
           replace p19 := eq_true p19
           replace q19 := eq_true q19
           go_wp2
           repeat (go_quiet (fail); try go_wp2)
           refine bodyPost_ret (results_list (rs := [.tmp 10, .tmp 11, .tmp 12, .tmp 13]) rfl (by simp) (.tmp (.tmp (.tmp (.tmp .nil))))) rfl ?_
           exact ⟨by first | rfl | (simp; done) | (simp [*]; done), by repeat (first | exact Drawn0.refl _ | apply Drawn0.step)⟩
       ·rw [if_neg c14] at H
        exact absurd H (by simp)
      ·rw [if_neg c13] at H
       exact absurd H (by simp)
     ·rw [if_neg c11] at H
      exact absurd H (by simp)
    ·rw [if_neg c10] at H
     exact absurd H (by simp)
   ·replace c9 := Bool.eq_false_iff.mpr c9
    subst c9
    have H1 : (if a4 = 1 then ((ancepsref45_heavy.f a0 a2).bind fun t233 => (if t233 = true then ((ancepsref45_lights.f a1 a3).bind fun t234 => (ancepsref45_Step.j1 kj5 a0 a1 a2 a3 a4 t234)) else (ancepsref45_Step.j1 kj5 a0 a1 a2 a3 a4 false))) else (ancepsref45_Step.j1 kj5 a0 a1 a2 a3 a4 false)) = some (r1, r2, r3, r4) := by rw [if_neg (show ¬ (false = true) by decide)] at H; exact H
    clear H
    have H := H1
    clear H1
    have HC21 := Aside0.mk H
    clear H
    go_upto_region 5 with (fail)
    repeat (go_quiet (fail); go_upto_region 5 with (fail))
    go_cut [56] (fun v56 wc => ∃ (kq : Nat) (x56_20 : Bool), v56 = .bool x56_20 ∧ Aside0 (ancepsref45_Step.j1 kq a0 a1 a2 a3 a4 x56_20 = some (r1, r2, r3, r4)) ∧ Aside0 (kq ≤ kj5) ∧ Drawn0 w wc)
    case first =>
     have H := HC21.out
     clear HC21
     by_cases c22 : a4 = 1
     ·rw [if_pos c22] at H
      have c22b0 : (a4 == 1) = true := beq_iff_eq.mpr c22
      have c22b1 : (a4 != 1) = false := bne_eq_false_iff_eq.mpr c22
      clear c22
      (first | rw [c22b0] | (simp only [i64_w, i32_w]; rw [c22b0]) | skip)
      replace H := Option.bind_eq_some_iff.mp H
      obtain ⟨t233, A230, H⟩ := H
      replace H : (if t233 = true then ((ancepsref45_lights.f a1 a3).bind fun t234 => (ancepsref45_Step.j1 kj5 a0 a1 a2 a3 a4 t234)) else (ancepsref45_Step.j1 kj5 a0 a1 a2 a3 a4 false)) = some (r1, r2, r3, r4) := H
      have A23 := Aside0.mk A230
      clear A230
      by_cases c24 : t233 = true
      ·subst c24
       have H1 : ((ancepsref45_lights.f a1 a3).bind fun t234 => (ancepsref45_Step.j1 kj5 a0 a1 a2 a3 a4 t234)) = some (r1, r2, r3, r4) := by rw [if_pos rfl] at H; exact H
       clear H
       have H := H1
       clear H1
       replace H := Option.bind_eq_some_iff.mp H
       obtain ⟨t234, A250, H⟩ := H
       replace H : (ancepsref45_Step.j1 kj5 a0 a1 a2 a3 a4 t234) = some (r1, r2, r3, r4) := H
       have A25 := Aside0.mk A250
       clear A250
       have H' := Aside0.mk H
       clear H
       go_wp2_with (first | (go_at_call 62; (with_reducible refine (ancepsref45_heavy.calls a0 a2 true _ A23.out).mono ?_); rintro e w' ⟨rfl, ⟨nd, rfl⟩⟩; (try first | exact ⟨rfl, _, World.drewN_drewN _ _ _⟩ | exact ⟨rfl, _, Eq.trans (World.drewN_drewN _ _ _) (congrArg (World.drewN _) (Nat.add_assoc _ _ _))⟩)) | (go_at_call 63; (with_reducible refine (ancepsref45_lights.calls a1 a3 t234 _ A25.out).mono ?_); rintro e w' ⟨rfl, ⟨nd, rfl⟩⟩; (try first | exact ⟨rfl, _, World.drewN_drewN _ _ _⟩ | exact ⟨rfl, _, Eq.trans (World.drewN_drewN _ _ _) (congrArg (World.drewN _) (Nat.add_assoc _ _ _))⟩)))
       repeat (go_quiet (first | (go_at_call 62; (with_reducible refine (ancepsref45_heavy.calls a0 a2 true _ A23.out).mono ?_); (try clear A23); rintro e w' ⟨rfl, ⟨nd, rfl⟩⟩; (try first | exact ⟨rfl, _, World.drewN_drewN _ _ _⟩ | exact ⟨rfl, _, Eq.trans (World.drewN_drewN _ _ _) (congrArg (World.drewN _) (Nat.add_assoc _ _ _))⟩)) | (go_at_call 63; (with_reducible refine (ancepsref45_lights.calls a1 a3 t234 _ A25.out).mono ?_); (try clear A25); rintro e w' ⟨rfl, ⟨nd, rfl⟩⟩; (try first | exact ⟨rfl, _, World.drewN_drewN _ _ _⟩ | exact ⟨rfl, _, Eq.trans (World.drewN_drewN _ _ _) (congrArg (World.drewN _) (Nat.add_assoc _ _ _))⟩))); try go_wp2_with (first | (go_at_call 62; (with_reducible refine (ancepsref45_heavy.calls a0 a2 true _ A23.out).mono ?_); (try clear A23); rintro e w' ⟨rfl, ⟨nd, rfl⟩⟩; (try first | exact ⟨rfl, _, World.drewN_drewN _ _ _⟩ | exact ⟨rfl, _, Eq.trans (World.drewN_drewN _ _ _) (congrArg (World.drewN _) (Nat.add_assoc _ _ _))⟩)) | (go_at_call 63; (with_reducible refine (ancepsref45_lights.calls a1 a3 t234 _ A25.out).mono ?_); (try clear A25); rintro e w' ⟨rfl, ⟨nd, rfl⟩⟩; (try first | exact ⟨rfl, _, World.drewN_drewN _ _ _⟩ | exact ⟨rfl, _, Eq.trans (World.drewN_drewN _ _ _) (congrArg (World.drewN _) (Nat.add_assoc _ _ _))⟩))))
       go_meet
       case rel => exact ⟨_, (t234), (by first | rfl | (simp; done) | (simp [*]; done)), H', ⟨by have := HJ5.out; first | omega | exact Nat.le_refl _⟩, by repeat (first | exact Drawn0.refl _ | apply Drawn0.step)⟩
      ·replace c24 := Bool.eq_false_iff.mpr c24
       subst c24
       have H1 : (ancepsref45_Step.j1 kj5 a0 a1 a2 a3 a4 false) = some (r1, r2, r3, r4) := by rw [if_neg (show ¬ (false = true) by decide)] at H; exact H
       clear H
       have H := H1
       clear H1
       have H' := Aside0.mk H
       clear H
       go_wp2_with (first | (go_at_call 62; (with_reducible refine (ancepsref45_heavy.calls a0 a2 false _ A23.out).mono ?_); rintro e w' ⟨rfl, ⟨nd, rfl⟩⟩; (try first | exact ⟨rfl, _, World.drewN_drewN _ _ _⟩ | exact ⟨rfl, _, Eq.trans (World.drewN_drewN _ _ _) (congrArg (World.drewN _) (Nat.add_assoc _ _ _))⟩)))
       repeat (go_quiet (first | (go_at_call 62; (with_reducible refine (ancepsref45_heavy.calls a0 a2 false _ A23.out).mono ?_); (try clear A23); rintro e w' ⟨rfl, ⟨nd, rfl⟩⟩; (try first | exact ⟨rfl, _, World.drewN_drewN _ _ _⟩ | exact ⟨rfl, _, Eq.trans (World.drewN_drewN _ _ _) (congrArg (World.drewN _) (Nat.add_assoc _ _ _))⟩))); try go_wp2_with (first | (go_at_call 62; (with_reducible refine (ancepsref45_heavy.calls a0 a2 false _ A23.out).mono ?_); (try clear A23); rintro e w' ⟨rfl, ⟨nd, rfl⟩⟩; (try first | exact ⟨rfl, _, World.drewN_drewN _ _ _⟩ | exact ⟨rfl, _, Eq.trans (World.drewN_drewN _ _ _) (congrArg (World.drewN _) (Nat.add_assoc _ _ _))⟩))))
       go_meet
       case rel => exact ⟨_, (false), (by first | rfl | (simp; done) | (simp [*]; done)), H', ⟨by have := HJ5.out; first | omega | exact Nat.le_refl _⟩, by repeat (first | exact Drawn0.refl _ | apply Drawn0.step)⟩
     ·rw [if_neg c22] at H
      have c22b0 : (a4 == 1) = false := beq_eq_false_iff_ne.mpr c22
      have c22b1 : (a4 != 1) = true := bne_iff_ne.mpr c22
      (first | rw [c22b0] | (simp only [i64_w, i32_w]; rw [c22b0]) | skip)
      have H' := Aside0.mk H
      clear H
      go_wp2
      repeat (go_quiet (fail); try go_wp2)
      go_meet
      case rel => exact ⟨_, (false), (by first | rfl | (simp; done) | (simp [*]; done)), H', ⟨by have := HJ5.out; first | omega | exact Nat.le_refl _⟩, by repeat (first | exact Drawn0.refl _ | apply Drawn0.step)⟩
    case rest =>
     clear HC21
     try clear c1
     try clear p1
     try clear q1
     try clear hx1
     try clear c2
     try clear p2
     try clear c4
     try clear c5
     try clear p6
     try clear c7
     try clear c7b0
     try clear c7b1
     try clear c8
     try clear c8b0
     try clear c9
     try clear c10
     try clear c10b0
     try clear c11
     try clear c11b0
     try clear p12
     try clear q12
     try clear hx12
     try clear c13
     try clear c13b0
     try clear c14
     try clear c14b0
     try clear p15
     try clear q15
     try clear hx15
     try clear c16
     try clear c16b0
     try clear c16b1
     try clear p17
     try clear q17
     try clear hx17
     try clear c18
     try clear c18b0
     try clear c18b1
     try clear p19
     try clear q19
     try clear hx19
     try clear c20
     try clear c20b0
     try clear c20b1
     try clear c22
     try clear c22b0
     try clear c22b1
     try clear c24
     try clear p12
     try clear p15
     try clear p17
     try clear p19
     try clear p2
     try clear q12
     try clear q15
     try clear q17
     try clear q19
     obtain ⟨kq, x56_20, rfl, HA, HJ20, ⟨mc20, rfl⟩⟩ := hcut
     cases kq with
     | zero => exact absurd HA.out (by simp [ancepsref45_Step.j1])
     | succ kj20 =>
      have H := HA.out
      clear HA
      simp only [ancepsref45_Step.j1] at H
      by_cases c26 : x56_20 = true
      ·subst c26
       have H1 : (some (wrap64 (a2 + 1), wrap64 (a3 + 2), 1, true)) = some (r1, r2, r3, r4) := by rw [if_pos rfl] at H; exact H
       clear H
       have H := H1
       clear H1
       simp only [Option.some.injEq, Prod.mk.injEq] at H
       obtain ⟨rfl, rfl, rfl, rfl⟩ := H
       go_wp2
       repeat (go_quiet (fail); try go_wp2)
       refine bodyPost_ret (results_list (rs := [.tmp 10, .tmp 11, .tmp 12, .tmp 13]) rfl (by simp) (.tmp (.tmp (.tmp (.tmp .nil))))) rfl ?_
       exact ⟨by first | rfl | (simp; done) | (simp [*]; done), by repeat (first | exact Drawn0.refl _ | apply Drawn0.step)⟩
      ·replace c26 := Bool.eq_false_iff.mpr c26
       subst c26
       have H1 : (if a4 = 2 then ((ancepsref45_lights.f a0 a2).bind fun t235 => (if t235 = true then ((ancepsref45_heavy.f a1 a3).bind fun t236 => (ancepsref45_Step.j2 kj20 a0 a1 a2 a3 a4 t236)) else (ancepsref45_Step.j2 kj20 a0 a1 a2 a3 a4 false))) else (ancepsref45_Step.j2 kj20 a0 a1 a2 a3 a4 false)) = some (r1, r2, r3, r4) := by rw [if_neg (show ¬ (false = true) by decide)] at H; exact H
       clear H
       have H := H1
       clear H1
       have HC27 := Aside0.mk H
       clear H
       go_upto_region 7 with (fail)
       repeat (go_quiet (fail); go_upto_region 7 with (fail))
       go_cut [73] (fun v73 wc => ∃ (kq : Nat) (x73_26 : Bool), v73 = .bool x73_26 ∧ Aside0 (ancepsref45_Step.j2 kq a0 a1 a2 a3 a4 x73_26 = some (r1, r2, r3, r4)) ∧ Aside0 (kq ≤ kj20) ∧ Drawn0 w wc)
       case first =>
        have H := HC27.out
        clear HC27
        by_cases c28 : a4 = 2
        ·rw [if_pos c28] at H
         have c28b0 : (a4 == 2) = true := beq_iff_eq.mpr c28
         have c28b1 : (a4 != 2) = false := bne_eq_false_iff_eq.mpr c28
         clear c28
         (first | rw [c28b0] | (simp only [i64_w, i32_w]; rw [c28b0]) | skip)
         replace H := Option.bind_eq_some_iff.mp H
         obtain ⟨t235, A290, H⟩ := H
         replace H : (if t235 = true then ((ancepsref45_heavy.f a1 a3).bind fun t236 => (ancepsref45_Step.j2 kj20 a0 a1 a2 a3 a4 t236)) else (ancepsref45_Step.j2 kj20 a0 a1 a2 a3 a4 false)) = some (r1, r2, r3, r4) := H
         have A29 := Aside0.mk A290
         clear A290
         by_cases c30 : t235 = true
         ·subst c30
          have H1 : ((ancepsref45_heavy.f a1 a3).bind fun t236 => (ancepsref45_Step.j2 kj20 a0 a1 a2 a3 a4 t236)) = some (r1, r2, r3, r4) := by rw [if_pos rfl] at H; exact H
          clear H
          have H := H1
          clear H1
          replace H := Option.bind_eq_some_iff.mp H
          obtain ⟨t236, A310, H⟩ := H
          replace H : (ancepsref45_Step.j2 kj20 a0 a1 a2 a3 a4 t236) = some (r1, r2, r3, r4) := H
          have A31 := Aside0.mk A310
          clear A310
          have H' := Aside0.mk H
          clear H
          go_wp2_with (first | (go_at_call 63; (with_reducible refine (ancepsref45_lights.calls a0 a2 true _ A29.out).mono ?_); rintro e w' ⟨rfl, ⟨nd, rfl⟩⟩; (try first | exact ⟨rfl, _, World.drewN_drewN _ _ _⟩ | exact ⟨rfl, _, Eq.trans (World.drewN_drewN _ _ _) (congrArg (World.drewN _) (Nat.add_assoc _ _ _))⟩)) | (go_at_call 62; (with_reducible refine (ancepsref45_heavy.calls a1 a3 t236 _ A31.out).mono ?_); rintro e w' ⟨rfl, ⟨nd, rfl⟩⟩; (try first | exact ⟨rfl, _, World.drewN_drewN _ _ _⟩ | exact ⟨rfl, _, Eq.trans (World.drewN_drewN _ _ _) (congrArg (World.drewN _) (Nat.add_assoc _ _ _))⟩)))
          repeat (go_quiet (first | (go_at_call 63; (with_reducible refine (ancepsref45_lights.calls a0 a2 true _ A29.out).mono ?_); (try clear A29); rintro e w' ⟨rfl, ⟨nd, rfl⟩⟩; (try first | exact ⟨rfl, _, World.drewN_drewN _ _ _⟩ | exact ⟨rfl, _, Eq.trans (World.drewN_drewN _ _ _) (congrArg (World.drewN _) (Nat.add_assoc _ _ _))⟩)) | (go_at_call 62; (with_reducible refine (ancepsref45_heavy.calls a1 a3 t236 _ A31.out).mono ?_); (try clear A31); rintro e w' ⟨rfl, ⟨nd, rfl⟩⟩; (try first | exact ⟨rfl, _, World.drewN_drewN _ _ _⟩ | exact ⟨rfl, _, Eq.trans (World.drewN_drewN _ _ _) (congrArg (World.drewN _) (Nat.add_assoc _ _ _))⟩))); try go_wp2_with (first | (go_at_call 63; (with_reducible refine (ancepsref45_lights.calls a0 a2 true _ A29.out).mono ?_); (try clear A29); rintro e w' ⟨rfl, ⟨nd, rfl⟩⟩; (try first | exact ⟨rfl, _, World.drewN_drewN _ _ _⟩ | exact ⟨rfl, _, Eq.trans (World.drewN_drewN _ _ _) (congrArg (World.drewN _) (Nat.add_assoc _ _ _))⟩)) | (go_at_call 62; (with_reducible refine (ancepsref45_heavy.calls a1 a3 t236 _ A31.out).mono ?_); (try clear A31); rintro e w' ⟨rfl, ⟨nd, rfl⟩⟩; (try first | exact ⟨rfl, _, World.drewN_drewN _ _ _⟩ | exact ⟨rfl, _, Eq.trans (World.drewN_drewN _ _ _) (congrArg (World.drewN _) (Nat.add_assoc _ _ _))⟩))))
          go_meet
          case rel => exact ⟨_, (t236), (by first | rfl | (simp; done) | (simp [*]; done)), H', ⟨by have := HJ5.out; have := HJ20.out; first | omega | exact Nat.le_refl _⟩, by repeat (first | exact Drawn0.refl _ | apply Drawn0.step)⟩
         ·replace c30 := Bool.eq_false_iff.mpr c30
          subst c30
          have H1 : (ancepsref45_Step.j2 kj20 a0 a1 a2 a3 a4 false) = some (r1, r2, r3, r4) := by rw [if_neg (show ¬ (false = true) by decide)] at H; exact H
          clear H
          have H := H1
          clear H1
          have H' := Aside0.mk H
          clear H
          go_wp2_with (first | (go_at_call 63; (with_reducible refine (ancepsref45_lights.calls a0 a2 false _ A29.out).mono ?_); rintro e w' ⟨rfl, ⟨nd, rfl⟩⟩; (try first | exact ⟨rfl, _, World.drewN_drewN _ _ _⟩ | exact ⟨rfl, _, Eq.trans (World.drewN_drewN _ _ _) (congrArg (World.drewN _) (Nat.add_assoc _ _ _))⟩)))
          repeat (go_quiet (first | (go_at_call 63; (with_reducible refine (ancepsref45_lights.calls a0 a2 false _ A29.out).mono ?_); (try clear A29); rintro e w' ⟨rfl, ⟨nd, rfl⟩⟩; (try first | exact ⟨rfl, _, World.drewN_drewN _ _ _⟩ | exact ⟨rfl, _, Eq.trans (World.drewN_drewN _ _ _) (congrArg (World.drewN _) (Nat.add_assoc _ _ _))⟩))); try go_wp2_with (first | (go_at_call 63; (with_reducible refine (ancepsref45_lights.calls a0 a2 false _ A29.out).mono ?_); (try clear A29); rintro e w' ⟨rfl, ⟨nd, rfl⟩⟩; (try first | exact ⟨rfl, _, World.drewN_drewN _ _ _⟩ | exact ⟨rfl, _, Eq.trans (World.drewN_drewN _ _ _) (congrArg (World.drewN _) (Nat.add_assoc _ _ _))⟩))))
          go_meet
          case rel => exact ⟨_, (false), (by first | rfl | (simp; done) | (simp [*]; done)), H', ⟨by have := HJ5.out; have := HJ20.out; first | omega | exact Nat.le_refl _⟩, by repeat (first | exact Drawn0.refl _ | apply Drawn0.step)⟩
        ·rw [if_neg c28] at H
         have c28b0 : (a4 == 2) = false := beq_eq_false_iff_ne.mpr c28
         have c28b1 : (a4 != 2) = true := bne_iff_ne.mpr c28
         (first | rw [c28b0] | (simp only [i64_w, i32_w]; rw [c28b0]) | skip)
         have H' := Aside0.mk H
         clear H
         go_wp2
         repeat (go_quiet (fail); try go_wp2)
         go_meet
         case rel => exact ⟨_, (false), (by first | rfl | (simp; done) | (simp [*]; done)), H', ⟨by have := HJ5.out; have := HJ20.out; first | omega | exact Nat.le_refl _⟩, by repeat (first | exact Drawn0.refl _ | apply Drawn0.step)⟩
       case rest =>
        clear HC27
        try clear c1
        try clear p1
        try clear q1
        try clear hx1
        try clear c2
        try clear p2
        try clear c3
        try clear c4
        try clear c5
        try clear p6
        try clear c7
        try clear c7b0
        try clear c7b1
        try clear c8
        try clear c8b0
        try clear c9
        try clear c10
        try clear c10b0
        try clear c11
        try clear c11b0
        try clear p12
        try clear q12
        try clear hx12
        try clear c13
        try clear c13b0
        try clear c14
        try clear c14b0
        try clear p15
        try clear q15
        try clear hx15
        try clear c16
        try clear c16b0
        try clear c16b1
        try clear p17
        try clear q17
        try clear hx17
        try clear c18
        try clear c18b0
        try clear c18b1
        try clear p19
        try clear q19
        try clear hx19
        try clear c20
        try clear c20b0
        try clear c20b1
        try clear c22
        try clear c22b0
        try clear c22b1
        try clear c24
        try clear c26
        try clear c28
        try clear c28b0
        try clear c28b1
        try clear c30
        try clear p1
        try clear p12
        try clear p15
        try clear p17
        try clear p19
        try clear p2
        try clear p6
        try clear q1
        try clear q12
        try clear q15
        try clear q17
        try clear q19
        obtain ⟨kq, x73_26, rfl, HA, HJ26, ⟨mc26, rfl⟩⟩ := hcut
        cases kq with
        | zero => exact absurd HA.out (by simp [ancepsref45_Step.j2])
        | succ kj26 =>
         have H := HA.out
         clear HA
         simp only [ancepsref45_Step.j2] at H
         by_cases c32 : x73_26 = true
         ·subst c32
          have H1 : (some (wrap64 (a2 + 2), wrap64 (a3 + 1), 1, true)) = some (r1, r2, r3, r4) := by rw [if_pos rfl] at H; exact H
          clear H
          have H := H1
          clear H1
          simp only [Option.some.injEq, Prod.mk.injEq] at H
          obtain ⟨rfl, rfl, rfl, rfl⟩ := H
          go_wp2
          repeat (go_quiet (fail); try go_wp2)
          refine bodyPost_ret (results_list (rs := [.tmp 10, .tmp 11, .tmp 12, .tmp 13]) rfl (by simp) (.tmp (.tmp (.tmp (.tmp .nil))))) rfl ?_
          exact ⟨by first | rfl | (simp; done) | (simp [*]; done), by repeat (first | exact Drawn0.refl _ | apply Drawn0.step)⟩
         ·replace c32 := Bool.eq_false_iff.mpr c32
          subst c32
          have H1 : (if a4 = 3 then (ancepsref45_Step.j3 kj26 a1 a2 a3 a4 (decide (a2 < (a0.size : Int)))) else (ancepsref45_Step.j3 kj26 a1 a2 a3 a4 false)) = some (r1, r2, r3, r4) := by rw [if_neg (show ¬ (false = true) by decide)] at H; exact H
          clear H
          have H := H1
          clear H1
          have HC33 := Aside0.mk H
          clear H
          go_upto_region 9 with (fail)
          repeat (go_quiet (fail); go_upto_region 9 with (fail))
          go_cut [90] (fun v90 wc => ∃ (kq : Nat) (x90_32 : Bool), v90 = .bool x90_32 ∧ Aside0 (ancepsref45_Step.j3 kq a1 a2 a3 a4 x90_32 = some (r1, r2, r3, r4)) ∧ Aside0 (kq ≤ kj26) ∧ Drawn0 w wc)
          case first =>
           have H := HC33.out
           clear HC33
           by_cases c34 : a4 = 3
           ·rw [if_pos c34] at H
            have c34b0 : (a4 == 3) = true := beq_iff_eq.mpr c34
            have c34b1 : (a4 != 3) = false := bne_eq_false_iff_eq.mpr c34
            clear c34
            (first | rw [c34b0] | (simp only [i64_w, i32_w]; rw [c34b0]) | skip)
            have H' := Aside0.mk H
            clear H
            go_wp2
            repeat (go_quiet (fail); try go_wp2)
            go_meet
            case rel => exact ⟨_, (decide (a2 < (a0.size : Int))), (by first | rfl | (simp; done) | (simp [*]; done)), H', ⟨by have := HJ5.out; have := HJ20.out; have := HJ26.out; first | omega | exact Nat.le_refl _⟩, by repeat (first | exact Drawn0.refl _ | apply Drawn0.step)⟩
           ·rw [if_neg c34] at H
            have c34b0 : (a4 == 3) = false := beq_eq_false_iff_ne.mpr c34
            have c34b1 : (a4 != 3) = true := bne_iff_ne.mpr c34
            (first | rw [c34b0] | (simp only [i64_w, i32_w]; rw [c34b0]) | skip)
            have H' := Aside0.mk H
            clear H
            go_wp2
            repeat (go_quiet (fail); try go_wp2)
            go_meet
            case rel => exact ⟨_, (false), (by first | rfl | (simp; done) | (simp [*]; done)), H', ⟨by have := HJ5.out; have := HJ20.out; have := HJ26.out; first | omega | exact Nat.le_refl _⟩, by repeat (first | exact Drawn0.refl _ | apply Drawn0.step)⟩
          case rest =>
           clear HC33
           try clear c1
           try clear p1
           try clear q1
           try clear hx1
           try clear c2
           try clear p2
           try clear c3
           try clear c4
           try clear c5
           try clear p6
           try clear c7
           try clear c7b0
           try clear c7b1
           try clear c8
           try clear c8b0
           try clear c9
           try clear c10
           try clear c10b0
           try clear c11
           try clear c11b0
           try clear p12
           try clear q12
           try clear hx12
           try clear c13
           try clear c13b0
           try clear c14
           try clear c14b0
           try clear p15
           try clear q15
           try clear hx15
           try clear c16
           try clear c16b0
           try clear c16b1
           try clear p17
           try clear q17
           try clear hx17
           try clear c18
           try clear c18b0
           try clear c18b1
           try clear p19
           try clear q19
           try clear hx19
           try clear c20
           try clear c20b0
           try clear c20b1
           try clear c22
           try clear c22b0
           try clear c22b1
           try clear c24
           try clear c26
           try clear c28
           try clear c28b0
           try clear c28b1
           try clear c30
           try clear c32
           try clear c34
           try clear c34b0
           try clear c34b1
           try clear p1
           try clear p12
           try clear p15
           try clear p17
           try clear p19
           try clear p2
           try clear p6
           try clear q1
           try clear q12
           try clear q15
           try clear q17
           try clear q19
           obtain ⟨kq, x90_32, rfl, HA, HJ32, ⟨mc32, rfl⟩⟩ := hcut
           cases kq with
           | zero => exact absurd HA.out (by simp [ancepsref45_Step.j3])
           | succ kj32 =>
            have H := HA.out
            clear HA
            simp only [ancepsref45_Step.j3] at H
            by_cases c35 : x90_32 = true
            ·subst c35
             have H1 : (some (wrap64 (a2 + 1), a3, 4, true)) = some (r1, r2, r3, r4) := by rw [if_pos rfl] at H; exact H
             clear H
             have H := H1
             clear H1
             simp only [Option.some.injEq, Prod.mk.injEq] at H
             obtain ⟨rfl, rfl, rfl, rfl⟩ := H
             go_wp2
             repeat (go_quiet (fail); try go_wp2)
             refine bodyPost_ret (results_list (rs := [.tmp 10, .tmp 11, .tmp 12, .tmp 13]) rfl (by simp) (.tmp (.tmp (.tmp (.tmp .nil))))) rfl ?_
             exact ⟨by first | rfl | (simp; done) | (simp [*]; done), by repeat (first | exact Drawn0.refl _ | apply Drawn0.step)⟩
            ·replace c35 := Bool.eq_false_iff.mpr c35
             subst c35
             have H1 : (if a4 = 4 then (if a3 < (a1.size : Int) then (some (a2, wrap64 (a3 + 1), 4, true)) else (some (0, 0, 0, false))) else (some (0, 0, 0, false))) = some (r1, r2, r3, r4) := by rw [if_neg (show ¬ (false = true) by decide)] at H; exact H
             clear H
             have H := H1
             clear H1
             by_cases c36 : a4 = 4
             ·rw [if_pos c36] at H
              have c36b0 : (a4 == 4) = true := beq_iff_eq.mpr c36
              have c36b1 : (a4 != 4) = false := bne_eq_false_iff_eq.mpr c36
              clear c36
              by_cases c37 : a3 < (a1.size : Int)
              ·rw [if_pos c37] at H
               have c37b0 : decide (a3 < (a1.size : Int)) = true := decide_eq_true c37
               clear c37
               simp only [Option.some.injEq, Prod.mk.injEq] at H
               obtain ⟨rfl, rfl, rfl, rfl⟩ := H
               go_wp2
               repeat (go_quiet (fail); try go_wp2)
               refine bodyPost_ret (results_list (rs := [.tmp 10, .tmp 11, .tmp 12, .tmp 13]) rfl (by simp) (.tmp (.tmp (.tmp (.tmp .nil))))) rfl ?_
               exact ⟨by first | rfl | (simp; done) | (simp [*]; done), by repeat (first | exact Drawn0.refl _ | apply Drawn0.step)⟩
              ·rw [if_neg c37] at H
               have c37b0 : decide (a3 < (a1.size : Int)) = false := decide_eq_false c37
               clear c37
               simp only [Option.some.injEq, Prod.mk.injEq] at H
               obtain ⟨rfl, rfl, rfl, rfl⟩ := H
               go_wp2
               repeat (go_quiet (fail); try go_wp2)
               refine bodyPost_ret (results_list (rs := [.tmp 10, .tmp 11, .tmp 12, .tmp 13]) rfl (by simp) (.tmp (.tmp (.tmp (.tmp .nil))))) rfl ?_
               exact ⟨by first | rfl | (simp; done) | (simp [*]; done), by repeat (first | exact Drawn0.refl _ | apply Drawn0.step)⟩
             ·rw [if_neg c36] at H
              have c36b0 : (a4 == 4) = false := beq_eq_false_iff_ne.mpr c36
              have c36b1 : (a4 != 4) = true := bne_iff_ne.mpr c36
              simp only [Option.some.injEq, Prod.mk.injEq] at H
              obtain ⟨rfl, rfl, rfl, rfl⟩ := H
              go_wp2
              repeat (go_quiet (fail); try go_wp2)
              refine bodyPost_ret (results_list (rs := [.tmp 10, .tmp 11, .tmp 12, .tmp 13]) rfl (by simp) (.tmp (.tmp (.tmp (.tmp .nil))))) rfl ?_
              exact ⟨by first | rfl | (simp; done) | (simp [*]; done), by repeat (first | exact Drawn0.refl _ | apply Drawn0.step)⟩

end Go.Proofs.Ytnnonjjmlbemfaa.X
