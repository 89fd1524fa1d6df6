-- printed by this session's xprint.py: out of the translation, by the kit's print with additions; Lean checks it
import Derived.Test.YtnnonjjmlbemfaaWShare
import Derived.Test.YtnnonjjmlbemfaaWRepsOne
import Derived.Test.YtnnonjjmlbemfaaX0
import Derived.Test.YtnnonjjmlbemfaaX1
import Derived.Test.YtnnonjjmlbemfaaX10
import Derived.Test.YtnnonjjmlbemfaaX15
import Derived.Test.YtnnonjjmlbemfaaX19
namespace Go.Proofs.Ytnnonjjmlbemfaa.X
open Go.RowKit Go.Proofs.YtnnonjjmlbemfaaW.PrintWords Go.Proofs.YtnnonjjmlbemfaaW.PrintLast Go.Proofs.YtnnonjjmlbemfaaW.PrintMore
attribute [local go_sem] max2_int min2_int max_two min_two max_three min_three max_four min_four isSome_setCell binOp_gtr_str binOp_leq_str   -- for this text's walks alone
set_option linter.unusedVariables false
set_option linter.unusedSimpArgs false

attribute [local go_sem high] eqA45
/-! ### ancepsref45_Text: function 25 -/
mutual
def ancepsref45_Text.l0 : Nat → ByteArray → ByteArray → List Int → ByteArray → ByteArray → ByteArray → Int → Int → Int → Option (ByteArray × Int)
  | 0, _, _, _, _, _, _, _, _, _ => none
  | k + 1, x0, x1, x2, x11, x12, x13, x14, x15, x16 => if x16 < (x2.length : Int) then (if 0 ≤ x16 then ((ancepsref45_Step.f k x0 x1 x14 x15 (rd x2 x16)).bind fun bt449 => (if 0 ≤ x14 then (if x14 ≤ bt449.1 then (if bt449.1 ≤ (x0.size : Int) then (if 0 ≤ x15 then (if x15 ≤ bt449.2.1 then (if bt449.2.1 ≤ (x1.size : Int) then (if (rd x2 x16) = 0 then (ancepsref45_Text.j1 k x0 x1 x2 x11 x12 x13 x16 bt449.1 bt449.2.1 (x0.extract (x14 : Int).toNat (bt449.1 : Int).toNat) (x1.extract (x15 : Int).toNat (bt449.2.1 : Int).toNat) (⟨#[32]⟩ : ByteArray) (bt449.2.2.1 == 0)) else (ancepsref45_Text.j1 k x0 x1 x2 x11 x12 x13 x16 bt449.1 bt449.2.1 (x0.extract (x14 : Int).toNat (bt449.1 : Int).toNat) (x1.extract (x15 : Int).toNat (bt449.2.1 : Int).toNat) (⟨#[32]⟩ : ByteArray) false)) else (none)) else (none)) else (none)) else (none)) else (none)) else (none))) else (none)) else (if x11.size + 1 ≤ 9223372036854775807 then (if (x11 ++ (⟨#[10]⟩ : ByteArray)).size + x12.size ≤ 9223372036854775807 then (if ((x11 ++ (⟨#[10]⟩ : ByteArray)) ++ x12).size + 1 ≤ 9223372036854775807 then (if (((x11 ++ (⟨#[10]⟩ : ByteArray)) ++ x12) ++ (⟨#[10]⟩ : ByteArray)).size + x13.size ≤ 9223372036854775807 then (if ((((x11 ++ (⟨#[10]⟩ : ByteArray)) ++ x12) ++ (⟨#[10]⟩ : ByteArray)) ++ x13).size + 1 ≤ 9223372036854775807 then (some (((((x11 ++ (⟨#[10]⟩ : ByteArray)) ++ x12) ++ (⟨#[10]⟩ : ByteArray)) ++ x13) ++ (⟨#[10]⟩ : ByteArray), 0)) else (none)) else (none)) else (none)) else (none)) else (none))
def ancepsref45_Text.j1 : Nat → ByteArray → ByteArray → List Int → ByteArray → ByteArray → ByteArray → Int → Int → Int → ByteArray → ByteArray → ByteArray → Bool → Option (ByteArray × Int)
  | 0, _, _, _, _, _, _, _, _, _, _, _, _, _ => none
  | k + 1, x0, x1, x2, x11, x12, x13, x16, x17, x18, x21, x22, x23, x67 => if x67 = true then (if x11.size + x21.size ≤ 9223372036854775807 then (if x12.size + 1 ≤ 9223372036854775807 then (if x13.size + x22.size ≤ 9223372036854775807 then (ancepsref45_Text.l0 k x0 x1 x2 (x11 ++ x21) (x12 ++ (⟨#[61]⟩ : ByteArray)) (x13 ++ x22) x17 x18 (wrap64 (x16 + 1))) else (none)) else (none)) else (none)) else (if 0 ≤ x16 then (if x16 < (x2.length : Int) then (if (rd x2 x16) = 0 then (if x11.size + x21.size ≤ 9223372036854775807 then (if x12.size + 1 ≤ 9223372036854775807 then (if x13.size + x22.size ≤ 9223372036854775807 then (ancepsref45_Text.l0 k x0 x1 x2 (x11 ++ x21) (x12 ++ (⟨#[33]⟩ : ByteArray)) (x13 ++ x22) x17 x18 (wrap64 (x16 + 1))) else (none)) else (none)) else (none)) else (if (rd x2 x16) = 1 then (if x21.size + 1 ≤ 9223372036854775807 then (if x11.size + (x21 ++ (⟨#[32]⟩ : ByteArray)).size ≤ 9223372036854775807 then (if x12.size + 2 ≤ 9223372036854775807 then (if x13.size + x22.size ≤ 9223372036854775807 then (ancepsref45_Text.l0 k x0 x1 x2 (x11 ++ (x21 ++ (⟨#[32]⟩ : ByteArray))) (x12 ++ (⟨#[40, 41]⟩ : ByteArray)) (x13 ++ x22) x17 x18 (wrap64 (x16 + 1))) else (none)) else (none)) else (none)) else (none)) else (if (rd x2 x16) = 2 then (if x22.size + 1 ≤ 9223372036854775807 then (if x11.size + x21.size ≤ 9223372036854775807 then (if x12.size + 2 ≤ 9223372036854775807 then (if x13.size + (x22 ++ (⟨#[32]⟩ : ByteArray)).size ≤ 9223372036854775807 then (ancepsref45_Text.l0 k x0 x1 x2 (x11 ++ x21) (x12 ++ (⟨#[40, 41]⟩ : ByteArray)) (x13 ++ (x22 ++ (⟨#[32]⟩ : ByteArray))) x17 x18 (wrap64 (x16 + 1))) else (none)) else (none)) else (none)) else (none)) else (if (rd x2 x16) = 3 then (if x11.size + x21.size ≤ 9223372036854775807 then (if x12.size + x23.size ≤ 9223372036854775807 then (if x13.size + 1 ≤ 9223372036854775807 then (ancepsref45_Text.l0 k x0 x1 x2 (x11 ++ x21) (x12 ++ x23) (x13 ++ (⟨#[32]⟩ : ByteArray)) x17 x18 (wrap64 (x16 + 1))) else (none)) else (none)) else (none)) else (if x11.size + 1 ≤ 9223372036854775807 then (if x12.size + x23.size ≤ 9223372036854775807 then (if x13.size + x22.size ≤ 9223372036854775807 then (ancepsref45_Text.l0 k x0 x1 x2 (x11 ++ (⟨#[32]⟩ : ByteArray)) (x12 ++ x23) (x13 ++ x22) x17 x18 (wrap64 (x16 + 1))) else (none)) else (none)) else (none)))))) else (none)) else (none))
end
def ancepsref45_Text.f (k : Nat) (a0 : ByteArray) (a1 : ByteArray) (l2 : List Int) : Option (ByteArray × Int) := (ancepsref45_Given.f k a0 a1).bind fun t445 => (if t445 = 0 then ((ancepsref45_Cost.f k a0 a1 l2).bind fun bt446 => (if bt446.2 = true then (ancepsref45_Text.l0 k a0 a1 l2 (⟨#[]⟩ : ByteArray) (⟨#[]⟩ : ByteArray) (⟨#[]⟩ : ByteArray) 0 0 0) else (some ((⟨#[]⟩ : ByteArray), 1)))) else (some ((⟨#[]⟩ : ByteArray), t445)))
theorem ancepsref45_Text.mono_l : ∀ k, (∀ y0 y1 y2 y3 y4 y5 y6 y7 y8, LeO (ancepsref45_Text.l0 k y0 y1 y2 y3 y4 y5 y6 y7 y8) (ancepsref45_Text.l0 (k + 1) y0 y1 y2 y3 y4 y5 y6 y7 y8)) ∧ (∀ y0 y1 y2 y3 y4 y5 y6 y7 y8 y9 y10 y11 y12, LeO (ancepsref45_Text.j1 k y0 y1 y2 y3 y4 y5 y6 y7 y8 y9 y10 y11 y12) (ancepsref45_Text.j1 (k + 1) y0 y1 y2 y3 y4 y5 y6 y7 y8 y9 y10 y11 y12))
  | 0 => ⟨fun _ _ _ _ _ _ _ _ _ r h => by simp [ancepsref45_Text.l0] at h, fun _ _ _ _ _ _ _ _ _ _ _ _ _ r h => by simp [ancepsref45_Text.j1] at h⟩
  | k + 1 => by
    obtain ⟨ih0, ih1⟩ := ancepsref45_Text.mono_l k
    refine ⟨?_, ?_⟩
    · intro y0 y1 y2 y3 y4 y5 y6 y7 y8
      unfold ancepsref45_Text.l0
      repeat' first
      | (with_reducible exact ih0 _ _ _ _ _ _ _ _ _)
      | (with_reducible exact ih1 _ _ _ _ _ _ _ _ _ _ _ _ _)
      | (with_reducible exact ancepsref45_Cost.mono _ _ _ _)
      | (with_reducible exact ancepsref45_Given.mono _ _ _)
      | (with_reducible exact ancepsref45_Step.mono _ _ _ _ _ _)
      | (with_reducible exact LeO.refl _)
      | (with_reducible exact LeO.none _)
      | (with_reducible refine LeO.ite ?_ ?_)
      | (with_reducible refine LeO.bind ?_ (fun _ => ?_))
      | exact ih0 _ _ _ _ _ _ _ _ _
      | exact ih1 _ _ _ _ _ _ _ _ _ _ _ _ _
      | exact ancepsref45_Cost.mono _ _ _ _
      | exact ancepsref45_Given.mono _ _ _
      | exact ancepsref45_Step.mono _ _ _ _ _ _
      | exact LeO.none _
      | refine LeO.ite ?_ ?_
      | refine LeO.bind ?_ (fun _ => ?_)
    · intro y0 y1 y2 y3 y4 y5 y6 y7 y8 y9 y10 y11 y12
      unfold ancepsref45_Text.j1
      repeat' first
      | (with_reducible exact ih0 _ _ _ _ _ _ _ _ _)
      | (with_reducible exact ih1 _ _ _ _ _ _ _ _ _ _ _ _ _)
      | (with_reducible exact ancepsref45_Cost.mono _ _ _ _)
      | (with_reducible exact ancepsref45_Given.mono _ _ _)
      | (with_reducible exact ancepsref45_Step.mono _ _ _ _ _ _)
      | (with_reducible exact LeO.refl _)
      | (with_reducible exact LeO.none _)
      | (with_reducible refine LeO.ite ?_ ?_)
      | (with_reducible refine LeO.bind ?_ (fun _ => ?_))
      | exact ih0 _ _ _ _ _ _ _ _ _
      | exact ih1 _ _ _ _ _ _ _ _ _ _ _ _ _
      | exact ancepsref45_Cost.mono _ _ _ _
      | exact ancepsref45_Given.mono _ _ _
      | exact ancepsref45_Step.mono _ _ _ _ _ _
      | exact LeO.none _
      | refine LeO.ite ?_ ?_
      | refine LeO.bind ?_ (fun _ => ?_)
theorem ancepsref45_Text.mono : ∀ a0 a1 a2 k, LeO (ancepsref45_Text.f k a0 a1 a2) (ancepsref45_Text.f (k + 1) a0 a1 a2) := by
  intro a0 a1 a2 k
  obtain ⟨ih0, ih1⟩ := ancepsref45_Text.mono_l k
  unfold ancepsref45_Text.f
  repeat' first
      | (with_reducible exact ih0 _ _ _ _ _ _ _ _ _)
      | (with_reducible exact ih1 _ _ _ _ _ _ _ _ _ _ _ _ _)
      | (with_reducible exact ancepsref45_Cost.mono _ _ _ _)
      | (with_reducible exact ancepsref45_Given.mono _ _ _)
      | (with_reducible exact ancepsref45_Step.mono _ _ _ _ _ _)
      | (with_reducible exact LeO.refl _)
      | (with_reducible exact LeO.none _)
      | (with_reducible refine LeO.ite ?_ ?_)
      | (with_reducible refine LeO.bind ?_ (fun _ => ?_))
      | exact ih0 _ _ _ _ _ _ _ _ _
      | exact ih1 _ _ _ _ _ _ _ _ _ _ _ _ _
      | exact ancepsref45_Cost.mono _ _ _ _
      | exact ancepsref45_Given.mono _ _ _
      | exact ancepsref45_Step.mono _ _ _ _ _ _
      | exact LeO.none _
      | refine LeO.ite ?_ ?_
      | refine LeO.bind ?_ (fun _ => ?_)
set_option maxHeartbeats 8000000 in
set_option maxRecDepth 100000 in
theorem ancepsref45_Text.calls (k : Nat) (a0 : ByteArray) (a1 : ByteArray) (A2 : Option Addr) (c2 : Nat) (l2 : List Int) (r1 : ByteArray) (r2 : Int) (w : World) (hr2 : Kd.C (Kd.int .i64) w A2 l2.length l2) (hc2 : l2.length ≤ c2) (h : ancepsref45_Text.f k a0 a1 l2 = some (r1, r2)) :
    Calls Try.prog 25 #[.string a0, .string a1, .slice A2 l2.length c2] w fun e w' => e = .returned (.tuple #[.string r1, .int .i64 r2]) ∧ Drawn0 w w' := by
  have HR2 := Aside0.mk hr2
  have HC2 := Aside0.mk hc2
  clear hr2 hc2
  have H : ((ancepsref45_Given.f k a0 a1).bind fun t445 => (if t445 = 0 then ((ancepsref45_Cost.f k a0 a1 l2).bind fun bt446 => (if bt446.2 = true then (ancepsref45_Text.l0 k a0 a1 l2 (⟨#[]⟩ : ByteArray) (⟨#[]⟩ : ByteArray) (⟨#[]⟩ : ByteArray) 0 0 0) else (some ((⟨#[]⟩ : ByteArray), 1)))) else (some ((⟨#[]⟩ : ByteArray), t445)))) = some (r1, r2) := h
  clear h
  replace H := Option.bind_eq_some_iff.mp H
  obtain ⟨t445, A40, H⟩ := H
  replace H : (if t445 = 0 then ((ancepsref45_Cost.f k a0 a1 l2).bind fun bt446 => (if bt446.2 = true then (ancepsref45_Text.l0 k a0 a1 l2 (⟨#[]⟩ : ByteArray) (⟨#[]⟩ : ByteArray) (⟨#[]⟩ : ByteArray) 0 0 0) else (some ((⟨#[]⟩ : ByteArray), 1)))) else (some ((⟨#[]⟩ : ByteArray), t445))) = some (r1, r2) := H
  have A4 := Aside0.mk A40
  clear A40
  by_cases c5 : t445 = 0
  · rw [if_pos c5] at H
    have c5b0 : (t445 == 0) = true := beq_iff_eq.mpr c5
    have c5b1 : (t445 != 0) = false := bne_eq_false_iff_eq.mpr c5
    clear c5
    replace H := Option.bind_eq_some_iff.mp H
    obtain ⟨⟨t446, t447⟩, A60, H⟩ := H
    replace H : (if t447 = true then (ancepsref45_Text.l0 k a0 a1 l2 (⟨#[]⟩ : ByteArray) (⟨#[]⟩ : ByteArray) (⟨#[]⟩ : ByteArray) 0 0 0) else (some ((⟨#[]⟩ : ByteArray), 1))) = some (r1, r2) := H
    have A6 := Aside0.mk A60
    clear A60
    by_cases c7 : t447 = true
    · subst c7
      have H1 : (ancepsref45_Text.l0 k a0 a1 l2 (⟨#[]⟩ : ByteArray) (⟨#[]⟩ : ByteArray) (⟨#[]⟩ : ByteArray) 0 0 0) = some (r1, r2) := by rw [if_pos rfl] at H; exact H
      clear H
      have H := H1
      clear H1
      have H' := Aside0.mk H
      clear H
      go_enter Try.func25, Try.ntmps25
      go_wp2_with (first | (go_at_call 16; (with_reducible refine (ancepsref45_Given.calls k a0 a1 t445 _ A4.out).mono ?_); rintro e w' ⟨rfl, ⟨nd, rfl⟩⟩; (try first | exact ⟨rfl, _, World.drewN_drewN _ _ _⟩ | exact ⟨rfl, _, Eq.trans (World.drewN_drewN _ _ _) (congrArg (World.drewN _) (Nat.add_assoc _ _ _))⟩)) | (go_at_call 20; (with_reducible refine (ancepsref45_Cost.calls k a0 a1 _ _ l2 t446 true _ ?side1 ?side2 A6.out).mono ?_); (case side1 => repeat (first | exact HR2.out | (with_reducible refine Kd.C_alloc ?_ _) | (with_reducible refine Kd.C_drewN ?_ _) | (with_reducible refine Kd.C_drew ?_))); (case side2 => exact HC2.out); rintro e w' ⟨rfl, ⟨nd, rfl⟩⟩; (try first | exact ⟨rfl, _, World.drewN_drewN _ _ _⟩ | exact ⟨rfl, _, Eq.trans (World.drewN_drewN _ _ _) (congrArg (World.drewN _) (Nat.add_assoc _ _ _))⟩)))
      repeat (go_quiet (first | (go_at_call 16; (with_reducible refine (ancepsref45_Given.calls k a0 a1 t445 _ A4.out).mono ?_); (try clear A4); rintro e w' ⟨rfl, ⟨nd, rfl⟩⟩; (try first | exact ⟨rfl, _, World.drewN_drewN _ _ _⟩ | exact ⟨rfl, _, Eq.trans (World.drewN_drewN _ _ _) (congrArg (World.drewN _) (Nat.add_assoc _ _ _))⟩)) | (go_at_call 20; (with_reducible refine (ancepsref45_Cost.calls k a0 a1 _ _ l2 t446 true _ ?side1 ?side2 A6.out).mono ?_); (case side1 => repeat (first | exact HR2.out | (with_reducible refine Kd.C_alloc ?_ _) | (with_reducible refine Kd.C_drewN ?_ _) | (with_reducible refine Kd.C_drew ?_))); (case side2 => exact HC2.out); (try clear A6); rintro e w' ⟨rfl, ⟨nd, rfl⟩⟩; (try first | exact ⟨rfl, _, World.drewN_drewN _ _ _⟩ | exact ⟨rfl, _, Eq.trans (World.drewN_drewN _ _ _) (congrArg (World.drewN _) (Nat.add_assoc _ _ _))⟩))); try go_wp2_with (first | (go_at_call 16; (with_reducible refine (ancepsref45_Given.calls k a0 a1 t445 _ A4.out).mono ?_); (try clear A4); rintro e w' ⟨rfl, ⟨nd, rfl⟩⟩; (try first | exact ⟨rfl, _, World.drewN_drewN _ _ _⟩ | exact ⟨rfl, _, Eq.trans (World.drewN_drewN _ _ _) (congrArg (World.drewN _) (Nat.add_assoc _ _ _))⟩)) | (go_at_call 20; (with_reducible refine (ancepsref45_Cost.calls k a0 a1 _ _ l2 t446 true _ ?side1 ?side2 A6.out).mono ?_); (case side1 => repeat (first | exact HR2.out | (with_reducible refine Kd.C_alloc ?_ _) | (with_reducible refine Kd.C_drewN ?_ _) | (with_reducible refine Kd.C_drew ?_))); (case side2 => exact HC2.out); (try clear A6); rintro e w' ⟨rfl, ⟨nd, rfl⟩⟩; (try first | exact ⟨rfl, _, World.drewN_drewN _ _ _⟩ | exact ⟨rfl, _, Eq.trans (World.drewN_drewN _ _ _) (congrArg (World.drewN _) (Nat.add_assoc _ _ _))⟩))))
      go_loopg [11, 12, 13, 14, 15, 16] k (fun kq v11 v12 v13 v14 v15 v16 w' => ∃ (x11_1 : ByteArray) (x12_1 : ByteArray) (x13_1 : ByteArray) (x14_1 : Int) (x15_1 : Int) (x16_1 : Int), v11 = .string x11_1 ∧ v12 = .string x12_1 ∧ v13 = .string x13_1 ∧ v14 = .int .i64 x14_1 ∧ v15 = .int .i64 x15_1 ∧ v16 = .int .i64 x16_1 ∧ Aside0 (ancepsref45_Text.l0 kq a0 a1 l2 x11_1 x12_1 x13_1 x14_1 x15_1 x16_1 = some (r1, r2)) ∧ Aside0 (kq ≤ k) ∧ Drawn0 w w')
      case atStart => exact ⟨((⟨#[]⟩ : ByteArray)), ((⟨#[]⟩ : ByteArray)), ((⟨#[]⟩ : ByteArray)), (0), (0), (0), (by first | rfl | (simp; done) | (simp [*]; done)), (by first | rfl | (simp; done) | (simp [*]; done)), (by first | rfl | (simp; done) | (simp [*]; done)), (by first | rfl | (simp; done) | (simp [*]; done)), (by first | rfl | (simp; done) | (simp [*]; done)), (by first | rfl | (simp; done) | (simp [*]; done)), H', ⟨Nat.le_refl _⟩, by repeat (first | exact Drawn0.refl _ | apply Drawn0.step)⟩
      case round =>
        clear H'
        try clear c2
        try clear p2
        try clear c5
        try clear c5b0
        try clear c5b1
        try clear c7
        obtain ⟨x11_1, x12_1, x13_1, x14_1, x15_1, x16_1, rfl, rfl, rfl, rfl, rfl, rfl, HA, HK1, ⟨m1, rfl⟩⟩ := hrel
        cases gk with
        | zero => exact absurd HA.out (by simp [ancepsref45_Text.l0])
        | succ k1 =>
          have H := HA.out
          clear HA
          simp only [ancepsref45_Text.l0] at H
          by_cases c8 : x16_1 < (l2.length : Int)
          · rw [if_pos c8] at H
            have c8b0 : decide (x16_1 < (l2.length : Int)) = true := decide_eq_true c8
            clear c8
            by_cases c9 : 0 ≤ x16_1
            · rw [if_pos c9] at H
              have c9b0 : decide (0 ≤ x16_1) = true := decide_eq_true c9
              clear c9
              replace H := Option.bind_eq_some_iff.mp H
              obtain ⟨⟨t449, t450, t451, t452⟩, A100, H⟩ := H
              replace H : (if 0 ≤ x14_1 then (if x14_1 ≤ t449 then (if t449 ≤ (a0.size : Int) then (if 0 ≤ x15_1 then (if x15_1 ≤ t450 then (if t450 ≤ (a1.size : Int) then (if (rd l2 x16_1) = 0 then (ancepsref45_Text.j1 k1 a0 a1 l2 x11_1 x12_1 x13_1 x16_1 t449 t450 (a0.extract (x14_1 : Int).toNat (t449 : Int).toNat) (a1.extract (x15_1 : Int).toNat (t450 : Int).toNat) (⟨#[32]⟩ : ByteArray) (t451 == 0)) else (ancepsref45_Text.j1 k1 a0 a1 l2 x11_1 x12_1 x13_1 x16_1 t449 t450 (a0.extract (x14_1 : Int).toNat (t449 : Int).toNat) (a1.extract (x15_1 : Int).toNat (t450 : Int).toNat) (⟨#[32]⟩ : ByteArray) false)) else (none)) else (none)) else (none)) else (none)) else (none)) else (none)) = some (r1, r2) := H
              have A10 := Aside0.mk A100
              clear A100
              by_cases c11 : 0 ≤ x14_1
              · rw [if_pos c11] at H
                have c11b0 := eq_true c11
                have c11b1 : decide (0 ≤ x14_1) = true := decide_eq_true c11
                clear c11
                by_cases c12 : x14_1 ≤ t449
                · rw [if_pos c12] at H
                  have c12b0 := eq_true c12
                  have c12b1 : decide (x14_1 ≤ t449) = true := decide_eq_true c12
                  clear c12
                  by_cases c13 : t449 ≤ (a0.size : Int)
                  · rw [if_pos c13] at H
                    have c13b0 := eq_true c13
                    have c13b1 : decide (t449 ≤ (a0.size : Int)) = true := decide_eq_true c13
                    clear c13
                    by_cases c14 : 0 ≤ x15_1
                    · rw [if_pos c14] at H
                      have c14b0 := eq_true c14
                      have c14b1 : decide (0 ≤ x15_1) = true := decide_eq_true c14
                      clear c14
                      by_cases c15 : x15_1 ≤ t450
                      · rw [if_pos c15] at H
                        have c15b0 := eq_true c15
                        have c15b1 : decide (x15_1 ≤ t450) = true := decide_eq_true c15
                        clear c15
                        by_cases c16 : t450 ≤ (a1.size : Int)
                        · rw [if_pos c16] at H
                          have c16b0 := eq_true c16
                          have c16b1 : decide (t450 ≤ (a1.size : Int)) = true := decide_eq_true c16
                          clear c16
                          have HC17 := Aside0.mk H
                          clear H
                          have p448 : 0 ≤ (x16_1 : Int) := of_decide_eq_true (by first | (with_reducible assumption) | assumption)
                          have q448 : x16_1 < (l2.length : Int) := of_decide_eq_true (by first | (with_reducible assumption) | assumption)
                          obtain ⟨ad448, e448, hx448_0⟩ := Kd.at_int HR2.out x16_1 p448 q448
                          cases e448
                          replace p448 := eq_true p448
                          replace q448 := eq_true q448
                          go_upto_region 15 with (first | (go_at_call 45; (with_reducible refine (ancepsref45_Step.calls k1 a0 a1 x14_1 x15_1 (rd l2 x16_1) t449 t450 t451 t452 _ A10.out).mono ?_); rintro e w' ⟨rfl, ⟨nd, rfl⟩⟩; (try first | exact ⟨rfl, _, World.drewN_drewN _ _ _⟩ | exact ⟨rfl, _, Eq.trans (World.drewN_drewN _ _ _) (congrArg (World.drewN _) (Nat.add_assoc _ _ _))⟩)))
                          repeat (go_quiet (first | (go_at_call 45; (with_reducible refine (ancepsref45_Step.calls k1 a0 a1 x14_1 x15_1 (rd l2 x16_1) t449 t450 t451 t452 _ A10.out).mono ?_); (try clear A10); rintro e w' ⟨rfl, ⟨nd, rfl⟩⟩; (try first | exact ⟨rfl, _, World.drewN_drewN _ _ _⟩ | exact ⟨rfl, _, Eq.trans (World.drewN_drewN _ _ _) (congrArg (World.drewN _) (Nat.add_assoc _ _ _))⟩))); go_upto_region 15 with (first | (go_at_call 45; (with_reducible refine (ancepsref45_Step.calls k1 a0 a1 x14_1 x15_1 (rd l2 x16_1) t449 t450 t451 t452 _ A10.out).mono ?_); (try clear A10); rintro e w' ⟨rfl, ⟨nd, rfl⟩⟩; (try first | exact ⟨rfl, _, World.drewN_drewN _ _ _⟩ | exact ⟨rfl, _, Eq.trans (World.drewN_drewN _ _ _) (congrArg (World.drewN _) (Nat.add_assoc _ _ _))⟩))))
                          (try simp only [Act.put, List.setIfInBounds_toArray, List.set_cons_zero, List.set_cons_succ])
                          go_cut [67] (fun v67 wc => ∃ (kq : Nat) (x67_16 : Bool), v67 = .bool x67_16 ∧ Aside0 (ancepsref45_Text.j1 kq a0 a1 l2 x11_1 x12_1 x13_1 x16_1 t449 t450 (a0.extract (x14_1 : Int).toNat (t449 : Int).toNat) (a1.extract (x15_1 : Int).toNat (t450 : Int).toNat) (⟨#[32]⟩ : ByteArray) x67_16 = some (r1, r2)) ∧ Aside0 (kq ≤ k1) ∧ Drawn0 w wc)
                          case first =>
                            have H := HC17.out
                            clear HC17
                            by_cases c18 : (rd l2 x16_1) = 0
                            · rw [if_pos c18] at H
                              have c18b0 : ((rd l2 x16_1) == 0) = true := beq_iff_eq.mpr c18
                              have c18b1 : ((rd l2 x16_1) != 0) = false := bne_eq_false_iff_eq.mpr c18
                              clear c18
                              (first | rw [c18b0] | (simp only [i64_w, i32_w]; rw [c18b0]) | skip)
                              have H' := Aside0.mk H
                              clear H
                              have p453 : 0 ≤ (x16_1 : Int) := of_decide_eq_true (by first | (with_reducible assumption) | assumption)
                              have q453 : x16_1 < (l2.length : Int) := of_decide_eq_true (by first | (with_reducible assumption) | assumption)
                              obtain ⟨ad453, e453, hx453_0⟩ := Kd.at_int HR2.out x16_1 p453 q453
                              obtain rfl : ad448 = ad453 := (by injection e453)
                              replace p453 := eq_true p453
                              replace q453 := eq_true q453
                              go_wp2
                              repeat (go_quiet (fail); try go_wp2)
                              go_meet
                              case rel => exact ⟨_, ((t451 == 0)), (by first | rfl | (simp; done) | (simp [*]; done)), H', ⟨by have := HK1.out; first | omega | exact Nat.le_refl _⟩, by repeat (first | exact Drawn0.refl _ | apply Drawn0.step)⟩
                            · rw [if_neg c18] at H
                              have c18b0 : ((rd l2 x16_1) == 0) = false := beq_eq_false_iff_ne.mpr c18
                              have c18b1 : ((rd l2 x16_1) != 0) = true := bne_iff_ne.mpr c18
                              (first | rw [c18b0] | (simp only [i64_w, i32_w]; rw [c18b0]) | skip)
                              have H' := Aside0.mk H
                              clear H
                              have p453 : 0 ≤ (x16_1 : Int) := of_decide_eq_true (by first | (with_reducible assumption) | assumption)
                              have q453 : x16_1 < (l2.length : Int) := of_decide_eq_true (by first | (with_reducible assumption) | assumption)
                              obtain ⟨ad453, e453, hx453_0⟩ := Kd.at_int HR2.out x16_1 p453 q453
                              obtain rfl : ad448 = ad453 := (by injection e453)
                              replace p453 := eq_true p453
                              replace q453 := eq_true q453
                              go_wp2
                              repeat (go_quiet (fail); try go_wp2)
                              go_meet
                              case rel => exact ⟨_, (false), (by first | rfl | (simp; done) | (simp [*]; done)), H', ⟨by have := HK1.out; first | omega | exact Nat.le_refl _⟩, by repeat (first | exact Drawn0.refl _ | apply Drawn0.step)⟩
                          case rest =>
                            clear HC17
                            try clear c1
                            try clear c2
                            try clear p2
                            try clear p4
                            try clear q4
                            try clear hx4
                            try clear c5
                            try clear c5b0
                            try clear c5b1
                            try clear c7
                            try clear c8
                            try clear c8b0
                            try clear c9
                            try clear c9b0
                            try clear c11
                            try clear c11b0
                            try clear c11b1
                            try clear c12
                            try clear c12b0
                            try clear c12b1
                            try clear c13
                            try clear c13b0
                            try clear c13b1
                            try clear c14
                            try clear c14b0
                            try clear c14b1
                            try clear c15
                            try clear c15b0
                            try clear c15b1
                            try clear c16
                            try clear c16b0
                            try clear c16b1
                            try clear c18
                            try clear c18b0
                            try clear c18b1
                            try clear hx448_0
                            try clear hx453_0
                            try clear p2
                            try clear p448
                            try clear p453
                            try clear q448
                            try clear q453
                            obtain ⟨kq, x67_16, rfl, HA, HJ16, ⟨mc16, rfl⟩⟩ := hcut
                            cases kq with
                            | zero => exact absurd HA.out (by simp [ancepsref45_Text.j1])
                            | succ kj16 =>
                              have H := HA.out
                              clear HA
                              simp only [ancepsref45_Text.j1] at H
                              by_cases c19 : x67_16 = true
                              · subst c19
                                have H1 : (if x11_1.size + (a0.extract (x14_1 : Int).toNat (t449 : Int).toNat).size ≤ 9223372036854775807 then (if x12_1.size + 1 ≤ 9223372036854775807 then (if x13_1.size + (a1.extract (x15_1 : Int).toNat (t450 : Int).toNat).size ≤ 9223372036854775807 then (ancepsref45_Text.l0 kj16 a0 a1 l2 (x11_1 ++ (a0.extract (x14_1 : Int).toNat (t449 : Int).toNat)) (x12_1 ++ (⟨#[61]⟩ : ByteArray)) (x13_1 ++ (a1.extract (x15_1 : Int).toNat (t450 : Int).toNat)) t449 t450 (wrap64 (x16_1 + 1))) else (none)) else (none)) else (none)) = some (r1, r2) := by rw [if_pos rfl] at H; exact H
                                clear H
                                have H := H1
                                clear H1
                                by_cases c20 : x11_1.size + (a0.extract (x14_1 : Int).toNat (t449 : Int).toNat).size ≤ 9223372036854775807
                                · rw [if_pos c20] at H
                                  have c20b0 := eq_true c20
                                  have c20b1 : decide (x11_1.size + (a0.extract (x14_1 : Int).toNat (t449 : Int).toNat).size ≤ 9223372036854775807) = true := decide_eq_true c20
                                  try have c20b8 : (9223372036854775807 < x11_1.size + (min (t449 : Int).toNat a0.size - (x14_1 : Int).toNat)) = False := eq_false (by have h_ := c20; (try simp only [ByteArray.size_extract] at h_); first | exact Nat.not_lt.2 h_ | omega)
                                  try have c20b2 : (9223372036854775807 < x11_1.size + (a0.extract (x14_1 : Int).toNat (t449 : Int).toNat).size) = False := eq_false (Nat.not_lt.2 c20)
                                  try have c20b6 : (9223372036854775807 < x11_1.size + ((t449 : Int).toNat - (x14_1 : Int).toNat)) = False := eq_false (by have h_ := c20; (try simp only [ByteArray.size_append] at h_); (try simp only [ByteArray.size_extract] at h_); first | omega | (simp only [decide_eq_true_eq] at *; omega))
                                  by_cases c21 : x12_1.size + 1 ≤ 9223372036854775807
                                  · rw [if_pos c21] at H
                                    have c21b0 := eq_true c21
                                    have c21b1 : decide (x12_1.size + 1 ≤ 9223372036854775807) = true := decide_eq_true c21
                                    try have c21b2 : (9223372036854775807 < x12_1.size + 1) = False := eq_false (Nat.not_lt.2 c21)
                                    by_cases c22 : x13_1.size + (a1.extract (x15_1 : Int).toNat (t450 : Int).toNat).size ≤ 9223372036854775807
                                    · rw [if_pos c22] at H
                                      have c22b0 := eq_true c22
                                      have c22b1 : decide (x13_1.size + (a1.extract (x15_1 : Int).toNat (t450 : Int).toNat).size ≤ 9223372036854775807) = true := decide_eq_true c22
                                      try have c22b8 : (9223372036854775807 < x13_1.size + (min (t450 : Int).toNat a1.size - (x15_1 : Int).toNat)) = False := eq_false (by have h_ := c22; (try simp only [ByteArray.size_extract] at h_); first | exact Nat.not_lt.2 h_ | omega)
                                      try have c22b2 : (9223372036854775807 < x13_1.size + (a1.extract (x15_1 : Int).toNat (t450 : Int).toNat).size) = False := eq_false (Nat.not_lt.2 c22)
                                      try have c22b6 : (9223372036854775807 < x13_1.size + ((t450 : Int).toNat - (x15_1 : Int).toNat)) = False := eq_false (by have h_ := c22; (try simp only [ByteArray.size_append] at h_); (try simp only [ByteArray.size_extract] at h_); first | omega | (simp only [decide_eq_true_eq] at *; omega))
                                      have H' := Aside0.mk H
                                      clear H
                                      go_wp2
                                      repeat (go_quiet (fail); try go_wp2)
                                      go_roundg kj16
                                      case measure => have := HK1.out; have := HJ16.out; omega
                                      case rel => exact ⟨(x11_1 ++ (a0.extract (x14_1 : Int).toNat (t449 : Int).toNat)), (x12_1 ++ (⟨#[61]⟩ : ByteArray)), (x13_1 ++ (a1.extract (x15_1 : Int).toNat (t450 : Int).toNat)), (t449), (t450), (wrap64 (x16_1 + 1)), (by first | rfl | (simp; done) | (simp [*]; done)), (by first | rfl | (simp; done) | (simp [*]; done)), (by first | rfl | (simp; done) | (simp [*]; done)), (by first | rfl | (simp; done) | (simp [*]; done)), (by first | rfl | (simp; done) | (simp [*]; done)), (by first | rfl | (simp; done) | (simp [*]; done)), H', ⟨by have := HK1.out; have := HJ16.out; omega⟩, by repeat (first | exact Drawn0.refl _ | apply Drawn0.step)⟩
                                    · rw [if_neg c22] at H
                                      exact absurd H (by simp)
                                  · rw [if_neg c21] at H
                                    exact absurd H (by simp)
                                · rw [if_neg c20] at H
                                  exact absurd H (by simp)
                              · replace c19 := Bool.eq_false_iff.mpr c19
                                subst c19
                                have H1 : (if 0 ≤ x16_1 then (if x16_1 < (l2.length : Int) then (if (rd l2 x16_1) = 0 then (if x11_1.size + (a0.extract (x14_1 : Int).toNat (t449 : Int).toNat).size ≤ 9223372036854775807 then (if x12_1.size + 1 ≤ 9223372036854775807 then (if x13_1.size + (a1.extract (x15_1 : Int).toNat (t450 : Int).toNat).size ≤ 9223372036854775807 then (ancepsref45_Text.l0 kj16 a0 a1 l2 (x11_1 ++ (a0.extract (x14_1 : Int).toNat (t449 : Int).toNat)) (x12_1 ++ (⟨#[33]⟩ : ByteArray)) (x13_1 ++ (a1.extract (x15_1 : Int).toNat (t450 : Int).toNat)) t449 t450 (wrap64 (x16_1 + 1))) else (none)) else (none)) else (none)) else (if (rd l2 x16_1) = 1 then (if (a0.extract (x14_1 : Int).toNat (t449 : Int).toNat).size + 1 ≤ 9223372036854775807 then (if x11_1.size + ((a0.extract (x14_1 : Int).toNat (t449 : Int).toNat) ++ (⟨#[32]⟩ : ByteArray)).size ≤ 9223372036854775807 then (if x12_1.size + 2 ≤ 9223372036854775807 then (if x13_1.size + (a1.extract (x15_1 : Int).toNat (t450 : Int).toNat).size ≤ 9223372036854775807 then (ancepsref45_Text.l0 kj16 a0 a1 l2 (x11_1 ++ ((a0.extract (x14_1 : Int).toNat (t449 : Int).toNat) ++ (⟨#[32]⟩ : ByteArray))) (x12_1 ++ (⟨#[40, 41]⟩ : ByteArray)) (x13_1 ++ (a1.extract (x15_1 : Int).toNat (t450 : Int).toNat)) t449 t450 (wrap64 (x16_1 + 1))) else (none)) else (none)) else (none)) else (none)) else (if (rd l2 x16_1) = 2 then (if (a1.extract (x15_1 : Int).toNat (t450 : Int).toNat).size + 1 ≤ 9223372036854775807 then (if x11_1.size + (a0.extract (x14_1 : Int).toNat (t449 : Int).toNat).size ≤ 9223372036854775807 then (if x12_1.size + 2 ≤ 9223372036854775807 then (if x13_1.size + ((a1.extract (x15_1 : Int).toNat (t450 : Int).toNat) ++ (⟨#[32]⟩ : ByteArray)).size ≤ 9223372036854775807 then (ancepsref45_Text.l0 kj16 a0 a1 l2 (x11_1 ++ (a0.extract (x14_1 : Int).toNat (t449 : Int).toNat)) (x12_1 ++ (⟨#[40, 41]⟩ : ByteArray)) (x13_1 ++ ((a1.extract (x15_1 : Int).toNat (t450 : Int).toNat) ++ (⟨#[32]⟩ : ByteArray))) t449 t450 (wrap64 (x16_1 + 1))) else (none)) else (none)) else (none)) else (none)) else (if (rd l2 x16_1) = 3 then (if x11_1.size + (a0.extract (x14_1 : Int).toNat (t449 : Int).toNat).size ≤ 9223372036854775807 then (if x12_1.size + (⟨#[32]⟩ : ByteArray).size ≤ 9223372036854775807 then (if x13_1.size + 1 ≤ 9223372036854775807 then (ancepsref45_Text.l0 kj16 a0 a1 l2 (x11_1 ++ (a0.extract (x14_1 : Int).toNat (t449 : Int).toNat)) (x12_1 ++ (⟨#[32]⟩ : ByteArray)) (x13_1 ++ (⟨#[32]⟩ : ByteArray)) t449 t450 (wrap64 (x16_1 + 1))) else (none)) else (none)) else (none)) else (if x11_1.size + 1 ≤ 9223372036854775807 then (if x12_1.size + (⟨#[32]⟩ : ByteArray).size ≤ 9223372036854775807 then (if x13_1.size + (a1.extract (x15_1 : Int).toNat (t450 : Int).toNat).size ≤ 9223372036854775807 then (ancepsref45_Text.l0 kj16 a0 a1 l2 (x11_1 ++ (⟨#[32]⟩ : ByteArray)) (x12_1 ++ (⟨#[32]⟩ : ByteArray)) (x13_1 ++ (a1.extract (x15_1 : Int).toNat (t450 : Int).toNat)) t449 t450 (wrap64 (x16_1 + 1))) else (none)) else (none)) else (none)))))) else (none)) else (none)) = some (r1, r2) := by rw [if_neg (show ¬ (false = true) by decide)] at H; exact H
                                clear H
                                have H := H1
                                clear H1
                                by_cases c23 : 0 ≤ x16_1
                                · rw [if_pos c23] at H
                                  have c23b0 : decide (0 ≤ x16_1) = true := decide_eq_true c23
                                  clear c23
                                  by_cases c24 : x16_1 < (l2.length : Int)
                                  · rw [if_pos c24] at H
                                    have c24b0 : decide (x16_1 < (l2.length : Int)) = true := decide_eq_true c24
                                    clear c24
                                    by_cases c25 : (rd l2 x16_1) = 0
                                    · rw [if_pos c25] at H
                                      have c25b0 : ((rd l2 x16_1) == 0) = true := beq_iff_eq.mpr c25
                                      have c25b1 : ((rd l2 x16_1) != 0) = false := bne_eq_false_iff_eq.mpr c25
                                      clear c25
                                      by_cases c26 : x11_1.size + (a0.extract (x14_1 : Int).toNat (t449 : Int).toNat).size ≤ 9223372036854775807
                                      · rw [if_pos c26] at H
                                        have c26b0 := eq_true c26
                                        have c26b1 : decide (x11_1.size + (a0.extract (x14_1 : Int).toNat (t449 : Int).toNat).size ≤ 9223372036854775807) = true := decide_eq_true c26
                                        try have c26b8 : (9223372036854775807 < x11_1.size + (min (t449 : Int).toNat a0.size - (x14_1 : Int).toNat)) = False := eq_false (by have h_ := c26; (try simp only [ByteArray.size_extract] at h_); first | exact Nat.not_lt.2 h_ | omega)
                                        try have c26b2 : (9223372036854775807 < x11_1.size + (a0.extract (x14_1 : Int).toNat (t449 : Int).toNat).size) = False := eq_false (Nat.not_lt.2 c26)
                                        try have c26b6 : (9223372036854775807 < x11_1.size + ((t449 : Int).toNat - (x14_1 : Int).toNat)) = False := eq_false (by have h_ := c26; (try simp only [ByteArray.size_append] at h_); (try simp only [ByteArray.size_extract] at h_); first | omega | (simp only [decide_eq_true_eq] at *; omega))
                                        by_cases c27 : x12_1.size + 1 ≤ 9223372036854775807
                                        · rw [if_pos c27] at H
                                          have c27b0 := eq_true c27
                                          have c27b1 : decide (x12_1.size + 1 ≤ 9223372036854775807) = true := decide_eq_true c27
                                          try have c27b2 : (9223372036854775807 < x12_1.size + 1) = False := eq_false (Nat.not_lt.2 c27)
                                          by_cases c28 : x13_1.size + (a1.extract (x15_1 : Int).toNat (t450 : Int).toNat).size ≤ 9223372036854775807
                                          · rw [if_pos c28] at H
                                            have c28b0 := eq_true c28
                                            have c28b1 : decide (x13_1.size + (a1.extract (x15_1 : Int).toNat (t450 : Int).toNat).size ≤ 9223372036854775807) = true := decide_eq_true c28
                                            try have c28b8 : (9223372036854775807 < x13_1.size + (min (t450 : Int).toNat a1.size - (x15_1 : Int).toNat)) = False := eq_false (by have h_ := c28; (try simp only [ByteArray.size_extract] at h_); first | exact Nat.not_lt.2 h_ | omega)
                                            try have c28b2 : (9223372036854775807 < x13_1.size + (a1.extract (x15_1 : Int).toNat (t450 : Int).toNat).size) = False := eq_false (Nat.not_lt.2 c28)
                                            try have c28b6 : (9223372036854775807 < x13_1.size + ((t450 : Int).toNat - (x15_1 : Int).toNat)) = False := eq_false (by have h_ := c28; (try simp only [ByteArray.size_append] at h_); (try simp only [ByteArray.size_extract] at h_); first | omega | (simp only [decide_eq_true_eq] at *; omega))
                                            have H' := Aside0.mk H
                                            clear H
                                            have p454 : 0 ≤ (x16_1 : Int) := of_decide_eq_true (by first | (with_reducible assumption) | assumption)
                                            have q454 : x16_1 < (l2.length : Int) := of_decide_eq_true (by first | (with_reducible assumption) | assumption)
                                            obtain ⟨ad454, e454, hx454_0⟩ := Kd.at_int HR2.out x16_1 p454 q454
                                            obtain rfl : ad448 = ad454 := (by injection e454)
                                            replace p454 := eq_true p454
                                            replace q454 := eq_true q454
                                            go_wp2
                                            repeat (go_quiet (fail); try go_wp2)
                                            go_roundg kj16
                                            case measure => have := HK1.out; have := HJ16.out; omega
                                            case rel => exact ⟨(x11_1 ++ (a0.extract (x14_1 : Int).toNat (t449 : Int).toNat)), (x12_1 ++ (⟨#[33]⟩ : ByteArray)), (x13_1 ++ (a1.extract (x15_1 : Int).toNat (t450 : Int).toNat)), (t449), (t450), (wrap64 (x16_1 + 1)), (by first | rfl | (simp; done) | (simp [*]; done)), (by first | rfl | (simp; done) | (simp [*]; done)), (by first | rfl | (simp; done) | (simp [*]; done)), (by first | rfl | (simp; done) | (simp [*]; done)), (by first | rfl | (simp; done) | (simp [*]; done)), (by first | rfl | (simp; done) | (simp [*]; done)), H', ⟨by have := HK1.out; have := HJ16.out; omega⟩, by repeat (first | exact Drawn0.refl _ | apply Drawn0.step)⟩
                                          · rw [if_neg c28] at H
                                            exact absurd H (by simp)
                                        · rw [if_neg c27] at H
                                          exact absurd H (by simp)
                                      · rw [if_neg c26] at H
                                        exact absurd H (by simp)
                                    · rw [if_neg c25] at H
                                      have c25b0 : ((rd l2 x16_1) == 0) = false := beq_eq_false_iff_ne.mpr c25
                                      have c25b1 : ((rd l2 x16_1) != 0) = true := bne_iff_ne.mpr c25
                                      by_cases c29 : (rd l2 x16_1) = 1
                                      · rw [if_pos c29] at H
                                        have c29b0 : ((rd l2 x16_1) == 1) = true := beq_iff_eq.mpr c29
                                        have c29b1 : ((rd l2 x16_1) != 1) = false := bne_eq_false_iff_eq.mpr c29
                                        clear c29
                                        by_cases c30 : (a0.extract (x14_1 : Int).toNat (t449 : Int).toNat).size + 1 ≤ 9223372036854775807
                                        · rw [if_pos c30] at H
                                          have c30b0 := eq_true c30
                                          have c30b1 : decide ((a0.extract (x14_1 : Int).toNat (t449 : Int).toNat).size + 1 ≤ 9223372036854775807) = true := decide_eq_true c30
                                          try have c30b8 : (9223372036854775807 < (min (t449 : Int).toNat a0.size - (x14_1 : Int).toNat) + 1) = False := eq_false (by have h_ := c30; (try simp only [ByteArray.size_extract] at h_); first | exact Nat.not_lt.2 h_ | omega)
                                          try have c30b2 : (9223372036854775807 < (a0.extract (x14_1 : Int).toNat (t449 : Int).toNat).size + 1) = False := eq_false (Nat.not_lt.2 c30)
                                          try have c30b6 : (9223372036854775807 < ((t449 : Int).toNat - (x14_1 : Int).toNat) + 1) = False := eq_false (by have h_ := c30; (try simp only [ByteArray.size_append] at h_); (try simp only [ByteArray.size_extract] at h_); first | omega | (simp only [decide_eq_true_eq] at *; omega))
                                          by_cases c31 : x11_1.size + ((a0.extract (x14_1 : Int).toNat (t449 : Int).toNat) ++ (⟨#[32]⟩ : ByteArray)).size ≤ 9223372036854775807
                                          · rw [if_pos c31] at H
                                            have c31b0 := eq_true c31
                                            have c31b1 : decide (x11_1.size + ((a0.extract (x14_1 : Int).toNat (t449 : Int).toNat) ++ (⟨#[32]⟩ : ByteArray)).size ≤ 9223372036854775807) = true := decide_eq_true c31
                                            try have c31b2 : (9223372036854775807 < x11_1.size + ((a0.extract (x14_1 : Int).toNat (t449 : Int).toNat) ++ (⟨#[32]⟩ : ByteArray)).size) = False := eq_false (Nat.not_lt.2 c31)
                                            have c31b3 : x11_1.size + ((a0.extract (x14_1 : Int).toNat (t449 : Int).toNat).size + 1) ≤ 9223372036854775807 := by have h_ := c31; simp only [ByteArray.size_append] at h_; exact h_
                                            try have c31b8 : (9223372036854775807 < x11_1.size + ((min (t449 : Int).toNat a0.size - (x14_1 : Int).toNat) + 1)) = False := eq_false (by have h_ := c31b3; (try simp only [ByteArray.size_extract] at h_); first | exact Nat.not_lt.2 h_ | omega)
                                            have c31b4 : (9223372036854775807 < x11_1.size + ((a0.extract (x14_1 : Int).toNat (t449 : Int).toNat).size + 1)) = False := eq_false (Nat.not_lt.2 c31b3)
                                            have c31b5 : decide (x11_1.size + ((a0.extract (x14_1 : Int).toNat (t449 : Int).toNat).size + 1) ≤ 9223372036854775807) = true := decide_eq_true c31b3
                                            replace c31b3 := eq_true c31b3
                                            try have c31b6 : (9223372036854775807 < x11_1.size + ((a0.extract (x14_1 : Int).toNat (t449 : Int).toNat) ++ (⟨#[32]⟩ : ByteArray)).size) = False := eq_false (by have h_ := c31; (try simp only [ByteArray.size_append] at h_); (try simp only [ByteArray.size_extract] at h_); first | omega | (simp only [decide_eq_true_eq] at *; omega))
                                            try have c31b7 : (9223372036854775807 < x11_1.size + (((t449 : Int).toNat - (x14_1 : Int).toNat) + 1)) = False := eq_false (by have h_ := of_eq_true c31b3; (try simp only [ByteArray.size_extract] at h_); first | omega | (simp only [decide_eq_true_eq] at *; omega))
                                            by_cases c32 : x12_1.size + 2 ≤ 9223372036854775807
                                            · rw [if_pos c32] at H
                                              have c32b0 := eq_true c32
                                              have c32b1 : decide (x12_1.size + 2 ≤ 9223372036854775807) = true := decide_eq_true c32
                                              try have c32b2 : (9223372036854775807 < x12_1.size + 2) = False := eq_false (Nat.not_lt.2 c32)
                                              by_cases c33 : x13_1.size + (a1.extract (x15_1 : Int).toNat (t450 : Int).toNat).size ≤ 9223372036854775807
                                              · rw [if_pos c33] at H
                                                have c33b0 := eq_true c33
                                                have c33b1 : decide (x13_1.size + (a1.extract (x15_1 : Int).toNat (t450 : Int).toNat).size ≤ 9223372036854775807) = true := decide_eq_true c33
                                                try have c33b8 : (9223372036854775807 < x13_1.size + (min (t450 : Int).toNat a1.size - (x15_1 : Int).toNat)) = False := eq_false (by have h_ := c33; (try simp only [ByteArray.size_extract] at h_); first | exact Nat.not_lt.2 h_ | omega)
                                                try have c33b2 : (9223372036854775807 < x13_1.size + (a1.extract (x15_1 : Int).toNat (t450 : Int).toNat).size) = False := eq_false (Nat.not_lt.2 c33)
                                                try have c33b6 : (9223372036854775807 < x13_1.size + ((t450 : Int).toNat - (x15_1 : Int).toNat)) = False := eq_false (by have h_ := c33; (try simp only [ByteArray.size_append] at h_); (try simp only [ByteArray.size_extract] at h_); first | omega | (simp only [decide_eq_true_eq] at *; omega))
                                                have H' := Aside0.mk H
                                                clear H
                                                have p454 : 0 ≤ (x16_1 : Int) := of_decide_eq_true (by first | (with_reducible assumption) | assumption)
                                                have q454 : x16_1 < (l2.length : Int) := of_decide_eq_true (by first | (with_reducible assumption) | assumption)
                                                obtain ⟨ad454, e454, hx454_0⟩ := Kd.at_int HR2.out x16_1 p454 q454
                                                obtain rfl : ad448 = ad454 := (by injection e454)
                                                replace p454 := eq_true p454
                                                replace q454 := eq_true q454
                                                have p455 : 0 ≤ (x16_1 : Int) := of_decide_eq_true (by first | (with_reducible assumption) | assumption)
                                                have q455 : x16_1 < (l2.length : Int) := of_decide_eq_true (by first | (with_reducible assumption) | assumption)
                                                obtain ⟨ad455, e455, hx455_0⟩ := Kd.at_int HR2.out x16_1 p455 q455
                                                obtain rfl : ad448 = ad455 := (by injection e455)
                                                replace p455 := eq_true p455
                                                replace q455 := eq_true q455
                                                go_wp2
                                                repeat (go_quiet (fail); try go_wp2)
                                                go_roundg kj16
                                                case measure => have := HK1.out; have := HJ16.out; omega
                                                case rel => exact ⟨(x11_1 ++ ((a0.extract (x14_1 : Int).toNat (t449 : Int).toNat) ++ (⟨#[32]⟩ : ByteArray))), (x12_1 ++ (⟨#[40, 41]⟩ : ByteArray)), (x13_1 ++ (a1.extract (x15_1 : Int).toNat (t450 : Int).toNat)), (t449), (t450), (wrap64 (x16_1 + 1)), (by first | rfl | (simp; done) | (simp [*]; done)), (by first | rfl | (simp; done) | (simp [*]; done)), (by first | rfl | (simp; done) | (simp [*]; done)), (by first | rfl | (simp; done) | (simp [*]; done)), (by first | rfl | (simp; done) | (simp [*]; done)), (by first | rfl | (simp; done) | (simp [*]; done)), H', ⟨by have := HK1.out; have := HJ16.out; omega⟩, by repeat (first | exact Drawn0.refl _ | apply Drawn0.step)⟩
                                              · rw [if_neg c33] at H
                                                exact absurd H (by simp)
                                            · rw [if_neg c32] at H
                                              exact absurd H (by simp)
                                          · rw [if_neg c31] at H
                                            exact absurd H (by simp)
                                        · rw [if_neg c30] at H
                                          exact absurd H (by simp)
                                      · rw [if_neg c29] at H
                                        have c29b0 : ((rd l2 x16_1) == 1) = false := beq_eq_false_iff_ne.mpr c29
                                        have c29b1 : ((rd l2 x16_1) != 1) = true := bne_iff_ne.mpr c29
                                        by_cases c34 : (rd l2 x16_1) = 2
                                        · rw [if_pos c34] at H
                                          have c34b0 : ((rd l2 x16_1) == 2) = true := beq_iff_eq.mpr c34
                                          have c34b1 : ((rd l2 x16_1) != 2) = false := bne_eq_false_iff_eq.mpr c34
                                          clear c34
                                          by_cases c35 : (a1.extract (x15_1 : Int).toNat (t450 : Int).toNat).size + 1 ≤ 9223372036854775807
                                          · rw [if_pos c35] at H
                                            have c35b0 := eq_true c35
                                            have c35b1 : decide ((a1.extract (x15_1 : Int).toNat (t450 : Int).toNat).size + 1 ≤ 9223372036854775807) = true := decide_eq_true c35
                                            try have c35b8 : (9223372036854775807 < (min (t450 : Int).toNat a1.size - (x15_1 : Int).toNat) + 1) = False := eq_false (by have h_ := c35; (try simp only [ByteArray.size_extract] at h_); first | exact Nat.not_lt.2 h_ | omega)
                                            try have c35b2 : (9223372036854775807 < (a1.extract (x15_1 : Int).toNat (t450 : Int).toNat).size + 1) = False := eq_false (Nat.not_lt.2 c35)
                                            try have c35b6 : (9223372036854775807 < ((t450 : Int).toNat - (x15_1 : Int).toNat) + 1) = False := eq_false (by have h_ := c35; (try simp only [ByteArray.size_append] at h_); (try simp only [ByteArray.size_extract] at h_); first | omega | (simp only [decide_eq_true_eq] at *; omega))
                                            by_cases c36 : x11_1.size + (a0.extract (x14_1 : Int).toNat (t449 : Int).toNat).size ≤ 9223372036854775807
                                            · rw [if_pos c36] at H
                                              have c36b0 := eq_true c36
                                              have c36b1 : decide (x11_1.size + (a0.extract (x14_1 : Int).toNat (t449 : Int).toNat).size ≤ 9223372036854775807) = true := decide_eq_true c36
                                              try have c36b8 : (9223372036854775807 < x11_1.size + (min (t449 : Int).toNat a0.size - (x14_1 : Int).toNat)) = False := eq_false (by have h_ := c36; (try simp only [ByteArray.size_extract] at h_); first | exact Nat.not_lt.2 h_ | omega)
                                              try have c36b2 : (9223372036854775807 < x11_1.size + (a0.extract (x14_1 : Int).toNat (t449 : Int).toNat).size) = False := eq_false (Nat.not_lt.2 c36)
                                              try have c36b6 : (9223372036854775807 < x11_1.size + ((t449 : Int).toNat - (x14_1 : Int).toNat)) = False := eq_false (by have h_ := c36; (try simp only [ByteArray.size_append] at h_); (try simp only [ByteArray.size_extract] at h_); first | omega | (simp only [decide_eq_true_eq] at *; omega))
                                              by_cases c37 : x12_1.size + 2 ≤ 9223372036854775807
                                              · rw [if_pos c37] at H
                                                have c37b0 := eq_true c37
                                                have c37b1 : decide (x12_1.size + 2 ≤ 9223372036854775807) = true := decide_eq_true c37
                                                try have c37b2 : (9223372036854775807 < x12_1.size + 2) = False := eq_false (Nat.not_lt.2 c37)
                                                by_cases c38 : x13_1.size + ((a1.extract (x15_1 : Int).toNat (t450 : Int).toNat) ++ (⟨#[32]⟩ : ByteArray)).size ≤ 9223372036854775807
                                                · rw [if_pos c38] at H
                                                  have c38b0 := eq_true c38
                                                  have c38b1 : decide (x13_1.size + ((a1.extract (x15_1 : Int).toNat (t450 : Int).toNat) ++ (⟨#[32]⟩ : ByteArray)).size ≤ 9223372036854775807) = true := decide_eq_true c38
                                                  try have c38b2 : (9223372036854775807 < x13_1.size + ((a1.extract (x15_1 : Int).toNat (t450 : Int).toNat) ++ (⟨#[32]⟩ : ByteArray)).size) = False := eq_false (Nat.not_lt.2 c38)
                                                  have c38b3 : x13_1.size + ((a1.extract (x15_1 : Int).toNat (t450 : Int).toNat).size + 1) ≤ 9223372036854775807 := by have h_ := c38; simp only [ByteArray.size_append] at h_; exact h_
                                                  try have c38b8 : (9223372036854775807 < x13_1.size + ((min (t450 : Int).toNat a1.size - (x15_1 : Int).toNat) + 1)) = False := eq_false (by have h_ := c38b3; (try simp only [ByteArray.size_extract] at h_); first | exact Nat.not_lt.2 h_ | omega)
                                                  have c38b4 : (9223372036854775807 < x13_1.size + ((a1.extract (x15_1 : Int).toNat (t450 : Int).toNat).size + 1)) = False := eq_false (Nat.not_lt.2 c38b3)
                                                  have c38b5 : decide (x13_1.size + ((a1.extract (x15_1 : Int).toNat (t450 : Int).toNat).size + 1) ≤ 9223372036854775807) = true := decide_eq_true c38b3
                                                  replace c38b3 := eq_true c38b3
                                                  try have c38b6 : (9223372036854775807 < x13_1.size + ((a1.extract (x15_1 : Int).toNat (t450 : Int).toNat) ++ (⟨#[32]⟩ : ByteArray)).size) = False := eq_false (by have h_ := c38; (try simp only [ByteArray.size_append] at h_); (try simp only [ByteArray.size_extract] at h_); first | omega | (simp only [decide_eq_true_eq] at *; omega))
                                                  try have c38b7 : (9223372036854775807 < x13_1.size + (((t450 : Int).toNat - (x15_1 : Int).toNat) + 1)) = False := eq_false (by have h_ := of_eq_true c38b3; (try simp only [ByteArray.size_extract] at h_); first | omega | (simp only [decide_eq_true_eq] at *; omega))
                                                  have H' := Aside0.mk H
                                                  clear H
                                                  have p454 : 0 ≤ (x16_1 : Int) := of_decide_eq_true (by first | (with_reducible assumption) | assumption)
                                                  have q454 : x16_1 < (l2.length : Int) := of_decide_eq_true (by first | (with_reducible assumption) | assumption)
                                                  obtain ⟨ad454, e454, hx454_0⟩ := Kd.at_int HR2.out x16_1 p454 q454
                                                  obtain rfl : ad448 = ad454 := (by injection e454)
                                                  replace p454 := eq_true p454
                                                  replace q454 := eq_true q454
                                                  have p455 : 0 ≤ (x16_1 : Int) := of_decide_eq_true (by first | (with_reducible assumption) | assumption)
                                                  have q455 : x16_1 < (l2.length : Int) := of_decide_eq_true (by first | (with_reducible assumption) | assumption)
                                                  obtain ⟨ad455, e455, hx455_0⟩ := Kd.at_int HR2.out x16_1 p455 q455
                                                  obtain rfl : ad448 = ad455 := (by injection e455)
                                                  replace p455 := eq_true p455
                                                  replace q455 := eq_true q455
                                                  have p456 : 0 ≤ (x16_1 : Int) := of_decide_eq_true (by first | (with_reducible assumption) | assumption)
                                                  have q456 : x16_1 < (l2.length : Int) := of_decide_eq_true (by first | (with_reducible assumption) | assumption)
                                                  obtain ⟨ad456, e456, hx456_0⟩ := Kd.at_int HR2.out x16_1 p456 q456
                                                  obtain rfl : ad448 = ad456 := (by injection e456)
                                                  replace p456 := eq_true p456
                                                  replace q456 := eq_true q456
                                                  go_wp2
                                                  repeat (go_quiet (fail); try go_wp2)
                                                  go_roundg kj16
                                                  case measure => have := HK1.out; have := HJ16.out; omega
                                                  case rel => exact ⟨(x11_1 ++ (a0.extract (x14_1 : Int).toNat (t449 : Int).toNat)), (x12_1 ++ (⟨#[40, 41]⟩ : ByteArray)), (x13_1 ++ ((a1.extract (x15_1 : Int).toNat (t450 : Int).toNat) ++ (⟨#[32]⟩ : ByteArray))), (t449), (t450), (wrap64 (x16_1 + 1)), (by first | rfl | (simp; done) | (simp [*]; done)), (by first | rfl | (simp; done) | (simp [*]; done)), (by first | rfl | (simp; done) | (simp [*]; done)), (by first | rfl | (simp; done) | (simp [*]; done)), (by first | rfl | (simp; done) | (simp [*]; done)), (by first | rfl | (simp; done) | (simp [*]; done)), H', ⟨by have := HK1.out; have := HJ16.out; omega⟩, by repeat (first | exact Drawn0.refl _ | apply Drawn0.step)⟩
                                                · rw [if_neg c38] at H
                                                  exact absurd H (by simp)
                                              · rw [if_neg c37] at H
                                                exact absurd H (by simp)
                                            · rw [if_neg c36] at H
                                              exact absurd H (by simp)
                                          · rw [if_neg c35] at H
                                            exact absurd H (by simp)
                                        · rw [if_neg c34] at H
                                          have c34b0 : ((rd l2 x16_1) == 2) = false := beq_eq_false_iff_ne.mpr c34
                                          have c34b1 : ((rd l2 x16_1) != 2) = true := bne_iff_ne.mpr c34
                                          by_cases c39 : (rd l2 x16_1) = 3
                                          · rw [if_pos c39] at H
                                            have c39b0 : ((rd l2 x16_1) == 3) = true := beq_iff_eq.mpr c39
                                            have c39b1 : ((rd l2 x16_1) != 3) = false := bne_eq_false_iff_eq.mpr c39
                                            clear c39
                                            by_cases c40 : x11_1.size + (a0.extract (x14_1 : Int).toNat (t449 : Int).toNat).size ≤ 9223372036854775807
                                            · rw [if_pos c40] at H
                                              have c40b0 := eq_true c40
                                              have c40b1 : decide (x11_1.size + (a0.extract (x14_1 : Int).toNat (t449 : Int).toNat).size ≤ 9223372036854775807) = true := decide_eq_true c40
                                              try have c40b8 : (9223372036854775807 < x11_1.size + (min (t449 : Int).toNat a0.size - (x14_1 : Int).toNat)) = False := eq_false (by have h_ := c40; (try simp only [ByteArray.size_extract] at h_); first | exact Nat.not_lt.2 h_ | omega)
                                              try have c40b2 : (9223372036854775807 < x11_1.size + (a0.extract (x14_1 : Int).toNat (t449 : Int).toNat).size) = False := eq_false (Nat.not_lt.2 c40)
                                              try have c40b6 : (9223372036854775807 < x11_1.size + ((t449 : Int).toNat - (x14_1 : Int).toNat)) = False := eq_false (by have h_ := c40; (try simp only [ByteArray.size_append] at h_); (try simp only [ByteArray.size_extract] at h_); first | omega | (simp only [decide_eq_true_eq] at *; omega))
                                              by_cases c41 : x12_1.size + (⟨#[32]⟩ : ByteArray).size ≤ 9223372036854775807
                                              · rw [if_pos c41] at H
                                                have c41b0 := eq_true c41
                                                have c41b1 : decide (x12_1.size + (⟨#[32]⟩ : ByteArray).size ≤ 9223372036854775807) = true := decide_eq_true c41
                                                try have c41b2 : (9223372036854775807 < x12_1.size + (⟨#[32]⟩ : ByteArray).size) = False := eq_false (Nat.not_lt.2 c41)
                                                by_cases c42 : x13_1.size + 1 ≤ 9223372036854775807
                                                · rw [if_pos c42] at H
                                                  have c42b0 := eq_true c42
                                                  have c42b1 : decide (x13_1.size + 1 ≤ 9223372036854775807) = true := decide_eq_true c42
                                                  try have c42b2 : (9223372036854775807 < x13_1.size + 1) = False := eq_false (Nat.not_lt.2 c42)
                                                  have H' := Aside0.mk H
                                                  clear H
                                                  have p454 : 0 ≤ (x16_1 : Int) := of_decide_eq_true (by first | (with_reducible assumption) | assumption)
                                                  have q454 : x16_1 < (l2.length : Int) := of_decide_eq_true (by first | (with_reducible assumption) | assumption)
                                                  obtain ⟨ad454, e454, hx454_0⟩ := Kd.at_int HR2.out x16_1 p454 q454
                                                  obtain rfl : ad448 = ad454 := (by injection e454)
                                                  replace p454 := eq_true p454
                                                  replace q454 := eq_true q454
                                                  have p455 : 0 ≤ (x16_1 : Int) := of_decide_eq_true (by first | (with_reducible assumption) | assumption)
                                                  have q455 : x16_1 < (l2.length : Int) := of_decide_eq_true (by first | (with_reducible assumption) | assumption)
                                                  obtain ⟨ad455, e455, hx455_0⟩ := Kd.at_int HR2.out x16_1 p455 q455
                                                  obtain rfl : ad448 = ad455 := (by injection e455)
                                                  replace p455 := eq_true p455
                                                  replace q455 := eq_true q455
                                                  have p456 : 0 ≤ (x16_1 : Int) := of_decide_eq_true (by first | (with_reducible assumption) | assumption)
                                                  have q456 : x16_1 < (l2.length : Int) := of_decide_eq_true (by first | (with_reducible assumption) | assumption)
                                                  obtain ⟨ad456, e456, hx456_0⟩ := Kd.at_int HR2.out x16_1 p456 q456
                                                  obtain rfl : ad448 = ad456 := (by injection e456)
                                                  replace p456 := eq_true p456
                                                  replace q456 := eq_true q456
                                                  have p457 : 0 ≤ (x16_1 : Int) := of_decide_eq_true (by first | (with_reducible assumption) | assumption)
                                                  have q457 : x16_1 < (l2.length : Int) := of_decide_eq_true (by first | (with_reducible assumption) | assumption)
                                                  obtain ⟨ad457, e457, hx457_0⟩ := Kd.at_int HR2.out x16_1 p457 q457
                                                  obtain rfl : ad448 = ad457 := (by injection e457)
                                                  replace p457 := eq_true p457
                                                  replace q457 := eq_true q457
                                                  go_wp2
                                                  repeat (go_quiet (fail); try go_wp2)
                                                  go_roundg kj16
                                                  case measure => have := HK1.out; have := HJ16.out; omega
                                                  case rel => exact ⟨(x11_1 ++ (a0.extract (x14_1 : Int).toNat (t449 : Int).toNat)), (x12_1 ++ (⟨#[32]⟩ : ByteArray)), (x13_1 ++ (⟨#[32]⟩ : ByteArray)), (t449), (t450), (wrap64 (x16_1 + 1)), (by first | rfl | (simp; done) | (simp [*]; done)), (by first | rfl | (simp; done) | (simp [*]; done)), (by first | rfl | (simp; done) | (simp [*]; done)), (by first | rfl | (simp; done) | (simp [*]; done)), (by first | rfl | (simp; done) | (simp [*]; done)), (by first | rfl | (simp; done) | (simp [*]; done)), H', ⟨by have := HK1.out; have := HJ16.out; omega⟩, by repeat (first | exact Drawn0.refl _ | apply Drawn0.step)⟩
                                                · rw [if_neg c42] at H
                                                  exact absurd H (by simp)
                                              · rw [if_neg c41] at H
                                                exact absurd H (by simp)
                                            · rw [if_neg c40] at H
                                              exact absurd H (by simp)
                                          · rw [if_neg c39] at H
                                            have c39b0 : ((rd l2 x16_1) == 3) = false := beq_eq_false_iff_ne.mpr c39
                                            have c39b1 : ((rd l2 x16_1) != 3) = true := bne_iff_ne.mpr c39
                                            by_cases c43 : x11_1.size + 1 ≤ 9223372036854775807
                                            · rw [if_pos c43] at H
                                              have c43b0 := eq_true c43
                                              have c43b1 : decide (x11_1.size + 1 ≤ 9223372036854775807) = true := decide_eq_true c43
                                              try have c43b2 : (9223372036854775807 < x11_1.size + 1) = False := eq_false (Nat.not_lt.2 c43)
                                              by_cases c44 : x12_1.size + (⟨#[32]⟩ : ByteArray).size ≤ 9223372036854775807
                                              · rw [if_pos c44] at H
                                                have c44b0 := eq_true c44
                                                have c44b1 : decide (x12_1.size + (⟨#[32]⟩ : ByteArray).size ≤ 9223372036854775807) = true := decide_eq_true c44
                                                try have c44b2 : (9223372036854775807 < x12_1.size + (⟨#[32]⟩ : ByteArray).size) = False := eq_false (Nat.not_lt.2 c44)
                                                by_cases c45 : x13_1.size + (a1.extract (x15_1 : Int).toNat (t450 : Int).toNat).size ≤ 9223372036854775807
                                                · rw [if_pos c45] at H
                                                  have c45b0 := eq_true c45
                                                  have c45b1 : decide (x13_1.size + (a1.extract (x15_1 : Int).toNat (t450 : Int).toNat).size ≤ 9223372036854775807) = true := decide_eq_true c45
                                                  try have c45b8 : (9223372036854775807 < x13_1.size + (min (t450 : Int).toNat a1.size - (x15_1 : Int).toNat)) = False := eq_false (by have h_ := c45; (try simp only [ByteArray.size_extract] at h_); first | exact Nat.not_lt.2 h_ | omega)
                                                  try have c45b2 : (9223372036854775807 < x13_1.size + (a1.extract (x15_1 : Int).toNat (t450 : Int).toNat).size) = False := eq_false (Nat.not_lt.2 c45)
                                                  try have c45b6 : (9223372036854775807 < x13_1.size + ((t450 : Int).toNat - (x15_1 : Int).toNat)) = False := eq_false (by have h_ := c45; (try simp only [ByteArray.size_append] at h_); (try simp only [ByteArray.size_extract] at h_); first | omega | (simp only [decide_eq_true_eq] at *; omega))
                                                  have H' := Aside0.mk H
                                                  clear H
                                                  have p454 : 0 ≤ (x16_1 : Int) := of_decide_eq_true (by first | (with_reducible assumption) | assumption)
                                                  have q454 : x16_1 < (l2.length : Int) := of_decide_eq_true (by first | (with_reducible assumption) | assumption)
                                                  obtain ⟨ad454, e454, hx454_0⟩ := Kd.at_int HR2.out x16_1 p454 q454
                                                  obtain rfl : ad448 = ad454 := (by injection e454)
                                                  replace p454 := eq_true p454
                                                  replace q454 := eq_true q454
                                                  have p455 : 0 ≤ (x16_1 : Int) := of_decide_eq_true (by first | (with_reducible assumption) | assumption)
                                                  have q455 : x16_1 < (l2.length : Int) := of_decide_eq_true (by first | (with_reducible assumption) | assumption)
                                                  obtain ⟨ad455, e455, hx455_0⟩ := Kd.at_int HR2.out x16_1 p455 q455
                                                  obtain rfl : ad448 = ad455 := (by injection e455)
                                                  replace p455 := eq_true p455
                                                  replace q455 := eq_true q455
                                                  have p456 : 0 ≤ (x16_1 : Int) := of_decide_eq_true (by first | (with_reducible assumption) | assumption)
                                                  have q456 : x16_1 < (l2.length : Int) := of_decide_eq_true (by first | (with_reducible assumption) | assumption)
                                                  obtain ⟨ad456, e456, hx456_0⟩ := Kd.at_int HR2.out x16_1 p456 q456
                                                  obtain rfl : ad448 = ad456 := (by injection e456)
                                                  replace p456 := eq_true p456
                                                  replace q456 := eq_true q456
                                                  have p457 : 0 ≤ (x16_1 : Int) := of_decide_eq_true (by first | (with_reducible assumption) | assumption)
                                                  have q457 : x16_1 < (l2.length : Int) := of_decide_eq_true (by first | (with_reducible assumption) | assumption)
                                                  obtain ⟨ad457, e457, hx457_0⟩ := Kd.at_int HR2.out x16_1 p457 q457
                                                  obtain rfl : ad448 = ad457 := (by injection e457)
                                                  replace p457 := eq_true p457
                                                  replace q457 := eq_true q457
                                                  go_wp2
                                                  repeat (go_quiet (fail); try go_wp2)
                                                  go_roundg kj16
                                                  case measure => have := HK1.out; have := HJ16.out; omega
                                                  case rel => exact ⟨(x11_1 ++ (⟨#[32]⟩ : ByteArray)), (x12_1 ++ (⟨#[32]⟩ : ByteArray)), (x13_1 ++ (a1.extract (x15_1 : Int).toNat (t450 : Int).toNat)), (t449), (t450), (wrap64 (x16_1 + 1)), (by first | rfl | (simp; done) | (simp [*]; done)), (by first | rfl | (simp; done) | (simp [*]; done)), (by first | rfl | (simp; done) | (simp [*]; done)), (by first | rfl | (simp; done) | (simp [*]; done)), (by first | rfl | (simp; done) | (simp [*]; done)), (by first | rfl | (simp; done) | (simp [*]; done)), H', ⟨by have := HK1.out; have := HJ16.out; omega⟩, by repeat (first | exact Drawn0.refl _ | apply Drawn0.step)⟩
                                                · rw [if_neg c45] at H
                                                  exact absurd H (by simp)
                                              · rw [if_neg c44] at H
                                                exact absurd H (by simp)
                                            · rw [if_neg c43] at H
                                              exact absurd H (by simp)
                                  · rw [if_neg c24] at H
                                    exact absurd H (by simp)
                                · rw [if_neg c23] at H
                                  exact absurd H (by simp)
                        · rw [if_neg c16] at H
                          exact absurd H (by simp)
                      · rw [if_neg c15] at H
                        exact absurd H (by simp)
                    · rw [if_neg c14] at H
                      exact absurd H (by simp)
                  · rw [if_neg c13] at H
                    exact absurd H (by simp)
                · rw [if_neg c12] at H
                  exact absurd H (by simp)
              · rw [if_neg c11] at H
                exact absurd H (by simp)
            · rw [if_neg c9] at H
              exact absurd H (by simp)
          · rw [if_neg c8] at H
            have c8b0 : decide (x16_1 < (l2.length : Int)) = false := decide_eq_false c8
            clear c8
            by_cases c46 : x11_1.size + 1 ≤ 9223372036854775807
            · rw [if_pos c46] at H
              have c46b0 := eq_true c46
              have c46b1 : decide (x11_1.size + 1 ≤ 9223372036854775807) = true := decide_eq_true c46
              try have c46b2 : (9223372036854775807 < x11_1.size + 1) = False := eq_false (Nat.not_lt.2 c46)
              by_cases c47 : (x11_1 ++ (⟨#[10]⟩ : ByteArray)).size + x12_1.size ≤ 9223372036854775807
              · rw [if_pos c47] at H
                have c47b0 := eq_true c47
                have c47b1 : decide ((x11_1 ++ (⟨#[10]⟩ : ByteArray)).size + x12_1.size ≤ 9223372036854775807) = true := decide_eq_true c47
                try have c47b2 : (9223372036854775807 < (x11_1 ++ (⟨#[10]⟩ : ByteArray)).size + x12_1.size) = False := eq_false (Nat.not_lt.2 c47)
                have c47b3 : x11_1.size + 1 + x12_1.size ≤ 9223372036854775807 := by have h_ := c47; simp only [ByteArray.size_append] at h_; exact h_
                have c47b4 : (9223372036854775807 < x11_1.size + 1 + x12_1.size) = False := eq_false (Nat.not_lt.2 c47b3)
                have c47b5 : decide (x11_1.size + 1 + x12_1.size ≤ 9223372036854775807) = true := decide_eq_true c47b3
                replace c47b3 := eq_true c47b3
                by_cases c48 : ((x11_1 ++ (⟨#[10]⟩ : ByteArray)) ++ x12_1).size + 1 ≤ 9223372036854775807
                · rw [if_pos c48] at H
                  have c48b0 := eq_true c48
                  have c48b1 : decide (((x11_1 ++ (⟨#[10]⟩ : ByteArray)) ++ x12_1).size + 1 ≤ 9223372036854775807) = true := decide_eq_true c48
                  try have c48b2 : (9223372036854775807 < ((x11_1 ++ (⟨#[10]⟩ : ByteArray)) ++ x12_1).size + 1) = False := eq_false (Nat.not_lt.2 c48)
                  have c48b3 : x11_1.size + 1 + x12_1.size + 1 ≤ 9223372036854775807 := by have h_ := c48; simp only [ByteArray.size_append] at h_; exact h_
                  have c48b4 : (9223372036854775807 < x11_1.size + 1 + x12_1.size + 1) = False := eq_false (Nat.not_lt.2 c48b3)
                  have c48b5 : decide (x11_1.size + 1 + x12_1.size + 1 ≤ 9223372036854775807) = true := decide_eq_true c48b3
                  replace c48b3 := eq_true c48b3
                  by_cases c49 : (((x11_1 ++ (⟨#[10]⟩ : ByteArray)) ++ x12_1) ++ (⟨#[10]⟩ : ByteArray)).size + x13_1.size ≤ 9223372036854775807
                  · rw [if_pos c49] at H
                    have c49b0 := eq_true c49
                    have c49b1 : decide ((((x11_1 ++ (⟨#[10]⟩ : ByteArray)) ++ x12_1) ++ (⟨#[10]⟩ : ByteArray)).size + x13_1.size ≤ 9223372036854775807) = true := decide_eq_true c49
                    try have c49b2 : (9223372036854775807 < (((x11_1 ++ (⟨#[10]⟩ : ByteArray)) ++ x12_1) ++ (⟨#[10]⟩ : ByteArray)).size + x13_1.size) = False := eq_false (Nat.not_lt.2 c49)
                    have c49b3 : x11_1.size + 1 + x12_1.size + 1 + x13_1.size ≤ 9223372036854775807 := by have h_ := c49; simp only [ByteArray.size_append] at h_; exact h_
                    have c49b4 : (9223372036854775807 < x11_1.size + 1 + x12_1.size + 1 + x13_1.size) = False := eq_false (Nat.not_lt.2 c49b3)
                    have c49b5 : decide (x11_1.size + 1 + x12_1.size + 1 + x13_1.size ≤ 9223372036854775807) = true := decide_eq_true c49b3
                    replace c49b3 := eq_true c49b3
                    by_cases c50 : ((((x11_1 ++ (⟨#[10]⟩ : ByteArray)) ++ x12_1) ++ (⟨#[10]⟩ : ByteArray)) ++ x13_1).size + 1 ≤ 9223372036854775807
                    · rw [if_pos c50] at H
                      have c50b0 := eq_true c50
                      have c50b1 : decide (((((x11_1 ++ (⟨#[10]⟩ : ByteArray)) ++ x12_1) ++ (⟨#[10]⟩ : ByteArray)) ++ x13_1).size + 1 ≤ 9223372036854775807) = true := decide_eq_true c50
                      try have c50b2 : (9223372036854775807 < ((((x11_1 ++ (⟨#[10]⟩ : ByteArray)) ++ x12_1) ++ (⟨#[10]⟩ : ByteArray)) ++ x13_1).size + 1) = False := eq_false (Nat.not_lt.2 c50)
                      have c50b3 : x11_1.size + 1 + x12_1.size + 1 + x13_1.size + 1 ≤ 9223372036854775807 := by have h_ := c50; simp only [ByteArray.size_append] at h_; exact h_
                      have c50b4 : (9223372036854775807 < x11_1.size + 1 + x12_1.size + 1 + x13_1.size + 1) = False := eq_false (Nat.not_lt.2 c50b3)
                      have c50b5 : decide (x11_1.size + 1 + x12_1.size + 1 + x13_1.size + 1 ≤ 9223372036854775807) = true := decide_eq_true c50b3
                      replace c50b3 := eq_true c50b3
                      simp only [Option.some.injEq, Prod.mk.injEq] at H
                      obtain ⟨rfl, rfl⟩ := H
                      go_wp2
                      repeat (go_quiet (fail); try go_wp2)
                      go_ret2
                      exact ⟨by first | rfl | (simp; done) | (simp [*]; done), by repeat (first | exact Drawn0.refl _ | apply Drawn0.step)⟩
                    · rw [if_neg c50] at H
                      exact absurd H (by simp)
                  · rw [if_neg c49] at H
                    exact absurd H (by simp)
                · rw [if_neg c48] at H
                  exact absurd H (by simp)
              · rw [if_neg c47] at H
                exact absurd H (by simp)
            · rw [if_neg c46] at H
              exact absurd H (by simp)
    · replace c7 := Bool.eq_false_iff.mpr c7
      subst c7
      have H1 : (some ((⟨#[]⟩ : ByteArray), 1)) = some (r1, r2) := by rw [if_neg (show ¬ (false = true) by decide)] at H; exact H
      clear H
      have H := H1
      clear H1
      simp only [Option.some.injEq, Prod.mk.injEq] at H
      obtain ⟨rfl, rfl⟩ := H
      go_enter Try.func25, Try.ntmps25
      go_wp2_with (first | (go_at_call 16; (with_reducible refine (ancepsref45_Given.calls k a0 a1 t445 _ A4.out).mono ?_); rintro e w' ⟨rfl, ⟨nd, rfl⟩⟩; (try first | exact ⟨rfl, _, World.drewN_drewN _ _ _⟩ | exact ⟨rfl, _, Eq.trans (World.drewN_drewN _ _ _) (congrArg (World.drewN _) (Nat.add_assoc _ _ _))⟩)) | (go_at_call 20; (with_reducible refine (ancepsref45_Cost.calls k a0 a1 _ _ l2 t446 false _ ?side1 ?side2 A6.out).mono ?_); (case side1 => repeat (first | exact HR2.out | (with_reducible refine Kd.C_alloc ?_ _) | (with_reducible refine Kd.C_drewN ?_ _) | (with_reducible refine Kd.C_drew ?_))); (case side2 => exact HC2.out); rintro e w' ⟨rfl, ⟨nd, rfl⟩⟩; (try first | exact ⟨rfl, _, World.drewN_drewN _ _ _⟩ | exact ⟨rfl, _, Eq.trans (World.drewN_drewN _ _ _) (congrArg (World.drewN _) (Nat.add_assoc _ _ _))⟩)))
      repeat (go_quiet (first | (go_at_call 16; (with_reducible refine (ancepsref45_Given.calls k a0 a1 t445 _ A4.out).mono ?_); (try clear A4); rintro e w' ⟨rfl, ⟨nd, rfl⟩⟩; (try first | exact ⟨rfl, _, World.drewN_drewN _ _ _⟩ | exact ⟨rfl, _, Eq.trans (World.drewN_drewN _ _ _) (congrArg (World.drewN _) (Nat.add_assoc _ _ _))⟩)) | (go_at_call 20; (with_reducible refine (ancepsref45_Cost.calls k a0 a1 _ _ l2 t446 false _ ?side1 ?side2 A6.out).mono ?_); (case side1 => repeat (first | exact HR2.out | (with_reducible refine Kd.C_alloc ?_ _) | (with_reducible refine Kd.C_drewN ?_ _) | (with_reducible refine Kd.C_drew ?_))); (case side2 => exact HC2.out); (try clear A6); rintro e w' ⟨rfl, ⟨nd, rfl⟩⟩; (try first | exact ⟨rfl, _, World.drewN_drewN _ _ _⟩ | exact ⟨rfl, _, Eq.trans (World.drewN_drewN _ _ _) (congrArg (World.drewN _) (Nat.add_assoc _ _ _))⟩))); try go_wp2_with (first | (go_at_call 16; (with_reducible refine (ancepsref45_Given.calls k a0 a1 t445 _ A4.out).mono ?_); (try clear A4); rintro e w' ⟨rfl, ⟨nd, rfl⟩⟩; (try first | exact ⟨rfl, _, World.drewN_drewN _ _ _⟩ | exact ⟨rfl, _, Eq.trans (World.drewN_drewN _ _ _) (congrArg (World.drewN _) (Nat.add_assoc _ _ _))⟩)) | (go_at_call 20; (with_reducible refine (ancepsref45_Cost.calls k a0 a1 _ _ l2 t446 false _ ?side1 ?side2 A6.out).mono ?_); (case side1 => repeat (first | exact HR2.out | (with_reducible refine Kd.C_alloc ?_ _) | (with_reducible refine Kd.C_drewN ?_ _) | (with_reducible refine Kd.C_drew ?_))); (case side2 => exact HC2.out); (try clear A6); rintro e w' ⟨rfl, ⟨nd, rfl⟩⟩; (try first | exact ⟨rfl, _, World.drewN_drewN _ _ _⟩ | exact ⟨rfl, _, Eq.trans (World.drewN_drewN _ _ _) (congrArg (World.drewN _) (Nat.add_assoc _ _ _))⟩))))
      go_ret2
      exact ⟨by first | rfl | (simp; done) | (simp [*]; done), by repeat (first | exact Drawn0.refl _ | apply Drawn0.step)⟩
  · rw [if_neg c5] at H
    have c5b0 : (t445 == 0) = false := beq_eq_false_iff_ne.mpr c5
    have c5b1 : (t445 != 0) = true := bne_iff_ne.mpr c5
    simp only [Option.some.injEq, Prod.mk.injEq] at H
    obtain ⟨rfl, rfl⟩ := H
    go_enter Try.func25, Try.ntmps25
    go_wp2_with (first | (go_at_call 16; (with_reducible refine (ancepsref45_Given.calls k a0 a1 t445 _ A4.out).mono ?_); rintro e w' ⟨rfl, ⟨nd, rfl⟩⟩; (try first | exact ⟨rfl, _, World.drewN_drewN _ _ _⟩ | exact ⟨rfl, _, Eq.trans (World.drewN_drewN _ _ _) (congrArg (World.drewN _) (Nat.add_assoc _ _ _))⟩)))
    repeat (go_quiet (first | (go_at_call 16; (with_reducible refine (ancepsref45_Given.calls k a0 a1 t445 _ A4.out).mono ?_); (try clear A4); rintro e w' ⟨rfl, ⟨nd, rfl⟩⟩; (try first | exact ⟨rfl, _, World.drewN_drewN _ _ _⟩ | exact ⟨rfl, _, Eq.trans (World.drewN_drewN _ _ _) (congrArg (World.drewN _) (Nat.add_assoc _ _ _))⟩))); try go_wp2_with (first | (go_at_call 16; (with_reducible refine (ancepsref45_Given.calls k a0 a1 t445 _ A4.out).mono ?_); (try clear A4); rintro e w' ⟨rfl, ⟨nd, rfl⟩⟩; (try first | exact ⟨rfl, _, World.drewN_drewN _ _ _⟩ | exact ⟨rfl, _, Eq.trans (World.drewN_drewN _ _ _) (congrArg (World.drewN _) (Nat.add_assoc _ _ _))⟩))))
    go_ret2
    exact ⟨by first | rfl | (simp; done) | (simp [*]; done), by repeat (first | exact Drawn0.refl _ | apply Drawn0.step)⟩

/-! ### api_Pair: function 26 -/
def api_Pair.l0 : Nat → List (S45) → List (S45) → Int → Int → Option (Bool)
  | 0, _, _, _, _ => none
  | k + 1, x0, x1, x12, x13 => if x13 < x12 then (if 0 ≤ x13 then (if x13 < (x0.length : Int) then (if x13 < (x1.length : Int) then (if (!(((rd_T45 x0 x13).f0) == ((rd_T45 x1 x13).f0)) || (!(((rd_T45 x0 x13).f1) == ((rd_T45 x1 x13).f1)))) = true then (some false) else (api_Pair.l0 k x0 x1 x12 (wrap64 (x13 + 1)))) else (none)) else (none)) else (none)) else (some true)
def api_Pair.f (k : Nat) (l0 : List (S45)) (l1 : List (S45)) : Option (Bool) := if (l0.length : Int) = (l1.length : Int) then (api_Pair.l0 k l0 l1 (l0.length : Int) 0) else (some false)
theorem api_Pair.mono_l : ∀ k, (∀ y0 y1 y2 y3, LeO (api_Pair.l0 k y0 y1 y2 y3) (api_Pair.l0 (k + 1) y0 y1 y2 y3))
  | 0 => fun _ _ _ _ r h => by simp [api_Pair.l0] at h
  | k + 1 => by
    have ih0 := api_Pair.mono_l k
    · intro y0 y1 y2 y3
      unfold api_Pair.l0
      repeat' first
      | (with_reducible exact ih0 _ _ _ _)
      | (with_reducible exact LeO.refl _)
      | (with_reducible exact LeO.none _)
      | (with_reducible refine LeO.ite ?_ ?_)
      | (with_reducible refine LeO.bind ?_ (fun _ => ?_))
      | exact ih0 _ _ _ _
      | exact LeO.none _
      | refine LeO.ite ?_ ?_
      | refine LeO.bind ?_ (fun _ => ?_)
theorem api_Pair.mono : ∀ a0 a1 k, LeO (api_Pair.f k a0 a1) (api_Pair.f (k + 1) a0 a1) := by
  intro a0 a1 k
  have ih0 := api_Pair.mono_l k
  unfold api_Pair.f
  repeat' first
      | (with_reducible exact ih0 _ _ _ _)
      | (with_reducible exact LeO.refl _)
      | (with_reducible exact LeO.none _)
      | (with_reducible refine LeO.ite ?_ ?_)
      | (with_reducible refine LeO.bind ?_ (fun _ => ?_))
      | exact ih0 _ _ _ _
      | exact LeO.none _
      | refine LeO.ite ?_ ?_
      | refine LeO.bind ?_ (fun _ => ?_)
set_option maxHeartbeats 8000000 in
set_option maxRecDepth 100000 in
theorem api_Pair.calls (k : Nat) (A0 : Option Addr) (c0 : Nat) (l0 : List (S45)) (A1 : Option Addr) (c1 : Nat) (l1 : List (S45)) (r : Bool) (w : World) (hr0 : Kd.C k45 w A0 l0.length l0) (hc0 : l0.length ≤ c0) (hr1 : Kd.C k45 w A1 l1.length l1) (hc1 : l1.length ≤ c1) (h : api_Pair.f k l0 l1 = some r) :
    Calls Try.prog 26 #[.slice A0 l0.length c0, .slice A1 l1.length c1] w fun e w' => e = .returned (.bool r) ∧ Drawn0 w w' := by
  have hu45 := Try.underlying45
  have HR0 := Aside0.mk hr0
  have HC0 := Aside0.mk hc0
  clear hr0 hc0
  have HR1 := Aside0.mk hr1
  have HC1 := Aside0.mk hc1
  clear hr1 hc1
  have H : (if (l0.length : Int) = (l1.length : Int) then (api_Pair.l0 k l0 l1 (l0.length : Int) 0) else (some false)) = some r := h
  clear h
  by_cases c3 : (l0.length : Int) = (l1.length : Int)
  · rw [if_pos c3] at H
    have c3b0 : ((l0.length : Int) == (l1.length : Int)) = true := beq_iff_eq.mpr c3
    have c3b1 : ((l0.length : Int) != (l1.length : Int)) = false := bne_eq_false_iff_eq.mpr c3
    have c3b2 : (l0.length == l1.length) = true := by first | simpa using c3 | (simp at c3 ⊢; omega)
    clear c3
    have H' := Aside0.mk H
    clear H
    go_enter Try.func26, Try.ntmps26
    go_wp2
    repeat (go_quiet (fail); try go_wp2)
    go_loopg [13] k (fun kq v13 w' => ∃ (x13_1 : Int), v13 = .int .i64 x13_1 ∧ Aside0 (api_Pair.l0 kq l0 l1 (l0.length : Int) x13_1 = some r) ∧ Aside0 (kq ≤ k) ∧ Drawn0 w w')
    case atStart => exact ⟨(0), (by first | rfl | (simp; done) | (simp [*]; done)), H', ⟨Nat.le_refl _⟩, by repeat (first | exact Drawn0.refl _ | apply Drawn0.step)⟩
    case round =>
      clear H'
      try clear c1
      try clear c2
      try clear p2
      try clear c3
      try clear c3b0
      try clear c3b1
      try clear c3b2
      obtain ⟨x13_1, rfl, HA, HK1, ⟨m1, rfl⟩⟩ := hrel
      cases gk with
      | zero => exact absurd HA.out (by simp [api_Pair.l0])
      | succ k1 =>
        have H := HA.out
        clear HA
        simp only [api_Pair.l0] at H
        by_cases c4 : x13_1 < (l0.length : Int)
        · rw [if_pos c4] at H
          have c4b0 : decide (x13_1 < (l0.length : Int)) = true := decide_eq_true c4
          clear c4
          by_cases c5 : 0 ≤ x13_1
          · rw [if_pos c5] at H
            have c5b0 : decide (0 ≤ x13_1) = true := decide_eq_true c5
            clear c5
            by_cases c6 : x13_1 < (l0.length : Int)
            · rw [if_pos c6] at H
              have c6b0 : decide (x13_1 < (l0.length : Int)) = true := decide_eq_true c6
              clear c6
              by_cases c7 : x13_1 < (l1.length : Int)
              · rw [if_pos c7] at H
                have c7b0 : decide (x13_1 < (l1.length : Int)) = true := decide_eq_true c7
                clear c7
                by_cases c8 : (!(((rd_T45 l0 x13_1).f0) == ((rd_T45 l1 x13_1).f0)) || (!(((rd_T45 l0 x13_1).f1) == ((rd_T45 l1 x13_1).f1)))) = true
                · rw [if_pos c8] at H
                  have c8b0 : (!(((rd_T45 l0 x13_1).f0) == ((rd_T45 l1 x13_1).f0)) || (!(((rd_T45 l0 x13_1).f1) == ((rd_T45 l1 x13_1).f1)))) = true := c8
                  clear c8
                  obtain rfl := Option.some.inj H
                  have p458 : 0 ≤ (x13_1 : Int) := of_decide_eq_true (by first | (with_reducible assumption) | assumption)
                  have q458 : x13_1 < (l0.length : Int) := of_decide_eq_true (by first | (with_reducible assumption) | assumption)
                  obtain ⟨ad458, e458, hx458_0, hx458_1⟩ := at_T45 HR0.out x13_1 p458 q458
                  cases e458
                  replace p458 := eq_true p458
                  replace q458 := eq_true q458
                  have p459 : 0 ≤ (x13_1 : Int) := of_decide_eq_true (by first | (with_reducible assumption) | assumption)
                  have q459 : x13_1 < (l1.length : Int) := of_decide_eq_true (by first | (with_reducible assumption) | assumption)
                  obtain ⟨ad459, e459, hx459_0, hx459_1⟩ := at_T45 HR1.out x13_1 p459 q459
                  cases e459
                  replace p459 := eq_true p459
                  replace q459 := eq_true q459
                  go_wp2
                  repeat (go_quiet (fail); try go_wp2)
                  go_ret
                  exact ⟨by first | rfl | (simp; done) | (simp [*]; done), by repeat (first | exact Drawn0.refl _ | apply Drawn0.step)⟩
                · rw [if_neg c8] at H
                  have c8b0 : (!(((rd_T45 l0 x13_1).f0) == ((rd_T45 l1 x13_1).f0)) || (!(((rd_T45 l0 x13_1).f1) == ((rd_T45 l1 x13_1).f1)))) = false := by simpa using c8
                  clear c8
                  have H' := Aside0.mk H
                  clear H
                  have p458 : 0 ≤ (x13_1 : Int) := of_decide_eq_true (by first | (with_reducible assumption) | assumption)
                  have q458 : x13_1 < (l0.length : Int) := of_decide_eq_true (by first | (with_reducible assumption) | assumption)
                  obtain ⟨ad458, e458, hx458_0, hx458_1⟩ := at_T45 HR0.out x13_1 p458 q458
                  cases e458
                  replace p458 := eq_true p458
                  replace q458 := eq_true q458
                  have p459 : 0 ≤ (x13_1 : Int) := of_decide_eq_true (by first | (with_reducible assumption) | assumption)
                  have q459 : x13_1 < (l1.length : Int) := of_decide_eq_true (by first | (with_reducible assumption) | assumption)
                  obtain ⟨ad459, e459, hx459_0, hx459_1⟩ := at_T45 HR1.out x13_1 p459 q459
                  cases e459
                  replace p459 := eq_true p459
                  replace q459 := eq_true q459
                  go_wp2
                  repeat (go_quiet (fail); try go_wp2)
                  go_roundg k1
                  case measure => have := HK1.out; omega
                  case rel => exact ⟨(wrap64 (x13_1 + 1)), (by first | rfl | (simp; done) | (simp [*]; done)), H', ⟨by have := HK1.out; omega⟩, by repeat (first | exact Drawn0.refl _ | apply Drawn0.step)⟩
              · rw [if_neg c7] at H
                exact absurd H (by simp)
            · rw [if_neg c6] at H
              exact absurd H (by simp)
          · rw [if_neg c5] at H
            exact absurd H (by simp)
        · rw [if_neg c4] at H
          have c4b0 : decide (x13_1 < (l0.length : Int)) = false := decide_eq_false c4
          clear c4
          obtain rfl := Option.some.inj H
          go_wp2
          repeat (go_quiet (fail); try go_wp2)
          go_ret
          exact ⟨by first | rfl | (simp; done) | (simp [*]; done), by repeat (first | exact Drawn0.refl _ | apply Drawn0.step)⟩
  · rw [if_neg c3] at H
    have c3b0 : ((l0.length : Int) == (l1.length : Int)) = false := beq_eq_false_iff_ne.mpr c3
    have c3b1 : ((l0.length : Int) != (l1.length : Int)) = true := bne_iff_ne.mpr c3
    have c3b2 : (l0.length == l1.length) = false := by first | simpa using c3 | (simp at c3 ⊢; omega)
    obtain rfl := Option.some.inj H
    go_enter Try.func26, Try.ntmps26
    go_wp2
    repeat (go_quiet (fail); try go_wp2)
    go_ret
    exact ⟨by first | rfl | (simp; done) | (simp [*]; done), by repeat (first | exact Drawn0.refl _ | apply Drawn0.step)⟩

end Go.Proofs.Ytnnonjjmlbemfaa.X
