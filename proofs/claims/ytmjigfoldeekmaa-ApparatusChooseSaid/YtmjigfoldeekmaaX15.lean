-- and more
-- shortened
-- thinned
-- halved indents
-- printed by this session's xprint.py: out of the translation, by the kit's print with additions; Lean checks it
import Derived.Test.YtmjigfoldeekmaaXE
import Derived.Test.YtmjigfoldeekmaaWShare
import Derived.Test.YtmjigfoldeekmaaWRepsOne
import Derived.Test.YtmjigfoldeekmaaX0
import Derived.Test.YtmjigfoldeekmaaX14
import Derived.Test.YtmjigfoldeekmaaXA
namespace Go.Proofs.Ytmjigfoldeekmaa.X
open Go.RowKit Go.Proofs.YtmjigfoldeekmaaW.PrintWords Go.Proofs.YtmjigfoldeekmaaW.PrintLast Go.Proofs.YtmjigfoldeekmaaW.PrintMore
attribute [local go_sem] max2_int min2_int max_two min_two max_three min_three max_four min_four isSome_setCell binOp_gtr_str binOp_leq_str binOp_geq_str   -- for this text's walks alone
set_option linter.unusedVariables false
set_option linter.unusedSimpArgs false

/-! ### ancepsref05_name: function 79 -/
mutual
def ancepsref05_name.j0 : Nat → ByteArray → Bool → Option (Int)
 | 0, _, _ => none
 | k + 1, x0, x11 => if x11 = true then (some 0) else (ancepsref05_name.l0 k x0 1)
def ancepsref05_name.l0 : Nat → ByteArray → Int → Option (Int)
 | 0, _, _ => none
 | k + 1, x0, x3 => if x3 < (x0.size : Int) then (if 0 ≤ x3 then ((ancepsref05_small.f (bt x0 x3)).bind fun t271 => (if t271 = true then (ancepsref05_name.j2 k x0 x3 true) else ((ancepsref05_digit.f (bt x0 x3)).bind fun t272 => (ancepsref05_name.j2 k x0 x3 t272)))) else (none)) else (some x3)
def ancepsref05_name.j2 : Nat → ByteArray → Int → Bool → Option (Int)
 | 0, _, _, _ => none
 | k + 1, x0, x3, x25 => if x25 = true then (ancepsref05_name.l0 k x0 (wrap64 (x3 + 1))) else (if 0 ≤ x3 then (if x3 < (x0.size : Int) then (if (bt x0 x3) = 45 then (if (wrap64 (x3 + 1)) = (x0.size : Int) then (some x3) else (if 0 ≤ (wrap64 (x3 + 1)) then (if (wrap64 (x3 + 1)) < (x0.size : Int) then ((ancepsref05_small.f (bt x0 (wrap64 (x3 + 1)))).bind fun t273 => (if t273 = true then (ancepsref05_name.l0 k x0 (wrap64 (x3 + 2))) else ((ancepsref05_digit.f (bt x0 (wrap64 (x3 + 1)))).bind fun t274 => (if t274 = true then (ancepsref05_name.l0 k x0 (wrap64 (x3 + 2))) else (some x3))))) else (none)) else (none))) else (some x3)) else (none)) else (none))
end
def ancepsref05_name.f (k : Nat) (a0 : ByteArray) : Option (Int) := if a0.toList = ([] : List UInt8) then (ancepsref05_name.j0 k a0 true) else (if 0 < (a0.size : Int) then ((ancepsref05_small.f (bt a0 0)).bind fun t270 => (ancepsref05_name.j0 k a0 (!t270))) else (none))
theorem ancepsref05_name.mono_l : ∀ k, (∀ y0 y1, LeO (ancepsref05_name.j0 k y0 y1) (ancepsref05_name.j0 (k + 1) y0 y1)) ∧ (∀ y0 y1, LeO (ancepsref05_name.l0 k y0 y1) (ancepsref05_name.l0 (k + 1) y0 y1)) ∧ (∀ y0 y1 y2, LeO (ancepsref05_name.j2 k y0 y1 y2) (ancepsref05_name.j2 (k + 1) y0 y1 y2))
 | 0 => ⟨fun _ _ r h => by simp [ancepsref05_name.j0] at h, fun _ _ r h => by simp [ancepsref05_name.l0] at h, fun _ _ _ r h => by simp [ancepsref05_name.j2] at h⟩
 | k + 1 => by
  obtain ⟨ih0, ih1, ih2⟩ := ancepsref05_name.mono_l k
  refine ⟨?_, ?_, ?_⟩
  ·intro y0 y1
   unfold ancepsref05_name.j0
   repeat' first
   | (with_reducible exact ih0 _ _)
   | (with_reducible exact ih1 _ _)
   | (with_reducible exact ih2 _ _ _)
   | (with_reducible exact LeO.refl _)
   | (with_reducible exact LeO.none _)
   | (with_reducible refine LeO.ite ?_ ?_)
   | (with_reducible refine LeO.bind ?_ (fun _ => ?_))
   | exact ih0 _ _
   | exact ih1 _ _
   | exact ih2 _ _ _
   | exact LeO.none _
   | refine LeO.ite ?_ ?_
   | refine LeO.bind ?_ (fun _ => ?_)
  ·intro y0 y1
   unfold ancepsref05_name.l0
   repeat' first
   | (with_reducible exact ih0 _ _)
   | (with_reducible exact ih1 _ _)
   | (with_reducible exact ih2 _ _ _)
   | (with_reducible exact LeO.refl _)
   | (with_reducible exact LeO.none _)
   | (with_reducible refine LeO.ite ?_ ?_)
   | (with_reducible refine LeO.bind ?_ (fun _ => ?_))
   | exact ih0 _ _
   | exact ih1 _ _
   | exact ih2 _ _ _
   | exact LeO.none _
   | refine LeO.ite ?_ ?_
   | refine LeO.bind ?_ (fun _ => ?_)
  ·intro y0 y1 y2
   unfold ancepsref05_name.j2
   repeat' first
   | (with_reducible exact ih0 _ _)
   | (with_reducible exact ih1 _ _)
   | (with_reducible exact ih2 _ _ _)
   | (with_reducible exact LeO.refl _)
   | (with_reducible exact LeO.none _)
   | (with_reducible refine LeO.ite ?_ ?_)
   | (with_reducible refine LeO.bind ?_ (fun _ => ?_))
   | exact ih0 _ _
   | exact ih1 _ _
   | exact ih2 _ _ _
   | exact LeO.none _
   | refine LeO.ite ?_ ?_
   | refine LeO.bind ?_ (fun _ => ?_)
theorem ancepsref05_name.mono : ∀ a0 k, LeO (ancepsref05_name.f k a0) (ancepsref05_name.f (k + 1) a0) := by
 intro a0 k
 obtain ⟨ih0, ih1, ih2⟩ := ancepsref05_name.mono_l k
 unfold ancepsref05_name.f
 repeat' first
   | (with_reducible exact ih0 _ _)
   | (with_reducible exact ih1 _ _)
   | (with_reducible exact ih2 _ _ _)
   | (with_reducible exact LeO.refl _)
   | (with_reducible exact LeO.none _)
   | (with_reducible refine LeO.ite ?_ ?_)
   | (with_reducible refine LeO.bind ?_ (fun _ => ?_))
   | exact ih0 _ _
   | exact ih1 _ _
   | exact ih2 _ _ _
   | exact LeO.none _
   | refine LeO.ite ?_ ?_
   | refine LeO.bind ?_ (fun _ => ?_)
set_option maxHeartbeats 8000000 in
set_option maxRecDepth 100000 in
theorem ancepsref05_name.calls (k : Nat) (a0 : ByteArray) (r : Int) (w : World) (h : ancepsref05_name.f k a0 = some r) :
  Calls Try.prog 79 #[.string a0] w fun e w' => e = .returned (.int .i64 r) ∧ Drawn0 w w' := by
 have H : (if a0.toList = ([] : List UInt8) then (ancepsref05_name.j0 k a0 true) else (if 0 < (a0.size : Int) then ((ancepsref05_small.f (bt a0 0)).bind fun t270 => (ancepsref05_name.j0 k a0 (!t270))) else (none))) = some r := h
 clear h
 have HC2 := Aside0.mk H
 clear H
 go_enter Try.func79, Try.ntmps79
 go_upto_region 1 with (fail)
 go_cut [11] (fun v11 wc => ∃ (kq : Nat) (x11_1 : Bool), v11 = .bool x11_1 ∧ Aside0 (ancepsref05_name.j0 kq a0 x11_1 = some r) ∧ Aside0 (kq ≤ k) ∧ Drawn0 w wc)
 case first =>
  have H := HC2.out
  clear HC2
  by_cases c3 : a0.toList = ([] : List UInt8)
  ·rw [if_pos c3] at H
   have c3b0 : (a0.toList == ([] : List UInt8)) = true := beq_iff_eq.mpr c3
   have c3b1 : (a0.toList != ([] : List UInt8)) = false := bne_eq_false_iff_eq.mpr c3
   clear c3
   (first | rw [c3b0] | (simp only [i64_w, i32_w]; rw [c3b0]) | skip)
   have H' := Aside0.mk H
   clear H
   go_wp2
   go_meet
   case rel => exact ⟨_, (true), eV, H', ⟨by first | omega | exact Nat.le_refl _⟩, dR⟩
  ·rw [if_neg c3] at H
   have c3b0 : (a0.toList == ([] : List UInt8)) = false := beq_eq_false_iff_ne.mpr c3
   have c3b1 : (a0.toList != ([] : List UInt8)) = true := bne_iff_ne.mpr c3
   (first | rw [c3b0] | (simp only [i64_w, i32_w]; rw [c3b0]) | skip)
   by_cases c4 : 0 < (a0.size : Int)
   ·rw [if_pos c4] at H
    have c4b0 : decide (0 < (a0.size : Int)) = true := decide_eq_true c4
    have c4b1 : decide (0 < a0.size) = true := decide_eq_true (by omega)
    clear c4
    replace H := Option.bind_eq_some_iff.mp H
    obtain ⟨t270, A60, H⟩ := H
    replace H : (ancepsref05_name.j0 k a0 (!t270)) = some r := H
    have A6 := Aside0.mk A60
    clear A60
    have H' := Aside0.mk H
    clear H
    have p5 : 0 ≤ (0 : Int) := (by omega)
    have q5 : 0 < a0.size := (by have : (0 : Int) < (a0.size : Int) := of_decide_eq_true (by first | (with_reducible assumption) | assumption); omega)
    have hx5 : ∀ h : 0 < a0.size, ((a0[0]'h).toNat : Int) = bt a0 0 := bt_at a0 0
    clear p5
    have qi5 : (0 < (a0.size : Int)) = True := eq_true (of_decide_eq_true (by first | (with_reducible assumption) | assumption))
    replace q5 := eq_true q5
    go_wp2_with (first | (go_at_call 82; (with_reducible refine (ancepsref05_small.calls (bt a0 0) t270 _ A6.out).mono ?_); rintro e w' ⟨rfl, ⟨nd, rfl⟩⟩))
    go_meet
    case rel => exact ⟨_, (!t270), eV, H', ⟨by first | omega | exact Nat.le_refl _⟩, dR⟩
   ·rw [if_neg c4] at H
    exact absurd H (by simp)
 case rest =>
  clear HC2
  (try clear p2); (try clear c3); (try clear c3b0); (try clear c3b1); (try clear c4); (try clear c4b0); (try clear c4b1); (try clear p5); (try clear q5); (try clear hx5); (try clear qi5); (try clear p5); (try clear q5)
  obtain ⟨kq, x11_1, rfl, HA, HJ1, ⟨mc1, rfl⟩⟩ := hcut
  cases kq with
  | zero => exact absurd HA.out (by simp [ancepsref05_name.j0])
  | succ kj1 =>
   have H := HA.out
   clear HA
   simp only [ancepsref05_name.j0] at H
   by_cases c7 : x11_1 = true
   ·subst c7
    have H1 : (some 0) = some r := by rw [if_pos rfl] at H; exact H
    clear H
    have H := H1
    clear H1
    obtain rfl := Option.some.inj H
    go_wp2
    go_ret
    exact ⟨eV, dR⟩
   ·replace c7 := Bool.eq_false_iff.mpr c7
    subst c7
    have H1 : (ancepsref05_name.l0 kj1 a0 1) = some r := by rw [if_neg (show ¬ (false = true) by decide)] at H; exact H
    clear H
    have H := H1
    clear H1
    have H' := Aside0.mk H
    clear H
    go_wp2
    go_loopg [3] kj1 (fun kq v3 w' => ∃ (x3_2 : Int), v3 = .int .i64 x3_2 ∧ Aside0 (ancepsref05_name.l0 kq a0 x3_2 = some r) ∧ Aside0 (kq ≤ kj1) ∧ Drawn0 w w')
    case atStart => exact ⟨(1), eV, H', ⟨Nat.le_refl _⟩, dR⟩
    case round =>
     clear H'
     (try clear c1); (try clear p2); (try clear c3); (try clear c3b0); (try clear c3b1); (try clear c4); (try clear c4b0); (try clear c4b1); (try clear p5); (try clear q5); (try clear hx5); (try clear qi5); (try clear c7); (try clear p2); (try clear p5); (try clear q5)
     obtain ⟨x3_2, rfl, HA, HK2, ⟨m2, rfl⟩⟩ := hrel
     cases gk with
     | zero => exact absurd HA.out (by simp [ancepsref05_name.l0])
     | succ k2 =>
      have H := HA.out
      clear HA
      simp only [ancepsref05_name.l0] at H
      by_cases c8 : x3_2 < (a0.size : Int)
      ·rw [if_pos c8] at H
       have c8b0 : decide (x3_2 < (a0.size : Int)) = true := decide_eq_true c8
       clear c8
       have HC9 := Aside0.mk H
       clear H
       go_upto_region 5 with (fail)
       go_cut [25] (fun v25 wc => ∃ (kq : Nat) (x25_8 : Bool), v25 = .bool x25_8 ∧ Aside0 (ancepsref05_name.j2 kq a0 x3_2 x25_8 = some r) ∧ Aside0 (kq ≤ k2) ∧ Drawn0 w wc)
       case first =>
        have H := HC9.out
        clear HC9
        by_cases c10 : 0 ≤ x3_2
        ·rw [if_pos c10] at H
         have c10b0 : decide (0 ≤ x3_2) = true := decide_eq_true c10
         clear c10
         (first | rw [c10b0] | (simp only [i64_w, i32_w]; rw [c10b0]) | skip)
         replace H := Option.bind_eq_some_iff.mp H
         obtain ⟨t271, A120, H⟩ := H
         try dsimp only at H
         have A12 := Aside0.mk A120
         clear A120
         by_cases c13 : t271 = true
         ·subst c13
          have H1 : (ancepsref05_name.j2 k2 a0 x3_2 true) = some r := by rw [if_pos rfl] at H; exact H
          clear H
          have H := H1
          clear H1
          have H' := Aside0.mk H
          clear H
          have p11 := oD (0 ≤ (x3_2 : Int))
          have q11 := oD (x3_2 < (a0.size : Int))
          have hx11 := bt_at a0 x3_2
          replace p11 := eq_true p11
          replace q11 := eq_true q11
          go_wp2_with (first | ((with_reducible refine gate_callee (f := 82) rfl ?_); refine gL_ (some 19) Try.func82 #[.int .u8 (bt a0 x3_2)] ?_; (with_reducible refine (ancepsref05_small.calls (bt a0 x3_2) true _ A12.out).mono ?_); rintro e w' ⟨rfl, ⟨nd, rfl⟩⟩; refine ⟨_, rfl, ?_⟩))
          go_meet
          case rel => exact ⟨_, (true), eV, H', ⟨by have := HJ1.out; have := HK2.out; first | omega | exact Nat.le_refl _⟩, dR⟩
         ·replace c13 := Bool.eq_false_iff.mpr c13
          subst c13
          have H1 : ((ancepsref05_digit.f (bt a0 x3_2)).bind fun t272 => (ancepsref05_name.j2 k2 a0 x3_2 t272)) = some r := by rw [if_neg (show ¬ (false = true) by decide)] at H; exact H
          clear H
          have H := H1
          clear H1
          replace H := Option.bind_eq_some_iff.mp H
          obtain ⟨t272, A150, H⟩ := H
          try dsimp only at H
          have A15 := Aside0.mk A150
          clear A150
          have H' := Aside0.mk H
          clear H
          have p11 := oD (0 ≤ (x3_2 : Int))
          have q11 := oD (x3_2 < (a0.size : Int))
          have hx11 := bt_at a0 x3_2
          replace p11 := eq_true p11
          replace q11 := eq_true q11
          go_wp2_with (first | ((with_reducible refine gate_callee (f := 82) rfl ?_); refine gL_ (some 19) Try.func82 #[.int .u8 (bt a0 x3_2)] ?_; (with_reducible refine (ancepsref05_small.calls (bt a0 x3_2) false _ A12.out).mono ?_); rintro e w' ⟨rfl, ⟨nd, rfl⟩⟩; refine ⟨_, rfl, ?_⟩; have p14 := oD (0 ≤ (x3_2 : Int)); have q14 := oD (x3_2 < (a0.size : Int)); have hx14 := bt_at a0 x3_2; replace p14 := eq_true p14; replace q14 := eq_true q14) | (go_at_call 83; (with_reducible refine (ancepsref05_digit.calls (bt a0 x3_2) t272 _ A15.out).mono ?_); rintro e w' ⟨rfl, ⟨nd, rfl⟩⟩))
          go_meet
          case rel => exact ⟨_, (t272), eV, H', ⟨by have := HJ1.out; have := HK2.out; first | omega | exact Nat.le_refl _⟩, dR⟩
        ·rw [if_neg c10] at H
         exact absurd H (by simp)
       case rest =>
        clear HC9
        (try clear c1); (try clear p1); (try clear q1); (try clear hx1); (try clear p2); (try clear c3); (try clear c3b0); (try clear c3b1); (try clear c4); (try clear c4b0); (try clear c4b1); (try clear p5); (try clear q5); (try clear hx5); (try clear qi5); (try clear c7); (try clear c8); (try clear c8b0); (try clear c10); (try clear c10b0); (try clear p11); (try clear q11); (try clear hx11); (try clear c13); (try clear p14); (try clear q14); (try clear hx14); (try clear p11); (try clear p14); (try clear p2); (try clear p5); (try clear q11); (try clear q14); (try clear q5)
        obtain ⟨kq, x25_8, rfl, HA, HJ8, ⟨mc8, rfl⟩⟩ := hcut
        cases kq with
        | zero => exact absurd HA.out (by simp [ancepsref05_name.j2])
        | succ kj8 =>
         have H := HA.out
         clear HA
         simp only [ancepsref05_name.j2] at H
         by_cases c16 : x25_8 = true
         ·subst c16
          have H1 : (ancepsref05_name.l0 kj8 a0 (wrap64 (x3_2 + 1))) = some r := by rw [if_pos rfl] at H; exact H
          clear H
          have H := H1
          clear H1
          have H' := Aside0.mk H
          clear H
          go_wp2
          go_roundg kj8
          case measure => have := HJ1.out; have := HK2.out; have := HJ8.out; omega
          case rel => exact ⟨(wrap64 (x3_2 + 1)), eV, H', ⟨by have := HJ1.out; have := HK2.out; have := HJ8.out; omega⟩, dR⟩
         ·replace c16 := Bool.eq_false_iff.mpr c16
          subst c16
          have H1 : (if 0 ≤ x3_2 then (if x3_2 < (a0.size : Int) then (if (bt a0 x3_2) = 45 then (if (wrap64 (x3_2 + 1)) = (a0.size : Int) then (some x3_2) else (if 0 ≤ (wrap64 (x3_2 + 1)) then (if (wrap64 (x3_2 + 1)) < (a0.size : Int) then ((ancepsref05_small.f (bt a0 (wrap64 (x3_2 + 1)))).bind fun t273 => (if t273 = true then (ancepsref05_name.l0 kj8 a0 (wrap64 (x3_2 + 2))) else ((ancepsref05_digit.f (bt a0 (wrap64 (x3_2 + 1)))).bind fun t274 => (if t274 = true then (ancepsref05_name.l0 kj8 a0 (wrap64 (x3_2 + 2))) else (some x3_2))))) else (none)) else (none))) else (some x3_2)) else (none)) else (none)) = some r := by rw [if_neg (show ¬ (false = true) by decide)] at H; exact H
          clear H
          have H := H1
          clear H1
          by_cases c17 : 0 ≤ x3_2
          ·rw [if_pos c17] at H
           have c17b0 : decide (0 ≤ x3_2) = true := decide_eq_true c17
           clear c17
           by_cases c18 : x3_2 < (a0.size : Int)
           ·rw [if_pos c18] at H
            have c18b0 : decide (x3_2 < (a0.size : Int)) = true := decide_eq_true c18
            clear c18
            by_cases c20 : (bt a0 x3_2) = 45
            ·rw [if_pos c20] at H
             have c20b0 : ((bt a0 x3_2) == 45) = true := beq_iff_eq.mpr c20
             have c20b1 : ((bt a0 x3_2) != 45) = false := bne_eq_false_iff_eq.mpr c20
             clear c20
             by_cases c21 : (wrap64 (x3_2 + 1)) = (a0.size : Int)
             ·rw [if_pos c21] at H
              have c21b0 : ((wrap64 (x3_2 + 1)) == (a0.size : Int)) = true := beq_iff_eq.mpr c21
              have c21b1 : ((wrap64 (x3_2 + 1)) != (a0.size : Int)) = false := bne_eq_false_iff_eq.mpr c21
              clear c21
              obtain rfl := Option.some.inj H
              have p19 := oD (0 ≤ (x3_2 : Int))
              have q19 := oD (x3_2 < (a0.size : Int))
              have hx19 := bt_at a0 x3_2
              replace p19 := eq_true p19
              replace q19 := eq_true q19
              go_wp2
              go_ret
              exact ⟨eV, dR⟩
             ·rw [if_neg c21] at H
              have c21b0 : ((wrap64 (x3_2 + 1)) == (a0.size : Int)) = false := beq_eq_false_iff_ne.mpr c21
              have c21b1 : ((wrap64 (x3_2 + 1)) != (a0.size : Int)) = true := bne_iff_ne.mpr c21
              obtain ⟨ji22, hji22⟩ : ∃ j_ : Int, (wrap64 (x3_2 + 1)) = j_ := ⟨_, rfl⟩
              replace H : (if 0 ≤ (ji22) then (if (ji22) < (a0.size : Int) then ((ancepsref05_small.f (bt a0 (ji22))).bind fun t273 => (if t273 = true then (ancepsref05_name.l0 kj8 a0 (wrap64 (x3_2 + 2))) else ((ancepsref05_digit.f (bt a0 (ji22))).bind fun t274 => (if t274 = true then (ancepsref05_name.l0 kj8 a0 (wrap64 (x3_2 + 2))) else (some x3_2))))) else (none)) else (none)) = some r := by first | (rw [hji22] at H; exact H) | (simp only [hji22] at H ⊢; exact H)
              (try rw [hji22] at c21b0)
              (try rw [hji22] at c21b1)
              have hji22w : (IntKind.i64.wrap (x3_2 + 1)) = ji22 := (i64_w _).trans hji22
              by_cases c23 : 0 ≤ (ji22)
              ·rw [if_pos c23] at H
               have c23b0 : decide (0 ≤ (ji22)) = true := decide_eq_true c23
               clear c23
               by_cases c24 : (ji22) < (a0.size : Int)
               ·rw [if_pos c24] at H
                have c24b0 : decide ((ji22) < (a0.size : Int)) = true := decide_eq_true c24
                clear c24
                replace H := Option.bind_eq_some_iff.mp H
                obtain ⟨t273, A260, H⟩ := H
                try dsimp only at H
                have A26 := Aside0.mk A260
                clear A260
                by_cases c27 : t273 = true
                ·subst c27
                 have H1 : (ancepsref05_name.l0 kj8 a0 (wrap64 (x3_2 + 2))) = some r := by rw [if_pos rfl] at H; exact H
                 clear H
                 have H := H1
                 clear H1
                 have H' := Aside0.mk H
                 clear H
                 have p19 := oD (0 ≤ (x3_2 : Int))
                 have q19 := oD (x3_2 < (a0.size : Int))
                 have hx19 := bt_at a0 x3_2
                 replace p19 := eq_true p19
                 replace q19 := eq_true q19
                 have p25 := oD (0 ≤ ((ji22) : Int))
                 have q25 := oD ((ji22) < (a0.size : Int))
                 have hx25 := bt_at a0 (ji22)
                 replace p25 := eq_true p25
                 replace q25 := eq_true q25
                 go_wp2_with (first | (go_at_call 82; (with_reducible refine (ancepsref05_small.calls (bt a0 (ji22)) true _ A26.out).mono ?_); rintro e w' ⟨rfl, ⟨nd, rfl⟩⟩))
                 go_roundg kj8
                 case measure => have := HJ1.out; have := HK2.out; have := HJ8.out; omega
                 case rel => exact ⟨(wrap64 (x3_2 + 2)), eV, H', ⟨by have := HJ1.out; have := HK2.out; have := HJ8.out; omega⟩, dR⟩
                ·replace c27 := Bool.eq_false_iff.mpr c27
                 subst c27
                 have H1 : ((ancepsref05_digit.f (bt a0 (ji22))).bind fun t274 => (if t274 = true then (ancepsref05_name.l0 kj8 a0 (wrap64 (x3_2 + 2))) else (some x3_2))) = some r := by rw [if_neg (show ¬ (false = true) by decide)] at H; exact H
                 clear H
                 have H := H1
                 clear H1
                 replace H := Option.bind_eq_some_iff.mp H
                 obtain ⟨t274, A290, H⟩ := H
                 try dsimp only at H
                 have A29 := Aside0.mk A290
                 clear A290
                 by_cases c30 : t274 = true
                 ·subst c30
                  have H1 : (ancepsref05_name.l0 kj8 a0 (wrap64 (x3_2 + 2))) = some r := by rw [if_pos rfl] at H; exact H
                  clear H
                  have H := H1
                  clear H1
                  have H' := Aside0.mk H
                  clear H
                  have p19 := oD (0 ≤ (x3_2 : Int))
                  have q19 := oD (x3_2 < (a0.size : Int))
                  have hx19 := bt_at a0 x3_2
                  replace p19 := eq_true p19
                  replace q19 := eq_true q19
                  have p25 := oD (0 ≤ ((ji22) : Int))
                  have q25 := oD ((ji22) < (a0.size : Int))
                  have hx25 := bt_at a0 (ji22)
                  replace p25 := eq_true p25
                  replace q25 := eq_true q25
                  go_wp2_with (first | (go_at_call 82; (with_reducible refine (ancepsref05_small.calls (bt a0 (ji22)) false _ A26.out).mono ?_); rintro e w' ⟨rfl, ⟨nd, rfl⟩⟩; have p28 := oD (0 ≤ ((ji22) : Int)); have q28 := oD ((ji22) < (a0.size : Int)); have hx28 := bt_at a0 (ji22); replace p28 := eq_true p28; replace q28 := eq_true q28) | (go_at_call 83; (with_reducible refine (ancepsref05_digit.calls (bt a0 (ji22)) true _ A29.out).mono ?_); rintro e w' ⟨rfl, ⟨nd, rfl⟩⟩))
                  go_roundg kj8
                  case measure => have := HJ1.out; have := HK2.out; have := HJ8.out; omega
                  case rel => exact ⟨(wrap64 (x3_2 + 2)), eV, H', ⟨by have := HJ1.out; have := HK2.out; have := HJ8.out; omega⟩, dR⟩
                 ·replace c30 := Bool.eq_false_iff.mpr c30
                  subst c30
                  have H1 : (some x3_2) = some r := by rw [if_neg (show ¬ (false = true) by decide)] at H; exact H
                  clear H
                  have H := H1
                  clear H1
                  obtain rfl := Option.some.inj H
                  have p19 := oD (0 ≤ (x3_2 : Int))
                  have q19 := oD (x3_2 < (a0.size : Int))
                  have hx19 := bt_at a0 x3_2
                  replace p19 := eq_true p19
                  replace q19 := eq_true q19
                  have p25 := oD (0 ≤ ((ji22) : Int))
                  have q25 := oD ((ji22) < (a0.size : Int))
                  have hx25 := bt_at a0 (ji22)
                  replace p25 := eq_true p25
                  replace q25 := eq_true q25
                  go_wp2_with (first | (go_at_call 82; (with_reducible refine (ancepsref05_small.calls (bt a0 (ji22)) false _ A26.out).mono ?_); rintro e w' ⟨rfl, ⟨nd, rfl⟩⟩; have p28 := oD (0 ≤ ((ji22) : Int)); have q28 := oD ((ji22) < (a0.size : Int)); have hx28 := bt_at a0 (ji22); replace p28 := eq_true p28; replace q28 := eq_true q28) | (go_at_call 83; (with_reducible refine (ancepsref05_digit.calls (bt a0 (ji22)) false _ A29.out).mono ?_); rintro e w' ⟨rfl, ⟨nd, rfl⟩⟩))
                  go_ret
                  exact ⟨by first | rfl | (simp; done) | (simp only [← hji22] <;> (first | rfl | simp)) | (simp [*]; done), dR⟩
               ·rw [if_neg c24] at H
                exact absurd H (by simp)
              ·rw [if_neg c23] at H
               exact absurd H (by simp)
            ·rw [if_neg c20] at H
             have c20b0 : ((bt a0 x3_2) == 45) = false := beq_eq_false_iff_ne.mpr c20
             have c20b1 : ((bt a0 x3_2) != 45) = true := bne_iff_ne.mpr c20
             obtain rfl := Option.some.inj H
             have p19 := oD (0 ≤ (x3_2 : Int))
             have q19 := oD (x3_2 < (a0.size : Int))
             have hx19 := bt_at a0 x3_2
             replace p19 := eq_true p19
             replace q19 := eq_true q19
             go_wp2
             go_ret
             exact ⟨eV, dR⟩
           ·rw [if_neg c18] at H
            exact absurd H (by simp)
          ·rw [if_neg c17] at H
           exact absurd H (by simp)
      ·rw [if_neg c8] at H
       have c8b0 : decide (x3_2 < (a0.size : Int)) = false := decide_eq_false c8
       clear c8
       obtain rfl := Option.some.inj H
       go_wp2
       go_ret
       exact ⟨eV, dR⟩

/-! ### ancepsref05_IsName: function 73 -/
def ancepsref05_IsName.f (k : Nat) (a0 : ByteArray) : Option (Bool) := if a0.toList = ([] : List UInt8) then (some false) else (if (a0.size : Int) ≤ 20 then ((ancepsref05_name.f k a0).bind fun t275 => (some (t275 == (a0.size : Int)))) else (some false))
theorem ancepsref05_IsName.mono : ∀ a0 k, LeO (ancepsref05_IsName.f k a0) (ancepsref05_IsName.f (k + 1) a0) := by
 intro a0 k
 unfold ancepsref05_IsName.f
 repeat' first
   | (with_reducible exact ancepsref05_name.mono _ _)
   | (with_reducible exact LeO.refl _)
   | (with_reducible exact LeO.none _)
   | (with_reducible refine LeO.ite ?_ ?_)
   | (with_reducible refine LeO.bind ?_ (fun _ => ?_))
   | exact ancepsref05_name.mono _ _
   | exact LeO.none _
   | refine LeO.ite ?_ ?_
   | refine LeO.bind ?_ (fun _ => ?_)
set_option maxHeartbeats 8000000 in
set_option maxRecDepth 100000 in
theorem ancepsref05_IsName.calls (k : Nat) (a0 : ByteArray) (r : Bool) (w : World) (h : ancepsref05_IsName.f k a0 = some r) :
  Calls Try.prog 73 #[.string a0] w fun e w' => e = .returned (.bool r) ∧ Drawn0 w w' := by
 have H : (if a0.toList = ([] : List UInt8) then (some false) else (if (a0.size : Int) ≤ 20 then ((ancepsref05_name.f k a0).bind fun t275 => (some (t275 == (a0.size : Int)))) else (some false))) = some r := h
 clear h
 by_cases c2 : a0.toList = ([] : List UInt8)
 ·rw [if_pos c2] at H
  have c2b0 : (a0.toList == ([] : List UInt8)) = true := beq_iff_eq.mpr c2
  have c2b1 : (a0.toList != ([] : List UInt8)) = false := bne_eq_false_iff_eq.mpr c2
  clear c2
  obtain rfl := Option.some.inj H
  go_enter Try.func73, Try.ntmps73
  go_wp2
  go_ret
  exact ⟨eV, dR⟩
 ·rw [if_neg c2] at H
  have c2b0 : (a0.toList == ([] : List UInt8)) = false := beq_eq_false_iff_ne.mpr c2
  have c2b1 : (a0.toList != ([] : List UInt8)) = true := bne_iff_ne.mpr c2
  by_cases c3 : (a0.size : Int) ≤ 20
  ·rw [if_pos c3] at H
   have c3b0 : decide ((a0.size : Int) ≤ 20) = true := decide_eq_true c3
   have c3b1 : decide (a0.size ≤ 20) = true := decide_eq_true (by omega)
   clear c3
   replace H := Option.bind_eq_some_iff.mp H
   obtain ⟨t275, A40, H⟩ := H
   replace H : (some (t275 == (a0.size : Int))) = some r := H
   have A4 := Aside0.mk A40
   clear A40
   obtain rfl := Option.some.inj H
   go_enter Try.func73, Try.ntmps73
   go_wp2_with (first | (go_at_call 79; (with_reducible refine (ancepsref05_name.calls k a0 t275 _ A4.out).mono ?_); rintro e w' ⟨rfl, ⟨nd, rfl⟩⟩))
   go_ret
   exact ⟨eV, dR⟩
  ·rw [if_neg c3] at H
   have c3b0 : decide ((a0.size : Int) ≤ 20) = false := decide_eq_false c3
   have c3b1 : decide (a0.size ≤ 20) = false := decide_eq_false (by omega)
   clear c3
   obtain rfl := Option.some.inj H
   go_enter Try.func73, Try.ntmps73
   go_wp2
   go_ret
   exact ⟨eV, dR⟩

theorem calls_len_ {P : Program} {f n m c : Nat} {A : Option Addr} {x : Value} {w : World} {Q : Ending → World → Prop} (e : n = m) (h : Calls P f #[.slice A n c, x] w Q) : Calls P f #[.slice A m c, x] w Q := e ▸ h
/-! ### ancepsref57_names: function 68 -/
def ancepsref57_names.l0 : Nat → List ByteArray → Int → Option (Int)
 | 0, _, _ => none
 | k + 1, x0, x3 => if x3 < (x0.length : Int) then (if 0 ≤ x3 then ((ancepsref05_IsName.f k (rdOf ByteArray.empty x0 x3)).bind fun t277 => (if t277 = true then (if x3 ≤ (x0.length : Int) then ((ancepsref57_find.f k (x0.take (x3 : Int).toNat) (rdOf ByteArray.empty x0 x3)).bind fun t280 => (if t280 ≥ 0 then (some 5) else (ancepsref57_names.l0 k x0 (wrap64 (x3 + 1))))) else (none)) else (some 2))) else (none)) else (some 0)
def ancepsref57_names.f (k : Nat) (l0 : List ByteArray) : Option (Int) := if (l0.length : Int) = 0 then (some 7) else (if (l0.length : Int) > 8 then (some 3) else (ancepsref57_names.l0 k l0 0))
theorem ancepsref57_names.mono_l : ∀ k, (∀ y0 y1, LeO (ancepsref57_names.l0 k y0 y1) (ancepsref57_names.l0 (k + 1) y0 y1))
 | 0 => fun _ _ r h => by simp [ancepsref57_names.l0] at h
 | k + 1 => by
  have ih0 := ancepsref57_names.mono_l k
  ·intro y0 y1
   unfold ancepsref57_names.l0
   repeat' first
   | (with_reducible exact ih0 _ _)
   | (with_reducible exact ancepsref05_IsName.mono _ _)
   | (with_reducible exact ancepsref57_find.mono _ _ _)
   | (with_reducible exact LeO.refl _)
   | (with_reducible exact LeO.none _)
   | (with_reducible refine LeO.ite ?_ ?_)
   | (with_reducible refine LeO.bind ?_ (fun _ => ?_))
   | exact ih0 _ _
   | exact ancepsref05_IsName.mono _ _
   | exact ancepsref57_find.mono _ _ _
   | exact LeO.none _
   | refine LeO.ite ?_ ?_
   | refine LeO.bind ?_ (fun _ => ?_)
theorem ancepsref57_names.mono : ∀ a0 k, LeO (ancepsref57_names.f k a0) (ancepsref57_names.f (k + 1) a0) := by
 intro a0 k
 have ih0 := ancepsref57_names.mono_l k
 unfold ancepsref57_names.f
 repeat' first
   | (with_reducible exact ih0 _ _)
   | (with_reducible exact ancepsref05_IsName.mono _ _)
   | (with_reducible exact ancepsref57_find.mono _ _ _)
   | (with_reducible exact LeO.refl _)
   | (with_reducible exact LeO.none _)
   | (with_reducible refine LeO.ite ?_ ?_)
   | (with_reducible refine LeO.bind ?_ (fun _ => ?_))
   | exact ih0 _ _
   | exact ancepsref05_IsName.mono _ _
   | exact ancepsref57_find.mono _ _ _
   | exact LeO.none _
   | refine LeO.ite ?_ ?_
   | refine LeO.bind ?_ (fun _ => ?_)
set_option maxHeartbeats 8000000 in
set_option maxRecDepth 100000 in
theorem ancepsref57_names.calls (k : Nat) (A0 : Option Addr) (c0 : Nat) (l0 : List ByteArray) (r : Int) (w : World) (hr0 : Kd.C Kd.string w A0 l0.length l0) (hc0 : l0.length ≤ c0) (h : ancepsref57_names.f k l0 = some r) :
  Calls Try.prog 68 #[.slice A0 l0.length c0] w fun e w' => e = .returned (.int .i64 r) ∧ Drawn0 w w' := by
 have HR0 := Aside0.mk hr0
 have HC0 := Aside0.mk hc0
 clear hr0 hc0
 have H : (if (l0.length : Int) = 0 then (some 7) else (if (l0.length : Int) > 8 then (some 3) else (ancepsref57_names.l0 k l0 0))) = some r := h
 clear h
 by_cases c2 : (l0.length : Int) = 0
 ·rw [if_pos c2] at H
  have c2b0 : ((l0.length : Int) == 0) = true := beq_iff_eq.mpr c2
  have c2b1 : ((l0.length : Int) != 0) = false := bne_eq_false_iff_eq.mpr c2
  clear c2
  obtain rfl := Option.some.inj H
  go_enter Try.func68, Try.ntmps68
  go_wp2
  repeat (go_quiet (fail); try go_wp2)
  go_ret
  exact ⟨eV, dR⟩
 ·rw [if_neg c2] at H
  have c2b0 : ((l0.length : Int) == 0) = false := beq_eq_false_iff_ne.mpr c2
  have c2b1 : ((l0.length : Int) != 0) = true := bne_iff_ne.mpr c2
  have c2b2 : ¬ (l0 = []) := fun h_ => c2 (by rw [h_]; rfl)
  by_cases c3 : (l0.length : Int) > 8
  ·rw [if_pos c3] at H
   have c3b0 : decide (8 < (l0.length : Int)) = true := decide_eq_true c3
   have c3b1 : decide (8 < l0.length) = true := decide_eq_true (by omega)
   clear c3
   obtain rfl := Option.some.inj H
   go_enter Try.func68, Try.ntmps68
   go_wp2
   repeat (go_quiet (fail); try go_wp2)
   go_ret
   exact ⟨eV, dR⟩
  ·rw [if_neg c3] at H
   have c3b0 : decide (8 < (l0.length : Int)) = false := decide_eq_false c3
   have c3b1 : decide (8 < l0.length) = false := decide_eq_false (by omega)
   clear c3
   have H' := Aside0.mk H
   clear H
   go_enter Try.func68, Try.ntmps68
   go_wp2
   repeat (go_quiet (fail); try go_wp2)
   go_loopg [3] k (fun kq v3 w' => ∃ (x3_1 : Int), v3 = .int .i64 x3_1 ∧ Aside0 (ancepsref57_names.l0 kq l0 x3_1 = some r) ∧ Aside0 (kq ≤ k) ∧ Drawn0 w w')
   case atStart => exact ⟨(0), eV, H', ⟨Nat.le_refl _⟩, dR⟩
   case round =>
    clear H'
    (try clear c2); (try clear c2b0); (try clear c2b1); (try clear c2b2); (try clear p2); (try clear c3); (try clear c3b0); (try clear c3b1)
    obtain ⟨x3_1, rfl, HA, HK1, ⟨m1, rfl⟩⟩ := hrel
    cases gk with
    | zero => exact absurd HA.out (by simp [ancepsref57_names.l0])
    | succ k1 =>
     have H := HA.out
     clear HA
     simp only [ancepsref57_names.l0] at H
     by_cases c4 : x3_1 < (l0.length : Int)
     ·rw [if_pos c4] at H
      have c4b0 : decide (x3_1 < (l0.length : Int)) = true := decide_eq_true c4
      clear c4
      by_cases c5 : 0 ≤ x3_1
      ·rw [if_pos c5] at H
       have c5b0 : decide (0 ≤ x3_1) = true := decide_eq_true c5
       clear c5
       replace H := Option.bind_eq_some_iff.mp H
       obtain ⟨t277, A60, H⟩ := H
       try dsimp only at H
       have A6 := Aside0.mk A60
       clear A60
       by_cases c7 : t277 = true
       ·subst c7
        have H1 : (if x3_1 ≤ (l0.length : Int) then ((ancepsref57_find.f k1 (l0.take (x3_1 : Int).toNat) (rdOf ByteArray.empty l0 x3_1)).bind fun t280 => (if t280 ≥ 0 then (some 5) else (ancepsref57_names.l0 k1 l0 (wrap64 (x3_1 + 1))))) else (none)) = some r := by rw [if_pos rfl] at H; exact H
        clear H
        have H := H1
        clear H1
        have c8b0 := eq_true (of_decide_eq_true (by first | (with_reducible assumption) | assumption) : 0 ≤ x3_1)
        by_cases c9 : x3_1 ≤ (l0.length : Int)
        ·rw [if_pos c9] at H
         have c9b0 := eq_true c9
         have c9b1 : decide (x3_1 ≤ (l0.length : Int)) = true := decide_eq_true c9
         clear c9
         replace H := Option.bind_eq_some_iff.mp H
         obtain ⟨t280, A100, H⟩ := H
         try dsimp only at H
         have A10 := Aside0.mk A100
         clear A100
         by_cases c11 : t280 ≥ 0
         ·rw [if_pos c11] at H
          have c11b0 : decide (0 ≤ t280) = true := decide_eq_true c11
          clear c11
          obtain rfl := Option.some.inj H
          have p276 := oD (0 ≤ (x3_1 : Int))
          have q276 := oD (x3_1 < (l0.length : Int))
          obtain ⟨ad276, e276, hx276_0⟩ := Kd.at_string HR0.out x3_1 p276 q276
          cases e276
          replace p276 := eq_true p276
          replace q276 := eq_true q276
          go_wp2_with (first | (go_at_call 73; (with_reducible refine (ancepsref05_IsName.calls k1 (rdOf ByteArray.empty l0 x3_1) true _ A6.out).mono ?_); rintro e w' ⟨rfl, ⟨nd, rfl⟩⟩; (try first | exact ⟨rfl, _, World.drewN_drewN _ _ _⟩ | exact ⟨rfl, _, Eq.trans (World.drewN_drewN _ _ _) (congrArg (World.drewN _) (Nat.add_assoc _ _ _))⟩); obtain ⟨i012, hi012, _, hsz12, _⟩ := info_parts info9; obtain ⟨hcut12, hA12, hC12⟩ := print_take_of (P := Try.prog) Value.string (⟨#[]⟩ : ByteArray) 34 9 .i64 Try.underlying34 hi012 hsz12 (some ad276) c0 l0 x3_1 (of_decide_eq_true (by first | (with_reducible assumption) | assumption)) (of_decide_eq_true (by first | (with_reducible assumption) | assumption)) HC0.out; have HR278 := Aside0.mk (Kd.C_of_reads (h1 := fun _ => rfl) (hA12 _ (Kd.reads_of_C HR0.out))); have HC278 := Aside0.mk hC12; clear hA12 hC12 hi012 hsz12; have p279 := oD (0 ≤ (x3_1 : Int)); have q279 := oD (x3_1 < (l0.length : Int)); obtain ⟨ad279, e279, hx279_0⟩ := Kd.at_string HR0.out x3_1 p279 q279; obtain rfl : ad276 = ad279 := (by injection e279); replace p279 := eq_true p279; replace q279 := eq_true q279) | (go_at_call 59; (first | (with_reducible refine (ancepsref57_find.calls k1 _ _ (l0.take (x3_1 : Int).toNat) (rdOf ByteArray.empty l0 x3_1) t280 _ ?side1 ?side2 A10.out).mono ?_) | (refine (calls_len_ (by rw [List.length_take]; have h_ := of_decide_eq_true (by first | (with_reducible assumption) | assumption : decide (x3_1 ≤ (l0.length : Int)) = true); omega) (ancepsref57_find.calls k1 _ _ (l0.take (x3_1 : Int).toNat) (rdOf ByteArray.empty l0 x3_1) t280 _ ?side1 ?side2 A10.out)).mono ?_)); (case side1 => repeat (first | exact HR278.out | (with_reducible refine Kd.C_alloc ?_ _) | (with_reducible refine Kd.C_drewN ?_ _) | (with_reducible refine Kd.C_drew ?_))); (case side2 => exact HC278.out); rintro e w' ⟨rfl, ⟨nd, rfl⟩⟩; (try first | exact ⟨rfl, _, World.drewN_drewN _ _ _⟩ | exact ⟨rfl, _, Eq.trans (World.drewN_drewN _ _ _) (congrArg (World.drewN _) (Nat.add_assoc _ _ _))⟩)))
          repeat (go_quiet (first | (go_at_call 73; (with_reducible refine (ancepsref05_IsName.calls k1 (rdOf ByteArray.empty l0 x3_1) true _ A6.out).mono ?_); (try clear A6); rintro e w' ⟨rfl, ⟨nd, rfl⟩⟩; (try first | exact ⟨rfl, _, World.drewN_drewN _ _ _⟩ | exact ⟨rfl, _, Eq.trans (World.drewN_drewN _ _ _) (congrArg (World.drewN _) (Nat.add_assoc _ _ _))⟩); obtain ⟨i012, hi012, _, hsz12, _⟩ := info_parts info9; obtain ⟨hcut12, hA12, hC12⟩ := print_take_of (P := Try.prog) Value.string (⟨#[]⟩ : ByteArray) 34 9 .i64 Try.underlying34 hi012 hsz12 (some ad276) c0 l0 x3_1 (of_decide_eq_true (by first | (with_reducible assumption) | assumption)) (of_decide_eq_true (by first | (with_reducible assumption) | assumption)) HC0.out; have HR278 := Aside0.mk (Kd.C_of_reads (h1 := fun _ => rfl) (hA12 _ (Kd.reads_of_C HR0.out))); have HC278 := Aside0.mk hC12; clear hA12 hC12 hi012 hsz12; have p279 := oD (0 ≤ (x3_1 : Int)); have q279 := oD (x3_1 < (l0.length : Int)); obtain ⟨ad279, e279, hx279_0⟩ := Kd.at_string HR0.out x3_1 p279 q279; obtain rfl : ad276 = ad279 := (by injection e279); replace p279 := eq_true p279; replace q279 := eq_true q279) | (go_at_call 59; (first | (with_reducible refine (ancepsref57_find.calls k1 _ _ (l0.take (x3_1 : Int).toNat) (rdOf ByteArray.empty l0 x3_1) t280 _ ?side1 ?side2 A10.out).mono ?_) | (refine (calls_len_ (by rw [List.length_take]; have h_ := of_decide_eq_true (by first | (with_reducible assumption) | assumption : decide (x3_1 ≤ (l0.length : Int)) = true); omega) (ancepsref57_find.calls k1 _ _ (l0.take (x3_1 : Int).toNat) (rdOf ByteArray.empty l0 x3_1) t280 _ ?side1 ?side2 A10.out)).mono ?_)); (case side1 => repeat (first | exact HR278.out | (with_reducible refine Kd.C_alloc ?_ _) | (with_reducible refine Kd.C_drewN ?_ _) | (with_reducible refine Kd.C_drew ?_))); (case side2 => exact HC278.out); (try clear A10); rintro e w' ⟨rfl, ⟨nd, rfl⟩⟩; (try first | exact ⟨rfl, _, World.drewN_drewN _ _ _⟩ | exact ⟨rfl, _, Eq.trans (World.drewN_drewN _ _ _) (congrArg (World.drewN _) (Nat.add_assoc _ _ _))⟩))); try go_wp2_with (first | (go_at_call 73; (with_reducible refine (ancepsref05_IsName.calls k1 (rdOf ByteArray.empty l0 x3_1) true _ A6.out).mono ?_); (try clear A6); rintro e w' ⟨rfl, ⟨nd, rfl⟩⟩; (try first | exact ⟨rfl, _, World.drewN_drewN _ _ _⟩ | exact ⟨rfl, _, Eq.trans (World.drewN_drewN _ _ _) (congrArg (World.drewN _) (Nat.add_assoc _ _ _))⟩); obtain ⟨i012, hi012, _, hsz12, _⟩ := info_parts info9; obtain ⟨hcut12, hA12, hC12⟩ := print_take_of (P := Try.prog) Value.string (⟨#[]⟩ : ByteArray) 34 9 .i64 Try.underlying34 hi012 hsz12 (some ad276) c0 l0 x3_1 (of_decide_eq_true (by first | (with_reducible assumption) | assumption)) (of_decide_eq_true (by first | (with_reducible assumption) | assumption)) HC0.out; have HR278 := Aside0.mk (Kd.C_of_reads (h1 := fun _ => rfl) (hA12 _ (Kd.reads_of_C HR0.out))); have HC278 := Aside0.mk hC12; clear hA12 hC12 hi012 hsz12; have p279 := oD (0 ≤ (x3_1 : Int)); have q279 := oD (x3_1 < (l0.length : Int)); obtain ⟨ad279, e279, hx279_0⟩ := Kd.at_string HR0.out x3_1 p279 q279; obtain rfl : ad276 = ad279 := (by injection e279); replace p279 := eq_true p279; replace q279 := eq_true q279) | (go_at_call 59; (first | (with_reducible refine (ancepsref57_find.calls k1 _ _ (l0.take (x3_1 : Int).toNat) (rdOf ByteArray.empty l0 x3_1) t280 _ ?side1 ?side2 A10.out).mono ?_) | (refine (calls_len_ (by rw [List.length_take]; have h_ := of_decide_eq_true (by first | (with_reducible assumption) | assumption : decide (x3_1 ≤ (l0.length : Int)) = true); omega) (ancepsref57_find.calls k1 _ _ (l0.take (x3_1 : Int).toNat) (rdOf ByteArray.empty l0 x3_1) t280 _ ?side1 ?side2 A10.out)).mono ?_)); (case side1 => repeat (first | exact HR278.out | (with_reducible refine Kd.C_alloc ?_ _) | (with_reducible refine Kd.C_drewN ?_ _) | (with_reducible refine Kd.C_drew ?_))); (case side2 => exact HC278.out); (try clear A10); rintro e w' ⟨rfl, ⟨nd, rfl⟩⟩; (try first | exact ⟨rfl, _, World.drewN_drewN _ _ _⟩ | exact ⟨rfl, _, Eq.trans (World.drewN_drewN _ _ _) (congrArg (World.drewN _) (Nat.add_assoc _ _ _))⟩))))
          go_ret
          exact ⟨eV, dR⟩
         ·rw [if_neg c11] at H
          have c11b0 : decide (0 ≤ t280) = false := decide_eq_false c11
          clear c11
          have H' := Aside0.mk H
          clear H
          have p276 := oD (0 ≤ (x3_1 : Int))
          have q276 := oD (x3_1 < (l0.length : Int))
          obtain ⟨ad276, e276, hx276_0⟩ := Kd.at_string HR0.out x3_1 p276 q276
          cases e276
          replace p276 := eq_true p276
          replace q276 := eq_true q276
          go_wp2_with (first | (go_at_call 73; (with_reducible refine (ancepsref05_IsName.calls k1 (rdOf ByteArray.empty l0 x3_1) true _ A6.out).mono ?_); rintro e w' ⟨rfl, ⟨nd, rfl⟩⟩; (try first | exact ⟨rfl, _, World.drewN_drewN _ _ _⟩ | exact ⟨rfl, _, Eq.trans (World.drewN_drewN _ _ _) (congrArg (World.drewN _) (Nat.add_assoc _ _ _))⟩); obtain ⟨i013, hi013, _, hsz13, _⟩ := info_parts info9; obtain ⟨hcut13, hA13, hC13⟩ := print_take_of (P := Try.prog) Value.string (⟨#[]⟩ : ByteArray) 34 9 .i64 Try.underlying34 hi013 hsz13 (some ad276) c0 l0 x3_1 (of_decide_eq_true (by first | (with_reducible assumption) | assumption)) (of_decide_eq_true (by first | (with_reducible assumption) | assumption)) HC0.out; have HR278 := Aside0.mk (Kd.C_of_reads (h1 := fun _ => rfl) (hA13 _ (Kd.reads_of_C HR0.out))); have HC278 := Aside0.mk hC13; clear hA13 hC13 hi013 hsz13; have p279 := oD (0 ≤ (x3_1 : Int)); have q279 := oD (x3_1 < (l0.length : Int)); obtain ⟨ad279, e279, hx279_0⟩ := Kd.at_string HR0.out x3_1 p279 q279; obtain rfl : ad276 = ad279 := (by injection e279); replace p279 := eq_true p279; replace q279 := eq_true q279) | (go_at_call 59; (first | (with_reducible refine (ancepsref57_find.calls k1 _ _ (l0.take (x3_1 : Int).toNat) (rdOf ByteArray.empty l0 x3_1) t280 _ ?side1 ?side2 A10.out).mono ?_) | (refine (calls_len_ (by rw [List.length_take]; have h_ := of_decide_eq_true (by first | (with_reducible assumption) | assumption : decide (x3_1 ≤ (l0.length : Int)) = true); omega) (ancepsref57_find.calls k1 _ _ (l0.take (x3_1 : Int).toNat) (rdOf ByteArray.empty l0 x3_1) t280 _ ?side1 ?side2 A10.out)).mono ?_)); (case side1 => repeat (first | exact HR278.out | (with_reducible refine Kd.C_alloc ?_ _) | (with_reducible refine Kd.C_drewN ?_ _) | (with_reducible refine Kd.C_drew ?_))); (case side2 => exact HC278.out); rintro e w' ⟨rfl, ⟨nd, rfl⟩⟩; (try first | exact ⟨rfl, _, World.drewN_drewN _ _ _⟩ | exact ⟨rfl, _, Eq.trans (World.drewN_drewN _ _ _) (congrArg (World.drewN _) (Nat.add_assoc _ _ _))⟩)))
          repeat (go_quiet (first | (go_at_call 73; (with_reducible refine (ancepsref05_IsName.calls k1 (rdOf ByteArray.empty l0 x3_1) true _ A6.out).mono ?_); (try clear A6); rintro e w' ⟨rfl, ⟨nd, rfl⟩⟩; (try first | exact ⟨rfl, _, World.drewN_drewN _ _ _⟩ | exact ⟨rfl, _, Eq.trans (World.drewN_drewN _ _ _) (congrArg (World.drewN _) (Nat.add_assoc _ _ _))⟩); obtain ⟨i013, hi013, _, hsz13, _⟩ := info_parts info9; obtain ⟨hcut13, hA13, hC13⟩ := print_take_of (P := Try.prog) Value.string (⟨#[]⟩ : ByteArray) 34 9 .i64 Try.underlying34 hi013 hsz13 (some ad276) c0 l0 x3_1 (of_decide_eq_true (by first | (with_reducible assumption) | assumption)) (of_decide_eq_true (by first | (with_reducible assumption) | assumption)) HC0.out; have HR278 := Aside0.mk (Kd.C_of_reads (h1 := fun _ => rfl) (hA13 _ (Kd.reads_of_C HR0.out))); have HC278 := Aside0.mk hC13; clear hA13 hC13 hi013 hsz13; have p279 := oD (0 ≤ (x3_1 : Int)); have q279 := oD (x3_1 < (l0.length : Int)); obtain ⟨ad279, e279, hx279_0⟩ := Kd.at_string HR0.out x3_1 p279 q279; obtain rfl : ad276 = ad279 := (by injection e279); replace p279 := eq_true p279; replace q279 := eq_true q279) | (go_at_call 59; (first | (with_reducible refine (ancepsref57_find.calls k1 _ _ (l0.take (x3_1 : Int).toNat) (rdOf ByteArray.empty l0 x3_1) t280 _ ?side1 ?side2 A10.out).mono ?_) | (refine (calls_len_ (by rw [List.length_take]; have h_ := of_decide_eq_true (by first | (with_reducible assumption) | assumption : decide (x3_1 ≤ (l0.length : Int)) = true); omega) (ancepsref57_find.calls k1 _ _ (l0.take (x3_1 : Int).toNat) (rdOf ByteArray.empty l0 x3_1) t280 _ ?side1 ?side2 A10.out)).mono ?_)); (case side1 => repeat (first | exact HR278.out | (with_reducible refine Kd.C_alloc ?_ _) | (with_reducible refine Kd.C_drewN ?_ _) | (with_reducible refine Kd.C_drew ?_))); (case side2 => exact HC278.out); (try clear A10); rintro e w' ⟨rfl, ⟨nd, rfl⟩⟩; (try first | exact ⟨rfl, _, World.drewN_drewN _ _ _⟩ | exact ⟨rfl, _, Eq.trans (World.drewN_drewN _ _ _) (congrArg (World.drewN _) (Nat.add_assoc _ _ _))⟩))); try go_wp2_with (first | (go_at_call 73; (with_reducible refine (ancepsref05_IsName.calls k1 (rdOf ByteArray.empty l0 x3_1) true _ A6.out).mono ?_); (try clear A6); rintro e w' ⟨rfl, ⟨nd, rfl⟩⟩; (try first | exact ⟨rfl, _, World.drewN_drewN _ _ _⟩ | exact ⟨rfl, _, Eq.trans (World.drewN_drewN _ _ _) (congrArg (World.drewN _) (Nat.add_assoc _ _ _))⟩); obtain ⟨i013, hi013, _, hsz13, _⟩ := info_parts info9; obtain ⟨hcut13, hA13, hC13⟩ := print_take_of (P := Try.prog) Value.string (⟨#[]⟩ : ByteArray) 34 9 .i64 Try.underlying34 hi013 hsz13 (some ad276) c0 l0 x3_1 (of_decide_eq_true (by first | (with_reducible assumption) | assumption)) (of_decide_eq_true (by first | (with_reducible assumption) | assumption)) HC0.out; have HR278 := Aside0.mk (Kd.C_of_reads (h1 := fun _ => rfl) (hA13 _ (Kd.reads_of_C HR0.out))); have HC278 := Aside0.mk hC13; clear hA13 hC13 hi013 hsz13; have p279 := oD (0 ≤ (x3_1 : Int)); have q279 := oD (x3_1 < (l0.length : Int)); obtain ⟨ad279, e279, hx279_0⟩ := Kd.at_string HR0.out x3_1 p279 q279; obtain rfl : ad276 = ad279 := (by injection e279); replace p279 := eq_true p279; replace q279 := eq_true q279) | (go_at_call 59; (first | (with_reducible refine (ancepsref57_find.calls k1 _ _ (l0.take (x3_1 : Int).toNat) (rdOf ByteArray.empty l0 x3_1) t280 _ ?side1 ?side2 A10.out).mono ?_) | (refine (calls_len_ (by rw [List.length_take]; have h_ := of_decide_eq_true (by first | (with_reducible assumption) | assumption : decide (x3_1 ≤ (l0.length : Int)) = true); omega) (ancepsref57_find.calls k1 _ _ (l0.take (x3_1 : Int).toNat) (rdOf ByteArray.empty l0 x3_1) t280 _ ?side1 ?side2 A10.out)).mono ?_)); (case side1 => repeat (first | exact HR278.out | (with_reducible refine Kd.C_alloc ?_ _) | (with_reducible refine Kd.C_drewN ?_ _) | (with_reducible refine Kd.C_drew ?_))); (case side2 => exact HC278.out); (try clear A10); rintro e w' ⟨rfl, ⟨nd, rfl⟩⟩; (try first | exact ⟨rfl, _, World.drewN_drewN _ _ _⟩ | exact ⟨rfl, _, Eq.trans (World.drewN_drewN _ _ _) (congrArg (World.drewN _) (Nat.add_assoc _ _ _))⟩))))
          go_roundg k1
          case measure => have := HK1.out; omega
          case rel => exact ⟨(wrap64 (x3_1 + 1)), eV, H', ⟨by have := HK1.out; omega⟩, dR⟩
        ·rw [if_neg c9] at H
         exact absurd H (by simp)
       ·replace c7 := Bool.eq_false_iff.mpr c7
        subst c7
        have H1 : (some 2) = some r := by rw [if_neg (show ¬ (false = true) by decide)] at H; exact H
        clear H
        have H := H1
        clear H1
        obtain rfl := Option.some.inj H
        have p276 := oD (0 ≤ (x3_1 : Int))
        have q276 := oD (x3_1 < (l0.length : Int))
        obtain ⟨ad276, e276, hx276_0⟩ := Kd.at_string HR0.out x3_1 p276 q276
        cases e276
        replace p276 := eq_true p276
        replace q276 := eq_true q276
        go_wp2_with (first | (go_at_call 73; (with_reducible refine (ancepsref05_IsName.calls k1 (rdOf ByteArray.empty l0 x3_1) false _ A6.out).mono ?_); rintro e w' ⟨rfl, ⟨nd, rfl⟩⟩; (try first | exact ⟨rfl, _, World.drewN_drewN _ _ _⟩ | exact ⟨rfl, _, Eq.trans (World.drewN_drewN _ _ _) (congrArg (World.drewN _) (Nat.add_assoc _ _ _))⟩)))
        repeat (go_quiet (first | (go_at_call 73; (with_reducible refine (ancepsref05_IsName.calls k1 (rdOf ByteArray.empty l0 x3_1) false _ A6.out).mono ?_); (try clear A6); rintro e w' ⟨rfl, ⟨nd, rfl⟩⟩; (try first | exact ⟨rfl, _, World.drewN_drewN _ _ _⟩ | exact ⟨rfl, _, Eq.trans (World.drewN_drewN _ _ _) (congrArg (World.drewN _) (Nat.add_assoc _ _ _))⟩))); try go_wp2_with (first | (go_at_call 73; (with_reducible refine (ancepsref05_IsName.calls k1 (rdOf ByteArray.empty l0 x3_1) false _ A6.out).mono ?_); (try clear A6); rintro e w' ⟨rfl, ⟨nd, rfl⟩⟩; (try first | exact ⟨rfl, _, World.drewN_drewN _ _ _⟩ | exact ⟨rfl, _, Eq.trans (World.drewN_drewN _ _ _) (congrArg (World.drewN _) (Nat.add_assoc _ _ _))⟩))))
        go_ret
        exact ⟨eV, dR⟩
      ·rw [if_neg c5] at H
       exact absurd H (by simp)
     ·rw [if_neg c4] at H
      have c4b0 : decide (x3_1 < (l0.length : Int)) = false := decide_eq_false c4
      clear c4
      obtain rfl := Option.some.inj H
      go_wp2
      repeat (go_quiet (fail); try go_wp2)
      go_ret
      exact ⟨eV, dR⟩

/-! ### ancepsref01_Valid: function 39 -/
def ancepsref01_Valid.l0 : Nat → ByteArray → Int → Option (Int)
 | 0, _, _ => none
 | k + 1, x0, x3 => if x3 < (x0.size : Int) then (if 0 ≤ x3 then (if (bt x0 x3) < 32 then (some 2) else (if (bt x0 x3) > 126 then (some 2) else (ancepsref01_Valid.l0 k x0 (wrap64 (x3 + 1))))) else (none)) else (some 0)
def ancepsref01_Valid.f (k : Nat) (a0 : ByteArray) : Option (Int) := if (a0.size : Int) > 120 then (some 3) else (ancepsref01_Valid.l0 k a0 0)
theorem ancepsref01_Valid.mono_l : ∀ k, (∀ y0 y1, LeO (ancepsref01_Valid.l0 k y0 y1) (ancepsref01_Valid.l0 (k + 1) y0 y1))
 | 0 => fun _ _ r h => by simp [ancepsref01_Valid.l0] at h
 | k + 1 => by
  have ih0 := ancepsref01_Valid.mono_l k
  ·intro y0 y1
   unfold ancepsref01_Valid.l0
   repeat' first
   | (with_reducible exact ih0 _ _)
   | (with_reducible exact LeO.refl _)
   | (with_reducible exact LeO.none _)
   | (with_reducible refine LeO.ite ?_ ?_)
   | (with_reducible refine LeO.bind ?_ (fun _ => ?_))
   | exact ih0 _ _
   | exact LeO.none _
   | refine LeO.ite ?_ ?_
   | refine LeO.bind ?_ (fun _ => ?_)
theorem ancepsref01_Valid.mono : ∀ a0 k, LeO (ancepsref01_Valid.f k a0) (ancepsref01_Valid.f (k + 1) a0) := by
 intro a0 k
 have ih0 := ancepsref01_Valid.mono_l k
 unfold ancepsref01_Valid.f
 repeat' first
   | (with_reducible exact ih0 _ _)
   | (with_reducible exact LeO.refl _)
   | (with_reducible exact LeO.none _)
   | (with_reducible refine LeO.ite ?_ ?_)
   | (with_reducible refine LeO.bind ?_ (fun _ => ?_))
   | exact ih0 _ _
   | exact LeO.none _
   | refine LeO.ite ?_ ?_
   | refine LeO.bind ?_ (fun _ => ?_)
set_option maxHeartbeats 8000000 in
set_option maxRecDepth 100000 in
theorem ancepsref01_Valid.calls (k : Nat) (a0 : ByteArray) (r : Int) (w : World) (h : ancepsref01_Valid.f k a0 = some r) :
  Calls Try.prog 39 #[.string a0] w fun e w' => e = .returned (.int .i64 r) ∧ Drawn0 w w' := by
 have H : (if (a0.size : Int) > 120 then (some 3) else (ancepsref01_Valid.l0 k a0 0)) = some r := h
 clear h
 by_cases c2 : (a0.size : Int) > 120
 ·rw [if_pos c2] at H
  have c2b0 : decide (120 < (a0.size : Int)) = true := decide_eq_true c2
  have c2b1 : decide (120 < a0.size) = true := decide_eq_true (by omega)
  clear c2
  obtain rfl := Option.some.inj H
  go_enter Try.func39, Try.ntmps39
  go_wp2
  go_ret
  exact ⟨eV, dR⟩
 ·rw [if_neg c2] at H
  have c2b0 : decide (120 < (a0.size : Int)) = false := decide_eq_false c2
  have c2b1 : decide (120 < a0.size) = false := decide_eq_false (by omega)
  clear c2
  have H' := Aside0.mk H
  clear H
  go_enter Try.func39, Try.ntmps39
  go_wp2
  go_loopg [3] k (fun kq v3 w' => ∃ (x3_1 : Int), v3 = .int .i64 x3_1 ∧ Aside0 (ancepsref01_Valid.l0 kq a0 x3_1 = some r) ∧ Aside0 (kq ≤ k) ∧ Drawn0 w w')
  case atStart => exact ⟨(0), eV, H', ⟨Nat.le_refl _⟩, dR⟩
  case round =>
   clear H'
   (try clear c2); (try clear c2b0); (try clear c2b1); (try clear p2)
   obtain ⟨x3_1, rfl, HA, HK1, ⟨m1, rfl⟩⟩ := hrel
   cases gk with
   | zero => exact absurd HA.out (by simp [ancepsref01_Valid.l0])
   | succ k1 =>
    have H := HA.out
    clear HA
    simp only [ancepsref01_Valid.l0] at H
    by_cases c3 : x3_1 < (a0.size : Int)
    ·rw [if_pos c3] at H
     have c3b0 : decide (x3_1 < (a0.size : Int)) = true := decide_eq_true c3
     clear c3
     by_cases c4 : 0 ≤ x3_1
     ·rw [if_pos c4] at H
      have c4b0 : decide (0 ≤ x3_1) = true := decide_eq_true c4
      clear c4
      by_cases c6 : (bt a0 x3_1) < 32
      ·rw [if_pos c6] at H
       have c6b0 : decide ((bt a0 x3_1) < 32) = true := decide_eq_true c6
       clear c6
       obtain rfl := Option.some.inj H
       have p5 := oD (0 ≤ (x3_1 : Int))
       have q5 := oD (x3_1 < (a0.size : Int))
       have hx5 := bt_at a0 x3_1
       replace p5 := eq_true p5
       replace q5 := eq_true q5
       go_wp2
       go_ret
       exact ⟨eV, dR⟩
      ·rw [if_neg c6] at H
       have c6b0 : decide ((bt a0 x3_1) < 32) = false := decide_eq_false c6
       clear c6
       by_cases c8 : (bt a0 x3_1) > 126
       ·rw [if_pos c8] at H
        have c8b0 : decide (126 < (bt a0 x3_1)) = true := decide_eq_true c8
        clear c8
        obtain rfl := Option.some.inj H
        have p5 := oD (0 ≤ (x3_1 : Int))
        have q5 := oD (x3_1 < (a0.size : Int))
        have hx5 := bt_at a0 x3_1
        replace p5 := eq_true p5
        replace q5 := eq_true q5
        have p7 := oD (0 ≤ (x3_1 : Int))
        have q7 := oD (x3_1 < (a0.size : Int))
        have hx7 := bt_at a0 x3_1
        replace p7 := eq_true p7
        replace q7 := eq_true q7
        go_wp2
        go_ret
        exact ⟨eV, dR⟩
       ·rw [if_neg c8] at H
        have c8b0 : decide (126 < (bt a0 x3_1)) = false := decide_eq_false c8
        clear c8
        have H' := Aside0.mk H
        clear H
        have p5 := oD (0 ≤ (x3_1 : Int))
        have q5 := oD (x3_1 < (a0.size : Int))
        have hx5 := bt_at a0 x3_1
        replace p5 := eq_true p5
        replace q5 := eq_true q5
        have p7 := oD (0 ≤ (x3_1 : Int))
        have q7 := oD (x3_1 < (a0.size : Int))
        have hx7 := bt_at a0 x3_1
        replace p7 := eq_true p7
        replace q7 := eq_true q7
        go_wp2
        go_roundg k1
        case measure => have := HK1.out; omega
        case rel => exact ⟨(wrap64 (x3_1 + 1)), eV, H', ⟨by have := HK1.out; omega⟩, dR⟩
     ·rw [if_neg c4] at H
      exact absurd H (by simp)
    ·rw [if_neg c3] at H
     have c3b0 : decide (x3_1 < (a0.size : Int)) = false := decide_eq_false c3
     clear c3
     obtain rfl := Option.some.inj H
     go_wp2
     go_ret
     exact ⟨eV, dR⟩

end Go.Proofs.Ytmjigfoldeekmaa.X
