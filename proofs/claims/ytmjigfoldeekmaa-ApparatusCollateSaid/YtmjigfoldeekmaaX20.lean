-- shortened
-- thinned
-- halved indents
-- printed by this session's xprint.py: out of the translation, by the kit's print with additions; Lean checks it
import Derived.Test.YtmjigfoldeekmaaWShare
import Derived.Test.YtmjigfoldeekmaaWRepsOne
import Derived.Test.YtmjigfoldeekmaaX0
import Derived.Test.YtmjigfoldeekmaaX13
import Derived.Test.YtmjigfoldeekmaaXA
namespace Go.Proofs.Ytmjigfoldeekmaa.X
open Go.RowKit Go.Proofs.YtmjigfoldeekmaaW.PrintWords Go.Proofs.YtmjigfoldeekmaaW.PrintLast Go.Proofs.YtmjigfoldeekmaaW.PrintMore
attribute [local go_sem] max2_int min2_int max_two min_two max_three min_three max_four min_four isSome_setCell binOp_gtr_str binOp_leq_str binOp_geq_str   -- for this text's walks alone
set_option linter.unusedVariables false
set_option linter.unusedSimpArgs false

/-! ### ancepsref57_given: function 48 -/
mutual
def ancepsref57_given.l0 : Nat → List (List ByteArray) → Int → Option (Int)
 | 0, _, _ => none
 | k + 1, x1, x6 => if x6 < (x1.length : Int) then (if 0 ≤ x6 then (if 0 < (x1.length : Int) then (if ((rd_L8 x1 x6).length : Int) = ((rd_L8 x1 0).length : Int) then (ancepsref57_given.l0 k x1 (wrap64 (x6 + 1))) else (some 6)) else (none)) else (none)) else (if 0 < (x1.length : Int) then (if ((rd_L8 x1 0).length : Int) > 200 then (some 3) else (ancepsref57_given.l1 k x1 0)) else (none))
def ancepsref57_given.l1 : Nat → List (List ByteArray) → Int → Option (Int)
 | 0, _, _ => none
 | k + 1, x1, x7 => if x7 < (x1.length : Int) then (ancepsref57_given.l2 k x1 x7 0) else (some 0)
def ancepsref57_given.l2 : Nat → List (List ByteArray) → Int → Int → Option (Int)
 | 0, _, _, _ => none
 | k + 1, x1, x7, x8 => if 0 ≤ x7 then (if x7 < (x1.length : Int) then (if x8 < ((rd_L8 x1 x7).length : Int) then (if 0 ≤ x8 then ((ancepsref01_Valid.f k (rdOf ByteArray.empty (rd_L8 x1 x7) x8)).bind fun t333 => (if t333 = 0 then (ancepsref57_given.l2 k x1 x7 (wrap64 (x8 + 1))) else (some t333))) else (none)) else (ancepsref57_given.l1 k x1 (wrap64 (x7 + 1)))) else (none)) else (none)
end
def ancepsref57_given.f (k : Nat) (l0 : List ByteArray) (l1 : List (List ByteArray)) : Option (Int) := (ancepsref57_names.f k l0).bind fun t326 => (if t326 = 0 then (if (l1.length : Int) = (l0.length : Int) then (ancepsref57_given.l0 k l1 0) else (some 6)) else (some t326))
theorem ancepsref57_given.mono_l : ∀ k, (∀ y0 y1, LeO (ancepsref57_given.l0 k y0 y1) (ancepsref57_given.l0 (k + 1) y0 y1)) ∧ (∀ y0 y1, LeO (ancepsref57_given.l1 k y0 y1) (ancepsref57_given.l1 (k + 1) y0 y1)) ∧ (∀ y0 y1 y2, LeO (ancepsref57_given.l2 k y0 y1 y2) (ancepsref57_given.l2 (k + 1) y0 y1 y2))
 | 0 => ⟨fun _ _ r h => by simp [ancepsref57_given.l0] at h, fun _ _ r h => by simp [ancepsref57_given.l1] at h, fun _ _ _ r h => by simp [ancepsref57_given.l2] at h⟩
 | k + 1 => by
  obtain ⟨ih0, ih1, ih2⟩ := ancepsref57_given.mono_l k
  refine ⟨?_, ?_, ?_⟩
  ·intro y0 y1
   unfold ancepsref57_given.l0
   repeat' first
   | (with_reducible exact ih0 _ _)
   | (with_reducible exact ih1 _ _)
   | (with_reducible exact ih2 _ _ _)
   | (with_reducible exact ancepsref01_Valid.mono _ _)
   | (with_reducible exact ancepsref57_names.mono _ _)
   | (with_reducible exact LeO.refl _)
   | (with_reducible exact LeO.none _)
   | (with_reducible refine LeO.ite ?_ ?_)
   | (with_reducible refine LeO.bind ?_ (fun _ => ?_))
   | exact ih0 _ _
   | exact ih1 _ _
   | exact ih2 _ _ _
   | exact ancepsref01_Valid.mono _ _
   | exact ancepsref57_names.mono _ _
   | exact LeO.none _
   | refine LeO.ite ?_ ?_
   | refine LeO.bind ?_ (fun _ => ?_)
  ·intro y0 y1
   unfold ancepsref57_given.l1
   repeat' first
   | (with_reducible exact ih0 _ _)
   | (with_reducible exact ih1 _ _)
   | (with_reducible exact ih2 _ _ _)
   | (with_reducible exact ancepsref01_Valid.mono _ _)
   | (with_reducible exact ancepsref57_names.mono _ _)
   | (with_reducible exact LeO.refl _)
   | (with_reducible exact LeO.none _)
   | (with_reducible refine LeO.ite ?_ ?_)
   | (with_reducible refine LeO.bind ?_ (fun _ => ?_))
   | exact ih0 _ _
   | exact ih1 _ _
   | exact ih2 _ _ _
   | exact ancepsref01_Valid.mono _ _
   | exact ancepsref57_names.mono _ _
   | exact LeO.none _
   | refine LeO.ite ?_ ?_
   | refine LeO.bind ?_ (fun _ => ?_)
  ·intro y0 y1 y2
   unfold ancepsref57_given.l2
   repeat' first
   | (with_reducible exact ih0 _ _)
   | (with_reducible exact ih1 _ _)
   | (with_reducible exact ih2 _ _ _)
   | (with_reducible exact ancepsref01_Valid.mono _ _)
   | (with_reducible exact ancepsref57_names.mono _ _)
   | (with_reducible exact LeO.refl _)
   | (with_reducible exact LeO.none _)
   | (with_reducible refine LeO.ite ?_ ?_)
   | (with_reducible refine LeO.bind ?_ (fun _ => ?_))
   | exact ih0 _ _
   | exact ih1 _ _
   | exact ih2 _ _ _
   | exact ancepsref01_Valid.mono _ _
   | exact ancepsref57_names.mono _ _
   | exact LeO.none _
   | refine LeO.ite ?_ ?_
   | refine LeO.bind ?_ (fun _ => ?_)
theorem ancepsref57_given.mono : ∀ a0 a1 k, LeO (ancepsref57_given.f k a0 a1) (ancepsref57_given.f (k + 1) a0 a1) := by
 intro a0 a1 k
 obtain ⟨ih0, ih1, ih2⟩ := ancepsref57_given.mono_l k
 unfold ancepsref57_given.f
 repeat' first
   | (with_reducible exact ih0 _ _)
   | (with_reducible exact ih1 _ _)
   | (with_reducible exact ih2 _ _ _)
   | (with_reducible exact ancepsref01_Valid.mono _ _)
   | (with_reducible exact ancepsref57_names.mono _ _)
   | (with_reducible exact LeO.refl _)
   | (with_reducible exact LeO.none _)
   | (with_reducible refine LeO.ite ?_ ?_)
   | (with_reducible refine LeO.bind ?_ (fun _ => ?_))
   | exact ih0 _ _
   | exact ih1 _ _
   | exact ih2 _ _ _
   | exact ancepsref01_Valid.mono _ _
   | exact ancepsref57_names.mono _ _
   | exact LeO.none _
   | refine LeO.ite ?_ ?_
   | refine LeO.bind ?_ (fun _ => ?_)
set_option maxHeartbeats 8000000 in
set_option maxRecDepth 100000 in
theorem ancepsref57_given.calls (k : Nat) (A0 : Option Addr) (c0 : Nat) (l0 : List ByteArray) (A1 : Option Addr) (c1 : Nat) (l1 : List (List ByteArray)) (r : Int) (w : World) (hr0 : Kd.C Kd.string w A0 l0.length l0) (hc0 : l0.length ≤ c0) (hr1 : Kd.C (Kd.slice 9 Kd.string) w A1 l1.length l1) (hc1 : l1.length ≤ c1) (h : ancepsref57_given.f k l0 l1 = some r) :
  Calls Try.prog 48 #[.slice A0 l0.length c0, .slice A1 l1.length c1] w fun e w' => e = .returned (.int .i64 r) ∧ Drawn0 w w' := by
 have HR0 := Aside0.mk hr0
 have HC0 := Aside0.mk hc0
 clear hr0 hc0
 have HR1 := Aside0.mk hr1
 have HC1 := Aside0.mk hc1
 clear hr1 hc1
 have H : ((ancepsref57_names.f k l0).bind fun t326 => (if t326 = 0 then (if (l1.length : Int) = (l0.length : Int) then (ancepsref57_given.l0 k l1 0) else (some 6)) else (some t326))) = some r := h
 clear h
 replace H := Option.bind_eq_some_iff.mp H
 obtain ⟨t326, A30, H⟩ := H
 try dsimp only at H
 have A3 := Aside0.mk A30
 clear A30
 by_cases c4 : t326 = 0
 ·rw [if_pos c4] at H
  have c4b0 : (t326 == 0) = true := beq_iff_eq.mpr c4
  have c4b1 : (t326 != 0) = false := bne_eq_false_iff_eq.mpr c4
  clear c4
  by_cases c5 : (l1.length : Int) = (l0.length : Int)
  ·rw [if_pos c5] at H
   have c5b0 : ((l1.length : Int) == (l0.length : Int)) = true := beq_iff_eq.mpr c5
   have c5b1 : ((l1.length : Int) != (l0.length : Int)) = false := bne_eq_false_iff_eq.mpr c5
   have c5b2 : (l1.length == l0.length) = true := by first | simpa using c5 | (simp at c5 ⊢; omega)
   clear c5
   have H' := Aside0.mk H
   clear H
   go_enter Try.func48, Try.ntmps48
   go_wp2_with (first | (go_at_call 68; (with_reducible refine (ancepsref57_names.calls k _ _ l0 t326 _ ?side1 ?side2 A3.out).mono ?_); (case side1 => repeat (first | exact HR0.out | (with_reducible refine Kd.C_alloc ?_ _) | (with_reducible refine Kd.C_drewN ?_ _) | (with_reducible refine Kd.C_drew ?_))); (case side2 => exact HC0.out); rintro e w' ⟨rfl, ⟨nd, rfl⟩⟩; (try first | exact ⟨rfl, _, World.drewN_drewN _ _ _⟩ | exact ⟨rfl, _, Eq.trans (World.drewN_drewN _ _ _) (congrArg (World.drewN _) (Nat.add_assoc _ _ _))⟩)))
   repeat (go_quiet (first | (go_at_call 68; (with_reducible refine (ancepsref57_names.calls k _ _ l0 t326 _ ?side1 ?side2 A3.out).mono ?_); (case side1 => repeat (first | exact HR0.out | (with_reducible refine Kd.C_alloc ?_ _) | (with_reducible refine Kd.C_drewN ?_ _) | (with_reducible refine Kd.C_drew ?_))); (case side2 => exact HC0.out); (try clear A3); rintro e w' ⟨rfl, ⟨nd, rfl⟩⟩; (try first | exact ⟨rfl, _, World.drewN_drewN _ _ _⟩ | exact ⟨rfl, _, Eq.trans (World.drewN_drewN _ _ _) (congrArg (World.drewN _) (Nat.add_assoc _ _ _))⟩))); try go_wp2_with (first | (go_at_call 68; (with_reducible refine (ancepsref57_names.calls k _ _ l0 t326 _ ?side1 ?side2 A3.out).mono ?_); (case side1 => repeat (first | exact HR0.out | (with_reducible refine Kd.C_alloc ?_ _) | (with_reducible refine Kd.C_drewN ?_ _) | (with_reducible refine Kd.C_drew ?_))); (case side2 => exact HC0.out); (try clear A3); rintro e w' ⟨rfl, ⟨nd, rfl⟩⟩; (try first | exact ⟨rfl, _, World.drewN_drewN _ _ _⟩ | exact ⟨rfl, _, Eq.trans (World.drewN_drewN _ _ _) (congrArg (World.drewN _) (Nat.add_assoc _ _ _))⟩))))
   go_loopg [6] k (fun kq v6 w' => ∃ (x6_1 : Int), v6 = .int .i64 x6_1 ∧ Aside0 (ancepsref57_given.l0 kq l1 x6_1 = some r) ∧ Aside0 (kq ≤ k) ∧ Drawn0 w w')
   case atStart => exact ⟨(0), (by first | rfl | (simp; done) | (simp [*]; done)), H', ⟨Nat.le_refl _⟩, by repeat (first | exact Drawn0.refl _ | apply Drawn0.step)⟩
   case round =>
    clear H'
    try clear c1
    try clear p2
    try clear c4
    try clear c4b0
    try clear c4b1
    try clear c5
    try clear c5b0
    try clear c5b1
    try clear c5b2
    obtain ⟨x6_1, rfl, HA, HK1, ⟨m1, rfl⟩⟩ := hrel
    cases gk with
    | zero => exact absurd HA.out (by simp [ancepsref57_given.l0])
    | succ k1 =>
     have H := HA.out
     clear HA
     simp only [ancepsref57_given.l0] at H
     by_cases c6 : x6_1 < (l1.length : Int)
     ·rw [if_pos c6] at H
      have c6b0 : decide (x6_1 < (l1.length : Int)) = true := decide_eq_true c6
      clear c6
      by_cases c7 : 0 ≤ x6_1
      ·rw [if_pos c7] at H
       have c7b0 : decide (0 ≤ x6_1) = true := decide_eq_true c7
       clear c7
       by_cases c8 : 0 < (l1.length : Int)
       ·rw [if_pos c8] at H
        have c8b0 : decide (0 < (l1.length : Int)) = true := decide_eq_true c8
        have c8b1 : decide (0 < l1.length) = true := decide_eq_true (by omega)
        clear c8
        by_cases c9 : ((rd_L8 l1 x6_1).length : Int) = ((rd_L8 l1 0).length : Int)
        ·rw [if_pos c9] at H
         have c9b0 : (((rd_L8 l1 x6_1).length : Int) == ((rd_L8 l1 0).length : Int)) = true := beq_iff_eq.mpr c9
         have c9b1 : (((rd_L8 l1 x6_1).length : Int) != ((rd_L8 l1 0).length : Int)) = false := bne_eq_false_iff_eq.mpr c9
         have c9b2 : ((rd_L8 l1 x6_1).length == (rd_L8 l1 0).length) = true := by first | simpa using c9 | (simp at c9 ⊢; omega)
         clear c9
         have H' := Aside0.mk H
         clear H
         have p327 : 0 ≤ (x6_1 : Int) := of_decide_eq_true (by first | (with_reducible assumption) | assumption)
         have q327 : x6_1 < (l1.length : Int) := of_decide_eq_true (by first | (with_reducible assumption) | assumption)
         obtain ⟨ad327, A327_0, c327_0, e327, hx327_0, hl327_0, hi327_0⟩ := at_L8 HR1.out x6_1 p327 q327
         cases e327
         have HR327_0 := Aside0.mk hi327_0
         have HC327_0 := Aside0.mk hl327_0
         clear hi327_0 hl327_0
         replace p327 := eq_true p327
         replace q327 := eq_true q327
         have p328 : 0 ≤ (0 : Int) := (by omega)
         have q328 : 0 < (l1.length : Int) := of_decide_eq_true (by first | (with_reducible assumption) | assumption)
         obtain ⟨ad328, A328_0, c328_0, e328, hx328_0, hl328_0, hi328_0⟩ := at_L8 HR1.out 0 p328 q328
         obtain rfl : ad327 = ad328 := (by injection e328)
         have qi328 : (0 < l1.length) = True := eq_true (by omega)
         (try rw [show ((0 : Int)).toNat = 0 from rfl] at hx328_0)
         (try rw [Addr.add_zero'] at hx328_0)
         have HR328_0 := Aside0.mk hi328_0
         have HC328_0 := Aside0.mk hl328_0
         clear hi328_0 hl328_0
         replace p328 := eq_true p328
         replace q328 := eq_true q328
         go_wp2
         repeat (go_quiet (fail); try go_wp2)
         go_roundg k1
         case measure => have := HK1.out; omega
         case rel => exact ⟨(wrap64 (x6_1 + 1)), (by first | rfl | (simp; done) | (simp [*]; done)), H', ⟨by have := HK1.out; omega⟩, by repeat (first | exact Drawn0.refl _ | apply Drawn0.step)⟩
        ·rw [if_neg c9] at H
         have c9b0 : (((rd_L8 l1 x6_1).length : Int) == ((rd_L8 l1 0).length : Int)) = false := beq_eq_false_iff_ne.mpr c9
         have c9b1 : (((rd_L8 l1 x6_1).length : Int) != ((rd_L8 l1 0).length : Int)) = true := bne_iff_ne.mpr c9
         have c9b2 : ((rd_L8 l1 x6_1).length == (rd_L8 l1 0).length) = false := by first | simpa using c9 | (simp at c9 ⊢; omega)
         obtain rfl := Option.some.inj H
         have p327 : 0 ≤ (x6_1 : Int) := of_decide_eq_true (by first | (with_reducible assumption) | assumption)
         have q327 : x6_1 < (l1.length : Int) := of_decide_eq_true (by first | (with_reducible assumption) | assumption)
         obtain ⟨ad327, A327_0, c327_0, e327, hx327_0, hl327_0, hi327_0⟩ := at_L8 HR1.out x6_1 p327 q327
         cases e327
         have HR327_0 := Aside0.mk hi327_0
         have HC327_0 := Aside0.mk hl327_0
         clear hi327_0 hl327_0
         replace p327 := eq_true p327
         replace q327 := eq_true q327
         have p328 : 0 ≤ (0 : Int) := (by omega)
         have q328 : 0 < (l1.length : Int) := of_decide_eq_true (by first | (with_reducible assumption) | assumption)
         obtain ⟨ad328, A328_0, c328_0, e328, hx328_0, hl328_0, hi328_0⟩ := at_L8 HR1.out 0 p328 q328
         obtain rfl : ad327 = ad328 := (by injection e328)
         have qi328 : (0 < l1.length) = True := eq_true (by omega)
         (try rw [show ((0 : Int)).toNat = 0 from rfl] at hx328_0)
         (try rw [Addr.add_zero'] at hx328_0)
         have HR328_0 := Aside0.mk hi328_0
         have HC328_0 := Aside0.mk hl328_0
         clear hi328_0 hl328_0
         replace p328 := eq_true p328
         replace q328 := eq_true q328
         go_wp2
         repeat (go_quiet (fail); try go_wp2)
         go_ret
         exact ⟨by first | rfl | (simp; done) | (simp [*]; done), by repeat (first | exact Drawn0.refl _ | apply Drawn0.step)⟩
       ·rw [if_neg c8] at H
        exact absurd H (by simp)
      ·rw [if_neg c7] at H
       exact absurd H (by simp)
     ·rw [if_neg c6] at H
      have c6b0 : decide (x6_1 < (l1.length : Int)) = false := decide_eq_false c6
      clear c6
      by_cases c10 : 0 < (l1.length : Int)
      ·rw [if_pos c10] at H
       have c10b0 : decide (0 < (l1.length : Int)) = true := decide_eq_true c10
       have c10b1 : decide (0 < l1.length) = true := decide_eq_true (by omega)
       clear c10
       by_cases c11 : ((rd_L8 l1 0).length : Int) > 200
       ·rw [if_pos c11] at H
        have c11b0 : decide (200 < ((rd_L8 l1 0).length : Int)) = true := decide_eq_true c11
        have c11b1 : decide (200 < (rd_L8 l1 0).length) = true := decide_eq_true (by omega)
        clear c11
        obtain rfl := Option.some.inj H
        have p329 : 0 ≤ (0 : Int) := (by omega)
        have q329 : 0 < (l1.length : Int) := of_decide_eq_true (by first | (with_reducible assumption) | assumption)
        obtain ⟨ad329, A329_0, c329_0, e329, hx329_0, hl329_0, hi329_0⟩ := at_L8 HR1.out 0 p329 q329
        cases e329
        have qi329 : (0 < l1.length) = True := eq_true (by omega)
        (try rw [show ((0 : Int)).toNat = 0 from rfl] at hx329_0)
        (try rw [Addr.add_zero'] at hx329_0)
        have HR329_0 := Aside0.mk hi329_0
        have HC329_0 := Aside0.mk hl329_0
        clear hi329_0 hl329_0
        replace p329 := eq_true p329
        replace q329 := eq_true q329
        go_wp2
        repeat (go_quiet (fail); try go_wp2)
        go_ret
        exact ⟨by first | rfl | (simp; done) | (simp [*]; done), by repeat (first | exact Drawn0.refl _ | apply Drawn0.step)⟩
       ·rw [if_neg c11] at H
        have c11b0 : decide (200 < ((rd_L8 l1 0).length : Int)) = false := decide_eq_false c11
        have c11b1 : decide (200 < (rd_L8 l1 0).length) = false := decide_eq_false (by omega)
        clear c11
        have H' := Aside0.mk H
        clear H
        have p329 : 0 ≤ (0 : Int) := (by omega)
        have q329 : 0 < (l1.length : Int) := of_decide_eq_true (by first | (with_reducible assumption) | assumption)
        obtain ⟨ad329, A329_0, c329_0, e329, hx329_0, hl329_0, hi329_0⟩ := at_L8 HR1.out 0 p329 q329
        cases e329
        have qi329 : (0 < l1.length) = True := eq_true (by omega)
        (try rw [show ((0 : Int)).toNat = 0 from rfl] at hx329_0)
        (try rw [Addr.add_zero'] at hx329_0)
        have HR329_0 := Aside0.mk hi329_0
        have HC329_0 := Aside0.mk hl329_0
        clear hi329_0 hl329_0
        replace p329 := eq_true p329
        replace q329 := eq_true q329
        go_wp2
        repeat (go_quiet (fail); try go_wp2)
        go_loopg [7] k1 (fun kq v7 w' => ∃ (x7_2 : Int), v7 = .int .i64 x7_2 ∧ Aside0 (ancepsref57_given.l1 kq l1 x7_2 = some r) ∧ Aside0 (kq ≤ k1) ∧ Drawn0 w w')
        case atStart => exact ⟨(0), (by first | rfl | (simp; done) | (simp [*]; done)), H', ⟨Nat.le_refl _⟩, by repeat (first | exact Drawn0.refl _ | apply Drawn0.step)⟩
        case round =>
         clear H'
         try clear c1
         try clear p2
         try clear c3
         try clear p3
         try clear q3
         try clear hx3
         try clear qi3
         try clear c4
         try clear c4b0
         try clear c4b1
         try clear c5
         try clear c5b0
         try clear c5b1
         try clear c5b2
         try clear c6
         try clear c6b0
         try clear p6
         try clear c7
         try clear c7b0
         try clear c8
         try clear c8b0
         try clear c8b1
         try clear c9
         try clear c9b0
         try clear c9b1
         try clear c9b2
         try clear c10
         try clear c10b0
         try clear c10b1
         try clear c11
         try clear c11b0
         try clear c11b1
         try clear hx327_0
         try clear hx328_0
         try clear hx329_0
         try clear p2
         try clear p327
         try clear p328
         try clear p329
         try clear q327
         try clear q328
         try clear q329
         obtain ⟨x7_2, rfl, HA, HK2, ⟨m2, rfl⟩⟩ := hrel
         cases gk with
         | zero => exact absurd HA.out (by simp [ancepsref57_given.l1])
         | succ k2 =>
          have H := HA.out
          clear HA
          simp only [ancepsref57_given.l1] at H
          by_cases c12 : x7_2 < (l1.length : Int)
          ·rw [if_pos c12] at H
           have c12b0 : decide (x7_2 < (l1.length : Int)) = true := decide_eq_true c12
           clear c12
           have H' := Aside0.mk H
           clear H
           go_wp2
           repeat (go_quiet (fail); try go_wp2)
           go_loopg [8] k2 (fun kq v8 w' => ∃ (x8_3 : Int), v8 = .int .i64 x8_3 ∧ Aside0 (ancepsref57_given.l2 kq l1 x7_2 x8_3 = some r) ∧ Aside0 (kq ≤ k2) ∧ Drawn0 w w')
           case atStart => exact ⟨(0), (by first | rfl | (simp; done) | (simp [*]; done)), H', ⟨Nat.le_refl _⟩, by repeat (first | exact Drawn0.refl _ | apply Drawn0.step)⟩
           case round =>
            clear H'
            try clear c1
            try clear p2
            try clear c3
            try clear p3
            try clear q3
            try clear hx3
            try clear qi3
            try clear c4
            try clear c4b0
            try clear c4b1
            try clear c5
            try clear c5b0
            try clear c5b1
            try clear c5b2
            try clear c6
            try clear c6b0
            try clear p6
            try clear c7
            try clear c7b0
            try clear c8
            try clear c8b0
            try clear c8b1
            try clear c9
            try clear c9b0
            try clear c9b1
            try clear c9b2
            try clear c10
            try clear c10b0
            try clear c10b1
            try clear c11
            try clear c11b0
            try clear c11b1
            try clear c12
            try clear c12b0
            try clear hx327_0
            try clear hx328_0
            try clear hx329_0
            try clear p2
            try clear p3
            try clear p327
            try clear p328
            try clear p329
            try clear p6
            try clear q3
            try clear q327
            try clear q328
            try clear q329
            obtain ⟨x8_3, rfl, HA, HK3, ⟨m3, rfl⟩⟩ := hrel
            cases gk with
            | zero => exact absurd HA.out (by simp [ancepsref57_given.l2])
            | succ k3 =>
             have H := HA.out
             clear HA
             simp only [ancepsref57_given.l2] at H
             by_cases c13 : 0 ≤ x7_2
             ·rw [if_pos c13] at H
              have c13b0 : decide (0 ≤ x7_2) = true := decide_eq_true c13
              clear c13
              by_cases c14 : x7_2 < (l1.length : Int)
              ·rw [if_pos c14] at H
               have c14b0 : decide (x7_2 < (l1.length : Int)) = true := decide_eq_true c14
               clear c14
               by_cases c15 : x8_3 < ((rd_L8 l1 x7_2).length : Int)
               ·rw [if_pos c15] at H
                have c15b0 : decide (x8_3 < ((rd_L8 l1 x7_2).length : Int)) = true := decide_eq_true c15
                clear c15
                by_cases c16 : 0 ≤ x8_3
                ·rw [if_pos c16] at H
                 have c16b0 : decide (0 ≤ x8_3) = true := decide_eq_true c16
                 clear c16
                 replace H := Option.bind_eq_some_iff.mp H
                 obtain ⟨t333, A170, H⟩ := H
                 try dsimp only at H
                 have A17 := Aside0.mk A170
                 clear A170
                 by_cases c18 : t333 = 0
                 ·rw [if_pos c18] at H
                  have c18b0 : (t333 == 0) = true := beq_iff_eq.mpr c18
                  have c18b1 : (t333 != 0) = false := bne_eq_false_iff_eq.mpr c18
                  clear c18
                  have H' := Aside0.mk H
                  clear H
                  have p330 : 0 ≤ (x7_2 : Int) := of_decide_eq_true (by first | (with_reducible assumption) | assumption)
                  have q330 : x7_2 < (l1.length : Int) := of_decide_eq_true (by first | (with_reducible assumption) | assumption)
                  obtain ⟨ad330, A330_0, c330_0, e330, hx330_0, hl330_0, hi330_0⟩ := at_L8 HR1.out x7_2 p330 q330
                  obtain rfl : ad329 = ad330 := (by injection e330)
                  have HR330_0 := Aside0.mk hi330_0
                  have HC330_0 := Aside0.mk hl330_0
                  clear hi330_0 hl330_0
                  replace p330 := eq_true p330
                  replace q330 := eq_true q330
                  have p331 : 0 ≤ (x7_2 : Int) := of_decide_eq_true (by first | (with_reducible assumption) | assumption)
                  have q331 : x7_2 < (l1.length : Int) := of_decide_eq_true (by first | (with_reducible assumption) | assumption)
                  obtain ⟨ad331, A331_0, c331_0, e331, hx331_0, hl331_0, hi331_0⟩ := at_L8 HR1.out x7_2 p331 q331
                  obtain rfl : ad329 = ad331 := (by injection e331)
                  have HR331_0 := Aside0.mk hi331_0
                  have HC331_0 := Aside0.mk hl331_0
                  clear hi331_0 hl331_0
                  replace p331 := eq_true p331
                  replace q331 := eq_true q331
                  have ea_ := Option.some.inj (hx330_0.symm.trans hx331_0)
                  injection ea_ with ea_ en_ ec_
                  subst ea_
                  subst ec_
                  clear en_
                  have p332 : 0 ≤ (x8_3 : Int) := of_decide_eq_true (by first | (with_reducible assumption) | assumption)
                  have q332 : x8_3 < ((rd_L8 l1 x7_2).length : Int) := of_decide_eq_true (by first | (with_reducible assumption) | assumption)
                  obtain ⟨ad332, e332, hx332_0⟩ := Kd.at_string HR331_0.out x8_3 p332 q332
                  cases e332
                  replace p332 := eq_true p332
                  replace q332 := eq_true q332
                  go_wp2_with (first | (go_at_call 39; (with_reducible refine (ancepsref01_Valid.calls k3 (rdOf ByteArray.empty (rd_L8 l1 x7_2) x8_3) t333 _ A17.out).mono ?_); rintro e w' ⟨rfl, ⟨nd, rfl⟩⟩; (try first | exact ⟨rfl, _, World.drewN_drewN _ _ _⟩ | exact ⟨rfl, _, Eq.trans (World.drewN_drewN _ _ _) (congrArg (World.drewN _) (Nat.add_assoc _ _ _))⟩)))
                  repeat (go_quiet (first | (go_at_call 39; (with_reducible refine (ancepsref01_Valid.calls k3 (rdOf ByteArray.empty (rd_L8 l1 x7_2) x8_3) t333 _ A17.out).mono ?_); (try clear A17); rintro e w' ⟨rfl, ⟨nd, rfl⟩⟩; (try first | exact ⟨rfl, _, World.drewN_drewN _ _ _⟩ | exact ⟨rfl, _, Eq.trans (World.drewN_drewN _ _ _) (congrArg (World.drewN _) (Nat.add_assoc _ _ _))⟩))); try go_wp2_with (first | (go_at_call 39; (with_reducible refine (ancepsref01_Valid.calls k3 (rdOf ByteArray.empty (rd_L8 l1 x7_2) x8_3) t333 _ A17.out).mono ?_); (try clear A17); rintro e w' ⟨rfl, ⟨nd, rfl⟩⟩; (try first | exact ⟨rfl, _, World.drewN_drewN _ _ _⟩ | exact ⟨rfl, _, Eq.trans (World.drewN_drewN _ _ _) (congrArg (World.drewN _) (Nat.add_assoc _ _ _))⟩))))
                  go_roundg k3
                  case measure => have := HK1.out; have := HK2.out; have := HK3.out; omega
                  case rel => exact ⟨(wrap64 (x8_3 + 1)), (by first | rfl | (simp; done) | (simp [*]; done)), H', ⟨by have := HK1.out; have := HK2.out; have := HK3.out; omega⟩, by repeat (first | exact Drawn0.refl _ | apply Drawn0.step)⟩
                 ·rw [if_neg c18] at H
                  have c18b0 : (t333 == 0) = false := beq_eq_false_iff_ne.mpr c18
                  have c18b1 : (t333 != 0) = true := bne_iff_ne.mpr c18
                  obtain rfl := Option.some.inj H
                  have p330 : 0 ≤ (x7_2 : Int) := of_decide_eq_true (by first | (with_reducible assumption) | assumption)
                  have q330 : x7_2 < (l1.length : Int) := of_decide_eq_true (by first | (with_reducible assumption) | assumption)
                  obtain ⟨ad330, A330_0, c330_0, e330, hx330_0, hl330_0, hi330_0⟩ := at_L8 HR1.out x7_2 p330 q330
                  obtain rfl : ad329 = ad330 := (by injection e330)
                  have HR330_0 := Aside0.mk hi330_0
                  have HC330_0 := Aside0.mk hl330_0
                  clear hi330_0 hl330_0
                  replace p330 := eq_true p330
                  replace q330 := eq_true q330
                  have p331 : 0 ≤ (x7_2 : Int) := of_decide_eq_true (by first | (with_reducible assumption) | assumption)
                  have q331 : x7_2 < (l1.length : Int) := of_decide_eq_true (by first | (with_reducible assumption) | assumption)
                  obtain ⟨ad331, A331_0, c331_0, e331, hx331_0, hl331_0, hi331_0⟩ := at_L8 HR1.out x7_2 p331 q331
                  obtain rfl : ad329 = ad331 := (by injection e331)
                  have HR331_0 := Aside0.mk hi331_0
                  have HC331_0 := Aside0.mk hl331_0
                  clear hi331_0 hl331_0
                  replace p331 := eq_true p331
                  replace q331 := eq_true q331
                  have ea_ := Option.some.inj (hx330_0.symm.trans hx331_0)
                  injection ea_ with ea_ en_ ec_
                  subst ea_
                  subst ec_
                  clear en_
                  have p332 : 0 ≤ (x8_3 : Int) := of_decide_eq_true (by first | (with_reducible assumption) | assumption)
                  have q332 : x8_3 < ((rd_L8 l1 x7_2).length : Int) := of_decide_eq_true (by first | (with_reducible assumption) | assumption)
                  obtain ⟨ad332, e332, hx332_0⟩ := Kd.at_string HR331_0.out x8_3 p332 q332
                  cases e332
                  replace p332 := eq_true p332
                  replace q332 := eq_true q332
                  go_wp2_with (first | (go_at_call 39; (with_reducible refine (ancepsref01_Valid.calls k3 (rdOf ByteArray.empty (rd_L8 l1 x7_2) x8_3) t333 _ A17.out).mono ?_); rintro e w' ⟨rfl, ⟨nd, rfl⟩⟩; (try first | exact ⟨rfl, _, World.drewN_drewN _ _ _⟩ | exact ⟨rfl, _, Eq.trans (World.drewN_drewN _ _ _) (congrArg (World.drewN _) (Nat.add_assoc _ _ _))⟩)))
                  repeat (go_quiet (first | (go_at_call 39; (with_reducible refine (ancepsref01_Valid.calls k3 (rdOf ByteArray.empty (rd_L8 l1 x7_2) x8_3) t333 _ A17.out).mono ?_); (try clear A17); rintro e w' ⟨rfl, ⟨nd, rfl⟩⟩; (try first | exact ⟨rfl, _, World.drewN_drewN _ _ _⟩ | exact ⟨rfl, _, Eq.trans (World.drewN_drewN _ _ _) (congrArg (World.drewN _) (Nat.add_assoc _ _ _))⟩))); try go_wp2_with (first | (go_at_call 39; (with_reducible refine (ancepsref01_Valid.calls k3 (rdOf ByteArray.empty (rd_L8 l1 x7_2) x8_3) t333 _ A17.out).mono ?_); (try clear A17); rintro e w' ⟨rfl, ⟨nd, rfl⟩⟩; (try first | exact ⟨rfl, _, World.drewN_drewN _ _ _⟩ | exact ⟨rfl, _, Eq.trans (World.drewN_drewN _ _ _) (congrArg (World.drewN _) (Nat.add_assoc _ _ _))⟩))))
                  go_ret
                  exact ⟨by first | rfl | (simp; done) | (simp [*]; done), by repeat (first | exact Drawn0.refl _ | apply Drawn0.step)⟩
                ·rw [if_neg c16] at H
                 exact absurd H (by simp)
               ·rw [if_neg c15] at H
                have c15b0 : decide (x8_3 < ((rd_L8 l1 x7_2).length : Int)) = false := decide_eq_false c15
                clear c15
                have H' := Aside0.mk H
                clear H
                have p330 : 0 ≤ (x7_2 : Int) := of_decide_eq_true (by first | (with_reducible assumption) | assumption)
                have q330 : x7_2 < (l1.length : Int) := of_decide_eq_true (by first | (with_reducible assumption) | assumption)
                obtain ⟨ad330, A330_0, c330_0, e330, hx330_0, hl330_0, hi330_0⟩ := at_L8 HR1.out x7_2 p330 q330
                obtain rfl : ad329 = ad330 := (by injection e330)
                have HR330_0 := Aside0.mk hi330_0
                have HC330_0 := Aside0.mk hl330_0
                clear hi330_0 hl330_0
                replace p330 := eq_true p330
                replace q330 := eq_true q330
                go_wp2
                repeat (go_quiet (fail); try go_wp2)
                go_roundg k3
                case measure => have := HK1.out; have := HK2.out; have := HK3.out; omega
                case rel => exact ⟨(wrap64 (x7_2 + 1)), (by first | rfl | (simp; done) | (simp [*]; done)), H', ⟨by have := HK1.out; have := HK2.out; have := HK3.out; omega⟩, by repeat (first | exact Drawn0.refl _ | apply Drawn0.step)⟩
              ·rw [if_neg c14] at H
               exact absurd H (by simp)
             ·rw [if_neg c13] at H
              exact absurd H (by simp)
          ·rw [if_neg c12] at H
           have c12b0 : decide (x7_2 < (l1.length : Int)) = false := decide_eq_false c12
           clear c12
           obtain rfl := Option.some.inj H
           go_wp2
           repeat (go_quiet (fail); try go_wp2)
           go_ret
           exact ⟨by first | rfl | (simp; done) | (simp [*]; done), by repeat (first | exact Drawn0.refl _ | apply Drawn0.step)⟩
      ·rw [if_neg c10] at H
       exact absurd H (by simp)
  ·rw [if_neg c5] at H
   have c5b0 : ((l1.length : Int) == (l0.length : Int)) = false := beq_eq_false_iff_ne.mpr c5
   have c5b1 : ((l1.length : Int) != (l0.length : Int)) = true := bne_iff_ne.mpr c5
   have c5b2 : (l1.length == l0.length) = false := by first | simpa using c5 | (simp at c5 ⊢; omega)
   obtain rfl := Option.some.inj H
   go_enter Try.func48, Try.ntmps48
   go_wp2_with (first | (go_at_call 68; (with_reducible refine (ancepsref57_names.calls k _ _ l0 t326 _ ?side1 ?side2 A3.out).mono ?_); (case side1 => repeat (first | exact HR0.out | (with_reducible refine Kd.C_alloc ?_ _) | (with_reducible refine Kd.C_drewN ?_ _) | (with_reducible refine Kd.C_drew ?_))); (case side2 => exact HC0.out); rintro e w' ⟨rfl, ⟨nd, rfl⟩⟩; (try first | exact ⟨rfl, _, World.drewN_drewN _ _ _⟩ | exact ⟨rfl, _, Eq.trans (World.drewN_drewN _ _ _) (congrArg (World.drewN _) (Nat.add_assoc _ _ _))⟩)))
   repeat (go_quiet (first | (go_at_call 68; (with_reducible refine (ancepsref57_names.calls k _ _ l0 t326 _ ?side1 ?side2 A3.out).mono ?_); (case side1 => repeat (first | exact HR0.out | (with_reducible refine Kd.C_alloc ?_ _) | (with_reducible refine Kd.C_drewN ?_ _) | (with_reducible refine Kd.C_drew ?_))); (case side2 => exact HC0.out); (try clear A3); rintro e w' ⟨rfl, ⟨nd, rfl⟩⟩; (try first | exact ⟨rfl, _, World.drewN_drewN _ _ _⟩ | exact ⟨rfl, _, Eq.trans (World.drewN_drewN _ _ _) (congrArg (World.drewN _) (Nat.add_assoc _ _ _))⟩))); try go_wp2_with (first | (go_at_call 68; (with_reducible refine (ancepsref57_names.calls k _ _ l0 t326 _ ?side1 ?side2 A3.out).mono ?_); (case side1 => repeat (first | exact HR0.out | (with_reducible refine Kd.C_alloc ?_ _) | (with_reducible refine Kd.C_drewN ?_ _) | (with_reducible refine Kd.C_drew ?_))); (case side2 => exact HC0.out); (try clear A3); rintro e w' ⟨rfl, ⟨nd, rfl⟩⟩; (try first | exact ⟨rfl, _, World.drewN_drewN _ _ _⟩ | exact ⟨rfl, _, Eq.trans (World.drewN_drewN _ _ _) (congrArg (World.drewN _) (Nat.add_assoc _ _ _))⟩))))
   go_ret
   exact ⟨by first | rfl | (simp; done) | (simp [*]; done), by repeat (first | exact Drawn0.refl _ | apply Drawn0.step)⟩
 ·rw [if_neg c4] at H
  have c4b0 : (t326 == 0) = false := beq_eq_false_iff_ne.mpr c4
  have c4b1 : (t326 != 0) = true := bne_iff_ne.mpr c4
  obtain rfl := Option.some.inj H
  go_enter Try.func48, Try.ntmps48
  go_wp2_with (first | (go_at_call 68; (with_reducible refine (ancepsref57_names.calls k _ _ l0 t326 _ ?side1 ?side2 A3.out).mono ?_); (case side1 => repeat (first | exact HR0.out | (with_reducible refine Kd.C_alloc ?_ _) | (with_reducible refine Kd.C_drewN ?_ _) | (with_reducible refine Kd.C_drew ?_))); (case side2 => exact HC0.out); rintro e w' ⟨rfl, ⟨nd, rfl⟩⟩; (try first | exact ⟨rfl, _, World.drewN_drewN _ _ _⟩ | exact ⟨rfl, _, Eq.trans (World.drewN_drewN _ _ _) (congrArg (World.drewN _) (Nat.add_assoc _ _ _))⟩)))
  repeat (go_quiet (first | (go_at_call 68; (with_reducible refine (ancepsref57_names.calls k _ _ l0 t326 _ ?side1 ?side2 A3.out).mono ?_); (case side1 => repeat (first | exact HR0.out | (with_reducible refine Kd.C_alloc ?_ _) | (with_reducible refine Kd.C_drewN ?_ _) | (with_reducible refine Kd.C_drew ?_))); (case side2 => exact HC0.out); (try clear A3); rintro e w' ⟨rfl, ⟨nd, rfl⟩⟩; (try first | exact ⟨rfl, _, World.drewN_drewN _ _ _⟩ | exact ⟨rfl, _, Eq.trans (World.drewN_drewN _ _ _) (congrArg (World.drewN _) (Nat.add_assoc _ _ _))⟩))); try go_wp2_with (first | (go_at_call 68; (with_reducible refine (ancepsref57_names.calls k _ _ l0 t326 _ ?side1 ?side2 A3.out).mono ?_); (case side1 => repeat (first | exact HR0.out | (with_reducible refine Kd.C_alloc ?_ _) | (with_reducible refine Kd.C_drewN ?_ _) | (with_reducible refine Kd.C_drew ?_))); (case side2 => exact HC0.out); (try clear A3); rintro e w' ⟨rfl, ⟨nd, rfl⟩⟩; (try first | exact ⟨rfl, _, World.drewN_drewN _ _ _⟩ | exact ⟨rfl, _, Eq.trans (World.drewN_drewN _ _ _) (congrArg (World.drewN _) (Nat.add_assoc _ _ _))⟩))))
  go_ret
  exact ⟨by first | rfl | (simp; done) | (simp [*]; done), by repeat (first | exact Drawn0.refl _ | apply Drawn0.step)⟩

end Go.Proofs.Ytmjigfoldeekmaa.X
