-- halved indents
-- printed by this session's xprint.py: out of the translation, by the kit's print with additions; Lean checks it
import Derived.Test.YtnnonjjmlbemfaaWN
import Derived.Test.YtnnonjjmlbemfaaWShare
import Derived.Test.YtnnonjjmlbemfaaWRepsOne
import Derived.Test.YtnnonjjmlbemfaaX0
import Derived.Test.YtnnonjjmlbemfaaX5
import Derived.Test.YtnnonjjmlbemfaaX6
import Derived.Test.YtnnonjjmlbemfaaX7
namespace Go.Proofs.Ytnnonjjmlbemfaa.X
open Go.RowKit Go.Proofs.YtnnonjjmlbemfaaW.PrintWords Go.Proofs.YtnnonjjmlbemfaaW.PrintLast Go.Proofs.YtnnonjjmlbemfaaW.PrintMore
attribute [local go_sem] max2_int min2_int max_two min_two max_three min_three max_four min_four isSome_setCell binOp_gtr_str binOp_leq_str   -- for this text's walks alone
set_option linter.unusedVariables false
set_option linter.unusedSimpArgs false

/-! ### slices_Equal_int_int: function 29 -/
def slices_Equal_int_int.l0 : Nat → List Int → List Int → Int → Int → Option (Bool)
 | 0, _, _, _, _ => none
 | k + 1, x0, x1, x12, x13 => if x13 < x12 then (if 0 ≤ x13 then (if x13 < (x0.length : Int) then (if x13 < (x1.length : Int) then (if (rd x0 x13) = (rd x1 x13) then (slices_Equal_int_int.l0 k x0 x1 x12 (wrap64 (x13 + 1))) else (some false)) else (none)) else (none)) else (none)) else (some true)
def slices_Equal_int_int.f (k : Nat) (l0 : List Int) (l1 : List Int) : Option (Bool) := if (l0.length : Int) = (l1.length : Int) then (slices_Equal_int_int.l0 k l0 l1 (l0.length : Int) 0) else (some false)
theorem slices_Equal_int_int.mono_l : ∀ k, (∀ y0 y1 y2 y3, LeO (slices_Equal_int_int.l0 k y0 y1 y2 y3) (slices_Equal_int_int.l0 (k + 1) y0 y1 y2 y3))
 | 0 => fun _ _ _ _ r h => by simp [slices_Equal_int_int.l0] at h
 | k + 1 => by
  have ih0 := slices_Equal_int_int.mono_l k
  ·intro y0 y1 y2 y3
   unfold slices_Equal_int_int.l0
   repeat' first
   | (with_reducible exact ih0 _ _ _ _)
   | (with_reducible exact LeO.refl _)
   | (with_reducible exact LeO.none _)
   | (with_reducible refine LeO.ite ?_ ?_)
   | (with_reducible refine LeO.bind ?_ (fun _ => ?_))
   | exact ih0 _ _ _ _
   | exact LeO.none _
   | refine LeO.ite ?_ ?_
   | refine LeO.bind ?_ (fun _ => ?_)
theorem slices_Equal_int_int.mono : ∀ a0 a1 k, LeO (slices_Equal_int_int.f k a0 a1) (slices_Equal_int_int.f (k + 1) a0 a1) := by
 intro a0 a1 k
 have ih0 := slices_Equal_int_int.mono_l k
 unfold slices_Equal_int_int.f
 repeat' first
   | (with_reducible exact ih0 _ _ _ _)
   | (with_reducible exact LeO.refl _)
   | (with_reducible exact LeO.none _)
   | (with_reducible refine LeO.ite ?_ ?_)
   | (with_reducible refine LeO.bind ?_ (fun _ => ?_))
   | exact ih0 _ _ _ _
   | exact LeO.none _
   | refine LeO.ite ?_ ?_
   | refine LeO.bind ?_ (fun _ => ?_)
set_option maxHeartbeats 8000000 in
set_option maxRecDepth 100000 in
theorem slices_Equal_int_int.calls (k : Nat) (A0 : Option Addr) (c0 : Nat) (l0 : List Int) (A1 : Option Addr) (c1 : Nat) (l1 : List Int) (r : Bool) (w : World) (hr0 : Kd.C (Kd.int .i64) w A0 l0.length l0) (hc0 : l0.length ≤ c0) (hr1 : Kd.C (Kd.int .i64) w A1 l1.length l1) (hc1 : l1.length ≤ c1) (h : slices_Equal_int_int.f k l0 l1 = some r) :
  Calls Try.prog 29 #[.slice A0 l0.length c0, .slice A1 l1.length c1] w fun e w' => e = .returned (.bool r) ∧ Drawn0 w w' := by
 have HR0 := Aside0.mk hr0
 have HC0 := Aside0.mk hc0
 clear hr0 hc0
 have HR1 := Aside0.mk hr1
 have HC1 := Aside0.mk hc1
 clear hr1 hc1
 have H : (if (l0.length : Int) = (l1.length : Int) then (slices_Equal_int_int.l0 k l0 l1 (l0.length : Int) 0) else (some false)) = some r := h
 clear h
 by_cases c3 : (l0.length : Int) = (l1.length : Int)
 ·rw [if_pos c3] at H
  have c3b0 : ((l0.length : Int) == (l1.length : Int)) = true := beq_iff_eq.mpr c3
  have c3b1 : ((l0.length : Int) != (l1.length : Int)) = false := bne_eq_false_iff_eq.mpr c3
  have c3b2 : (l0.length == l1.length) = true := by first | simpa using c3 | (simp at c3 ⊢; omega)
  clear c3
  have H' := Aside0.mk H
  clear H
  go_enter Try.func29, Try.ntmps29
  go_wp2
  repeat (go_quiet (fail); try go_wp2)
  go_loopg [13] k (fun kq v13 w' => ∃ (x13_1 : Int), v13 = .int .i64 x13_1 ∧ Aside0 (slices_Equal_int_int.l0 kq l0 l1 (l0.length : Int) x13_1 = some r) ∧ Aside0 (kq ≤ k) ∧ Drawn0 w w')
  case atStart => exact ⟨(0), (by first | rfl | (simp; done) | (simp [*]; done)), H', ⟨Nat.le_refl _⟩, by repeat (first | exact Drawn0.refl _ | apply Drawn0.step)⟩
  case round =>
   clear H'
   try clear c1
   try clear c2
   try clear p2
   try clear c3
   try clear c3b0
   try clear c3b1
   try clear c3b2
   obtain ⟨x13_1, rfl, HA, HK1, ⟨m1, rfl⟩⟩ := hrel
   cases gk with
   | zero => exact absurd HA.out (by simp [slices_Equal_int_int.l0])
   | succ k1 =>
    have H := HA.out
    clear HA
    simp only [slices_Equal_int_int.l0] at H
    by_cases c4 : x13_1 < (l0.length : Int)
    ·rw [if_pos c4] at H
     have c4b0 : decide (x13_1 < (l0.length : Int)) = true := decide_eq_true c4
     clear c4
     by_cases c5 : 0 ≤ x13_1
     ·rw [if_pos c5] at H
      have c5b0 : decide (0 ≤ x13_1) = true := decide_eq_true c5
      clear c5
      by_cases c6 : x13_1 < (l0.length : Int)
      ·rw [if_pos c6] at H
       have c6b0 : decide (x13_1 < (l0.length : Int)) = true := decide_eq_true c6
       clear c6
       by_cases c7 : x13_1 < (l1.length : Int)
       ·rw [if_pos c7] at H
        have c7b0 : decide (x13_1 < (l1.length : Int)) = true := decide_eq_true c7
        clear c7
        by_cases c8 : (rd l0 x13_1) = (rd l1 x13_1)
        ·rw [if_pos c8] at H
         have c8b0 : ((rd l0 x13_1) == (rd l1 x13_1)) = true := beq_iff_eq.mpr c8
         have c8b1 : ((rd l0 x13_1) != (rd l1 x13_1)) = false := bne_eq_false_iff_eq.mpr c8
         clear c8
         have H' := Aside0.mk H
         clear H
         have p167 : 0 ≤ (x13_1 : Int) := of_decide_eq_true (by first | (with_reducible assumption) | assumption)
         have q167 : x13_1 < (l0.length : Int) := of_decide_eq_true (by first | (with_reducible assumption) | assumption)
         obtain ⟨ad167, e167, hx167_0⟩ := Kd.at_int HR0.out x13_1 p167 q167
         cases e167
         replace p167 := eq_true p167
         replace q167 := eq_true q167
         have p168 : 0 ≤ (x13_1 : Int) := of_decide_eq_true (by first | (with_reducible assumption) | assumption)
         have q168 : x13_1 < (l1.length : Int) := of_decide_eq_true (by first | (with_reducible assumption) | assumption)
         obtain ⟨ad168, e168, hx168_0⟩ := Kd.at_int HR1.out x13_1 p168 q168
         cases e168
         replace p168 := eq_true p168
         replace q168 := eq_true q168
         go_wp2
         repeat (go_quiet (fail); try go_wp2)
         go_roundg k1
         case measure => have := HK1.out; omega
         case rel => exact ⟨(wrap64 (x13_1 + 1)), (by first | rfl | (simp; done) | (simp [*]; done)), H', ⟨by have := HK1.out; omega⟩, by repeat (first | exact Drawn0.refl _ | apply Drawn0.step)⟩
        ·rw [if_neg c8] at H
         have c8b0 : ((rd l0 x13_1) == (rd l1 x13_1)) = false := beq_eq_false_iff_ne.mpr c8
         have c8b1 : ((rd l0 x13_1) != (rd l1 x13_1)) = true := bne_iff_ne.mpr c8
         obtain rfl := Option.some.inj H
         have p167 : 0 ≤ (x13_1 : Int) := of_decide_eq_true (by first | (with_reducible assumption) | assumption)
         have q167 : x13_1 < (l0.length : Int) := of_decide_eq_true (by first | (with_reducible assumption) | assumption)
         obtain ⟨ad167, e167, hx167_0⟩ := Kd.at_int HR0.out x13_1 p167 q167
         cases e167
         replace p167 := eq_true p167
         replace q167 := eq_true q167
         have p168 : 0 ≤ (x13_1 : Int) := of_decide_eq_true (by first | (with_reducible assumption) | assumption)
         have q168 : x13_1 < (l1.length : Int) := of_decide_eq_true (by first | (with_reducible assumption) | assumption)
         obtain ⟨ad168, e168, hx168_0⟩ := Kd.at_int HR1.out x13_1 p168 q168
         cases e168
         replace p168 := eq_true p168
         replace q168 := eq_true q168
         go_wp2
         repeat (go_quiet (fail); try go_wp2)
         go_ret
         exact ⟨by first | rfl | (simp; done) | (simp [*]; done), by repeat (first | exact Drawn0.refl _ | apply Drawn0.step)⟩
       ·rw [if_neg c7] at H
        exact absurd H (by simp)
      ·rw [if_neg c6] at H
       exact absurd H (by simp)
     ·rw [if_neg c5] at H
      exact absurd H (by simp)
    ·rw [if_neg c4] at H
     have c4b0 : decide (x13_1 < (l0.length : Int)) = false := decide_eq_false c4
     clear c4
     obtain rfl := Option.some.inj H
     go_wp2
     repeat (go_quiet (fail); try go_wp2)
     go_ret
     exact ⟨by first | rfl | (simp; done) | (simp [*]; done), by repeat (first | exact Drawn0.refl _ | apply Drawn0.step)⟩
 ·rw [if_neg c3] at H
  have c3b0 : ((l0.length : Int) == (l1.length : Int)) = false := beq_eq_false_iff_ne.mpr c3
  have c3b1 : ((l0.length : Int) != (l1.length : Int)) = true := bne_iff_ne.mpr c3
  have c3b2 : (l0.length == l1.length) = false := by first | simpa using c3 | (simp at c3 ⊢; omega)
  obtain rfl := Option.some.inj H
  go_enter Try.func29, Try.ntmps29
  go_wp2
  repeat (go_quiet (fail); try go_wp2)
  go_ret
  exact ⟨by first | rfl | (simp; done) | (simp [*]; done), by repeat (first | exact Drawn0.refl _ | apply Drawn0.step)⟩

/-! ### ancepslaw45_awake: function 11 -/
def ancepslaw45_awake.g (k : Nat)  : Option (Bool) := (align_Best.f k (⟨#[45, 117, 117]⟩ : ByteArray) (⟨#[45, 45]⟩ : ByteArray)).bind fun bt169 => ((align_Distance.f k (⟨#[45, 117]⟩ : ByteArray) (⟨#[117, 45]⟩ : ByteArray)).bind fun bt174 => ((align_Distance.f k (⟨#[120]⟩ : ByteArray) (⟨#[117, 117]⟩ : ByteArray)).bind fun bt176 => ((align_Distance.f k (⟨#[117]⟩ : ByteArray) (⟨#[]⟩ : ByteArray)).bind fun bt178 => ((align_Text.f k (⟨#[45, 117, 117, 45]⟩ : ByteArray) (⟨#[45, 45, 117]⟩ : ByteArray) (([0, 2, 0] : List Int))).bind fun bt183 => (if bt169.2.2 = 0 then (if bt174.2 = 0 then (if bt176.2 = 0 then (if bt178.2 = 0 then (if bt183.2 = 0 then (if bt169.2.1 = 1 then (if bt174.1 = 6 then (if bt176.1 = 1 then (if bt178.1 = 4 then ((slices_Equal_int_int.f k bt169.1 (([0, 2] : List Int))).bind fun t188 => (if t188 = true then (some (bt183.1.toList == ([45, 117, 117, 45, 10, 61, 40, 41, 33, 10, 45, 45, 32, 117, 10] : List UInt8))) else (some false))) else (some false)) else (some false)) else (some false)) else (some false)) else (some false)) else (some false)) else (some false)) else (some false)) else (some false))))))
theorem ancepslaw45_awake.monoG : ∀ k, LeO (ancepslaw45_awake.g k ) (ancepslaw45_awake.g (k + 1) ) := by
 intro  k
 unfold ancepslaw45_awake.g
 repeat' first
   | (with_reducible exact align_Best.mono _ _ _)
   | (with_reducible exact align_Distance.mono _ _ _)
   | (with_reducible exact align_Text.mono _ _ _ _)
   | (with_reducible exact slices_Equal_int_int.mono _ _ _)
   | (with_reducible exact LeO.refl _)
   | (with_reducible exact LeO.none _)
   | (with_reducible refine LeO.ite ?_ ?_)
   | (with_reducible refine LeO.bind ?_ (fun _ => ?_))
   | exact align_Best.mono _ _ _
   | exact align_Distance.mono _ _ _
   | exact align_Text.mono _ _ _ _
   | exact slices_Equal_int_int.mono _ _ _
   | exact LeO.none _
   | refine LeO.ite ?_ ?_
   | refine LeO.bind ?_ (fun _ => ?_)
set_option maxHeartbeats 8000000 in
set_option maxRecDepth 100000 in
theorem ancepslaw45_awake.callsT (k : Nat)  (w : World) (h : ancepslaw45_awake.g k  = some true) :
  Calls Try.prog 11 #[] w fun e w' => e = .returned (.bool true) ∧ Below w.heap.size w w' := by
 have HB := Aside0.mk (Below.refl w.heap.size w)
 have H : ((align_Best.f k (⟨#[45, 117, 117]⟩ : ByteArray) (⟨#[45, 45]⟩ : ByteArray)).bind fun bt169 => ((align_Distance.f k (⟨#[45, 117]⟩ : ByteArray) (⟨#[117, 45]⟩ : ByteArray)).bind fun bt174 => ((align_Distance.f k (⟨#[120]⟩ : ByteArray) (⟨#[117, 117]⟩ : ByteArray)).bind fun bt176 => ((align_Distance.f k (⟨#[117]⟩ : ByteArray) (⟨#[]⟩ : ByteArray)).bind fun bt178 => ((align_Text.f k (⟨#[45, 117, 117, 45]⟩ : ByteArray) (⟨#[45, 45, 117]⟩ : ByteArray) (([0, 2, 0] : List Int))).bind fun bt183 => (if bt169.2.2 = 0 then (if bt174.2 = 0 then (if bt176.2 = 0 then (if bt178.2 = 0 then (if bt183.2 = 0 then (if bt169.2.1 = 1 then (if bt174.1 = 6 then (if bt176.1 = 1 then (if bt178.1 = 4 then ((slices_Equal_int_int.f k bt169.1 (([0, 2] : List Int))).bind fun t188 => (if t188 = true then (some (bt183.1.toList == ([45, 117, 117, 45, 10, 61, 40, 41, 33, 10, 45, 45, 32, 117, 10] : List UInt8))) else (some false))) else (some false)) else (some false)) else (some false)) else (some false)) else (some false)) else (some false)) else (some false)) else (some false)) else (some false))))))) = some true := h
 clear h
 replace H := Option.bind_eq_some_iff.mp H
 obtain ⟨⟨t169, t170, t171⟩, A10, H⟩ := H
 replace H : ((align_Distance.f k (⟨#[45, 117]⟩ : ByteArray) (⟨#[117, 45]⟩ : ByteArray)).bind fun bt174 => ((align_Distance.f k (⟨#[120]⟩ : ByteArray) (⟨#[117, 117]⟩ : ByteArray)).bind fun bt176 => ((align_Distance.f k (⟨#[117]⟩ : ByteArray) (⟨#[]⟩ : ByteArray)).bind fun bt178 => ((align_Text.f k (⟨#[45, 117, 117, 45]⟩ : ByteArray) (⟨#[45, 45, 117]⟩ : ByteArray) (([0, 2, 0] : List Int))).bind fun bt183 => (if t171 = 0 then (if bt174.2 = 0 then (if bt176.2 = 0 then (if bt178.2 = 0 then (if bt183.2 = 0 then (if t170 = 1 then (if bt174.1 = 6 then (if bt176.1 = 1 then (if bt178.1 = 4 then ((slices_Equal_int_int.f k t169 (([0, 2] : List Int))).bind fun t188 => (if t188 = true then (some (bt183.1.toList == ([45, 117, 117, 45, 10, 61, 40, 41, 33, 10, 45, 45, 32, 117, 10] : List UInt8))) else (some false))) else (some false)) else (some false)) else (some false)) else (some false)) else (some false)) else (some false)) else (some false)) else (some false)) else (some false)))))) = some true := H
 have A1 := Aside0.mk A10
 clear A10
 replace H := Option.bind_eq_some_iff.mp H
 obtain ⟨⟨t174, t175⟩, A20, H⟩ := H
 replace H : ((align_Distance.f k (⟨#[120]⟩ : ByteArray) (⟨#[117, 117]⟩ : ByteArray)).bind fun bt176 => ((align_Distance.f k (⟨#[117]⟩ : ByteArray) (⟨#[]⟩ : ByteArray)).bind fun bt178 => ((align_Text.f k (⟨#[45, 117, 117, 45]⟩ : ByteArray) (⟨#[45, 45, 117]⟩ : ByteArray) (([0, 2, 0] : List Int))).bind fun bt183 => (if t171 = 0 then (if t175 = 0 then (if bt176.2 = 0 then (if bt178.2 = 0 then (if bt183.2 = 0 then (if t170 = 1 then (if t174 = 6 then (if bt176.1 = 1 then (if bt178.1 = 4 then ((slices_Equal_int_int.f k t169 (([0, 2] : List Int))).bind fun t188 => (if t188 = true then (some (bt183.1.toList == ([45, 117, 117, 45, 10, 61, 40, 41, 33, 10, 45, 45, 32, 117, 10] : List UInt8))) else (some false))) else (some false)) else (some false)) else (some false)) else (some false)) else (some false)) else (some false)) else (some false)) else (some false)) else (some false))))) = some true := H
 have A2 := Aside0.mk A20
 clear A20
 replace H := Option.bind_eq_some_iff.mp H
 obtain ⟨⟨t176, t177⟩, A30, H⟩ := H
 replace H : ((align_Distance.f k (⟨#[117]⟩ : ByteArray) (⟨#[]⟩ : ByteArray)).bind fun bt178 => ((align_Text.f k (⟨#[45, 117, 117, 45]⟩ : ByteArray) (⟨#[45, 45, 117]⟩ : ByteArray) (([0, 2, 0] : List Int))).bind fun bt183 => (if t171 = 0 then (if t175 = 0 then (if t177 = 0 then (if bt178.2 = 0 then (if bt183.2 = 0 then (if t170 = 1 then (if t174 = 6 then (if t176 = 1 then (if bt178.1 = 4 then ((slices_Equal_int_int.f k t169 (([0, 2] : List Int))).bind fun t188 => (if t188 = true then (some (bt183.1.toList == ([45, 117, 117, 45, 10, 61, 40, 41, 33, 10, 45, 45, 32, 117, 10] : List UInt8))) else (some false))) else (some false)) else (some false)) else (some false)) else (some false)) else (some false)) else (some false)) else (some false)) else (some false)) else (some false)))) = some true := H
 have A3 := Aside0.mk A30
 clear A30
 replace H := Option.bind_eq_some_iff.mp H
 obtain ⟨⟨t178, t179⟩, A40, H⟩ := H
 replace H : ((align_Text.f k (⟨#[45, 117, 117, 45]⟩ : ByteArray) (⟨#[45, 45, 117]⟩ : ByteArray) (([0, 2, 0] : List Int))).bind fun bt183 => (if t171 = 0 then (if t175 = 0 then (if t177 = 0 then (if t179 = 0 then (if bt183.2 = 0 then (if t170 = 1 then (if t174 = 6 then (if t176 = 1 then (if t178 = 4 then ((slices_Equal_int_int.f k t169 (([0, 2] : List Int))).bind fun t188 => (if t188 = true then (some (bt183.1.toList == ([45, 117, 117, 45, 10, 61, 40, 41, 33, 10, 45, 45, 32, 117, 10] : List UInt8))) else (some false))) else (some false)) else (some false)) else (some false)) else (some false)) else (some false)) else (some false)) else (some false)) else (some false)) else (some false))) = some true := H
 have A4 := Aside0.mk A40
 clear A40
 obtain ⟨y180, hy180⟩ : ∃ y_ : List Int, y_ = (([0, 2, 0] : List Int)) := ⟨_, rfl⟩
 replace H : ((align_Text.f k (⟨#[45, 117, 117, 45]⟩ : ByteArray) (⟨#[45, 45, 117]⟩ : ByteArray) y180).bind fun bt183 => (if t171 = 0 then (if t175 = 0 then (if t177 = 0 then (if t179 = 0 then (if bt183.2 = 0 then (if t170 = 1 then (if t174 = 6 then (if t176 = 1 then (if t178 = 4 then ((slices_Equal_int_int.f k t169 (([0, 2] : List Int))).bind fun t188 => (if t188 = true then (some (bt183.1.toList == ([45, 117, 117, 45, 10, 61, 40, 41, 33, 10, 45, 45, 32, 117, 10] : List UInt8))) else (some false))) else (some false)) else (some false)) else (some false)) else (some false)) else (some false)) else (some false)) else (some false)) else (some false)) else (some false))) = some true := by first | (rw [hy180]; with_reducible exact H) | (have H2_ := (Option.bind_some _ _).symm.trans H; rw [hy180]; with_reducible exact H2_) | (have H2_ := (Option.bind_some _ _).symm.trans H; with_reducible exact H2_) | with_reducible exact H | (rw [hy180]; exact H) | exact H
 have Ny180 := Aside0.mk hy180
 clear hy180
 replace H := Option.bind_eq_some_iff.mp H
 obtain ⟨⟨t183, t184⟩, A50, H⟩ := H
 replace H : (if t171 = 0 then (if t175 = 0 then (if t177 = 0 then (if t179 = 0 then (if t184 = 0 then (if t170 = 1 then (if t174 = 6 then (if t176 = 1 then (if t178 = 4 then ((slices_Equal_int_int.f k t169 (([0, 2] : List Int))).bind fun t188 => (if t188 = true then (some (t183.toList == ([45, 117, 117, 45, 10, 61, 40, 41, 33, 10, 45, 45, 32, 117, 10] : List UInt8))) else (some false))) else (some false)) else (some false)) else (some false)) else (some false)) else (some false)) else (some false)) else (some false)) else (some false)) else (some false)) = some true := H
 have A5 := Aside0.mk A50
 clear A50
 by_cases c6 : t171 = 0
 ·rw [if_pos c6] at H
  have c6b0 : (t171 == 0) = true := beq_iff_eq.mpr c6
  have c6b1 : (t171 != 0) = false := bne_eq_false_iff_eq.mpr c6
  clear c6
  by_cases c7 : t175 = 0
  ·rw [if_pos c7] at H
   have c7b0 : (t175 == 0) = true := beq_iff_eq.mpr c7
   have c7b1 : (t175 != 0) = false := bne_eq_false_iff_eq.mpr c7
   clear c7
   by_cases c8 : t177 = 0
   ·rw [if_pos c8] at H
    have c8b0 : (t177 == 0) = true := beq_iff_eq.mpr c8
    have c8b1 : (t177 != 0) = false := bne_eq_false_iff_eq.mpr c8
    clear c8
    by_cases c9 : t179 = 0
    ·rw [if_pos c9] at H
     have c9b0 : (t179 == 0) = true := beq_iff_eq.mpr c9
     have c9b1 : (t179 != 0) = false := bne_eq_false_iff_eq.mpr c9
     clear c9
     by_cases c10 : t184 = 0
     ·rw [if_pos c10] at H
      have c10b0 : (t184 == 0) = true := beq_iff_eq.mpr c10
      have c10b1 : (t184 != 0) = false := bne_eq_false_iff_eq.mpr c10
      clear c10
      by_cases c11 : t170 = 1
      ·rw [if_pos c11] at H
       have c11b0 : (t170 == 1) = true := beq_iff_eq.mpr c11
       have c11b1 : (t170 != 1) = false := bne_eq_false_iff_eq.mpr c11
       clear c11
       by_cases c12 : t174 = 6
       ·rw [if_pos c12] at H
        have c12b0 : (t174 == 6) = true := beq_iff_eq.mpr c12
        have c12b1 : (t174 != 6) = false := bne_eq_false_iff_eq.mpr c12
        clear c12
        by_cases c13 : t176 = 1
        ·rw [if_pos c13] at H
         have c13b0 : (t176 == 1) = true := beq_iff_eq.mpr c13
         have c13b1 : (t176 != 1) = false := bne_eq_false_iff_eq.mpr c13
         clear c13
         by_cases c14 : t178 = 4
         ·rw [if_pos c14] at H
          have c14b0 : (t178 == 4) = true := beq_iff_eq.mpr c14
          have c14b1 : (t178 != 4) = false := bne_eq_false_iff_eq.mpr c14
          clear c14
          obtain ⟨y185, hy185⟩ : ∃ y_ : List Int, y_ = (([0, 2] : List Int)) := ⟨_, rfl⟩
          replace H : ((slices_Equal_int_int.f k t169 y185).bind fun t188 => (if t188 = true then (some (t183.toList == ([45, 117, 117, 45, 10, 61, 40, 41, 33, 10, 45, 45, 32, 117, 10] : List UInt8))) else (some false))) = some true := by first | (rw [hy185]; with_reducible exact H) | (have H2_ := (Option.bind_some _ _).symm.trans H; rw [hy185]; with_reducible exact H2_) | (have H2_ := (Option.bind_some _ _).symm.trans H; with_reducible exact H2_) | with_reducible exact H | (rw [hy185]; exact H) | exact H
          have Ny185 := Aside0.mk hy185
          clear hy185
          replace H := Option.bind_eq_some_iff.mp H
          obtain ⟨t188, A150, H⟩ := H
          replace H : (if t188 = true then (some (t183.toList == ([45, 117, 117, 45, 10, 61, 40, 41, 33, 10, 45, 45, 32, 117, 10] : List UInt8))) else (some false)) = some true := H
          have A15 := Aside0.mk A150
          clear A150
          by_cases c16 : t188 = true
          ·subst c16
           have H1 : (some (t183.toList == ([45, 117, 117, 45, 10, 61, 40, 41, 33, 10, 45, 45, 32, 117, 10] : List UInt8))) = some true := by rw [if_pos rfl] at H; exact H
           clear H
           have H := H1
           clear H1
           have hR_ := Option.some.inj H
           go_enter Try.func11, Try.ntmps11
           go_wp2_with (first | ((with_reducible refine gate_callee (f := 31) rfl ?_); refine goesL_ (some 13) rfl rfl Try.func31 (by kernel_rfl) rfl #[.string (⟨#[45, 117, 117]⟩ : ByteArray), .string (⟨#[45, 45]⟩ : ByteArray)] rfl (by (try simp only [List.map_toArray, List.map_cons, List.map_nil]); first | done | rfl | (simp only [List.length_drop, List.length_take]; rfl)) ?_; (with_reducible refine (align_Best.calls k (⟨#[45, 117, 117]⟩ : ByteArray) (⟨#[45, 45]⟩ : ByteArray) t169 t170 t171 _ A1.out).mono ?_); rintro e w17 ⟨v172, rfl, ho0, hb⟩; refine ⟨_, rfl, ?_⟩; have n0_ := Aside0.mk (Kd.R_lower ho0 (below_size (by repeat (first | (with_reducible first | exact HB.out | apply below_alloc | apply pw_below_drewN | apply below_drew1) | exact HB.out)))); have n1_ := Aside0.mk (below_step (by repeat (first | (with_reducible first | exact HB.out | apply below_alloc | apply pw_below_drewN | apply below_drew1) | exact HB.out)) hb); clear HB; have HO173 := n0_; have HB := n1_; clear n0_ n1_; (try clear hb); (try clear hb2); (try clear hk); (try clear hi); (try clear ho0)) | ((with_reducible refine gate_callee (f := 13) rfl ?_); refine goesL_ (some 18) rfl rfl Try.func13 (by kernel_rfl) rfl #[.string (⟨#[45, 117]⟩ : ByteArray), .string (⟨#[117, 45]⟩ : ByteArray)] rfl (by (try simp only [List.map_toArray, List.map_cons, List.map_nil]); first | done | rfl | (simp only [List.length_drop, List.length_take]; rfl)) ?_; (with_reducible refine (align_Distance.calls k (⟨#[45, 117]⟩ : ByteArray) (⟨#[117, 45]⟩ : ByteArray) t174 t175 _ A2.out).mono ?_); rintro e w18 ⟨rfl, hb⟩; refine ⟨_, rfl, ?_⟩; have n0_ := Aside0.mk (Kd.R_below (by (with_reducible repeat (first | apply Kd.R_alloc | apply Kd.R_drewN | apply Kd.R_drew)); exact HO173.out) hb); have n1_ := Aside0.mk (below_step (by repeat (first | (with_reducible first | exact HB.out | apply below_alloc | apply pw_below_drewN | apply below_drew1) | exact HB.out)) hb); clear HO173; clear HB; have HO173 := n0_; have HB := n1_; clear n0_ n1_; (try clear hb); (try clear hb2); (try clear hk); (try clear hi)) | ((with_reducible refine gate_callee (f := 13) rfl ?_); refine goesL_ (some 22) rfl rfl Try.func13 (by kernel_rfl) rfl #[.string (⟨#[120]⟩ : ByteArray), .string (⟨#[117, 117]⟩ : ByteArray)] rfl (by (try simp only [List.map_toArray, List.map_cons, List.map_nil]); first | done | rfl | (simp only [List.length_drop, List.length_take]; rfl)) ?_; (with_reducible refine (align_Distance.calls k (⟨#[120]⟩ : ByteArray) (⟨#[117, 117]⟩ : ByteArray) t176 t177 _ A3.out).mono ?_); rintro e w19 ⟨rfl, hb⟩; refine ⟨_, rfl, ?_⟩; have n0_ := Aside0.mk (Kd.R_below (by (with_reducible repeat (first | apply Kd.R_alloc | apply Kd.R_drewN | apply Kd.R_drew)); exact HO173.out) hb); have n1_ := Aside0.mk (below_step (by repeat (first | (with_reducible first | exact HB.out | apply below_alloc | apply pw_below_drewN | apply below_drew1) | exact HB.out)) hb); clear HO173; clear HB; have HO173 := n0_; have HB := n1_; clear n0_ n1_; (try clear hb); (try clear hb2); (try clear hk); (try clear hi)) | ((with_reducible refine gate_callee (f := 13) rfl ?_); refine goesL_ (some 26) rfl rfl Try.func13 (by kernel_rfl) rfl #[.string (⟨#[117]⟩ : ByteArray), .string (⟨#[]⟩ : ByteArray)] rfl (by (try simp only [List.map_toArray, List.map_cons, List.map_nil]); first | done | rfl | (simp only [List.length_drop, List.length_take]; rfl)) ?_; (with_reducible refine (align_Distance.calls k (⟨#[117]⟩ : ByteArray) (⟨#[]⟩ : ByteArray) t178 t179 _ A4.out).mono ?_); rintro e w20 ⟨rfl, hb⟩; refine ⟨_, rfl, ?_⟩; have n0_ := Aside0.mk (Kd.R_below (by (with_reducible repeat (first | apply Kd.R_alloc | apply Kd.R_drewN | apply Kd.R_drew)); exact HO173.out) hb); have n1_ := Aside0.mk (below_step (by repeat (first | (with_reducible first | exact HB.out | apply below_alloc | apply pw_below_drewN | apply below_drew1) | exact HB.out)) hb); clear HO173; clear HB; have HO173 := n0_; have HB := n1_; clear n0_ n1_; (try clear hb); (try clear hb2); (try clear hk); (try clear hi)) | ((with_reducible refine gate_dst (N := 30) rfl ?_); refine Kd.R_lit (Kd.int .i64) _ 3 ?hg (N := 30) ?hd (xs := ([0, 2, 0] : List Int)) (inner := [.int .i64 0, .int .i64 2, .int .i64 0]) (ok := fun _ => True) (okp := fun _ => True) ?hr ?hp (fun _ hk => hk) trivial (Below.refl _ _) (Nat.le_refl _) (by simp) ?_; (case hd => rfl); (case hg => rfl); (case hr => first | (go_simp; done) | (go_simp; rfl)); (case hp => exact (Reps.one (show Kd.M (Kd.int .i64) _ _ _ 0 [.int .i64 0] from rfl) (Reps.one (show Kd.M (Kd.int .i64) _ _ _ 2 [.int .i64 2] from rfl) (Reps.one (show Kd.M (Kd.int .i64) _ _ _ 0 [.int .i64 0] from rfl) (Reps.none _ _))))); intro v181 w21 ho22 hb hg_ hnew_; clear hg_ hnew_; (first | rw [← Ny180.out] at ho22 | (simp only [Int.reduceToNat] at ho22; rw [← Ny180.out] at ho22)); have n0_ := Aside0.mk (Kd.R_elder' (by (with_reducible repeat (first | apply Kd.R_alloc | apply Kd.R_drewN | apply Kd.R_drew)); exact HO173.out) (Kd.R_base ho22) hb); have n1_ := Aside0.mk (Kd.R_lower (Kd.R_new' ho22 (Kd.R_lt (by (with_reducible repeat (first | apply Kd.R_alloc | apply Kd.R_drewN | apply Kd.R_drew)); exact HO173.out))) (below_size (by repeat (first | (with_reducible first | exact HB.out | apply below_alloc | apply pw_below_drewN | apply below_drew1) | exact HB.out)))); have n2_ := Aside0.mk (below_step (by repeat (first | (with_reducible first | exact HB.out | apply below_alloc | apply pw_below_drewN | apply below_drew1) | exact HB.out)) hb); clear HO173; clear HB; have HO173 := n0_; have HO182 := n1_; have HB := n2_; clear n0_ n1_ n2_; clear hb ho22; obtain ⟨Ao23, co23, eo23⟩ := Kd.R_slice HO182.out; subst eo23) | ((with_reducible refine gate_callee (f := 24) rfl ?_); refine goesL_ (some 31) rfl rfl Try.func24 (by kernel_rfl) rfl #[.string (⟨#[45, 117, 117, 45]⟩ : ByteArray), .string (⟨#[45, 45, 117]⟩ : ByteArray), .slice Ao23 y180.length co23] rfl (by (try simp only [List.map_toArray, List.map_cons, List.map_nil]); first | done | rfl | (simp only [List.length_drop, List.length_take]; rfl)) ?_; (with_reducible refine (align_Text.calls k (⟨#[45, 117, 117, 45]⟩ : ByteArray) (⟨#[45, 45, 117]⟩ : ByteArray) _ _ y180 t183 t184 _ ?side1 ?side2 A5.out).mono ?_); (case side1 => repeat (first | exact (Kd.R_reads' HO182.out).2.2 | (with_reducible refine Kd.C_alloc ?_ _) | (with_reducible refine Kd.C_drewN ?_ _) | (with_reducible refine Kd.C_drew ?_))); (case side2 => exact (Kd.R_reads' HO182.out).2.1); rintro e w24 ⟨rfl, hb⟩; refine ⟨_, rfl, ?_⟩; have n0_ := Aside0.mk (Kd.R_below (by (with_reducible repeat (first | apply Kd.R_alloc | apply Kd.R_drewN | apply Kd.R_drew)); exact HO173.out) hb); have n1_ := Aside0.mk (Kd.R_below (by (with_reducible repeat (first | apply Kd.R_alloc | apply Kd.R_drewN | apply Kd.R_drew)); exact HO182.out) hb); have n2_ := Aside0.mk (below_step (by repeat (first | (with_reducible first | exact HB.out | apply below_alloc | apply pw_below_drewN | apply below_drew1) | exact HB.out)) hb); clear HO173; clear HO182; clear HB; have HO173 := n0_; have HO182 := n1_; have HB := n2_; clear n0_ n1_ n2_; (try clear hb); (try clear hb2); (try clear hk); (try clear hi)) | ((with_reducible refine gate_dst (N := 69) rfl ?_); refine Kd.R_lit (Kd.int .i64) _ 3 ?hg (N := 69) ?hd (xs := ([0, 2] : List Int)) (inner := [.int .i64 0, .int .i64 2]) (ok := fun _ => True) (okp := fun _ => True) ?hr ?hp (fun _ hk => hk) trivial (Below.refl _ _) (Nat.le_refl _) (by simp) ?_; (case hd => rfl); (case hg => rfl); (case hr => first | (go_simp; done) | (go_simp; rfl)); (case hp => exact (Reps.one (show Kd.M (Kd.int .i64) _ _ _ 0 [.int .i64 0] from rfl) (Reps.one (show Kd.M (Kd.int .i64) _ _ _ 2 [.int .i64 2] from rfl) (Reps.none _ _)))); intro v186 w25 ho26 hb hg_ hnew_; clear hg_ hnew_; (first | rw [← Ny185.out] at ho26 | (simp only [Int.reduceToNat] at ho26; rw [← Ny185.out] at ho26)); have n0_ := Aside0.mk (Kd.R_elder' (by (with_reducible repeat (first | apply Kd.R_alloc | apply Kd.R_drewN | apply Kd.R_drew)); exact HO173.out) (Kd.R_base ho26) hb); have n1_ := Aside0.mk (Kd.R_elder' (by (with_reducible repeat (first | apply Kd.R_alloc | apply Kd.R_drewN | apply Kd.R_drew)); exact HO182.out) (Kd.R_base ho26) hb); have n2_ := Aside0.mk (Kd.R_lower (Kd.R_new' (Kd.R_new' ho26 (Kd.R_lt (by (with_reducible repeat (first | apply Kd.R_alloc | apply Kd.R_drewN | apply Kd.R_drew)); exact HO173.out))) (Kd.R_lt (by (with_reducible repeat (first | apply Kd.R_alloc | apply Kd.R_drewN | apply Kd.R_drew)); exact HO182.out))) (below_size (by repeat (first | (with_reducible first | exact HB.out | apply below_alloc | apply pw_below_drewN | apply below_drew1) | exact HB.out)))); have n3_ := Aside0.mk (below_step (by repeat (first | (with_reducible first | exact HB.out | apply below_alloc | apply pw_below_drewN | apply below_drew1) | exact HB.out)) hb); clear HO173; clear HO182; clear HB; have HO173 := n0_; have HO182 := n1_; have HO187 := n2_; have HB := n3_; clear n0_ n1_ n2_ n3_; clear hb ho26; obtain ⟨Ao27, co27, eo27⟩ := Kd.R_slice HO173.out; subst eo27; obtain ⟨Ao28, co28, eo28⟩ := Kd.R_slice HO187.out; subst eo28) | ((with_reducible refine gate_callee (f := 29) rfl ?_); refine goesL_ (some 70) rfl rfl Try.func29 (by kernel_rfl) rfl #[.slice Ao27 t169.length co27, .slice Ao28 y185.length co28] rfl (by (try simp only [List.map_toArray, List.map_cons, List.map_nil]); first | done | rfl | (simp only [List.length_drop, List.length_take]; rfl)) ?_; (with_reducible refine (slices_Equal_int_int.calls k _ _ t169 _ _ y185 true _ ?side1 ?side2 ?side3 ?side4 A15.out).mono ?_); (case side1 => repeat (first | exact (Kd.R_reads' HO173.out).2.2 | (with_reducible refine Kd.C_alloc ?_ _) | (with_reducible refine Kd.C_drewN ?_ _) | (with_reducible refine Kd.C_drew ?_))); (case side2 => exact (Kd.R_reads' HO173.out).2.1); (case side3 => repeat (first | exact (Kd.R_reads' HO187.out).2.2 | (with_reducible refine Kd.C_alloc ?_ _) | (with_reducible refine Kd.C_drewN ?_ _) | (with_reducible refine Kd.C_drew ?_))); (case side4 => exact (Kd.R_reads' HO187.out).2.1); rintro e w' ⟨rfl, ⟨nd, rfl⟩⟩; refine ⟨_, rfl, ?_⟩))
           go_ret
           exact ⟨by first | rfl | (simp [errW_none, errW_some] <;> rfl) | (simp [*, errW_none, errW_some] <;> rfl), by repeat (first | (with_reducible first | exact HB.out | apply below_alloc | apply pw_below_drewN | apply below_drew1) | exact HB.out)⟩
          ·replace c16 := Bool.eq_false_iff.mpr c16
           subst c16
           have H1 : (some false) = some true := by rw [if_neg (show ¬ (false = true) by decide)] at H; exact H
           clear H
           have H := H1
           clear H1
           exact absurd (Option.some.inj H) (by decide)
         ·rw [if_neg c14] at H
          have c14b0 : (t178 == 4) = false := beq_eq_false_iff_ne.mpr c14
          have c14b1 : (t178 != 4) = true := bne_iff_ne.mpr c14
          exact absurd (Option.some.inj H) (by decide)
        ·rw [if_neg c13] at H
         have c13b0 : (t176 == 1) = false := beq_eq_false_iff_ne.mpr c13
         have c13b1 : (t176 != 1) = true := bne_iff_ne.mpr c13
         exact absurd (Option.some.inj H) (by decide)
       ·rw [if_neg c12] at H
        have c12b0 : (t174 == 6) = false := beq_eq_false_iff_ne.mpr c12
        have c12b1 : (t174 != 6) = true := bne_iff_ne.mpr c12
        exact absurd (Option.some.inj H) (by decide)
      ·rw [if_neg c11] at H
       have c11b0 : (t170 == 1) = false := beq_eq_false_iff_ne.mpr c11
       have c11b1 : (t170 != 1) = true := bne_iff_ne.mpr c11
       exact absurd (Option.some.inj H) (by decide)
     ·rw [if_neg c10] at H
      have c10b0 : (t184 == 0) = false := beq_eq_false_iff_ne.mpr c10
      have c10b1 : (t184 != 0) = true := bne_iff_ne.mpr c10
      exact absurd (Option.some.inj H) (by decide)
    ·rw [if_neg c9] at H
     have c9b0 : (t179 == 0) = false := beq_eq_false_iff_ne.mpr c9
     have c9b1 : (t179 != 0) = true := bne_iff_ne.mpr c9
     exact absurd (Option.some.inj H) (by decide)
   ·rw [if_neg c8] at H
    have c8b0 : (t177 == 0) = false := beq_eq_false_iff_ne.mpr c8
    have c8b1 : (t177 != 0) = true := bne_iff_ne.mpr c8
    exact absurd (Option.some.inj H) (by decide)
  ·rw [if_neg c7] at H
   have c7b0 : (t175 == 0) = false := beq_eq_false_iff_ne.mpr c7
   have c7b1 : (t175 != 0) = true := bne_iff_ne.mpr c7
   exact absurd (Option.some.inj H) (by decide)
 ·rw [if_neg c6] at H
  have c6b0 : (t171 == 0) = false := beq_eq_false_iff_ne.mpr c6
  have c6b1 : (t171 != 0) = true := bne_iff_ne.mpr c6
  exact absurd (Option.some.inj H) (by decide)
def ancepslaw45_awake.f (k : Nat)  : Option (Bool) := (ancepslaw45_awake.g k).bind fun b => if b = true then some true else none
theorem ancepslaw45_awake.mono : ∀ k, LeO (ancepslaw45_awake.f k) (ancepslaw45_awake.f (k + 1)) := by
 intro k
 unfold ancepslaw45_awake.f
 exact LeO.bind (ancepslaw45_awake.monoG k) (fun _ => LeO.refl _)
theorem ancepslaw45_awake.calls (k : Nat)  (r : Bool) (w : World) (h : ancepslaw45_awake.f k  = some r) :
  Calls Try.prog 11 #[] w fun e w' => e = .returned (.bool r) ∧ Below w.heap.size w w' := by
 unfold ancepslaw45_awake.f at h
 obtain ⟨b, h1, h2⟩ := Option.bind_eq_some_iff.mp h
 cases b with
 | true =>
  rw [if_pos rfl] at h2
  obtain rfl := Option.some.inj h2
  exact ancepslaw45_awake.callsT k w h1
 | false => simp at h2

/-! ### ancepslaw45_short: function 12 -/
def ancepslaw45_short.f (a0 : ByteArray) (a1 : ByteArray) : Option (Bool) := if (a0.size : Int) ≤ 70 then (some (decide ((a1.size : Int) ≤ 70))) else (some false)
set_option maxHeartbeats 8000000 in
set_option maxRecDepth 100000 in
theorem ancepslaw45_short.calls (a0 : ByteArray) (a1 : ByteArray) (r : Bool) (w : World) (h : ancepslaw45_short.f a0 a1 = some r) :
  Calls Try.prog 12 #[.string a0, .string a1] w fun e w' => e = .returned (.bool r) ∧ Drawn0 w w' := by
 have H : (if (a0.size : Int) ≤ 70 then (some (decide ((a1.size : Int) ≤ 70))) else (some false)) = some r := h
 clear h
 by_cases c3 : (a0.size : Int) ≤ 70
 ·rw [if_pos c3] at H
  have c3b0 : decide ((a0.size : Int) ≤ 70) = true := decide_eq_true c3
  have c3b1 : decide (a0.size ≤ 70) = true := decide_eq_true (by omega)
  clear c3
  obtain rfl := Option.some.inj H
  go_enter Try.func12, Try.ntmps12
  go_wp2
  go_ret
  exact ⟨by first | rfl | (simp; done) | (simp [*]; done), by repeat (first | exact Drawn0.refl _ | apply Drawn0.step)⟩
 ·rw [if_neg c3] at H
  have c3b0 : decide ((a0.size : Int) ≤ 70) = false := decide_eq_false c3
  have c3b1 : decide (a0.size ≤ 70) = false := decide_eq_false (by omega)
  clear c3
  obtain rfl := Option.some.inj H
  go_enter Try.func12, Try.ntmps12
  go_wp2
  go_ret
  exact ⟨by first | rfl | (simp; done) | (simp [*]; done), by repeat (first | exact Drawn0.refl _ | apply Drawn0.step)⟩

/-! ### ancepsref04_Is: function 58 -/
def ancepsref04_Is.f (a0 : Int) : Option (Bool) := if a0 = 117 then (some true) else (if a0 = 45 then (some true) else (some (a0 == 120)))
set_option maxHeartbeats 8000000 in
set_option maxRecDepth 100000 in
theorem ancepsref04_Is.calls (a0 : Int) (r : Bool) (w : World) (h : ancepsref04_Is.f a0 = some r) :
  Calls Try.prog 58 #[.int .u8 a0] w fun e w' => e = .returned (.bool r) ∧ Drawn0 w w' := by
 have H : (if a0 = 117 then (some true) else (if a0 = 45 then (some true) else (some (a0 == 120)))) = some r := h
 clear h
 by_cases c2 : a0 = 117
 ·rw [if_pos c2] at H
  have c2b0 : (a0 == 117) = true := beq_iff_eq.mpr c2
  have c2b1 : (a0 != 117) = false := bne_eq_false_iff_eq.mpr c2
  clear c2
  obtain rfl := Option.some.inj H
  go_enter Try.func58, Try.ntmps58
  go_wp2
  go_ret
  exact ⟨by first | rfl | (simp; done) | (simp [*]; done), by repeat (first | exact Drawn0.refl _ | apply Drawn0.step)⟩
 ·rw [if_neg c2] at H
  have c2b0 : (a0 == 117) = false := beq_eq_false_iff_ne.mpr c2
  have c2b1 : (a0 != 117) = true := bne_iff_ne.mpr c2
  by_cases c3 : a0 = 45
  ·rw [if_pos c3] at H
   have c3b0 : (a0 == 45) = true := beq_iff_eq.mpr c3
   have c3b1 : (a0 != 45) = false := bne_eq_false_iff_eq.mpr c3
   clear c3
   obtain rfl := Option.some.inj H
   go_enter Try.func58, Try.ntmps58
   go_wp2
   go_ret
   exact ⟨by first | rfl | (simp; done) | (simp [*]; done), by repeat (first | exact Drawn0.refl _ | apply Drawn0.step)⟩
  ·rw [if_neg c3] at H
   have c3b0 : (a0 == 45) = false := beq_eq_false_iff_ne.mpr c3
   have c3b1 : (a0 != 45) = true := bne_iff_ne.mpr c3
   obtain rfl := Option.some.inj H
   go_enter Try.func58, Try.ntmps58
   go_wp2
   go_ret
   exact ⟨by first | rfl | (simp; done) | (simp [*]; done), by repeat (first | exact Drawn0.refl _ | apply Drawn0.step)⟩

/-! ### ancepsref04_Valid: function 39 -/
def ancepsref04_Valid.l0 : Nat → ByteArray → Int → Option (Int)
 | 0, _, _ => none
 | k + 1, x0, x3 => if x3 < (x0.size : Int) then (if 0 ≤ x3 then ((ancepsref04_Is.f (bt x0 x3)).bind fun t189 => (if t189 = true then (ancepsref04_Valid.l0 k x0 (wrap64 (x3 + 1))) else (some 2))) else (none)) else (some 0)
def ancepsref04_Valid.f (k : Nat) (a0 : ByteArray) : Option (Int) := if (a0.size : Int) > 60 then (some 3) else (ancepsref04_Valid.l0 k a0 0)
theorem ancepsref04_Valid.mono_l : ∀ k, (∀ y0 y1, LeO (ancepsref04_Valid.l0 k y0 y1) (ancepsref04_Valid.l0 (k + 1) y0 y1))
 | 0 => fun _ _ r h => by simp [ancepsref04_Valid.l0] at h
 | k + 1 => by
  have ih0 := ancepsref04_Valid.mono_l k
  ·intro y0 y1
   unfold ancepsref04_Valid.l0
   repeat' first
   | (with_reducible exact ih0 _ _)
   | (with_reducible exact LeO.refl _)
   | (with_reducible exact LeO.none _)
   | (with_reducible refine LeO.ite ?_ ?_)
   | (with_reducible refine LeO.bind ?_ (fun _ => ?_))
   | exact ih0 _ _
   | exact LeO.none _
   | refine LeO.ite ?_ ?_
   | refine LeO.bind ?_ (fun _ => ?_)
theorem ancepsref04_Valid.mono : ∀ a0 k, LeO (ancepsref04_Valid.f k a0) (ancepsref04_Valid.f (k + 1) a0) := by
 intro a0 k
 have ih0 := ancepsref04_Valid.mono_l k
 unfold ancepsref04_Valid.f
 repeat' first
   | (with_reducible exact ih0 _ _)
   | (with_reducible exact LeO.refl _)
   | (with_reducible exact LeO.none _)
   | (with_reducible refine LeO.ite ?_ ?_)
   | (with_reducible refine LeO.bind ?_ (fun _ => ?_))
   | exact ih0 _ _
   | exact LeO.none _
   | refine LeO.ite ?_ ?_
   | refine LeO.bind ?_ (fun _ => ?_)
set_option maxHeartbeats 8000000 in
set_option maxRecDepth 100000 in
theorem ancepsref04_Valid.calls (k : Nat) (a0 : ByteArray) (r : Int) (w : World) (h : ancepsref04_Valid.f k a0 = some r) :
  Calls Try.prog 39 #[.string a0] w fun e w' => e = .returned (.int .i64 r) ∧ Drawn0 w w' := by
 have H : (if (a0.size : Int) > 60 then (some 3) else (ancepsref04_Valid.l0 k a0 0)) = some r := h
 clear h
 by_cases c2 : (a0.size : Int) > 60
 ·rw [if_pos c2] at H
  have c2b0 : decide (60 < (a0.size : Int)) = true := decide_eq_true c2
  have c2b1 : decide (60 < a0.size) = true := decide_eq_true (by omega)
  clear c2
  obtain rfl := Option.some.inj H
  go_enter Try.func39, Try.ntmps39
  go_wp2
  go_ret
  exact ⟨by first | rfl | (simp; done) | (simp [*]; done), by repeat (first | exact Drawn0.refl _ | apply Drawn0.step)⟩
 ·rw [if_neg c2] at H
  have c2b0 : decide (60 < (a0.size : Int)) = false := decide_eq_false c2
  have c2b1 : decide (60 < a0.size) = false := decide_eq_false (by omega)
  clear c2
  have H' := Aside0.mk H
  clear H
  go_enter Try.func39, Try.ntmps39
  go_wp2
  go_loopg [3] k (fun kq v3 w' => ∃ (x3_1 : Int), v3 = .int .i64 x3_1 ∧ Aside0 (ancepsref04_Valid.l0 kq a0 x3_1 = some r) ∧ Aside0 (kq ≤ k) ∧ Drawn0 w w')
  case atStart => exact ⟨(0), (by first | rfl | (simp; done) | (simp [*]; done)), H', ⟨Nat.le_refl _⟩, by repeat (first | exact Drawn0.refl _ | apply Drawn0.step)⟩
  case round =>
   clear H'
   try clear c2
   try clear c2b0
   try clear c2b1
   try clear p2
   obtain ⟨x3_1, rfl, HA, HK1, ⟨m1, rfl⟩⟩ := hrel
   cases gk with
   | zero => exact absurd HA.out (by simp [ancepsref04_Valid.l0])
   | succ k1 =>
    have H := HA.out
    clear HA
    simp only [ancepsref04_Valid.l0] at H
    by_cases c3 : x3_1 < (a0.size : Int)
    ·rw [if_pos c3] at H
     have c3b0 : decide (x3_1 < (a0.size : Int)) = true := decide_eq_true c3
     clear c3
     by_cases c4 : 0 ≤ x3_1
     ·rw [if_pos c4] at H
      have c4b0 : decide (0 ≤ x3_1) = true := decide_eq_true c4
      clear c4
      replace H := Option.bind_eq_some_iff.mp H
      obtain ⟨t189, A60, H⟩ := H
      replace H : (if t189 = true then (ancepsref04_Valid.l0 k1 a0 (wrap64 (x3_1 + 1))) else (some 2)) = some r := H
      have A6 := Aside0.mk A60
      clear A60
      by_cases c7 : t189 = true
      ·subst c7
       have H1 : (ancepsref04_Valid.l0 k1 a0 (wrap64 (x3_1 + 1))) = some r := by rw [if_pos rfl] at H; exact H
       clear H
       have H := H1
       clear H1
       have H' := Aside0.mk H
       clear H
       have p5 : 0 ≤ (x3_1 : Int) := of_decide_eq_true (by first | (with_reducible assumption) | assumption)
       have q5 : x3_1 < (a0.size : Int) := of_decide_eq_true (by first | (with_reducible assumption) | assumption)
       have hx5 := bt_at a0 x3_1
       replace p5 := eq_true p5
       replace q5 := eq_true q5
       go_wp2_with (first | ((with_reducible refine gate_callee (f := 58) rfl ?_); refine goesL_ (some 16) rfl rfl Try.func58 (by kernel_rfl) rfl #[.int .u8 (bt a0 x3_1)] rfl (by (try simp only [List.map_toArray, List.map_cons, List.map_nil]); first | done | rfl | (simp only [List.length_drop, List.length_take]; rfl)) ?_; (with_reducible refine (ancepsref04_Is.calls (bt a0 x3_1) true _ A6.out).mono ?_); rintro e w' ⟨rfl, ⟨nd, rfl⟩⟩; refine ⟨_, rfl, ?_⟩))
       go_roundg k1
       case measure => have := HK1.out; omega
       case rel => exact ⟨(wrap64 (x3_1 + 1)), (by first | rfl | (simp; done) | (simp [*]; done)), H', ⟨by have := HK1.out; omega⟩, by repeat (first | exact Drawn0.refl _ | apply Drawn0.step)⟩
      ·replace c7 := Bool.eq_false_iff.mpr c7
       subst c7
       have H1 : (some 2) = some r := by rw [if_neg (show ¬ (false = true) by decide)] at H; exact H
       clear H
       have H := H1
       clear H1
       obtain rfl := Option.some.inj H
       have p5 : 0 ≤ (x3_1 : Int) := of_decide_eq_true (by first | (with_reducible assumption) | assumption)
       have q5 : x3_1 < (a0.size : Int) := of_decide_eq_true (by first | (with_reducible assumption) | assumption)
       have hx5 := bt_at a0 x3_1
       replace p5 := eq_true p5
       replace q5 := eq_true q5
       go_wp2_with (first | ((with_reducible refine gate_callee (f := 58) rfl ?_); refine goesL_ (some 16) rfl rfl Try.func58 (by kernel_rfl) rfl #[.int .u8 (bt a0 x3_1)] rfl (by (try simp only [List.map_toArray, List.map_cons, List.map_nil]); first | done | rfl | (simp only [List.length_drop, List.length_take]; rfl)) ?_; (with_reducible refine (ancepsref04_Is.calls (bt a0 x3_1) false _ A6.out).mono ?_); rintro e w' ⟨rfl, ⟨nd, rfl⟩⟩; refine ⟨_, rfl, ?_⟩))
       go_ret
       exact ⟨by first | rfl | (simp; done) | (simp [*]; done), by repeat (first | exact Drawn0.refl _ | apply Drawn0.step)⟩
     ·rw [if_neg c4] at H
      exact absurd H (by simp)
    ·rw [if_neg c3] at H
     have c3b0 : decide (x3_1 < (a0.size : Int)) = false := decide_eq_false c3
     clear c3
     obtain rfl := Option.some.inj H
     go_wp2
     go_ret
     exact ⟨by first | rfl | (simp; done) | (simp [*]; done), by repeat (first | exact Drawn0.refl _ | apply Drawn0.step)⟩

end Go.Proofs.Ytnnonjjmlbemfaa.X
