-- printed by this session's xprint.py: out of the translation, by the kit's print with additions; Lean checks it
import Derived.Test.YtdaooagikacboaaDoorBld
import Derived.Test.YtdaooagikacboaaDoorWN
import Derived.Test.YtdaooagikacboaaDoorWShare
import Derived.Test.YtdaooagikacboaaDoorWRepsOne
import Derived.Test.YtdaooagikacboaaDoorWGuard
import Derived.Test.YtdaooagikacboaaDoorX0
import Derived.Test.YtdaooagikacboaaDoorX2
namespace Go.Proofs.YtdaooagikacboaaDoor.X
open Go.RowKit Go.Proofs.YtdaooagikacboaaDoorW.PrintWords Go.Proofs.YtdaooagikacboaaDoorW.PrintLast Go.Proofs.YtdaooagikacboaaDoorW.PrintMore
attribute [local go_sem] max2_int min2_int max_two min_two max_three min_three max_four min_four isSome_setCell binOp_gtr_str binOp_leq_str binOp_geq_str   -- for this text's walks alone
set_option linter.unusedVariables false
set_option linter.unusedSimpArgs false

/-! ### ancepsref01_Letter: function 56 -/
mutual
def ancepsref01_Letter.j0 : Nat → Int → Bool → Option (Bool)
  | 0, _, _ => none
  | k + 1, x0, x9 => if x9 = true then (some false) else (ancepsref01_Letter.l0 k x0 0)
def ancepsref01_Letter.l0 : Nat → Int → Int → Option (Bool)
  | 0, _, _ => none
  | k + 1, x0, x3 => if x3 < 15 then (if 0 ≤ x3 then (if (bt (⟨#[32, 46, 44, 59, 58, 33, 63, 34, 45, 91, 93, 60, 62, 123, 125]⟩ : ByteArray) x3) = x0 then (some false) else (ancepsref01_Letter.l0 k x0 (wrap64 (x3 + 1)))) else (none)) else (some true)
end
def ancepsref01_Letter.f (k : Nat) (a0 : Int) : Option (Bool) := if a0 < 32 then (ancepsref01_Letter.j0 k a0 true) else (ancepsref01_Letter.j0 k a0 (decide (a0 > 126)))
theorem ancepsref01_Letter.mono_l : ∀ k, (∀ y0 y1, LeO (ancepsref01_Letter.j0 k y0 y1) (ancepsref01_Letter.j0 (k + 1) y0 y1)) ∧ (∀ y0 y1, LeO (ancepsref01_Letter.l0 k y0 y1) (ancepsref01_Letter.l0 (k + 1) y0 y1))
  | 0 => ⟨fun _ _ r h => by simp [ancepsref01_Letter.j0] at h, fun _ _ r h => by simp [ancepsref01_Letter.l0] at h⟩
  | k + 1 => by
    obtain ⟨ih0, ih1⟩ := ancepsref01_Letter.mono_l k
    refine ⟨?_, ?_⟩
    · intro y0 y1
      unfold ancepsref01_Letter.j0
      repeat' first
      | (with_reducible exact ih0 _ _)
      | (with_reducible exact ih1 _ _)
      | (with_reducible exact LeO.refl _)
      | (with_reducible exact LeO.none _)
      | (with_reducible refine LeO.ite ?_ ?_)
      | (with_reducible refine LeO.bind ?_ (fun _ => ?_))
      | exact ih0 _ _
      | exact ih1 _ _
      | exact LeO.none _
      | refine LeO.ite ?_ ?_
      | refine LeO.bind ?_ (fun _ => ?_)
    · intro y0 y1
      unfold ancepsref01_Letter.l0
      repeat' first
      | (with_reducible exact ih0 _ _)
      | (with_reducible exact ih1 _ _)
      | (with_reducible exact LeO.refl _)
      | (with_reducible exact LeO.none _)
      | (with_reducible refine LeO.ite ?_ ?_)
      | (with_reducible refine LeO.bind ?_ (fun _ => ?_))
      | exact ih0 _ _
      | exact ih1 _ _
      | exact LeO.none _
      | refine LeO.ite ?_ ?_
      | refine LeO.bind ?_ (fun _ => ?_)
theorem ancepsref01_Letter.mono : ∀ a0 k, LeO (ancepsref01_Letter.f k a0) (ancepsref01_Letter.f (k + 1) a0) := by
  intro a0 k
  obtain ⟨ih0, ih1⟩ := ancepsref01_Letter.mono_l k
  unfold ancepsref01_Letter.f
  repeat' first
      | (with_reducible exact ih0 _ _)
      | (with_reducible exact ih1 _ _)
      | (with_reducible exact LeO.refl _)
      | (with_reducible exact LeO.none _)
      | (with_reducible refine LeO.ite ?_ ?_)
      | (with_reducible refine LeO.bind ?_ (fun _ => ?_))
      | exact ih0 _ _
      | exact ih1 _ _
      | exact LeO.none _
      | refine LeO.ite ?_ ?_
      | refine LeO.bind ?_ (fun _ => ?_)
set_option maxHeartbeats 8000000 in
set_option maxRecDepth 100000 in
theorem ancepsref01_Letter.calls (k : Nat) (a0 : Int) (r : Bool) (w : World) (h : ancepsref01_Letter.f k a0 = some r) :
    Calls Tryd.prog 56 #[.int .u8 a0] w fun e w' => e = .returned (.bool r) ∧ Drawn0 w w' := by
  have H : (if a0 < 32 then (ancepsref01_Letter.j0 k a0 true) else (ancepsref01_Letter.j0 k a0 (decide (a0 > 126)))) = some r := h
  clear h
  have HC2 := Aside0.mk H
  clear H
  go_enter Tryd.func56, Tryd.ntmps56
  go_upto_region 1 with (fail)
  go_cut [9] (fun v9 wc => ∃ (kq : Nat) (x9_1 : Bool), v9 = .bool x9_1 ∧ Aside0 (ancepsref01_Letter.j0 kq a0 x9_1 = some r) ∧ Aside0 (kq ≤ k) ∧ Drawn0 w wc)
  case first =>
    have H := HC2.out
    clear HC2
    by_cases c3 : a0 < 32
    · rw [if_pos c3] at H
      have c3b0 : decide (a0 < 32) = true := decide_eq_true c3
      clear c3
      (first | rw [c3b0] | (simp only [i64_w, i32_w]; rw [c3b0]) | skip)
      have H' := Aside0.mk H
      clear H
      go_wp2
      go_meet
      case rel => exact ⟨_, (true), (by first | rfl | (simp; done) | (simp [*]; done)), H', ⟨by first | omega | exact Nat.le_refl _⟩, by repeat (first | exact Drawn0.refl _ | apply Drawn0.step)⟩
    · rw [if_neg c3] at H
      have c3b0 : decide (a0 < 32) = false := decide_eq_false c3
      clear c3
      (first | rw [c3b0] | (simp only [i64_w, i32_w]; rw [c3b0]) | skip)
      have H' := Aside0.mk H
      clear H
      go_wp2
      go_meet
      case rel => exact ⟨_, (decide (a0 > 126)), (by first | rfl | (simp; done) | (simp [*]; done)), H', ⟨by first | omega | exact Nat.le_refl _⟩, by repeat (first | exact Drawn0.refl _ | apply Drawn0.step)⟩
  case rest =>
    clear HC2
    try clear p2
    try clear c3
    try clear c3b0
    obtain ⟨kq, x9_1, rfl, HA, HJ1, ⟨mc1, rfl⟩⟩ := hcut
    cases kq with
    | zero => exact absurd HA.out (by simp [ancepsref01_Letter.j0])
    | succ kj1 =>
      have H := HA.out
      clear HA
      simp only [ancepsref01_Letter.j0] at H
      by_cases c4 : x9_1 = true
      · subst c4
        have H1 : (some false) = some r := by rw [if_pos rfl] at H; exact H
        clear H
        have H := H1
        clear H1
        obtain rfl := Option.some.inj H
        go_wp2
        go_ret
        exact ⟨by first | rfl | (simp; done) | (simp [*]; done), by repeat (first | exact Drawn0.refl _ | apply Drawn0.step)⟩
      · replace c4 := Bool.eq_false_iff.mpr c4
        subst c4
        have H1 : (ancepsref01_Letter.l0 kj1 a0 0) = some r := by rw [if_neg (show ¬ (false = true) by decide)] at H; exact H
        clear H
        have H := H1
        clear H1
        have H' := Aside0.mk H
        clear H
        go_wp2
        go_loopg [3] kj1 (fun kq v3 w' => ∃ (x3_2 : Int), v3 = .int .i64 x3_2 ∧ Aside0 (ancepsref01_Letter.l0 kq a0 x3_2 = some r) ∧ Aside0 (kq ≤ kj1) ∧ Drawn0 w w')
        case atStart => exact ⟨(0), (by first | rfl | (simp; done) | (simp [*]; done)), H', ⟨Nat.le_refl _⟩, by repeat (first | exact Drawn0.refl _ | apply Drawn0.step)⟩
        case round =>
          clear H'
          try clear c1
          try clear p2
          try clear c3
          try clear c3b0
          try clear c4
          try clear p2
          obtain ⟨x3_2, rfl, HA, HK2, ⟨m2, rfl⟩⟩ := hrel
          cases gk with
          | zero => exact absurd HA.out (by simp [ancepsref01_Letter.l0])
          | succ k2 =>
            have H := HA.out
            clear HA
            simp only [ancepsref01_Letter.l0] at H
            by_cases c5 : x3_2 < 15
            · rw [if_pos c5] at H
              have c5b0 : decide (x3_2 < 15) = true := decide_eq_true c5
              clear c5
              by_cases c6 : 0 ≤ x3_2
              · rw [if_pos c6] at H
                have c6b0 : decide (0 ≤ x3_2) = true := decide_eq_true c6
                clear c6
                by_cases c8 : (bt (⟨#[32, 46, 44, 59, 58, 33, 63, 34, 45, 91, 93, 60, 62, 123, 125]⟩ : ByteArray) x3_2) = a0
                · rw [if_pos c8] at H
                  have c8b0 : ((bt (⟨#[32, 46, 44, 59, 58, 33, 63, 34, 45, 91, 93, 60, 62, 123, 125]⟩ : ByteArray) x3_2) == a0) = true := beq_iff_eq.mpr c8
                  have c8b1 : ((bt (⟨#[32, 46, 44, 59, 58, 33, 63, 34, 45, 91, 93, 60, 62, 123, 125]⟩ : ByteArray) x3_2) != a0) = false := bne_eq_false_iff_eq.mpr c8
                  clear c8
                  obtain rfl := Option.some.inj H
                  have p7 : 0 ≤ (x3_2 : Int) := of_decide_eq_true (by first | (with_reducible assumption) | assumption)
                  have q7 : x3_2 < (15 : Int) := of_decide_eq_true (by first | (with_reducible assumption) | assumption)
                  have hx7 := bt_at (⟨#[32, 46, 44, 59, 58, 33, 63, 34, 45, 91, 93, 60, 62, 123, 125]⟩ : ByteArray) x3_2
                  replace p7 := eq_true p7
                  replace q7 := eq_true q7
                  go_wp2
                  go_ret
                  exact ⟨by first | rfl | (simp; done) | (simp [*]; done), by repeat (first | exact Drawn0.refl _ | apply Drawn0.step)⟩
                · rw [if_neg c8] at H
                  have c8b0 : ((bt (⟨#[32, 46, 44, 59, 58, 33, 63, 34, 45, 91, 93, 60, 62, 123, 125]⟩ : ByteArray) x3_2) == a0) = false := beq_eq_false_iff_ne.mpr c8
                  have c8b1 : ((bt (⟨#[32, 46, 44, 59, 58, 33, 63, 34, 45, 91, 93, 60, 62, 123, 125]⟩ : ByteArray) x3_2) != a0) = true := bne_iff_ne.mpr c8
                  have H' := Aside0.mk H
                  clear H
                  have p7 : 0 ≤ (x3_2 : Int) := of_decide_eq_true (by first | (with_reducible assumption) | assumption)
                  have q7 : x3_2 < (15 : Int) := of_decide_eq_true (by first | (with_reducible assumption) | assumption)
                  have hx7 := bt_at (⟨#[32, 46, 44, 59, 58, 33, 63, 34, 45, 91, 93, 60, 62, 123, 125]⟩ : ByteArray) x3_2
                  replace p7 := eq_true p7
                  replace q7 := eq_true q7
                  go_wp2
                  go_roundg k2
                  case measure => have := HJ1.out; have := HK2.out; omega
                  case rel => exact ⟨(wrap64 (x3_2 + 1)), (by first | rfl | (simp; done) | (simp [*]; done)), H', ⟨by have := HJ1.out; have := HK2.out; omega⟩, by repeat (first | exact Drawn0.refl _ | apply Drawn0.step)⟩
              · rw [if_neg c6] at H
                exact absurd H (by simp)
            · rw [if_neg c5] at H
              have c5b0 : decide (x3_2 < 15) = false := decide_eq_false c5
              clear c5
              obtain rfl := Option.some.inj H
              go_wp2
              go_ret
              exact ⟨by first | rfl | (simp; done) | (simp [*]; done), by repeat (first | exact Drawn0.refl _ | apply Drawn0.step)⟩

/-! ### ancepsref54_letter: function 46 -/
def ancepsref54_letter.f (k : Nat) (a0 : Int) : Option (Bool) := (ancepsref01_Letter.f k a0).bind fun t225 => (if t225 = true then (if a0 < 65 then (some true) else (some (decide (a0 > 90)))) else (some false))
theorem ancepsref54_letter.mono : ∀ a0 k, LeO (ancepsref54_letter.f k a0) (ancepsref54_letter.f (k + 1) a0) := by
  intro a0 k
  unfold ancepsref54_letter.f
  repeat' first
      | (with_reducible exact ancepsref01_Letter.mono _ _)
      | (with_reducible exact LeO.refl _)
      | (with_reducible exact LeO.none _)
      | (with_reducible refine LeO.ite ?_ ?_)
      | (with_reducible refine LeO.bind ?_ (fun _ => ?_))
      | exact ancepsref01_Letter.mono _ _
      | exact LeO.none _
      | refine LeO.ite ?_ ?_
      | refine LeO.bind ?_ (fun _ => ?_)
set_option maxHeartbeats 8000000 in
set_option maxRecDepth 100000 in
theorem ancepsref54_letter.calls (k : Nat) (a0 : Int) (r : Bool) (w : World) (h : ancepsref54_letter.f k a0 = some r) :
    Calls Tryd.prog 46 #[.int .u8 a0] w fun e w' => e = .returned (.bool r) ∧ Drawn0 w w' := by
  have H : ((ancepsref01_Letter.f k a0).bind fun t225 => (if t225 = true then (if a0 < 65 then (some true) else (some (decide (a0 > 90)))) else (some false))) = some r := h
  clear h
  replace H := Option.bind_eq_some_iff.mp H
  obtain ⟨t225, A20, H⟩ := H
  replace H : (if t225 = true then (if a0 < 65 then (some true) else (some (decide (a0 > 90)))) else (some false)) = some r := H
  have A2 := Aside0.mk A20
  clear A20
  by_cases c3 : t225 = true
  · subst c3
    have H1 : (if a0 < 65 then (some true) else (some (decide (a0 > 90)))) = some r := by rw [if_pos rfl] at H; exact H
    clear H
    have H := H1
    clear H1
    by_cases c4 : a0 < 65
    · rw [if_pos c4] at H
      have c4b0 : decide (a0 < 65) = true := decide_eq_true c4
      clear c4
      obtain rfl := Option.some.inj H
      go_enter Tryd.func46, Tryd.ntmps46
      go_wp2_with (first | ((with_reducible refine gate_callee (f := 56) rfl ?_); refine goesL_ (some 4) rfl rfl Tryd.func56 (by kernel_rfl) rfl #[.int .u8 a0] rfl (by (try simp only [List.map_toArray, List.map_cons, List.map_nil]); first | done | rfl | (simp only [List.length_drop, List.length_take]; rfl)) ?_; (with_reducible refine (ancepsref01_Letter.calls k a0 true _ A2.out).mono ?_); rintro e w' ⟨rfl, ⟨nd, rfl⟩⟩; refine ⟨_, rfl, ?_⟩))
      go_ret
      exact ⟨by first | rfl | (simp; done) | (simp [*]; done), by repeat (first | exact Drawn0.refl _ | apply Drawn0.step)⟩
    · rw [if_neg c4] at H
      have c4b0 : decide (a0 < 65) = false := decide_eq_false c4
      clear c4
      obtain rfl := Option.some.inj H
      go_enter Tryd.func46, Tryd.ntmps46
      go_wp2_with (first | ((with_reducible refine gate_callee (f := 56) rfl ?_); refine goesL_ (some 4) rfl rfl Tryd.func56 (by kernel_rfl) rfl #[.int .u8 a0] rfl (by (try simp only [List.map_toArray, List.map_cons, List.map_nil]); first | done | rfl | (simp only [List.length_drop, List.length_take]; rfl)) ?_; (with_reducible refine (ancepsref01_Letter.calls k a0 true _ A2.out).mono ?_); rintro e w' ⟨rfl, ⟨nd, rfl⟩⟩; refine ⟨_, rfl, ?_⟩))
      go_ret
      exact ⟨by first | rfl | (simp; done) | (simp [*]; done), by repeat (first | exact Drawn0.refl _ | apply Drawn0.step)⟩
  · replace c3 := Bool.eq_false_iff.mpr c3
    subst c3
    have H1 : (some false) = some r := by rw [if_neg (show ¬ (false = true) by decide)] at H; exact H
    clear H
    have H := H1
    clear H1
    obtain rfl := Option.some.inj H
    go_enter Tryd.func46, Tryd.ntmps46
    go_wp2_with (first | ((with_reducible refine gate_callee (f := 56) rfl ?_); refine goesL_ (some 4) rfl rfl Tryd.func56 (by kernel_rfl) rfl #[.int .u8 a0] rfl (by (try simp only [List.map_toArray, List.map_cons, List.map_nil]); first | done | rfl | (simp only [List.length_drop, List.length_take]; rfl)) ?_; (with_reducible refine (ancepsref01_Letter.calls k a0 false _ A2.out).mono ?_); rintro e w' ⟨rfl, ⟨nd, rfl⟩⟩; refine ⟨_, rfl, ?_⟩))
    go_ret
    exact ⟨by first | rfl | (simp; done) | (simp [*]; done), by repeat (first | exact Drawn0.refl _ | apply Drawn0.step)⟩

/-! ### ancepsref54_Word: function 31 -/
def ancepsref54_Word.l0 : Nat → ByteArray → Int → Option (Int)
  | 0, _, _ => none
  | k + 1, x0, x3 => if x3 < (x0.size : Int) then (if 0 ≤ x3 then ((ancepsref54_letter.f k (bt x0 x3)).bind fun t226 => (if t226 = true then (ancepsref54_Word.l0 k x0 (wrap64 (x3 + 1))) else (some 2))) else (none)) else (some 0)
def ancepsref54_Word.f (k : Nat) (a0 : ByteArray) : Option (Int) := if a0.toList = ([] : List UInt8) then (some 7) else (if (a0.size : Int) > 16 then (some 3) else (ancepsref54_Word.l0 k a0 0))
theorem ancepsref54_Word.mono_l : ∀ k, (∀ y0 y1, LeO (ancepsref54_Word.l0 k y0 y1) (ancepsref54_Word.l0 (k + 1) y0 y1))
  | 0 => fun _ _ r h => by simp [ancepsref54_Word.l0] at h
  | k + 1 => by
    have ih0 := ancepsref54_Word.mono_l k
    · intro y0 y1
      unfold ancepsref54_Word.l0
      repeat' first
      | (with_reducible exact ih0 _ _)
      | (with_reducible exact ancepsref54_letter.mono _ _)
      | (with_reducible exact LeO.refl _)
      | (with_reducible exact LeO.none _)
      | (with_reducible refine LeO.ite ?_ ?_)
      | (with_reducible refine LeO.bind ?_ (fun _ => ?_))
      | exact ih0 _ _
      | exact ancepsref54_letter.mono _ _
      | exact LeO.none _
      | refine LeO.ite ?_ ?_
      | refine LeO.bind ?_ (fun _ => ?_)
theorem ancepsref54_Word.mono : ∀ a0 k, LeO (ancepsref54_Word.f k a0) (ancepsref54_Word.f (k + 1) a0) := by
  intro a0 k
  have ih0 := ancepsref54_Word.mono_l k
  unfold ancepsref54_Word.f
  repeat' first
      | (with_reducible exact ih0 _ _)
      | (with_reducible exact ancepsref54_letter.mono _ _)
      | (with_reducible exact LeO.refl _)
      | (with_reducible exact LeO.none _)
      | (with_reducible refine LeO.ite ?_ ?_)
      | (with_reducible refine LeO.bind ?_ (fun _ => ?_))
      | exact ih0 _ _
      | exact ancepsref54_letter.mono _ _
      | exact LeO.none _
      | refine LeO.ite ?_ ?_
      | refine LeO.bind ?_ (fun _ => ?_)
set_option maxHeartbeats 8000000 in
set_option maxRecDepth 100000 in
theorem ancepsref54_Word.calls (k : Nat) (a0 : ByteArray) (r : Int) (w : World) (h : ancepsref54_Word.f k a0 = some r) :
    Calls Tryd.prog 31 #[.string a0] w fun e w' => e = .returned (.int .i64 r) ∧ Drawn0 w w' := by
  have H : (if a0.toList = ([] : List UInt8) then (some 7) else (if (a0.size : Int) > 16 then (some 3) else (ancepsref54_Word.l0 k a0 0))) = some r := h
  clear h
  by_cases c2 : a0.toList = ([] : List UInt8)
  · rw [if_pos c2] at H
    have c2b0 : (a0.toList == ([] : List UInt8)) = true := beq_iff_eq.mpr c2
    have c2b1 : (a0.toList != ([] : List UInt8)) = false := bne_eq_false_iff_eq.mpr c2
    clear c2
    obtain rfl := Option.some.inj H
    go_enter Tryd.func31, Tryd.ntmps31
    go_wp2
    go_ret
    exact ⟨by first | rfl | (simp; done) | (simp [*]; done), by repeat (first | exact Drawn0.refl _ | apply Drawn0.step)⟩
  · rw [if_neg c2] at H
    have c2b0 : (a0.toList == ([] : List UInt8)) = false := beq_eq_false_iff_ne.mpr c2
    have c2b1 : (a0.toList != ([] : List UInt8)) = true := bne_iff_ne.mpr c2
    by_cases c3 : (a0.size : Int) > 16
    · rw [if_pos c3] at H
      have c3b0 : decide (16 < (a0.size : Int)) = true := decide_eq_true c3
      have c3b1 : decide (16 < a0.size) = true := decide_eq_true (by omega)
      clear c3
      obtain rfl := Option.some.inj H
      go_enter Tryd.func31, Tryd.ntmps31
      go_wp2
      go_ret
      exact ⟨by first | rfl | (simp; done) | (simp [*]; done), by repeat (first | exact Drawn0.refl _ | apply Drawn0.step)⟩
    · rw [if_neg c3] at H
      have c3b0 : decide (16 < (a0.size : Int)) = false := decide_eq_false c3
      have c3b1 : decide (16 < a0.size) = false := decide_eq_false (by omega)
      clear c3
      have H' := Aside0.mk H
      clear H
      go_enter Tryd.func31, Tryd.ntmps31
      go_wp2
      go_loopg [3] k (fun kq v3 w' => ∃ (x3_1 : Int), v3 = .int .i64 x3_1 ∧ Aside0 (ancepsref54_Word.l0 kq a0 x3_1 = some r) ∧ Aside0 (kq ≤ k) ∧ Drawn0 w w')
      case atStart => exact ⟨(0), (by first | rfl | (simp; done) | (simp [*]; done)), H', ⟨Nat.le_refl _⟩, by repeat (first | exact Drawn0.refl _ | apply Drawn0.step)⟩
      case round =>
        clear H'
        try clear c2
        try clear c2b0
        try clear c2b1
        try clear p2
        try clear c3
        try clear c3b0
        try clear c3b1
        obtain ⟨x3_1, rfl, HA, HK1, ⟨m1, rfl⟩⟩ := hrel
        cases gk with
        | zero => exact absurd HA.out (by simp [ancepsref54_Word.l0])
        | succ k1 =>
          have H := HA.out
          clear HA
          simp only [ancepsref54_Word.l0] at H
          by_cases c4 : x3_1 < (a0.size : Int)
          · rw [if_pos c4] at H
            have c4b0 : decide (x3_1 < (a0.size : Int)) = true := decide_eq_true c4
            clear c4
            by_cases c5 : 0 ≤ x3_1
            · rw [if_pos c5] at H
              have c5b0 : decide (0 ≤ x3_1) = true := decide_eq_true c5
              clear c5
              replace H := Option.bind_eq_some_iff.mp H
              obtain ⟨t226, A70, H⟩ := H
              replace H : (if t226 = true then (ancepsref54_Word.l0 k1 a0 (wrap64 (x3_1 + 1))) else (some 2)) = some r := H
              have A7 := Aside0.mk A70
              clear A70
              by_cases c8 : t226 = true
              · subst c8
                have H1 : (ancepsref54_Word.l0 k1 a0 (wrap64 (x3_1 + 1))) = some r := by rw [if_pos rfl] at H; exact H
                clear H
                have H := H1
                clear H1
                have H' := Aside0.mk H
                clear H
                have p6 : 0 ≤ (x3_1 : Int) := of_decide_eq_true (by first | (with_reducible assumption) | assumption)
                have q6 : x3_1 < (a0.size : Int) := of_decide_eq_true (by first | (with_reducible assumption) | assumption)
                have hx6 := bt_at a0 x3_1
                replace p6 := eq_true p6
                replace q6 := eq_true q6
                go_wp2_with (first | ((with_reducible refine gate_callee (f := 46) rfl ?_); refine goesL_ (some 18) rfl rfl Tryd.func46 (by kernel_rfl) rfl #[.int .u8 (bt a0 x3_1)] rfl (by (try simp only [List.map_toArray, List.map_cons, List.map_nil]); first | done | rfl | (simp only [List.length_drop, List.length_take]; rfl)) ?_; (with_reducible refine (ancepsref54_letter.calls k1 (bt a0 x3_1) true _ A7.out).mono ?_); rintro e w' ⟨rfl, ⟨nd, rfl⟩⟩; refine ⟨_, rfl, ?_⟩))
                go_roundg k1
                case measure => have := HK1.out; omega
                case rel => exact ⟨(wrap64 (x3_1 + 1)), (by first | rfl | (simp; done) | (simp [*]; done)), H', ⟨by have := HK1.out; omega⟩, by repeat (first | exact Drawn0.refl _ | apply Drawn0.step)⟩
              · replace c8 := Bool.eq_false_iff.mpr c8
                subst c8
                have H1 : (some 2) = some r := by rw [if_neg (show ¬ (false = true) by decide)] at H; exact H
                clear H
                have H := H1
                clear H1
                obtain rfl := Option.some.inj H
                have p6 : 0 ≤ (x3_1 : Int) := of_decide_eq_true (by first | (with_reducible assumption) | assumption)
                have q6 : x3_1 < (a0.size : Int) := of_decide_eq_true (by first | (with_reducible assumption) | assumption)
                have hx6 := bt_at a0 x3_1
                replace p6 := eq_true p6
                replace q6 := eq_true q6
                go_wp2_with (first | ((with_reducible refine gate_callee (f := 46) rfl ?_); refine goesL_ (some 18) rfl rfl Tryd.func46 (by kernel_rfl) rfl #[.int .u8 (bt a0 x3_1)] rfl (by (try simp only [List.map_toArray, List.map_cons, List.map_nil]); first | done | rfl | (simp only [List.length_drop, List.length_take]; rfl)) ?_; (with_reducible refine (ancepsref54_letter.calls k1 (bt a0 x3_1) false _ A7.out).mono ?_); rintro e w' ⟨rfl, ⟨nd, rfl⟩⟩; refine ⟨_, rfl, ?_⟩))
                go_ret
                exact ⟨by first | rfl | (simp; done) | (simp [*]; done), by repeat (first | exact Drawn0.refl _ | apply Drawn0.step)⟩
            · rw [if_neg c5] at H
              exact absurd H (by simp)
          · rw [if_neg c4] at H
            have c4b0 : decide (x3_1 < (a0.size : Int)) = false := decide_eq_false c4
            clear c4
            obtain rfl := Option.some.inj H
            go_wp2
            go_ret
            exact ⟨by first | rfl | (simp; done) | (simp [*]; done), by repeat (first | exact Drawn0.refl _ | apply Drawn0.step)⟩

/-! ### ancepsref54_check: function 19 -/
def ancepsref54_check.l0 : Nat → Int → List ByteArray → Option (Int × Int)
  | 0, _, _ => none
  | k + 1, x4, x228000 => if x4 < (x228000.length : Int) then (if 0 ≤ x4 then ((ancepsref54_Word.f k (rdOf ByteArray.empty x228000 x4)).bind fun t229 => (if t229 = 0 then (if x4 > 0 then (if 0 ≤ (wrap64 (x4 - 1)) then (if (wrap64 (x4 - 1)) < (x228000.length : Int) then (if ((Op.bytesLess ((rdOf ByteArray.empty x228000 (wrap64 (x4 - 1))).toList) ((rdOf ByteArray.empty x228000 x4).toList)) = true) then (ancepsref54_check.l0 k (wrap64 (x4 + 1)) x228000) else (some (x4, 18))) else (none)) else (none)) else (ancepsref54_check.l0 k (wrap64 (x4 + 1)) x228000)) else (some (x4, t229)))) else (none)) else (some ((-1), 0))
def ancepsref54_check.f (k : Nat) (l0_0 : List ByteArray) : Option (Int × Int) := if (l0_0.length : Int) > 400 then (some ((-1), 3)) else (ancepsref54_check.l0 k 0 l0_0)
theorem ancepsref54_check.mono_l : ∀ k, (∀ y0 y1, LeO (ancepsref54_check.l0 k y0 y1) (ancepsref54_check.l0 (k + 1) y0 y1))
  | 0 => fun _ _ r h => by simp [ancepsref54_check.l0] at h
  | k + 1 => by
    have ih0 := ancepsref54_check.mono_l k
    · intro y0 y1
      unfold ancepsref54_check.l0
      repeat' first
      | (with_reducible exact ih0 _ _)
      | (with_reducible exact ancepsref54_Word.mono _ _)
      | (with_reducible exact LeO.refl _)
      | (with_reducible exact LeO.none _)
      | (with_reducible refine LeO.ite ?_ ?_)
      | (with_reducible refine LeO.bind ?_ (fun _ => ?_))
      | exact ih0 _ _
      | exact ancepsref54_Word.mono _ _
      | exact LeO.none _
      | refine LeO.ite ?_ ?_
      | refine LeO.bind ?_ (fun _ => ?_)
theorem ancepsref54_check.mono : ∀ a0 k, LeO (ancepsref54_check.f k a0) (ancepsref54_check.f (k + 1) a0) := by
  intro a0 k
  have ih0 := ancepsref54_check.mono_l k
  unfold ancepsref54_check.f
  repeat' first
      | (with_reducible exact ih0 _ _)
      | (with_reducible exact ancepsref54_Word.mono _ _)
      | (with_reducible exact LeO.refl _)
      | (with_reducible exact LeO.none _)
      | (with_reducible refine LeO.ite ?_ ?_)
      | (with_reducible refine LeO.bind ?_ (fun _ => ?_))
      | exact ih0 _ _
      | exact ancepsref54_Word.mono _ _
      | exact LeO.none _
      | refine LeO.ite ?_ ?_
      | refine LeO.bind ?_ (fun _ => ?_)
set_option maxHeartbeats 8000000 in
set_option maxRecDepth 100000 in
theorem ancepsref54_check.calls (k : Nat) (A0_0 : Option Addr) (c0_0 : Nat) (l0_0 : List ByteArray) (r1 : Int) (r2 : Int) (w : World) (hr0_0 : Kd.C Kd.string w A0_0 l0_0.length l0_0) (hc0_0 : l0_0.length ≤ c0_0) (h : ancepsref54_check.f k l0_0 = some (r1, r2)) :
    Calls Tryd.prog 19 #[.agg #[.slice A0_0 l0_0.length c0_0]] w fun e w' => e = .returned (.tuple #[.int .i64 r1, .int .i64 r2]) ∧ Below w.heap.size w w' := by
  have hu25 := Tryd.underlying25
  have HR0_0 := Aside0.mk hr0_0
  have HC0_0 := Aside0.mk hc0_0
  clear hr0_0 hc0_0
  have HB := Aside0.mk (Below.refl w.heap.size w)
  have H : (if (l0_0.length : Int) > 400 then (some ((-1), 3)) else (ancepsref54_check.l0 k 0 l0_0)) = some (r1, r2) := h
  clear h
  by_cases c2 : (l0_0.length : Int) > 400
  · rw [if_pos c2] at H
    have c2b0 : decide (400 < (l0_0.length : Int)) = true := decide_eq_true c2
    have c2b1 : decide (400 < l0_0.length) = true := decide_eq_true (by omega)
    clear c2
    simp only [Option.some.injEq, Prod.mk.injEq] at H
    obtain ⟨rfl, rfl⟩ := H
    go_enter Tryd.func19, Tryd.ntmps19
    go_wp2_with (first | ((with_reducible refine gate_dst (N := 1) rfl ?_); refine box_event ?hg (N := 1) ?hd (cs := #[.slice A0_0 l0_0.length c0_0]) (t := 25) ?hr ?_; (case hd => rfl); (case hg => rfl); (case hr => first | (go_simp; done) | (go_simp; rfl)); intro gb227 hg w3 hbox hb; have n0_ := Aside0.mk (below_step (by repeat (first | (with_reducible first | exact HB.out | apply below_alloc | apply pw_below_drewN | apply below_drew1) | exact HB.out)) hb); have n1_ := Aside0.mk (hbox); have n2_ := Aside0.mk ((by rw [hg]; exact (below_size (by repeat (first | (with_reducible first | exact HB.out | apply below_alloc | apply pw_below_drewN | apply below_drew1) | exact HB.out))) : w.heap.size ≤ gb227)); have n3_ := Aside0.mk ((by rw [hg]; exact (below_size (by repeat (first | (with_reducible first | exact HB.out | apply below_alloc | apply pw_below_drewN | apply below_drew1) | exact HB.out))) : w.heap.size ≤ gb227)); clear HB; have HB := n0_; have BK227 := n1_; have GW227 := n2_; have GE227 := n3_; clear n0_ n1_ n2_ n3_; clear hb hbox hg; have hcz4_0 : w3.cell? ⟨gb227, 0, none⟩ = some (.slice A0_0 l0_0.length c0_0) := (blk_cell BK227.out 0).trans rfl; have hfz4_0 := blk_frozen BK227.out 0))
    repeat (go_quiet (first | ((with_reducible refine gate_dst (N := 1) rfl ?_); refine box_event ?hg (N := 1) ?hd (cs := #[.slice A0_0 l0_0.length c0_0]) (t := 25) ?hr ?_; (case hd => rfl); (case hg => rfl); (case hr => first | (go_simp; done) | (go_simp; rfl)); intro gb227 hg w3 hbox hb; have n0_ := Aside0.mk (below_step (by repeat (first | (with_reducible first | exact HB.out | apply below_alloc | apply pw_below_drewN | apply below_drew1) | exact HB.out)) hb); have n1_ := Aside0.mk (hbox); have n2_ := Aside0.mk ((by rw [hg]; exact (below_size (by repeat (first | (with_reducible first | exact HB.out | apply below_alloc | apply pw_below_drewN | apply below_drew1) | exact HB.out))) : w.heap.size ≤ gb227)); have n3_ := Aside0.mk ((by rw [hg]; exact (below_size (by repeat (first | (with_reducible first | exact HB.out | apply below_alloc | apply pw_below_drewN | apply below_drew1) | exact HB.out))) : w.heap.size ≤ gb227)); clear HB; have HB := n0_; have BK227 := n1_; have GW227 := n2_; have GE227 := n3_; clear n0_ n1_ n2_ n3_; clear hb hbox hg; have hcz4_0 : w3.cell? ⟨gb227, 0, none⟩ = some (.slice A0_0 l0_0.length c0_0) := (blk_cell BK227.out 0).trans rfl; have hfz4_0 := blk_frozen BK227.out 0)); try go_wp2_with (first | ((with_reducible refine gate_dst (N := 1) rfl ?_); refine box_event ?hg (N := 1) ?hd (cs := #[.slice A0_0 l0_0.length c0_0]) (t := 25) ?hr ?_; (case hd => rfl); (case hg => rfl); (case hr => first | (go_simp; done) | (go_simp; rfl)); intro gb227 hg w3 hbox hb; have n0_ := Aside0.mk (below_step (by repeat (first | (with_reducible first | exact HB.out | apply below_alloc | apply pw_below_drewN | apply below_drew1) | exact HB.out)) hb); have n1_ := Aside0.mk (hbox); have n2_ := Aside0.mk ((by rw [hg]; exact (below_size (by repeat (first | (with_reducible first | exact HB.out | apply below_alloc | apply pw_below_drewN | apply below_drew1) | exact HB.out))) : w.heap.size ≤ gb227)); have n3_ := Aside0.mk ((by rw [hg]; exact (below_size (by repeat (first | (with_reducible first | exact HB.out | apply below_alloc | apply pw_below_drewN | apply below_drew1) | exact HB.out))) : w.heap.size ≤ gb227)); clear HB; have HB := n0_; have BK227 := n1_; have GW227 := n2_; have GE227 := n3_; clear n0_ n1_ n2_ n3_; clear hb hbox hg; have hcz4_0 : w3.cell? ⟨gb227, 0, none⟩ = some (.slice A0_0 l0_0.length c0_0) := (blk_cell BK227.out 0).trans rfl; have hfz4_0 := blk_frozen BK227.out 0)))
    go_ret2
    exact ⟨by first | rfl | (simp [errW_none, errW_some] <;> rfl) | (simp [*, errW_none, errW_some] <;> rfl), by repeat (first | (with_reducible first | exact HB.out | apply below_alloc | apply pw_below_drewN | apply below_drew1 | refine below_set ?_ GE227.out) | exact HB.out)⟩
  · rw [if_neg c2] at H
    have c2b0 : decide (400 < (l0_0.length : Int)) = false := decide_eq_false c2
    have c2b1 : decide (400 < l0_0.length) = false := decide_eq_false (by omega)
    clear c2
    have H' := Aside0.mk H
    clear H
    go_enter Tryd.func19, Tryd.ntmps19
    go_wp2_with (first | ((with_reducible refine gate_dst (N := 1) rfl ?_); refine box_event ?hg (N := 1) ?hd (cs := #[.slice A0_0 l0_0.length c0_0]) (t := 25) ?hr ?_; (case hd => rfl); (case hg => rfl); (case hr => first | (go_simp; done) | (go_simp; rfl)); intro gb227 hg w5 hbox hb; have n0_ := Aside0.mk (below_step (by repeat (first | (with_reducible first | exact HB.out | apply below_alloc | apply pw_below_drewN | apply below_drew1) | exact HB.out)) hb); have n1_ := Aside0.mk (hbox); have n2_ := Aside0.mk ((by rw [hg]; exact (below_size (by repeat (first | (with_reducible first | exact HB.out | apply below_alloc | apply pw_below_drewN | apply below_drew1) | exact HB.out))) : w.heap.size ≤ gb227)); have n3_ := Aside0.mk ((by rw [hg]; exact (below_size (by repeat (first | (with_reducible first | exact HB.out | apply below_alloc | apply pw_below_drewN | apply below_drew1) | exact HB.out))) : w.heap.size ≤ gb227)); clear HB; have HB := n0_; have BK227 := n1_; have GW227 := n2_; have GE227 := n3_; clear n0_ n1_ n2_ n3_; clear hb hbox hg; have hcz6_0 : w5.cell? ⟨gb227, 0, none⟩ = some (.slice A0_0 l0_0.length c0_0) := (blk_cell BK227.out 0).trans rfl; have hfz6_0 := blk_frozen BK227.out 0))
    repeat (go_quiet (first | ((with_reducible refine gate_dst (N := 1) rfl ?_); refine box_event ?hg (N := 1) ?hd (cs := #[.slice A0_0 l0_0.length c0_0]) (t := 25) ?hr ?_; (case hd => rfl); (case hg => rfl); (case hr => first | (go_simp; done) | (go_simp; rfl)); intro gb227 hg w5 hbox hb; have n0_ := Aside0.mk (below_step (by repeat (first | (with_reducible first | exact HB.out | apply below_alloc | apply pw_below_drewN | apply below_drew1) | exact HB.out)) hb); have n1_ := Aside0.mk (hbox); have n2_ := Aside0.mk ((by rw [hg]; exact (below_size (by repeat (first | (with_reducible first | exact HB.out | apply below_alloc | apply pw_below_drewN | apply below_drew1) | exact HB.out))) : w.heap.size ≤ gb227)); have n3_ := Aside0.mk ((by rw [hg]; exact (below_size (by repeat (first | (with_reducible first | exact HB.out | apply below_alloc | apply pw_below_drewN | apply below_drew1) | exact HB.out))) : w.heap.size ≤ gb227)); clear HB; have HB := n0_; have BK227 := n1_; have GW227 := n2_; have GE227 := n3_; clear n0_ n1_ n2_ n3_; clear hb hbox hg; have hcz6_0 : w5.cell? ⟨gb227, 0, none⟩ = some (.slice A0_0 l0_0.length c0_0) := (blk_cell BK227.out 0).trans rfl; have hfz6_0 := blk_frozen BK227.out 0)); try go_wp2_with (first | ((with_reducible refine gate_dst (N := 1) rfl ?_); refine box_event ?hg (N := 1) ?hd (cs := #[.slice A0_0 l0_0.length c0_0]) (t := 25) ?hr ?_; (case hd => rfl); (case hg => rfl); (case hr => first | (go_simp; done) | (go_simp; rfl)); intro gb227 hg w5 hbox hb; have n0_ := Aside0.mk (below_step (by repeat (first | (with_reducible first | exact HB.out | apply below_alloc | apply pw_below_drewN | apply below_drew1) | exact HB.out)) hb); have n1_ := Aside0.mk (hbox); have n2_ := Aside0.mk ((by rw [hg]; exact (below_size (by repeat (first | (with_reducible first | exact HB.out | apply below_alloc | apply pw_below_drewN | apply below_drew1) | exact HB.out))) : w.heap.size ≤ gb227)); have n3_ := Aside0.mk ((by rw [hg]; exact (below_size (by repeat (first | (with_reducible first | exact HB.out | apply below_alloc | apply pw_below_drewN | apply below_drew1) | exact HB.out))) : w.heap.size ≤ gb227)); clear HB; have HB := n0_; have BK227 := n1_; have GW227 := n2_; have GE227 := n3_; clear n0_ n1_ n2_ n3_; clear hb hbox hg; have hcz6_0 : w5.cell? ⟨gb227, 0, none⟩ = some (.slice A0_0 l0_0.length c0_0) := (blk_cell BK227.out 0).trans rfl; have hfz6_0 := blk_frozen BK227.out 0)))
    go_loopg [4] k (fun kq v4 w' => ∃ (x4_1 : Int), v4 = .int .i64 x4_1 ∧ Aside0 (ancepsref54_check.l0 kq x4_1 l0_0 = some (r1, r2)) ∧ Aside0 (kq ≤ k) ∧ Aside0 (w'.heap[gb227]? = some (.cells #[(.slice A0_0 l0_0.length c0_0)] 25 (0, 0))) ∧ Aside0 (Below w.heap.size w w'))
    case atStart => exact ⟨(0), (by first | rfl | (simp; done) | (simp [*]; done)), H', ⟨Nat.le_refl _⟩, ⟨by (with_reducible repeat (first | refine blk_drewN ?_ _ | refine blk_drew ?_ | refine blk_alloc ?_ _)); exact BK227.out⟩, ⟨by repeat (first | (with_reducible first | exact HB.out | apply below_alloc | apply pw_below_drewN | apply below_drew1 | refine below_set ?_ GE227.out) | exact HB.out)⟩⟩
    case round =>
      clear H'
      try clear c1
      try clear c2
      try clear c2b0
      try clear c2b1
      try clear p2
      try clear hcz4_0
      try clear hcz6_0
      try clear hfz4_0
      try clear hfz6_0
      obtain ⟨x4_1, rfl, HA, HK1, BK227, HB⟩ := hrel
      cases gk with
      | zero => exact absurd HA.out (by simp [ancepsref54_check.l0])
      | succ k1 =>
        have H := HA.out
        clear HA
        simp only [ancepsref54_check.l0] at H
        by_cases c7 : x4_1 < (l0_0.length : Int)
        · rw [if_pos c7] at H
          have c7b0 : decide (x4_1 < (l0_0.length : Int)) = true := decide_eq_true c7
          clear c7
          by_cases c8 : 0 ≤ x4_1
          · rw [if_pos c8] at H
            have c8b0 : decide (0 ≤ x4_1) = true := decide_eq_true c8
            clear c8
            replace H := Option.bind_eq_some_iff.mp H
            obtain ⟨t229, A90, H⟩ := H
            replace H : (if t229 = 0 then (if x4_1 > 0 then (if 0 ≤ (wrap64 (x4_1 - 1)) then (if (wrap64 (x4_1 - 1)) < (l0_0.length : Int) then (if ((Op.bytesLess ((rdOf ByteArray.empty l0_0 (wrap64 (x4_1 - 1))).toList) ((rdOf ByteArray.empty l0_0 x4_1).toList)) = true) then (ancepsref54_check.l0 k1 (wrap64 (x4_1 + 1)) l0_0) else (some (x4_1, 18))) else (none)) else (none)) else (ancepsref54_check.l0 k1 (wrap64 (x4_1 + 1)) l0_0)) else (some (x4_1, t229))) = some (r1, r2) := H
            have A9 := Aside0.mk A90
            clear A90
            by_cases c10 : t229 = 0
            · rw [if_pos c10] at H
              have c10b0 : (t229 == 0) = true := beq_iff_eq.mpr c10
              have c10b1 : (t229 != 0) = false := bne_eq_false_iff_eq.mpr c10
              clear c10
              by_cases c11 : x4_1 > 0
              · rw [if_pos c11] at H
                have c11b0 : decide (0 < x4_1) = true := decide_eq_true c11
                clear c11
                obtain ⟨ji12, hji12⟩ : ∃ j_ : Int, (wrap64 (x4_1 - 1)) = j_ := ⟨_, rfl⟩
                replace H : (if 0 ≤ (ji12) then (if (ji12) < (l0_0.length : Int) then (if ((Op.bytesLess ((rdOf ByteArray.empty l0_0 (ji12)).toList) ((rdOf ByteArray.empty l0_0 x4_1).toList)) = true) then (ancepsref54_check.l0 k1 (wrap64 (x4_1 + 1)) l0_0) else (some (x4_1, 18))) else (none)) else (none)) = some (r1, r2) := by first | (rw [hji12] at H; exact H) | (simp only [hji12] at H ⊢; exact H)
                (try rw [hji12] at A9)
                have hji12w : (IntKind.i64.wrap (x4_1 - 1)) = ji12 := (i64_w _).trans hji12
                by_cases c13 : 0 ≤ (ji12)
                · rw [if_pos c13] at H
                  have c13b0 : decide (0 ≤ (ji12)) = true := decide_eq_true c13
                  clear c13
                  by_cases c14 : (ji12) < (l0_0.length : Int)
                  · rw [if_pos c14] at H
                    have c14b0 : decide ((ji12) < (l0_0.length : Int)) = true := decide_eq_true c14
                    clear c14
                    by_cases c15 : ((Op.bytesLess ((rdOf ByteArray.empty l0_0 (ji12)).toList) ((rdOf ByteArray.empty l0_0 x4_1).toList)) = true)
                    · rw [if_pos c15] at H
                      have c15b0 : (Op.bytesLess ((rdOf ByteArray.empty l0_0 (ji12)).toList) ((rdOf ByteArray.empty l0_0 x4_1).toList)) = true := c15
                      clear c15
                      have H' := Aside0.mk H
                      clear H
                      have hcz16_0 : wr.cell? ⟨gb227, 0, none⟩ = some (.slice A0_0 l0_0.length c0_0) := (blk_cell BK227.out 0).trans rfl
                      have hfz16_0 := blk_frozen BK227.out 0
                      have p228 : 0 ≤ (x4_1 : Int) := of_decide_eq_true (by first | (with_reducible assumption) | assumption)
                      have q228 : x4_1 < (l0_0.length : Int) := of_decide_eq_true (by first | (with_reducible assumption) | assumption)
                      obtain ⟨ad228, e228, hx228_0⟩ := Kd.at_string HR0_0.out x4_1 p228 q228
                      cases e228
                      replace hx228_0 := (HB.out.cell (World.block_lt_of_cell? w _ hx228_0)).trans hx228_0
                      replace p228 := eq_true p228
                      replace q228 := eq_true q228
                      go_wp2_with (first | (go_at_call 31; (with_reducible refine (ancepsref54_Word.calls k1 (rdOf ByteArray.empty l0_0 x4_1) t229 _ A9.out).mono ?_); rintro e w' ⟨rfl, ⟨nd, rfl⟩⟩; (try first | exact ⟨rfl, _, World.drewN_drewN _ _ _⟩ | exact ⟨rfl, _, Eq.trans (World.drewN_drewN _ _ _) (congrArg (World.drewN _) (Nat.add_assoc _ _ _))⟩); have p230 : 0 ≤ (x4_1 : Int) := of_decide_eq_true (by first | (with_reducible assumption) | assumption); have q230 : x4_1 < (l0_0.length : Int) := of_decide_eq_true (by first | (with_reducible assumption) | assumption); obtain ⟨ad230, e230, hx230_0⟩ := Kd.at_string HR0_0.out x4_1 p230 q230; obtain rfl : ad228 = ad230 := (by injection e230); replace hx230_0 := (HB.out.cell (World.block_lt_of_cell? w _ hx230_0)).trans hx230_0; replace p230 := eq_true p230; replace q230 := eq_true q230; have p231 : 0 ≤ ((ji12) : Int) := of_decide_eq_true (by first | (with_reducible assumption) | assumption); have q231 : (ji12) < (l0_0.length : Int) := of_decide_eq_true (by first | (with_reducible assumption) | assumption); obtain ⟨ad231, e231, hx231_0⟩ := Kd.at_string HR0_0.out (ji12) p231 q231; obtain rfl : ad228 = ad231 := (by injection e231); replace hx231_0 := (HB.out.cell (World.block_lt_of_cell? w _ hx231_0)).trans hx231_0; replace p231 := eq_true p231; replace q231 := eq_true q231))
                      repeat (go_quiet (first | (go_at_call 31; (with_reducible refine (ancepsref54_Word.calls k1 (rdOf ByteArray.empty l0_0 x4_1) t229 _ A9.out).mono ?_); (try clear A9); rintro e w' ⟨rfl, ⟨nd, rfl⟩⟩; (try first | exact ⟨rfl, _, World.drewN_drewN _ _ _⟩ | exact ⟨rfl, _, Eq.trans (World.drewN_drewN _ _ _) (congrArg (World.drewN _) (Nat.add_assoc _ _ _))⟩); have p230 : 0 ≤ (x4_1 : Int) := of_decide_eq_true (by first | (with_reducible assumption) | assumption); have q230 : x4_1 < (l0_0.length : Int) := of_decide_eq_true (by first | (with_reducible assumption) | assumption); obtain ⟨ad230, e230, hx230_0⟩ := Kd.at_string HR0_0.out x4_1 p230 q230; obtain rfl : ad228 = ad230 := (by injection e230); replace hx230_0 := (HB.out.cell (World.block_lt_of_cell? w _ hx230_0)).trans hx230_0; replace p230 := eq_true p230; replace q230 := eq_true q230; have p231 : 0 ≤ ((ji12) : Int) := of_decide_eq_true (by first | (with_reducible assumption) | assumption); have q231 : (ji12) < (l0_0.length : Int) := of_decide_eq_true (by first | (with_reducible assumption) | assumption); obtain ⟨ad231, e231, hx231_0⟩ := Kd.at_string HR0_0.out (ji12) p231 q231; obtain rfl : ad228 = ad231 := (by injection e231); replace hx231_0 := (HB.out.cell (World.block_lt_of_cell? w _ hx231_0)).trans hx231_0; replace p231 := eq_true p231; replace q231 := eq_true q231)); try go_wp2_with (first | (go_at_call 31; (with_reducible refine (ancepsref54_Word.calls k1 (rdOf ByteArray.empty l0_0 x4_1) t229 _ A9.out).mono ?_); (try clear A9); rintro e w' ⟨rfl, ⟨nd, rfl⟩⟩; (try first | exact ⟨rfl, _, World.drewN_drewN _ _ _⟩ | exact ⟨rfl, _, Eq.trans (World.drewN_drewN _ _ _) (congrArg (World.drewN _) (Nat.add_assoc _ _ _))⟩); have p230 : 0 ≤ (x4_1 : Int) := of_decide_eq_true (by first | (with_reducible assumption) | assumption); have q230 : x4_1 < (l0_0.length : Int) := of_decide_eq_true (by first | (with_reducible assumption) | assumption); obtain ⟨ad230, e230, hx230_0⟩ := Kd.at_string HR0_0.out x4_1 p230 q230; obtain rfl : ad228 = ad230 := (by injection e230); replace hx230_0 := (HB.out.cell (World.block_lt_of_cell? w _ hx230_0)).trans hx230_0; replace p230 := eq_true p230; replace q230 := eq_true q230; have p231 : 0 ≤ ((ji12) : Int) := of_decide_eq_true (by first | (with_reducible assumption) | assumption); have q231 : (ji12) < (l0_0.length : Int) := of_decide_eq_true (by first | (with_reducible assumption) | assumption); obtain ⟨ad231, e231, hx231_0⟩ := Kd.at_string HR0_0.out (ji12) p231 q231; obtain rfl : ad228 = ad231 := (by injection e231); replace hx231_0 := (HB.out.cell (World.block_lt_of_cell? w _ hx231_0)).trans hx231_0; replace p231 := eq_true p231; replace q231 := eq_true q231)))
                      go_roundg k1
                      case measure => have := HK1.out; omega
                      case rel => exact ⟨(wrap64 (x4_1 + 1)), (by first | rfl | (simp; done) | (simp [*]; done)), H', ⟨by have := HK1.out; omega⟩, ⟨by (with_reducible repeat (first | refine blk_drewN ?_ _ | refine blk_drew ?_ | refine blk_alloc ?_ _)); exact BK227.out⟩, ⟨by repeat (first | (with_reducible first | exact HB.out | apply below_alloc | apply pw_below_drewN | apply below_drew1 | refine below_set ?_ GE227.out) | exact HB.out)⟩⟩
                    · rw [if_neg c15] at H
                      have c15b0 : (Op.bytesLess ((rdOf ByteArray.empty l0_0 (ji12)).toList) ((rdOf ByteArray.empty l0_0 x4_1).toList)) = false := by simpa using c15
                      clear c15
                      simp only [Option.some.injEq, Prod.mk.injEq] at H
                      obtain ⟨rfl, rfl⟩ := H
                      have hcz17_0 : wr.cell? ⟨gb227, 0, none⟩ = some (.slice A0_0 l0_0.length c0_0) := (blk_cell BK227.out 0).trans rfl
                      have hfz17_0 := blk_frozen BK227.out 0
                      have p228 : 0 ≤ (x4_1 : Int) := of_decide_eq_true (by first | (with_reducible assumption) | assumption)
                      have q228 : x4_1 < (l0_0.length : Int) := of_decide_eq_true (by first | (with_reducible assumption) | assumption)
                      obtain ⟨ad228, e228, hx228_0⟩ := Kd.at_string HR0_0.out x4_1 p228 q228
                      cases e228
                      replace hx228_0 := (HB.out.cell (World.block_lt_of_cell? w _ hx228_0)).trans hx228_0
                      replace p228 := eq_true p228
                      replace q228 := eq_true q228
                      go_wp2_with (first | (go_at_call 31; (with_reducible refine (ancepsref54_Word.calls k1 (rdOf ByteArray.empty l0_0 x4_1) t229 _ A9.out).mono ?_); rintro e w' ⟨rfl, ⟨nd, rfl⟩⟩; (try first | exact ⟨rfl, _, World.drewN_drewN _ _ _⟩ | exact ⟨rfl, _, Eq.trans (World.drewN_drewN _ _ _) (congrArg (World.drewN _) (Nat.add_assoc _ _ _))⟩); have p230 : 0 ≤ (x4_1 : Int) := of_decide_eq_true (by first | (with_reducible assumption) | assumption); have q230 : x4_1 < (l0_0.length : Int) := of_decide_eq_true (by first | (with_reducible assumption) | assumption); obtain ⟨ad230, e230, hx230_0⟩ := Kd.at_string HR0_0.out x4_1 p230 q230; obtain rfl : ad228 = ad230 := (by injection e230); replace hx230_0 := (HB.out.cell (World.block_lt_of_cell? w _ hx230_0)).trans hx230_0; replace p230 := eq_true p230; replace q230 := eq_true q230; have p231 : 0 ≤ ((ji12) : Int) := of_decide_eq_true (by first | (with_reducible assumption) | assumption); have q231 : (ji12) < (l0_0.length : Int) := of_decide_eq_true (by first | (with_reducible assumption) | assumption); obtain ⟨ad231, e231, hx231_0⟩ := Kd.at_string HR0_0.out (ji12) p231 q231; obtain rfl : ad228 = ad231 := (by injection e231); replace hx231_0 := (HB.out.cell (World.block_lt_of_cell? w _ hx231_0)).trans hx231_0; replace p231 := eq_true p231; replace q231 := eq_true q231))
                      repeat (go_quiet (first | (go_at_call 31; (with_reducible refine (ancepsref54_Word.calls k1 (rdOf ByteArray.empty l0_0 x4_1) t229 _ A9.out).mono ?_); (try clear A9); rintro e w' ⟨rfl, ⟨nd, rfl⟩⟩; (try first | exact ⟨rfl, _, World.drewN_drewN _ _ _⟩ | exact ⟨rfl, _, Eq.trans (World.drewN_drewN _ _ _) (congrArg (World.drewN _) (Nat.add_assoc _ _ _))⟩); have p230 : 0 ≤ (x4_1 : Int) := of_decide_eq_true (by first | (with_reducible assumption) | assumption); have q230 : x4_1 < (l0_0.length : Int) := of_decide_eq_true (by first | (with_reducible assumption) | assumption); obtain ⟨ad230, e230, hx230_0⟩ := Kd.at_string HR0_0.out x4_1 p230 q230; obtain rfl : ad228 = ad230 := (by injection e230); replace hx230_0 := (HB.out.cell (World.block_lt_of_cell? w _ hx230_0)).trans hx230_0; replace p230 := eq_true p230; replace q230 := eq_true q230; have p231 : 0 ≤ ((ji12) : Int) := of_decide_eq_true (by first | (with_reducible assumption) | assumption); have q231 : (ji12) < (l0_0.length : Int) := of_decide_eq_true (by first | (with_reducible assumption) | assumption); obtain ⟨ad231, e231, hx231_0⟩ := Kd.at_string HR0_0.out (ji12) p231 q231; obtain rfl : ad228 = ad231 := (by injection e231); replace hx231_0 := (HB.out.cell (World.block_lt_of_cell? w _ hx231_0)).trans hx231_0; replace p231 := eq_true p231; replace q231 := eq_true q231)); try go_wp2_with (first | (go_at_call 31; (with_reducible refine (ancepsref54_Word.calls k1 (rdOf ByteArray.empty l0_0 x4_1) t229 _ A9.out).mono ?_); (try clear A9); rintro e w' ⟨rfl, ⟨nd, rfl⟩⟩; (try first | exact ⟨rfl, _, World.drewN_drewN _ _ _⟩ | exact ⟨rfl, _, Eq.trans (World.drewN_drewN _ _ _) (congrArg (World.drewN _) (Nat.add_assoc _ _ _))⟩); have p230 : 0 ≤ (x4_1 : Int) := of_decide_eq_true (by first | (with_reducible assumption) | assumption); have q230 : x4_1 < (l0_0.length : Int) := of_decide_eq_true (by first | (with_reducible assumption) | assumption); obtain ⟨ad230, e230, hx230_0⟩ := Kd.at_string HR0_0.out x4_1 p230 q230; obtain rfl : ad228 = ad230 := (by injection e230); replace hx230_0 := (HB.out.cell (World.block_lt_of_cell? w _ hx230_0)).trans hx230_0; replace p230 := eq_true p230; replace q230 := eq_true q230; have p231 : 0 ≤ ((ji12) : Int) := of_decide_eq_true (by first | (with_reducible assumption) | assumption); have q231 : (ji12) < (l0_0.length : Int) := of_decide_eq_true (by first | (with_reducible assumption) | assumption); obtain ⟨ad231, e231, hx231_0⟩ := Kd.at_string HR0_0.out (ji12) p231 q231; obtain rfl : ad228 = ad231 := (by injection e231); replace hx231_0 := (HB.out.cell (World.block_lt_of_cell? w _ hx231_0)).trans hx231_0; replace p231 := eq_true p231; replace q231 := eq_true q231)))
                      go_ret2
                      exact ⟨by first | rfl | (simp [errW_none, errW_some] <;> rfl) | (simp only [← hji12]; first | rfl | (simp [errW_none, errW_some] <;> rfl)) | (simp [*, errW_none, errW_some] <;> rfl), by repeat (first | (with_reducible first | exact HB.out | apply below_alloc | apply pw_below_drewN | apply below_drew1 | refine below_set ?_ GE227.out) | exact HB.out)⟩
                  · rw [if_neg c14] at H
                    exact absurd H (by simp)
                · rw [if_neg c13] at H
                  exact absurd H (by simp)
              · rw [if_neg c11] at H
                have c11b0 : decide (0 < x4_1) = false := decide_eq_false c11
                clear c11
                have H' := Aside0.mk H
                clear H
                have hcz18_0 : wr.cell? ⟨gb227, 0, none⟩ = some (.slice A0_0 l0_0.length c0_0) := (blk_cell BK227.out 0).trans rfl
                have hfz18_0 := blk_frozen BK227.out 0
                have p228 : 0 ≤ (x4_1 : Int) := of_decide_eq_true (by first | (with_reducible assumption) | assumption)
                have q228 : x4_1 < (l0_0.length : Int) := of_decide_eq_true (by first | (with_reducible assumption) | assumption)
                obtain ⟨ad228, e228, hx228_0⟩ := Kd.at_string HR0_0.out x4_1 p228 q228
                cases e228
                replace hx228_0 := (HB.out.cell (World.block_lt_of_cell? w _ hx228_0)).trans hx228_0
                replace p228 := eq_true p228
                replace q228 := eq_true q228
                go_wp2_with (first | (go_at_call 31; (with_reducible refine (ancepsref54_Word.calls k1 (rdOf ByteArray.empty l0_0 x4_1) t229 _ A9.out).mono ?_); rintro e w' ⟨rfl, ⟨nd, rfl⟩⟩; (try first | exact ⟨rfl, _, World.drewN_drewN _ _ _⟩ | exact ⟨rfl, _, Eq.trans (World.drewN_drewN _ _ _) (congrArg (World.drewN _) (Nat.add_assoc _ _ _))⟩)))
                repeat (go_quiet (first | (go_at_call 31; (with_reducible refine (ancepsref54_Word.calls k1 (rdOf ByteArray.empty l0_0 x4_1) t229 _ A9.out).mono ?_); (try clear A9); rintro e w' ⟨rfl, ⟨nd, rfl⟩⟩; (try first | exact ⟨rfl, _, World.drewN_drewN _ _ _⟩ | exact ⟨rfl, _, Eq.trans (World.drewN_drewN _ _ _) (congrArg (World.drewN _) (Nat.add_assoc _ _ _))⟩))); try go_wp2_with (first | (go_at_call 31; (with_reducible refine (ancepsref54_Word.calls k1 (rdOf ByteArray.empty l0_0 x4_1) t229 _ A9.out).mono ?_); (try clear A9); rintro e w' ⟨rfl, ⟨nd, rfl⟩⟩; (try first | exact ⟨rfl, _, World.drewN_drewN _ _ _⟩ | exact ⟨rfl, _, Eq.trans (World.drewN_drewN _ _ _) (congrArg (World.drewN _) (Nat.add_assoc _ _ _))⟩))))
                go_roundg k1
                case measure => have := HK1.out; omega
                case rel => exact ⟨(wrap64 (x4_1 + 1)), (by first | rfl | (simp; done) | (simp [*]; done)), H', ⟨by have := HK1.out; omega⟩, ⟨by (with_reducible repeat (first | refine blk_drewN ?_ _ | refine blk_drew ?_ | refine blk_alloc ?_ _)); exact BK227.out⟩, ⟨by repeat (first | (with_reducible first | exact HB.out | apply below_alloc | apply pw_below_drewN | apply below_drew1 | refine below_set ?_ GE227.out) | exact HB.out)⟩⟩
            · rw [if_neg c10] at H
              have c10b0 : (t229 == 0) = false := beq_eq_false_iff_ne.mpr c10
              have c10b1 : (t229 != 0) = true := bne_iff_ne.mpr c10
              simp only [Option.some.injEq, Prod.mk.injEq] at H
              obtain ⟨rfl, rfl⟩ := H
              have hcz19_0 : wr.cell? ⟨gb227, 0, none⟩ = some (.slice A0_0 l0_0.length c0_0) := (blk_cell BK227.out 0).trans rfl
              have hfz19_0 := blk_frozen BK227.out 0
              have p228 : 0 ≤ (x4_1 : Int) := of_decide_eq_true (by first | (with_reducible assumption) | assumption)
              have q228 : x4_1 < (l0_0.length : Int) := of_decide_eq_true (by first | (with_reducible assumption) | assumption)
              obtain ⟨ad228, e228, hx228_0⟩ := Kd.at_string HR0_0.out x4_1 p228 q228
              cases e228
              replace hx228_0 := (HB.out.cell (World.block_lt_of_cell? w _ hx228_0)).trans hx228_0
              replace p228 := eq_true p228
              replace q228 := eq_true q228
              go_wp2_with (first | (go_at_call 31; (with_reducible refine (ancepsref54_Word.calls k1 (rdOf ByteArray.empty l0_0 x4_1) t229 _ A9.out).mono ?_); rintro e w' ⟨rfl, ⟨nd, rfl⟩⟩; (try first | exact ⟨rfl, _, World.drewN_drewN _ _ _⟩ | exact ⟨rfl, _, Eq.trans (World.drewN_drewN _ _ _) (congrArg (World.drewN _) (Nat.add_assoc _ _ _))⟩)))
              repeat (go_quiet (first | (go_at_call 31; (with_reducible refine (ancepsref54_Word.calls k1 (rdOf ByteArray.empty l0_0 x4_1) t229 _ A9.out).mono ?_); (try clear A9); rintro e w' ⟨rfl, ⟨nd, rfl⟩⟩; (try first | exact ⟨rfl, _, World.drewN_drewN _ _ _⟩ | exact ⟨rfl, _, Eq.trans (World.drewN_drewN _ _ _) (congrArg (World.drewN _) (Nat.add_assoc _ _ _))⟩))); try go_wp2_with (first | (go_at_call 31; (with_reducible refine (ancepsref54_Word.calls k1 (rdOf ByteArray.empty l0_0 x4_1) t229 _ A9.out).mono ?_); (try clear A9); rintro e w' ⟨rfl, ⟨nd, rfl⟩⟩; (try first | exact ⟨rfl, _, World.drewN_drewN _ _ _⟩ | exact ⟨rfl, _, Eq.trans (World.drewN_drewN _ _ _) (congrArg (World.drewN _) (Nat.add_assoc _ _ _))⟩))))
              go_ret2
              exact ⟨by first | rfl | (simp [errW_none, errW_some] <;> rfl) | (simp [*, errW_none, errW_some] <;> rfl), by repeat (first | (with_reducible first | exact HB.out | apply below_alloc | apply pw_below_drewN | apply below_drew1 | refine below_set ?_ GE227.out) | exact HB.out)⟩
          · rw [if_neg c8] at H
            exact absurd H (by simp)
        · rw [if_neg c7] at H
          have c7b0 : decide (x4_1 < (l0_0.length : Int)) = false := decide_eq_false c7
          clear c7
          simp only [Option.some.injEq, Prod.mk.injEq] at H
          obtain ⟨rfl, rfl⟩ := H
          have hcz20_0 : wr.cell? ⟨gb227, 0, none⟩ = some (.slice A0_0 l0_0.length c0_0) := (blk_cell BK227.out 0).trans rfl
          have hfz20_0 := blk_frozen BK227.out 0
          go_wp2
          repeat (go_quiet (fail); try go_wp2)
          go_ret2
          exact ⟨by first | rfl | (simp [errW_none, errW_some] <;> rfl) | (simp [*, errW_none, errW_some] <;> rfl), by repeat (first | (with_reducible first | exact HB.out | apply below_alloc | apply pw_below_drewN | apply below_drew1 | refine below_set ?_ GE227.out) | exact HB.out)⟩

/-! ### wordlist_Format: function 9 -/
def wordlist_Format.flat (l : List ByteArray) : List UInt8 := l.flatMap fun s => s.data.toList ++ [10]
theorem wordlist_Format.flat_le {l : List ByteArray} {i : Nat} (h : i < l.length) : (wordlist_Format.flat (l.take i)).length + (l[i].size + 1) ≤ (wordlist_Format.flat l).length := by
  have e : wordlist_Format.flat l = wordlist_Format.flat (l.take i) ++ ((l[i].data.toList ++ [10]) ++ wordlist_Format.flat (l.drop (i + 1))) := by
    have h2 : l = l.take i ++ l[i] :: l.drop (i + 1) := by rw [List.getElem_cons_drop, List.take_append_drop]
    unfold wordlist_Format.flat
    conv => lhs; rw [h2]
    rw [List.flatMap_append, List.flatMap_cons]
  rw [e]
  simp only [List.length_append, List.length_singleton]
  have : l[i].data.toList.length = l[i].size := by simp
  omega
def wordlist_Format.f (k : Nat) (l0 : List ByteArray) : Option (ByteArray × Int) := (wordlist_Valid.f k l0).bind fun e => if e = 0 then (if (wordlist_Format.flat l0).length ≤ 140737488355328 then some (⟨(wordlist_Format.flat l0).toArray⟩, 0) else none) else some (⟨#[]⟩, e)
theorem wordlist_Format.mono : ∀ a0 k, LeO (wordlist_Format.f k a0) (wordlist_Format.f (k + 1) a0) := by
  intro a0 k
  unfold wordlist_Format.f
  exact LeO.bind (wordlist_Valid.mono _ _) (fun _ => LeO.refl _)
set_option maxHeartbeats 4000000 in
set_option maxRecDepth 100000 in
theorem wordlist_Format.calls (k : Nat) (A0 : Option Addr) (c0 : Nat) (l0 : List ByteArray) (r1 : ByteArray) (r2 : Int) (w : World) (hr0 : Kd.C Kd.string w A0 l0.length l0) (hc0 : l0.length ≤ c0) (h : wordlist_Format.f k l0 = some (r1, r2)) :
    Calls Tryd.prog 9 #[.agg #[.slice A0 l0.length c0]] w fun e w' => e = .returned (.tuple #[.string r1, .int .i64 r2]) ∧ Below w.heap.size w w' := by
  have hu26 := Tryd.underlying25
  unfold wordlist_Format.f at h
  obtain ⟨e, he, h⟩ := Option.bind_eq_some_iff.1 h
  by_cases h0 : e = 0
  · subst h0
    rw [if_pos rfl] at h
    by_cases hl : (wordlist_Format.flat l0).length ≤ 140737488355328
    · rw [if_pos hl] at h
      obtain ⟨rfl, rfl⟩ := Prod.mk.inj (Option.some.inj h)
      clear h
      have hm := hr0.2.1
      obtain ⟨ad, had⟩ : ∃ ad, 0 < l0.length → A0 = some ad := by
        rcases Nat.eq_zero_or_pos l0.length with h0 | h0
        · exact ⟨⟨0, 0, none⟩, fun h => absurd h (by omega)⟩
        · obtain ⟨ad, he, _⟩ := Kd.at_string hr0 0 (by omega) (by omega)
          exact ⟨ad, fun _ => he⟩
      have HC := Lib.hid (fun W (hW : Kd.C Kd.string W A0 l0.length l0) => wordlist_Valid.calls k A0 c0 l0 0 W hW hc0 he)
      have HA := Lib.hid had
      have HR := Lib.hid hr0
      have HL := Lib.hid hl
      clear had hr0 hl he
      go_enter Tryd.func9, Tryd.ntmps9
      go_wp2_with (first | ((with_reducible refine gate_dst (N := 1) rfl ?_); (try (refine gate_guard (by rfl) ?_; dsimp only)); refine box_event ?hg (N := 1) ?hd (cs := #[.slice A0 l0.length c0]) (t := 25) ?hr ?_; (case hd => rfl); (case hg => rfl); (case hr => first | (go_simp; done) | (go_simp; rfl)); intro b1 hb1 w1 hbox hbb; have Q1 := Lib.hid hbox; have B1 := Lib.hid hbb; have N1 := Lib.hid (show w.heap.size ≤ b1 from Nat.le_of_eq hb1.symm); clear hb1 hbox hbb; have hcx := (blk_cell Q1.out 0).trans (show _ = some (Value.slice A0 l0.length c0) from rfl)))
      refine (HC.out _ (Kd.C_below HR.out B1.out)).mono ?_
      rintro e w0 ⟨rfl, hb0'⟩
      have hb0 := B1.out.trans (hb0'.mono B1.out.size)
      have Q2 := Lib.hid ((hb0'.block b1 (blk_lt Q1.out)).trans Q1.out)
      have hcx := (blk_cell Q2.out 0).trans (show _ = some (Value.slice A0 l0.length c0) from rfl)
      clear HC hb0'
      have hcx2 : (w0.alloc (Obj.cells #[Value.pointer none, Value.slice none 0 0] 53)).cell? ⟨b1, 0, none⟩ = some (Value.slice A0 l0.length c0) := (blk_cell (blk_alloc Q2.out _) 0).trans rfl
      go_wp2_with (fail)
      clear hcx hcx2
      go_loopw [16] (fun i wr => ∃ j : Nat, j ≤ l0.length ∧ i = .int .i64 j ∧ ∃ r, Hid (Bld.Bd wr w0.heap.size r (wordlist_Format.flat (l0.take j))) ∧ Hid (∀ g, r = some g → w0.heap.size ≤ g) ∧ Below w0.heap.size w0 wr)
        (fun i _ => l0.length - (intOf i).toNat)
      case atStart => exact ⟨0, Nat.zero_le _, rfl, none, Lib.hid (Bld.Bd.new w0), Lib.hid (fun g hg => by cases hg), (Below.refl _ _).alloc (Nat.le_refl _) _⟩
      case round =>
        obtain ⟨j, hj, rfl, r, hB, hrg, hbel⟩ := hrel
        have hlt : w0.heap.size < wr.heap.size := (Bld.Bd.lt hB.out).1
        by_cases hjl : j < l0.length
        · have hA := HA.out (by omega)
          subst hA
          obtain ⟨ad', he, hc⟩ := Kd.at_string HR.out (j : Int) (by omega) (by omega)
          injection he with he
          subst he
          have hx : rdOf ByteArray.empty l0 (j : Int) = l0[j] := by unfold rdOf; rw [Int.toNat_natCast, List.getD_eq_getElem?_getD, List.getElem?_eq_getElem hjl]; rfl
          rw [hx, Int.toNat_natCast] at hc
          have hcell := pw_cell_below hbel (pw_cell_below hb0 hc)
          have hfl := wordlist_Format.flat_le hjl
          have hts : wordlist_Format.flat (l0.take (j + 1)) = wordlist_Format.flat (l0.take j) ++ (l0[j].data.toList ++ [10]) := by
            rw [List.take_succ_eq_append_getElem hjl]
            unfold wordlist_Format.flat
            rw [List.flatMap_append, List.flatMap_cons, List.flatMap_nil, List.append_nil]
          obtain ⟨x, hxe⟩ : ∃ x, l0[j] = x := ⟨_, rfl⟩
          rw [hxe] at hcell hts hfl
          have hlen : (wordlist_Format.flat (l0.take j)).length + (x ++ (⟨#[10]⟩ : ByteArray)).size ≤ 140737488355328 := by
            rw [ByteArray.size_append]
            have := HL.out
            show _ + (x.size + 1) ≤ _
            omega
          have hxs : x.size + 1 ≤ 9223372036854775807 := by have := HL.out; omega
          have HT := Lib.hid hts
          have HN := Lib.hid hlen
          clear hc hx hts hxe hfl hlen
          go_wp2_with (go_at_call 21; refine (Bld.writeString _ _ _ _ (x ++ (⟨#[10]⟩ : ByteArray)) hB.out HN.out).mono ?_)
          (first | rintro e w1 rfl hwr | rintro e w1 ⟨rfl, hwr⟩)
          obtain ⟨r', hb1, hr1, hf1⟩ := hwr
          obtain ⟨hg1, hbe1⟩ := Bld.carry (Nat.le_refl _) hrg.out (Nat.le_of_lt hlt) hr1 hf1
          rw [← HT.out] at hb1
          have HE := Lib.hid (hbel.trans hbe1)
          have HB1 := Lib.hid hb1; have HG := Lib.hid hg1
          clear hb1 hr1 hf1 hbe1 hg1 hcell
          go_wp2
          go_roundw
          case rel => exact ⟨j + 1, by omega, by go_num, _, HB1, HG, HE.out⟩
          case measure => simp [intOf]; omega
        · obtain rfl : j = l0.length := by omega
          have hB2 : Bld.Bd wr w0.heap.size r (wordlist_Format.flat l0) := by have := hB.out; rwa [List.take_length] at this
          have HB2 := Lib.hid hB2
          clear hB2
          go_wp2_with (go_at_call 22; refine (Bld.string_ _ _ _ _ HB2.out).mono ?_)
          (first | rintro e w1 rfl hf1 | rintro e w1 ⟨rfl, hf1⟩)
          have hb1 := hf1.below (Nat.le_of_lt hlt) (fun g hg => hrg.out g hg.symm)
          go_wp2
          go_ret2
          exact ⟨rfl, hb0.trans ((hbel.trans hb1).mono hb0.size)⟩
    · rw [if_neg hl] at h; cases h
  · rw [if_neg h0] at h
    obtain ⟨rfl, rfl⟩ := Prod.mk.inj (Option.some.inj h)
    clear h
    have hb0 : (e == 0) = false := by simpa using h0
    have hb1 : (e != 0) = true := by simpa using h0
    have HC := Lib.hid (fun W (hW : Kd.C Kd.string W A0 l0.length l0) => wordlist_Valid.calls k A0 c0 l0 e W hW hc0 he)
    have HR := Lib.hid hr0
    clear hr0 he
    go_enter Tryd.func9, Tryd.ntmps9
    go_wp2_with (first | ((with_reducible refine gate_dst (N := 1) rfl ?_); (try (refine gate_guard (by rfl) ?_; dsimp only)); refine box_event ?hg (N := 1) ?hd (cs := #[.slice A0 l0.length c0]) (t := 25) ?hr ?_; (case hd => rfl); (case hg => rfl); (case hr => first | (go_simp; done) | (go_simp; rfl)); intro b1 hb1 w1 hbox hbb; have Q1 := Lib.hid hbox; have B1 := Lib.hid hbb; have N1 := Lib.hid (show w.heap.size ≤ b1 from Nat.le_of_eq hb1.symm); clear hb1 hbox hbb; have hcx := (blk_cell Q1.out 0).trans (show _ = some (Value.slice A0 l0.length c0) from rfl)))
    refine (HC.out _ (Kd.C_below HR.out B1.out)).mono ?_
    rintro e w2 ⟨rfl, hb0'⟩
    have hb := B1.out.trans (hb0'.mono B1.out.size)
    clear HC hb0'
    go_wp2_with (fail)
    go_ret2
    exact ⟨rfl, hb⟩

end Go.Proofs.YtdaooagikacboaaDoor.X
