-- printed by this session's xprint.py: out of the translation, by the kit's print with additions; Lean checks it
import Derived.Test.YtnjiniegpjfemaaDoorWShare
import Derived.Test.YtnjiniegpjfemaaDoorWRepsOne
import Derived.Test.YtnjiniegpjfemaaDoorX0
import Derived.Test.YtnjiniegpjfemaaDoorX4
import Derived.Test.YtnjiniegpjfemaaDoorX5
import Derived.Test.YtnjiniegpjfemaaDoorX6
import Derived.Test.YtnjiniegpjfemaaDoorX7
import Derived.Test.YtnjiniegpjfemaaDoorX11
import Derived.Test.YtnjiniegpjfemaaDoorX13
import Derived.Test.YtnjiniegpjfemaaDoorX22
import Derived.Test.YtnjiniegpjfemaaDoorX23
namespace Go.Proofs.YtnjiniegpjfemaaDoor.X
open Go.RowKit Go.Proofs.YtnjiniegpjfemaaDoorW.PrintWords Go.Proofs.YtnjiniegpjfemaaDoorW.PrintLast Go.Proofs.YtnjiniegpjfemaaDoorW.PrintMore
attribute [local go_sem] max2_int min2_int max_two min_two max_three min_three max_four min_four isSome_setCell binOp_gtr_str binOp_leq_str   -- for this text's walks alone
set_option linter.unusedVariables false
set_option linter.unusedSimpArgs false

/-! ### ancepsref11_Text: function 52 -/
mutual
def ancepsref11_Text.l0 : Nat → List (S23) → ByteArray → Int → Option (ByteArray)
  | 0, _, _, _ => none
  | k + 1, x0, x3, x4 => if x4 < (x0.length : Int) then (if x4 > 0 then (if x3.size + 1 ≤ 9223372036854775807 then (ancepsref11_Text.j1 k x0 (x3 ++ (⟨#[32]⟩ : ByteArray)) x4) else (none)) else (ancepsref11_Text.j1 k x0 x3 x4)) else (some x3)
def ancepsref11_Text.j1 : Nat → List (S23) → ByteArray → Int → Option (ByteArray)
  | 0, _, _, _ => none
  | k + 1, x0, x3, x4 => if 0 ≤ x4 then (if x4 < (x0.length : Int) then (if x3.size + ((rd_T23 x0 x4).f2).size ≤ 9223372036854775807 then (if (x3 ++ ((rd_T23 x0 x4).f2)).size + 1 ≤ 9223372036854775807 then ((ancepsref11_letters.f).bind fun t412 => (if 0 ≤ ((rd_T23 x0 x4).f0) then (if ((rd_T23 x0 x4).f0) ≤ (wrap64 (((rd_T23 x0 x4).f0) + 1)) then (if (wrap64 (((rd_T23 x0 x4).f0) + 1)) ≤ (t412.size : Int) then (if ((x3 ++ ((rd_T23 x0 x4).f2)) ++ (⟨#[47]⟩ : ByteArray)).size + (t412.extract (((rd_T23 x0 x4).f0) : Int).toNat ((wrap64 (((rd_T23 x0 x4).f0) + 1)) : Int).toNat).size ≤ 9223372036854775807 then ((ancepsref11_Nucleus.f ((rd_T23 x0 x4).f0) ((rd_T23 x0 x4).f1) ((rd_T23 x0 x4).f2)).bind fun t414 => (if t414 = true then (if 0 ≤ ((rd_T23 x0 x4).f1) then (if ((rd_T23 x0 x4).f1) ≤ (wrap64 (((rd_T23 x0 x4).f1) + 1)) then (if (wrap64 (((rd_T23 x0 x4).f1) + 1)) ≤ 4 then (if (((x3 ++ ((rd_T23 x0 x4).f2)) ++ (⟨#[47]⟩ : ByteArray)) ++ (t412.extract (((rd_T23 x0 x4).f0) : Int).toNat ((wrap64 (((rd_T23 x0 x4).f0) + 1)) : Int).toNat)).size + ((⟨#[48, 49, 50, 51]⟩ : ByteArray).extract (((rd_T23 x0 x4).f1) : Int).toNat ((wrap64 (((rd_T23 x0 x4).f1) + 1)) : Int).toNat).size ≤ 9223372036854775807 then (ancepsref11_Text.l0 k x0 ((((x3 ++ ((rd_T23 x0 x4).f2)) ++ (⟨#[47]⟩ : ByteArray)) ++ (t412.extract (((rd_T23 x0 x4).f0) : Int).toNat ((wrap64 (((rd_T23 x0 x4).f0) + 1)) : Int).toNat)) ++ ((⟨#[48, 49, 50, 51]⟩ : ByteArray).extract (((rd_T23 x0 x4).f1) : Int).toNat ((wrap64 (((rd_T23 x0 x4).f1) + 1)) : Int).toNat)) (wrap64 (x4 + 1))) else (none)) else (none)) else (none)) else (none)) else (ancepsref11_Text.l0 k x0 (((x3 ++ ((rd_T23 x0 x4).f2)) ++ (⟨#[47]⟩ : ByteArray)) ++ (t412.extract (((rd_T23 x0 x4).f0) : Int).toNat ((wrap64 (((rd_T23 x0 x4).f0) + 1)) : Int).toNat)) (wrap64 (x4 + 1))))) else (none)) else (none)) else (none)) else (none))) else (none)) else (none)) else (none)) else (none)
end
def ancepsref11_Text.f (k : Nat) (l0 : List (S23)) : Option (ByteArray) := ancepsref11_Text.l0 k l0 (⟨#[]⟩ : ByteArray) 0
theorem ancepsref11_Text.mono_l : ∀ k, (∀ y0 y1 y2, LeO (ancepsref11_Text.l0 k y0 y1 y2) (ancepsref11_Text.l0 (k + 1) y0 y1 y2)) ∧ (∀ y0 y1 y2, LeO (ancepsref11_Text.j1 k y0 y1 y2) (ancepsref11_Text.j1 (k + 1) y0 y1 y2))
  | 0 => ⟨fun _ _ _ r h => by simp [ancepsref11_Text.l0] at h, fun _ _ _ r h => by simp [ancepsref11_Text.j1] at h⟩
  | k + 1 => by
    obtain ⟨ih0, ih1⟩ := ancepsref11_Text.mono_l k
    refine ⟨?_, ?_⟩
    · intro y0 y1 y2
      unfold ancepsref11_Text.l0
      repeat' first
      | (with_reducible exact ih0 _ _ _)
      | (with_reducible exact ih1 _ _ _)
      | (with_reducible exact LeO.refl _)
      | (with_reducible exact LeO.none _)
      | (with_reducible refine LeO.ite ?_ ?_)
      | (with_reducible refine LeO.bind ?_ (fun _ => ?_))
      | exact ih0 _ _ _
      | exact ih1 _ _ _
      | exact LeO.none _
      | refine LeO.ite ?_ ?_
      | refine LeO.bind ?_ (fun _ => ?_)
    · intro y0 y1 y2
      unfold ancepsref11_Text.j1
      repeat' first
      | (with_reducible exact ih0 _ _ _)
      | (with_reducible exact ih1 _ _ _)
      | (with_reducible exact LeO.refl _)
      | (with_reducible exact LeO.none _)
      | (with_reducible refine LeO.ite ?_ ?_)
      | (with_reducible refine LeO.bind ?_ (fun _ => ?_))
      | exact ih0 _ _ _
      | exact ih1 _ _ _
      | exact LeO.none _
      | refine LeO.ite ?_ ?_
      | refine LeO.bind ?_ (fun _ => ?_)
theorem ancepsref11_Text.mono : ∀ a0 k, LeO (ancepsref11_Text.f k a0) (ancepsref11_Text.f (k + 1) a0) := by
  intro a0 k
  obtain ⟨ih0, ih1⟩ := ancepsref11_Text.mono_l k
  unfold ancepsref11_Text.f
  repeat' first
      | (with_reducible exact ih0 _ _ _)
      | (with_reducible exact ih1 _ _ _)
      | (with_reducible exact LeO.refl _)
      | (with_reducible exact LeO.none _)
      | (with_reducible refine LeO.ite ?_ ?_)
      | (with_reducible refine LeO.bind ?_ (fun _ => ?_))
      | exact ih0 _ _ _
      | exact ih1 _ _ _
      | exact LeO.none _
      | refine LeO.ite ?_ ?_
      | refine LeO.bind ?_ (fun _ => ?_)
set_option maxHeartbeats 8000000 in
set_option maxRecDepth 100000 in
theorem ancepsref11_Text.calls (k : Nat) (A0 : Option Addr) (c0 : Nat) (l0 : List (S23)) (r : ByteArray) (w : World) (hr0 : Kd.C k23 w A0 l0.length l0) (hc0 : l0.length ≤ c0) (h : ancepsref11_Text.f k l0 = some r) :
    Calls Tryd.prog 52 #[.slice A0 l0.length c0] w fun e w' => e = .returned (.string r) ∧ Below w.heap.size w w' := by
  have hu23 := Tryd.underlying23
  have HR0 := Aside0.mk hr0
  have HC0 := Aside0.mk hc0
  clear hr0 hc0
  have HB := Aside0.mk (Below.refl w.heap.size w)
  have H : (ancepsref11_Text.l0 k l0 (⟨#[]⟩ : ByteArray) 0) = some r := h
  clear h
  have H' := Aside0.mk H
  clear H
  go_enter Tryd.func52, Tryd.ntmps52
  go_wp2
  repeat (go_quiet (fail); try go_wp2)
  go_loopg [3, 4] k (fun kq v3 v4 w' => ∃ (x3_1 : ByteArray) (x4_1 : Int), v3 = .string x3_1 ∧ v4 = .int .i64 x4_1 ∧ Aside0 (ancepsref11_Text.l0 kq l0 x3_1 x4_1 = some r) ∧ Aside0 (kq ≤ k) ∧ Aside0 (Below w.heap.size w w'))
  case atStart => exact ⟨((⟨#[]⟩ : ByteArray)), (0), (by first | rfl | (simp; done) | (simp [*]; done)), (by first | rfl | (simp; done) | (simp [*]; done)), H', ⟨Nat.le_refl _⟩, ⟨by repeat (first | (with_reducible first | exact HB.out | apply below_alloc | apply pw_below_drewN | apply below_drew1) | exact HB.out)⟩⟩
  case round =>
    clear H'
    obtain ⟨x3_1, x4_1, rfl, rfl, HA, HK1, HB⟩ := hrel
    cases gk with
    | zero => exact absurd HA.out (by simp [ancepsref11_Text.l0])
    | succ k1 =>
      have H := HA.out
      clear HA
      simp only [ancepsref11_Text.l0] at H
      by_cases c2 : x4_1 < (l0.length : Int)
      · rw [if_pos c2] at H
        have c2b0 : decide (x4_1 < (l0.length : Int)) = true := decide_eq_true c2
        clear c2
        have HC3 := Aside0.mk H
        clear H
        go_upto_if 13 with (fail)
        repeat (go_quiet (fail); go_upto_if 13 with (fail))
        go_cut [3] (fun v3 wc => ∃ (kq : Nat) (x3_2 : ByteArray), v3 = .string x3_2 ∧ Aside0 (ancepsref11_Text.j1 kq l0 x3_2 x4_1 = some r) ∧ Aside0 (kq ≤ k1) ∧ Aside0 (Below w.heap.size w wc))
        case first =>
          have H := HC3.out
          clear HC3
          by_cases c4 : x4_1 > 0
          · rw [if_pos c4] at H
            have c4b0 : decide (0 < x4_1) = true := decide_eq_true c4
            clear c4
            (first | rw [c4b0] | (simp only [i64_w, i32_w]; rw [c4b0]) | skip)
            by_cases c5 : x3_1.size + 1 ≤ 9223372036854775807
            · rw [if_pos c5] at H
              have c5b0 := eq_true c5
              have c5b1 : decide (x3_1.size + 1 ≤ 9223372036854775807) = true := decide_eq_true c5
              try have c5b2 : (9223372036854775807 < x3_1.size + 1) = False := eq_false (Nat.not_lt.2 c5)
              have H' := Aside0.mk H
              clear H
              go_wp2
              repeat (go_quiet (fail); try go_wp2)
              go_meet
              case rel => exact ⟨_, (x3_1 ++ (⟨#[32]⟩ : ByteArray)), (by first | rfl | (simp; done) | (simp [*]; done)), H', ⟨by have := HK1.out; first | omega | exact Nat.le_refl _⟩, ⟨by repeat (first | (with_reducible first | exact HB.out | apply below_alloc | apply pw_below_drewN | apply below_drew1) | exact HB.out)⟩⟩
            · rw [if_neg c5] at H
              exact absurd H (by simp)
          · rw [if_neg c4] at H
            have c4b0 : decide (0 < x4_1) = false := decide_eq_false c4
            clear c4
            (first | rw [c4b0] | (simp only [i64_w, i32_w]; rw [c4b0]) | skip)
            have H' := Aside0.mk H
            clear H
            go_wp2
            repeat (go_quiet (fail); try go_wp2)
            go_meet
            case rel => exact ⟨_, (x3_1), (by first | rfl | (simp; done) | (simp [*]; done)), H', ⟨by have := HK1.out; first | omega | exact Nat.le_refl _⟩, ⟨by repeat (first | (with_reducible first | exact HB.out | apply below_alloc | apply pw_below_drewN | apply below_drew1) | exact HB.out)⟩⟩
        case rest =>
          clear HC3
          try clear c2
          try clear c2b0
          try clear p2
          try clear c4
          try clear c4b0
          try clear c5
          try clear c5b0
          try clear c5b1
          try clear c5b2
          obtain ⟨kq, x3_2, rfl, HA, HJ2, HB⟩ := hcut
          cases kq with
          | zero => exact absurd HA.out (by simp [ancepsref11_Text.j1])
          | succ kj2 =>
            have H := HA.out
            clear HA
            simp only [ancepsref11_Text.j1] at H
            by_cases c6 : 0 ≤ x4_1
            · rw [if_pos c6] at H
              have c6b0 : decide (0 ≤ x4_1) = true := decide_eq_true c6
              clear c6
              by_cases c7 : x4_1 < (l0.length : Int)
              · rw [if_pos c7] at H
                have c7b0 : decide (x4_1 < (l0.length : Int)) = true := decide_eq_true c7
                clear c7
                by_cases c8 : x3_2.size + ((rd_T23 l0 x4_1).f2).size ≤ 9223372036854775807
                · rw [if_pos c8] at H
                  have c8b0 := eq_true c8
                  have c8b1 : decide (x3_2.size + ((rd_T23 l0 x4_1).f2).size ≤ 9223372036854775807) = true := decide_eq_true c8
                  try have c8b2 : (9223372036854775807 < x3_2.size + ((rd_T23 l0 x4_1).f2).size) = False := eq_false (Nat.not_lt.2 c8)
                  by_cases c9 : (x3_2 ++ ((rd_T23 l0 x4_1).f2)).size + 1 ≤ 9223372036854775807
                  · rw [if_pos c9] at H
                    have c9b0 := eq_true c9
                    have c9b1 : decide ((x3_2 ++ ((rd_T23 l0 x4_1).f2)).size + 1 ≤ 9223372036854775807) = true := decide_eq_true c9
                    try have c9b2 : (9223372036854775807 < (x3_2 ++ ((rd_T23 l0 x4_1).f2)).size + 1) = False := eq_false (Nat.not_lt.2 c9)
                    have c9b3 : x3_2.size + ((rd_T23 l0 x4_1).f2).size + 1 ≤ 9223372036854775807 := by have h_ := c9; simp only [ByteArray.size_append] at h_; exact h_
                    have c9b4 : (9223372036854775807 < x3_2.size + ((rd_T23 l0 x4_1).f2).size + 1) = False := eq_false (Nat.not_lt.2 c9b3)
                    have c9b5 : decide (x3_2.size + ((rd_T23 l0 x4_1).f2).size + 1 ≤ 9223372036854775807) = true := decide_eq_true c9b3
                    replace c9b3 := eq_true c9b3
                    replace H := Option.bind_eq_some_iff.mp H
                    obtain ⟨t412, A100, H⟩ := H
                    replace H : (if 0 ≤ ((rd_T23 l0 x4_1).f0) then (if ((rd_T23 l0 x4_1).f0) ≤ (wrap64 (((rd_T23 l0 x4_1).f0) + 1)) then (if (wrap64 (((rd_T23 l0 x4_1).f0) + 1)) ≤ (t412.size : Int) then (if ((x3_2 ++ ((rd_T23 l0 x4_1).f2)) ++ (⟨#[47]⟩ : ByteArray)).size + (t412.extract (((rd_T23 l0 x4_1).f0) : Int).toNat ((wrap64 (((rd_T23 l0 x4_1).f0) + 1)) : Int).toNat).size ≤ 9223372036854775807 then ((ancepsref11_Nucleus.f ((rd_T23 l0 x4_1).f0) ((rd_T23 l0 x4_1).f1) ((rd_T23 l0 x4_1).f2)).bind fun t414 => (if t414 = true then (if 0 ≤ ((rd_T23 l0 x4_1).f1) then (if ((rd_T23 l0 x4_1).f1) ≤ (wrap64 (((rd_T23 l0 x4_1).f1) + 1)) then (if (wrap64 (((rd_T23 l0 x4_1).f1) + 1)) ≤ 4 then (if (((x3_2 ++ ((rd_T23 l0 x4_1).f2)) ++ (⟨#[47]⟩ : ByteArray)) ++ (t412.extract (((rd_T23 l0 x4_1).f0) : Int).toNat ((wrap64 (((rd_T23 l0 x4_1).f0) + 1)) : Int).toNat)).size + ((⟨#[48, 49, 50, 51]⟩ : ByteArray).extract (((rd_T23 l0 x4_1).f1) : Int).toNat ((wrap64 (((rd_T23 l0 x4_1).f1) + 1)) : Int).toNat).size ≤ 9223372036854775807 then (ancepsref11_Text.l0 kj2 l0 ((((x3_2 ++ ((rd_T23 l0 x4_1).f2)) ++ (⟨#[47]⟩ : ByteArray)) ++ (t412.extract (((rd_T23 l0 x4_1).f0) : Int).toNat ((wrap64 (((rd_T23 l0 x4_1).f0) + 1)) : Int).toNat)) ++ ((⟨#[48, 49, 50, 51]⟩ : ByteArray).extract (((rd_T23 l0 x4_1).f1) : Int).toNat ((wrap64 (((rd_T23 l0 x4_1).f1) + 1)) : Int).toNat)) (wrap64 (x4_1 + 1))) else (none)) else (none)) else (none)) else (none)) else (ancepsref11_Text.l0 kj2 l0 (((x3_2 ++ ((rd_T23 l0 x4_1).f2)) ++ (⟨#[47]⟩ : ByteArray)) ++ (t412.extract (((rd_T23 l0 x4_1).f0) : Int).toNat ((wrap64 (((rd_T23 l0 x4_1).f0) + 1)) : Int).toNat)) (wrap64 (x4_1 + 1))))) else (none)) else (none)) else (none)) else (none)) = some r := H
                    have A10 := Aside0.mk A100
                    clear A100
                    by_cases c11 : 0 ≤ ((rd_T23 l0 x4_1).f0)
                    · rw [if_pos c11] at H
                      have c11b0 := eq_true c11
                      have c11b1 : decide (0 ≤ ((rd_T23 l0 x4_1).f0)) = true := decide_eq_true c11
                      clear c11
                      obtain ⟨ji12, hji12⟩ : ∃ j_ : Int, (wrap64 (((rd_T23 l0 x4_1).f0) + 1)) = j_ := ⟨_, rfl⟩
                      replace H : (if ((rd_T23 l0 x4_1).f0) ≤ (ji12) then (if (ji12) ≤ (t412.size : Int) then (if ((x3_2 ++ ((rd_T23 l0 x4_1).f2)) ++ (⟨#[47]⟩ : ByteArray)).size + (t412.extract (((rd_T23 l0 x4_1).f0) : Int).toNat ((ji12) : Int).toNat).size ≤ 9223372036854775807 then ((ancepsref11_Nucleus.f ((rd_T23 l0 x4_1).f0) ((rd_T23 l0 x4_1).f1) ((rd_T23 l0 x4_1).f2)).bind fun t414 => (if t414 = true then (if 0 ≤ ((rd_T23 l0 x4_1).f1) then (if ((rd_T23 l0 x4_1).f1) ≤ (wrap64 (((rd_T23 l0 x4_1).f1) + 1)) then (if (wrap64 (((rd_T23 l0 x4_1).f1) + 1)) ≤ 4 then (if (((x3_2 ++ ((rd_T23 l0 x4_1).f2)) ++ (⟨#[47]⟩ : ByteArray)) ++ (t412.extract (((rd_T23 l0 x4_1).f0) : Int).toNat ((ji12) : Int).toNat)).size + ((⟨#[48, 49, 50, 51]⟩ : ByteArray).extract (((rd_T23 l0 x4_1).f1) : Int).toNat ((wrap64 (((rd_T23 l0 x4_1).f1) + 1)) : Int).toNat).size ≤ 9223372036854775807 then (ancepsref11_Text.l0 kj2 l0 ((((x3_2 ++ ((rd_T23 l0 x4_1).f2)) ++ (⟨#[47]⟩ : ByteArray)) ++ (t412.extract (((rd_T23 l0 x4_1).f0) : Int).toNat ((ji12) : Int).toNat)) ++ ((⟨#[48, 49, 50, 51]⟩ : ByteArray).extract (((rd_T23 l0 x4_1).f1) : Int).toNat ((wrap64 (((rd_T23 l0 x4_1).f1) + 1)) : Int).toNat)) (wrap64 (x4_1 + 1))) else (none)) else (none)) else (none)) else (none)) else (ancepsref11_Text.l0 kj2 l0 (((x3_2 ++ ((rd_T23 l0 x4_1).f2)) ++ (⟨#[47]⟩ : ByteArray)) ++ (t412.extract (((rd_T23 l0 x4_1).f0) : Int).toNat ((ji12) : Int).toNat)) (wrap64 (x4_1 + 1))))) else (none)) else (none)) else (none)) = some r := by first | (rw [hji12] at H; exact H) | (simp only [hji12] at H ⊢; exact H)
                      (try rw [hji12] at A10)
                      have hji12w : (IntKind.i64.wrap (((rd_T23 l0 x4_1).f0) + 1)) = ji12 := (i64_w _).trans hji12
                      by_cases c13 : ((rd_T23 l0 x4_1).f0) ≤ (ji12)
                      · rw [if_pos c13] at H
                        have c13b0 := eq_true c13
                        have c13b1 : decide (((rd_T23 l0 x4_1).f0) ≤ (ji12)) = true := decide_eq_true c13
                        clear c13
                        by_cases c14 : (ji12) ≤ (t412.size : Int)
                        · rw [if_pos c14] at H
                          have c14b0 := eq_true c14
                          have c14b1 : decide ((ji12) ≤ (t412.size : Int)) = true := decide_eq_true c14
                          clear c14
                          by_cases c15 : ((x3_2 ++ ((rd_T23 l0 x4_1).f2)) ++ (⟨#[47]⟩ : ByteArray)).size + (t412.extract (((rd_T23 l0 x4_1).f0) : Int).toNat ((ji12) : Int).toNat).size ≤ 9223372036854775807
                          · rw [if_pos c15] at H
                            have c15b0 := eq_true c15
                            have c15b1 : decide (((x3_2 ++ ((rd_T23 l0 x4_1).f2)) ++ (⟨#[47]⟩ : ByteArray)).size + (t412.extract (((rd_T23 l0 x4_1).f0) : Int).toNat ((ji12) : Int).toNat).size ≤ 9223372036854775807) = true := decide_eq_true c15
                            try have c15b2 : (9223372036854775807 < ((x3_2 ++ ((rd_T23 l0 x4_1).f2)) ++ (⟨#[47]⟩ : ByteArray)).size + (t412.extract (((rd_T23 l0 x4_1).f0) : Int).toNat ((ji12) : Int).toNat).size) = False := eq_false (Nat.not_lt.2 c15)
                            have c15b3 : x3_2.size + ((rd_T23 l0 x4_1).f2).size + 1 + (t412.extract (((rd_T23 l0 x4_1).f0) : Int).toNat ((ji12) : Int).toNat).size ≤ 9223372036854775807 := by have h_ := c15; simp only [ByteArray.size_append] at h_; exact h_
                            have c15b4 : (9223372036854775807 < x3_2.size + ((rd_T23 l0 x4_1).f2).size + 1 + (t412.extract (((rd_T23 l0 x4_1).f0) : Int).toNat ((ji12) : Int).toNat).size) = False := eq_false (Nat.not_lt.2 c15b3)
                            have c15b5 : decide (x3_2.size + ((rd_T23 l0 x4_1).f2).size + 1 + (t412.extract (((rd_T23 l0 x4_1).f0) : Int).toNat ((ji12) : Int).toNat).size ≤ 9223372036854775807) = true := decide_eq_true c15b3
                            replace c15b3 := eq_true c15b3
                            try have c15b6 : (9223372036854775807 < ((x3_2 ++ ((rd_T23 l0 x4_1).f2)) ++ (⟨#[47]⟩ : ByteArray)).size + (((ji12) : Int).toNat - (((rd_T23 l0 x4_1).f0) : Int).toNat)) = False := eq_false (by have h_ := c15; (try simp only [ByteArray.size_append] at h_); (try simp only [ByteArray.size_extract] at h_); first | omega | (simp only [decide_eq_true_eq] at *; omega))
                            try have c15b7 : (9223372036854775807 < x3_2.size + ((rd_T23 l0 x4_1).f2).size + 1 + (((ji12) : Int).toNat - (((rd_T23 l0 x4_1).f0) : Int).toNat)) = False := eq_false (by have h_ := of_eq_true c15b3; (try simp only [ByteArray.size_extract] at h_); first | omega | (simp only [decide_eq_true_eq] at *; omega))
                            replace H := Option.bind_eq_some_iff.mp H
                            obtain ⟨t414, A160, H⟩ := H
                            replace H : (if t414 = true then (if 0 ≤ ((rd_T23 l0 x4_1).f1) then (if ((rd_T23 l0 x4_1).f1) ≤ (wrap64 (((rd_T23 l0 x4_1).f1) + 1)) then (if (wrap64 (((rd_T23 l0 x4_1).f1) + 1)) ≤ 4 then (if (((x3_2 ++ ((rd_T23 l0 x4_1).f2)) ++ (⟨#[47]⟩ : ByteArray)) ++ (t412.extract (((rd_T23 l0 x4_1).f0) : Int).toNat ((ji12) : Int).toNat)).size + ((⟨#[48, 49, 50, 51]⟩ : ByteArray).extract (((rd_T23 l0 x4_1).f1) : Int).toNat ((wrap64 (((rd_T23 l0 x4_1).f1) + 1)) : Int).toNat).size ≤ 9223372036854775807 then (ancepsref11_Text.l0 kj2 l0 ((((x3_2 ++ ((rd_T23 l0 x4_1).f2)) ++ (⟨#[47]⟩ : ByteArray)) ++ (t412.extract (((rd_T23 l0 x4_1).f0) : Int).toNat ((ji12) : Int).toNat)) ++ ((⟨#[48, 49, 50, 51]⟩ : ByteArray).extract (((rd_T23 l0 x4_1).f1) : Int).toNat ((wrap64 (((rd_T23 l0 x4_1).f1) + 1)) : Int).toNat)) (wrap64 (x4_1 + 1))) else (none)) else (none)) else (none)) else (none)) else (ancepsref11_Text.l0 kj2 l0 (((x3_2 ++ ((rd_T23 l0 x4_1).f2)) ++ (⟨#[47]⟩ : ByteArray)) ++ (t412.extract (((rd_T23 l0 x4_1).f0) : Int).toNat ((ji12) : Int).toNat)) (wrap64 (x4_1 + 1)))) = some r := H
                            have A16 := Aside0.mk A160
                            clear A160
                            by_cases c17 : t414 = true
                            · subst c17
                              have H1 : (if 0 ≤ ((rd_T23 l0 x4_1).f1) then (if ((rd_T23 l0 x4_1).f1) ≤ (wrap64 (((rd_T23 l0 x4_1).f1) + 1)) then (if (wrap64 (((rd_T23 l0 x4_1).f1) + 1)) ≤ 4 then (if (((x3_2 ++ ((rd_T23 l0 x4_1).f2)) ++ (⟨#[47]⟩ : ByteArray)) ++ (t412.extract (((rd_T23 l0 x4_1).f0) : Int).toNat ((ji12) : Int).toNat)).size + ((⟨#[48, 49, 50, 51]⟩ : ByteArray).extract (((rd_T23 l0 x4_1).f1) : Int).toNat ((wrap64 (((rd_T23 l0 x4_1).f1) + 1)) : Int).toNat).size ≤ 9223372036854775807 then (ancepsref11_Text.l0 kj2 l0 ((((x3_2 ++ ((rd_T23 l0 x4_1).f2)) ++ (⟨#[47]⟩ : ByteArray)) ++ (t412.extract (((rd_T23 l0 x4_1).f0) : Int).toNat ((ji12) : Int).toNat)) ++ ((⟨#[48, 49, 50, 51]⟩ : ByteArray).extract (((rd_T23 l0 x4_1).f1) : Int).toNat ((wrap64 (((rd_T23 l0 x4_1).f1) + 1)) : Int).toNat)) (wrap64 (x4_1 + 1))) else (none)) else (none)) else (none)) else (none)) = some r := by rw [if_pos rfl] at H; exact H
                              clear H
                              have H := H1
                              clear H1
                              by_cases c18 : 0 ≤ ((rd_T23 l0 x4_1).f1)
                              · rw [if_pos c18] at H
                                have c18b0 := eq_true c18
                                have c18b1 : decide (0 ≤ ((rd_T23 l0 x4_1).f1)) = true := decide_eq_true c18
                                clear c18
                                obtain ⟨ji19, hji19⟩ : ∃ j_ : Int, (wrap64 (((rd_T23 l0 x4_1).f1) + 1)) = j_ := ⟨_, rfl⟩
                                replace H : (if ((rd_T23 l0 x4_1).f1) ≤ (ji19) then (if (ji19) ≤ 4 then (if (((x3_2 ++ ((rd_T23 l0 x4_1).f2)) ++ (⟨#[47]⟩ : ByteArray)) ++ (t412.extract (((rd_T23 l0 x4_1).f0) : Int).toNat ((ji12) : Int).toNat)).size + ((⟨#[48, 49, 50, 51]⟩ : ByteArray).extract (((rd_T23 l0 x4_1).f1) : Int).toNat ((ji19) : Int).toNat).size ≤ 9223372036854775807 then (ancepsref11_Text.l0 kj2 l0 ((((x3_2 ++ ((rd_T23 l0 x4_1).f2)) ++ (⟨#[47]⟩ : ByteArray)) ++ (t412.extract (((rd_T23 l0 x4_1).f0) : Int).toNat ((ji12) : Int).toNat)) ++ ((⟨#[48, 49, 50, 51]⟩ : ByteArray).extract (((rd_T23 l0 x4_1).f1) : Int).toNat ((ji19) : Int).toNat)) (wrap64 (x4_1 + 1))) else (none)) else (none)) else (none)) = some r := by first | (rw [hji19] at H; exact H) | (simp only [hji19] at H ⊢; exact H)
                                (try rw [hji19] at A10)
                                (try rw [hji19] at A16)
                                have hji19w : (IntKind.i64.wrap (((rd_T23 l0 x4_1).f1) + 1)) = ji19 := (i64_w _).trans hji19
                                by_cases c20 : ((rd_T23 l0 x4_1).f1) ≤ (ji19)
                                · rw [if_pos c20] at H
                                  have c20b0 := eq_true c20
                                  have c20b1 : decide (((rd_T23 l0 x4_1).f1) ≤ (ji19)) = true := decide_eq_true c20
                                  clear c20
                                  by_cases c21 : (ji19) ≤ 4
                                  · rw [if_pos c21] at H
                                    have c21b0 := eq_true c21
                                    have c21b1 : decide ((ji19) ≤ 4) = true := decide_eq_true c21
                                    clear c21
                                    by_cases c22 : (((x3_2 ++ ((rd_T23 l0 x4_1).f2)) ++ (⟨#[47]⟩ : ByteArray)) ++ (t412.extract (((rd_T23 l0 x4_1).f0) : Int).toNat ((ji12) : Int).toNat)).size + ((⟨#[48, 49, 50, 51]⟩ : ByteArray).extract (((rd_T23 l0 x4_1).f1) : Int).toNat ((ji19) : Int).toNat).size ≤ 9223372036854775807
                                    · rw [if_pos c22] at H
                                      have c22b0 := eq_true c22
                                      have c22b1 : decide ((((x3_2 ++ ((rd_T23 l0 x4_1).f2)) ++ (⟨#[47]⟩ : ByteArray)) ++ (t412.extract (((rd_T23 l0 x4_1).f0) : Int).toNat ((ji12) : Int).toNat)).size + ((⟨#[48, 49, 50, 51]⟩ : ByteArray).extract (((rd_T23 l0 x4_1).f1) : Int).toNat ((ji19) : Int).toNat).size ≤ 9223372036854775807) = true := decide_eq_true c22
                                      try have c22b2 : (9223372036854775807 < (((x3_2 ++ ((rd_T23 l0 x4_1).f2)) ++ (⟨#[47]⟩ : ByteArray)) ++ (t412.extract (((rd_T23 l0 x4_1).f0) : Int).toNat ((ji12) : Int).toNat)).size + ((⟨#[48, 49, 50, 51]⟩ : ByteArray).extract (((rd_T23 l0 x4_1).f1) : Int).toNat ((ji19) : Int).toNat).size) = False := eq_false (Nat.not_lt.2 c22)
                                      have c22b3 : x3_2.size + ((rd_T23 l0 x4_1).f2).size + 1 + (t412.extract (((rd_T23 l0 x4_1).f0) : Int).toNat ((ji12) : Int).toNat).size + ((⟨#[48, 49, 50, 51]⟩ : ByteArray).extract (((rd_T23 l0 x4_1).f1) : Int).toNat ((ji19) : Int).toNat).size ≤ 9223372036854775807 := by have h_ := c22; simp only [ByteArray.size_append] at h_; exact h_
                                      have c22b4 : (9223372036854775807 < x3_2.size + ((rd_T23 l0 x4_1).f2).size + 1 + (t412.extract (((rd_T23 l0 x4_1).f0) : Int).toNat ((ji12) : Int).toNat).size + ((⟨#[48, 49, 50, 51]⟩ : ByteArray).extract (((rd_T23 l0 x4_1).f1) : Int).toNat ((ji19) : Int).toNat).size) = False := eq_false (Nat.not_lt.2 c22b3)
                                      have c22b5 : decide (x3_2.size + ((rd_T23 l0 x4_1).f2).size + 1 + (t412.extract (((rd_T23 l0 x4_1).f0) : Int).toNat ((ji12) : Int).toNat).size + ((⟨#[48, 49, 50, 51]⟩ : ByteArray).extract (((rd_T23 l0 x4_1).f1) : Int).toNat ((ji19) : Int).toNat).size ≤ 9223372036854775807) = true := decide_eq_true c22b3
                                      replace c22b3 := eq_true c22b3
                                      try have c22b6 : (9223372036854775807 < (((x3_2 ++ ((rd_T23 l0 x4_1).f2)) ++ (⟨#[47]⟩ : ByteArray)) ++ (t412.extract (((rd_T23 l0 x4_1).f0) : Int).toNat ((ji12) : Int).toNat)).size + (((ji19) : Int).toNat - (((rd_T23 l0 x4_1).f1) : Int).toNat)) = False := eq_false (by have h_ := c22; (try simp only [ByteArray.size_append] at h_); (try simp only [ByteArray.size_extract] at h_); first | omega | (simp only [decide_eq_true_eq] at *; omega))
                                      try have c22b7 : (9223372036854775807 < x3_2.size + ((rd_T23 l0 x4_1).f2).size + 1 + (((ji12) : Int).toNat - (((rd_T23 l0 x4_1).f0) : Int).toNat) + (((ji19) : Int).toNat - (((rd_T23 l0 x4_1).f1) : Int).toNat)) = False := eq_false (by have h_ := of_eq_true c22b3; (try simp only [ByteArray.size_extract] at h_); first | omega | (simp only [decide_eq_true_eq] at *; omega))
                                      have H' := Aside0.mk H
                                      clear H
                                      have p410 : 0 ≤ (x4_1 : Int) := of_decide_eq_true (by first | (with_reducible assumption) | assumption)
                                      have q410 : x4_1 < (l0.length : Int) := of_decide_eq_true (by first | (with_reducible assumption) | assumption)
                                      obtain ⟨ad410, e410, hx410_0, hx410_1, hx410_2⟩ := at_T23 HR0.out x4_1 p410 q410
                                      cases e410
                                      replace hx410_0 := (HB.out.cell (World.block_lt_of_cell? w _ hx410_0)).trans hx410_0
                                      replace hx410_1 := (HB.out.cell (World.block_lt_of_cell? w _ hx410_1)).trans hx410_1
                                      replace hx410_2 := (HB.out.cell (World.block_lt_of_cell? w _ hx410_2)).trans hx410_2
                                      replace p410 := eq_true p410
                                      replace q410 := eq_true q410
                                      have p411 : 0 ≤ (x4_1 : Int) := of_decide_eq_true (by first | (with_reducible assumption) | assumption)
                                      have q411 : x4_1 < (l0.length : Int) := of_decide_eq_true (by first | (with_reducible assumption) | assumption)
                                      obtain ⟨ad411, e411, hx411_0, hx411_1, hx411_2⟩ := at_T23 HR0.out x4_1 p411 q411
                                      obtain rfl : ad410 = ad411 := (by injection e411)
                                      replace hx411_0 := (HB.out.cell (World.block_lt_of_cell? w _ hx411_0)).trans hx411_0
                                      replace hx411_1 := (HB.out.cell (World.block_lt_of_cell? w _ hx411_1)).trans hx411_1
                                      replace hx411_2 := (HB.out.cell (World.block_lt_of_cell? w _ hx411_2)).trans hx411_2
                                      replace p411 := eq_true p411
                                      replace q411 := eq_true q411
                                      go_wp2_with (first | (go_at_call 61; (with_reducible refine (ancepsref11_letters.calls  t412 _ A10.out).mono ?_); rintro e w' ⟨rfl, ⟨nd, rfl⟩⟩; (try first | exact ⟨rfl, _, World.drewN_drewN _ _ _⟩ | exact ⟨rfl, _, Eq.trans (World.drewN_drewN _ _ _) (congrArg (World.drewN _) (Nat.add_assoc _ _ _))⟩); have p413 : 0 ≤ (x4_1 : Int) := of_decide_eq_true (by first | (with_reducible assumption) | assumption); have q413 : x4_1 < (l0.length : Int) := of_decide_eq_true (by first | (with_reducible assumption) | assumption); obtain ⟨ad413, e413, hx413_0, hx413_1, hx413_2⟩ := at_T23 HR0.out x4_1 p413 q413; obtain rfl : ad410 = ad413 := (by injection e413); replace hx413_0 := (HB.out.cell (World.block_lt_of_cell? w _ hx413_0)).trans hx413_0; replace hx413_1 := (HB.out.cell (World.block_lt_of_cell? w _ hx413_1)).trans hx413_1; replace hx413_2 := (HB.out.cell (World.block_lt_of_cell? w _ hx413_2)).trans hx413_2; replace p413 := eq_true p413; replace q413 := eq_true q413) | (go_at_call 16; (with_reducible refine (ancepsref11_Nucleus.calls ((rd_T23 l0 x4_1).f0) ((rd_T23 l0 x4_1).f1) ((rd_T23 l0 x4_1).f2) true _ A16.out).mono ?_); rintro e w23 ⟨rfl, hb⟩; have n0_ := Aside0.mk (below_step (by repeat (first | (with_reducible first | exact HB.out | apply below_alloc | apply pw_below_drewN | apply below_drew1) | exact HB.out)) hb); clear HB; have HB := n0_; clear n0_; (try clear hb); (try clear hb2); (try clear hk); (try clear hi); have p415 : 0 ≤ (x4_1 : Int) := of_decide_eq_true (by first | (with_reducible assumption) | assumption); have q415 : x4_1 < (l0.length : Int) := of_decide_eq_true (by first | (with_reducible assumption) | assumption); obtain ⟨ad415, e415, hx415_0, hx415_1, hx415_2⟩ := at_T23 HR0.out x4_1 p415 q415; obtain rfl : ad410 = ad415 := (by injection e415); replace hx415_0 := (HB.out.cell (World.block_lt_of_cell? w _ hx415_0)).trans hx415_0; replace hx415_1 := (HB.out.cell (World.block_lt_of_cell? w _ hx415_1)).trans hx415_1; replace hx415_2 := (HB.out.cell (World.block_lt_of_cell? w _ hx415_2)).trans hx415_2; replace p415 := eq_true p415; replace q415 := eq_true q415; have p416 : 0 ≤ (x4_1 : Int) := of_decide_eq_true (by first | (with_reducible assumption) | assumption); have q416 : x4_1 < (l0.length : Int) := of_decide_eq_true (by first | (with_reducible assumption) | assumption); obtain ⟨ad416, e416, hx416_0, hx416_1, hx416_2⟩ := at_T23 HR0.out x4_1 p416 q416; obtain rfl : ad410 = ad416 := (by injection e416); replace hx416_0 := (HB.out.cell (World.block_lt_of_cell? w _ hx416_0)).trans hx416_0; replace hx416_1 := (HB.out.cell (World.block_lt_of_cell? w _ hx416_1)).trans hx416_1; replace hx416_2 := (HB.out.cell (World.block_lt_of_cell? w _ hx416_2)).trans hx416_2; replace p416 := eq_true p416; replace q416 := eq_true q416))
                                      repeat (go_quiet (first | (go_at_call 61; (with_reducible refine (ancepsref11_letters.calls  t412 _ A10.out).mono ?_); (try clear A10); rintro e w' ⟨rfl, ⟨nd, rfl⟩⟩; (try first | exact ⟨rfl, _, World.drewN_drewN _ _ _⟩ | exact ⟨rfl, _, Eq.trans (World.drewN_drewN _ _ _) (congrArg (World.drewN _) (Nat.add_assoc _ _ _))⟩); have p413 : 0 ≤ (x4_1 : Int) := of_decide_eq_true (by first | (with_reducible assumption) | assumption); have q413 : x4_1 < (l0.length : Int) := of_decide_eq_true (by first | (with_reducible assumption) | assumption); obtain ⟨ad413, e413, hx413_0, hx413_1, hx413_2⟩ := at_T23 HR0.out x4_1 p413 q413; obtain rfl : ad410 = ad413 := (by injection e413); replace hx413_0 := (HB.out.cell (World.block_lt_of_cell? w _ hx413_0)).trans hx413_0; replace hx413_1 := (HB.out.cell (World.block_lt_of_cell? w _ hx413_1)).trans hx413_1; replace hx413_2 := (HB.out.cell (World.block_lt_of_cell? w _ hx413_2)).trans hx413_2; replace p413 := eq_true p413; replace q413 := eq_true q413) | (go_at_call 16; (with_reducible refine (ancepsref11_Nucleus.calls ((rd_T23 l0 x4_1).f0) ((rd_T23 l0 x4_1).f1) ((rd_T23 l0 x4_1).f2) true _ A16.out).mono ?_); (try clear A16); rintro e w23 ⟨rfl, hb⟩; have n0_ := Aside0.mk (below_step (by repeat (first | (with_reducible first | exact HB.out | apply below_alloc | apply pw_below_drewN | apply below_drew1) | exact HB.out)) hb); clear HB; have HB := n0_; clear n0_; (try clear hb); (try clear hb2); (try clear hk); (try clear hi); have p415 : 0 ≤ (x4_1 : Int) := of_decide_eq_true (by first | (with_reducible assumption) | assumption); have q415 : x4_1 < (l0.length : Int) := of_decide_eq_true (by first | (with_reducible assumption) | assumption); obtain ⟨ad415, e415, hx415_0, hx415_1, hx415_2⟩ := at_T23 HR0.out x4_1 p415 q415; obtain rfl : ad410 = ad415 := (by injection e415); replace hx415_0 := (HB.out.cell (World.block_lt_of_cell? w _ hx415_0)).trans hx415_0; replace hx415_1 := (HB.out.cell (World.block_lt_of_cell? w _ hx415_1)).trans hx415_1; replace hx415_2 := (HB.out.cell (World.block_lt_of_cell? w _ hx415_2)).trans hx415_2; replace p415 := eq_true p415; replace q415 := eq_true q415; have p416 : 0 ≤ (x4_1 : Int) := of_decide_eq_true (by first | (with_reducible assumption) | assumption); have q416 : x4_1 < (l0.length : Int) := of_decide_eq_true (by first | (with_reducible assumption) | assumption); obtain ⟨ad416, e416, hx416_0, hx416_1, hx416_2⟩ := at_T23 HR0.out x4_1 p416 q416; obtain rfl : ad410 = ad416 := (by injection e416); replace hx416_0 := (HB.out.cell (World.block_lt_of_cell? w _ hx416_0)).trans hx416_0; replace hx416_1 := (HB.out.cell (World.block_lt_of_cell? w _ hx416_1)).trans hx416_1; replace hx416_2 := (HB.out.cell (World.block_lt_of_cell? w _ hx416_2)).trans hx416_2; replace p416 := eq_true p416; replace q416 := eq_true q416)); try go_wp2_with (first | (go_at_call 61; (with_reducible refine (ancepsref11_letters.calls  t412 _ A10.out).mono ?_); (try clear A10); rintro e w' ⟨rfl, ⟨nd, rfl⟩⟩; (try first | exact ⟨rfl, _, World.drewN_drewN _ _ _⟩ | exact ⟨rfl, _, Eq.trans (World.drewN_drewN _ _ _) (congrArg (World.drewN _) (Nat.add_assoc _ _ _))⟩); have p413 : 0 ≤ (x4_1 : Int) := of_decide_eq_true (by first | (with_reducible assumption) | assumption); have q413 : x4_1 < (l0.length : Int) := of_decide_eq_true (by first | (with_reducible assumption) | assumption); obtain ⟨ad413, e413, hx413_0, hx413_1, hx413_2⟩ := at_T23 HR0.out x4_1 p413 q413; obtain rfl : ad410 = ad413 := (by injection e413); replace hx413_0 := (HB.out.cell (World.block_lt_of_cell? w _ hx413_0)).trans hx413_0; replace hx413_1 := (HB.out.cell (World.block_lt_of_cell? w _ hx413_1)).trans hx413_1; replace hx413_2 := (HB.out.cell (World.block_lt_of_cell? w _ hx413_2)).trans hx413_2; replace p413 := eq_true p413; replace q413 := eq_true q413) | (go_at_call 16; (with_reducible refine (ancepsref11_Nucleus.calls ((rd_T23 l0 x4_1).f0) ((rd_T23 l0 x4_1).f1) ((rd_T23 l0 x4_1).f2) true _ A16.out).mono ?_); (try clear A16); rintro e w23 ⟨rfl, hb⟩; have n0_ := Aside0.mk (below_step (by repeat (first | (with_reducible first | exact HB.out | apply below_alloc | apply pw_below_drewN | apply below_drew1) | exact HB.out)) hb); clear HB; have HB := n0_; clear n0_; (try clear hb); (try clear hb2); (try clear hk); (try clear hi); have p415 : 0 ≤ (x4_1 : Int) := of_decide_eq_true (by first | (with_reducible assumption) | assumption); have q415 : x4_1 < (l0.length : Int) := of_decide_eq_true (by first | (with_reducible assumption) | assumption); obtain ⟨ad415, e415, hx415_0, hx415_1, hx415_2⟩ := at_T23 HR0.out x4_1 p415 q415; obtain rfl : ad410 = ad415 := (by injection e415); replace hx415_0 := (HB.out.cell (World.block_lt_of_cell? w _ hx415_0)).trans hx415_0; replace hx415_1 := (HB.out.cell (World.block_lt_of_cell? w _ hx415_1)).trans hx415_1; replace hx415_2 := (HB.out.cell (World.block_lt_of_cell? w _ hx415_2)).trans hx415_2; replace p415 := eq_true p415; replace q415 := eq_true q415; have p416 : 0 ≤ (x4_1 : Int) := of_decide_eq_true (by first | (with_reducible assumption) | assumption); have q416 : x4_1 < (l0.length : Int) := of_decide_eq_true (by first | (with_reducible assumption) | assumption); obtain ⟨ad416, e416, hx416_0, hx416_1, hx416_2⟩ := at_T23 HR0.out x4_1 p416 q416; obtain rfl : ad410 = ad416 := (by injection e416); replace hx416_0 := (HB.out.cell (World.block_lt_of_cell? w _ hx416_0)).trans hx416_0; replace hx416_1 := (HB.out.cell (World.block_lt_of_cell? w _ hx416_1)).trans hx416_1; replace hx416_2 := (HB.out.cell (World.block_lt_of_cell? w _ hx416_2)).trans hx416_2; replace p416 := eq_true p416; replace q416 := eq_true q416)))
                                      go_roundg kj2
                                      case measure => have := HK1.out; have := HJ2.out; omega
                                      case rel => exact ⟨((((x3_2 ++ ((rd_T23 l0 x4_1).f2)) ++ (⟨#[47]⟩ : ByteArray)) ++ (t412.extract (((rd_T23 l0 x4_1).f0) : Int).toNat ((ji12) : Int).toNat)) ++ ((⟨#[48, 49, 50, 51]⟩ : ByteArray).extract (((rd_T23 l0 x4_1).f1) : Int).toNat ((ji19) : Int).toNat)), (wrap64 (x4_1 + 1)), (by first | rfl | (simp; done) | (simp only [← hji12, ← hji19] <;> (first | rfl | simp)) | (simp [*]; done)), (by first | rfl | (simp; done) | (simp [*]; done)), H', ⟨by have := HK1.out; have := HJ2.out; omega⟩, ⟨by repeat (first | (with_reducible first | exact HB.out | apply below_alloc | apply pw_below_drewN | apply below_drew1) | exact HB.out)⟩⟩
                                    · rw [if_neg c22] at H
                                      exact absurd H (by simp)
                                  · rw [if_neg c21] at H
                                    exact absurd H (by simp)
                                · rw [if_neg c20] at H
                                  exact absurd H (by simp)
                              · rw [if_neg c18] at H
                                exact absurd H (by simp)
                            · replace c17 := Bool.eq_false_iff.mpr c17
                              subst c17
                              have H1 : (ancepsref11_Text.l0 kj2 l0 (((x3_2 ++ ((rd_T23 l0 x4_1).f2)) ++ (⟨#[47]⟩ : ByteArray)) ++ (t412.extract (((rd_T23 l0 x4_1).f0) : Int).toNat ((ji12) : Int).toNat)) (wrap64 (x4_1 + 1))) = some r := by rw [if_neg (show ¬ (false = true) by decide)] at H; exact H
                              clear H
                              have H := H1
                              clear H1
                              have H' := Aside0.mk H
                              clear H
                              have p410 : 0 ≤ (x4_1 : Int) := of_decide_eq_true (by first | (with_reducible assumption) | assumption)
                              have q410 : x4_1 < (l0.length : Int) := of_decide_eq_true (by first | (with_reducible assumption) | assumption)
                              obtain ⟨ad410, e410, hx410_0, hx410_1, hx410_2⟩ := at_T23 HR0.out x4_1 p410 q410
                              cases e410
                              replace hx410_0 := (HB.out.cell (World.block_lt_of_cell? w _ hx410_0)).trans hx410_0
                              replace hx410_1 := (HB.out.cell (World.block_lt_of_cell? w _ hx410_1)).trans hx410_1
                              replace hx410_2 := (HB.out.cell (World.block_lt_of_cell? w _ hx410_2)).trans hx410_2
                              replace p410 := eq_true p410
                              replace q410 := eq_true q410
                              have p411 : 0 ≤ (x4_1 : Int) := of_decide_eq_true (by first | (with_reducible assumption) | assumption)
                              have q411 : x4_1 < (l0.length : Int) := of_decide_eq_true (by first | (with_reducible assumption) | assumption)
                              obtain ⟨ad411, e411, hx411_0, hx411_1, hx411_2⟩ := at_T23 HR0.out x4_1 p411 q411
                              obtain rfl : ad410 = ad411 := (by injection e411)
                              replace hx411_0 := (HB.out.cell (World.block_lt_of_cell? w _ hx411_0)).trans hx411_0
                              replace hx411_1 := (HB.out.cell (World.block_lt_of_cell? w _ hx411_1)).trans hx411_1
                              replace hx411_2 := (HB.out.cell (World.block_lt_of_cell? w _ hx411_2)).trans hx411_2
                              replace p411 := eq_true p411
                              replace q411 := eq_true q411
                              go_wp2_with (first | (go_at_call 61; (with_reducible refine (ancepsref11_letters.calls  t412 _ A10.out).mono ?_); rintro e w' ⟨rfl, ⟨nd, rfl⟩⟩; (try first | exact ⟨rfl, _, World.drewN_drewN _ _ _⟩ | exact ⟨rfl, _, Eq.trans (World.drewN_drewN _ _ _) (congrArg (World.drewN _) (Nat.add_assoc _ _ _))⟩); have p413 : 0 ≤ (x4_1 : Int) := of_decide_eq_true (by first | (with_reducible assumption) | assumption); have q413 : x4_1 < (l0.length : Int) := of_decide_eq_true (by first | (with_reducible assumption) | assumption); obtain ⟨ad413, e413, hx413_0, hx413_1, hx413_2⟩ := at_T23 HR0.out x4_1 p413 q413; obtain rfl : ad410 = ad413 := (by injection e413); replace hx413_0 := (HB.out.cell (World.block_lt_of_cell? w _ hx413_0)).trans hx413_0; replace hx413_1 := (HB.out.cell (World.block_lt_of_cell? w _ hx413_1)).trans hx413_1; replace hx413_2 := (HB.out.cell (World.block_lt_of_cell? w _ hx413_2)).trans hx413_2; replace p413 := eq_true p413; replace q413 := eq_true q413) | (go_at_call 16; (with_reducible refine (ancepsref11_Nucleus.calls ((rd_T23 l0 x4_1).f0) ((rd_T23 l0 x4_1).f1) ((rd_T23 l0 x4_1).f2) false _ A16.out).mono ?_); rintro e w24 ⟨rfl, hb⟩; have n0_ := Aside0.mk (below_step (by repeat (first | (with_reducible first | exact HB.out | apply below_alloc | apply pw_below_drewN | apply below_drew1) | exact HB.out)) hb); clear HB; have HB := n0_; clear n0_; (try clear hb); (try clear hb2); (try clear hk); (try clear hi)))
                              repeat (go_quiet (first | (go_at_call 61; (with_reducible refine (ancepsref11_letters.calls  t412 _ A10.out).mono ?_); (try clear A10); rintro e w' ⟨rfl, ⟨nd, rfl⟩⟩; (try first | exact ⟨rfl, _, World.drewN_drewN _ _ _⟩ | exact ⟨rfl, _, Eq.trans (World.drewN_drewN _ _ _) (congrArg (World.drewN _) (Nat.add_assoc _ _ _))⟩); have p413 : 0 ≤ (x4_1 : Int) := of_decide_eq_true (by first | (with_reducible assumption) | assumption); have q413 : x4_1 < (l0.length : Int) := of_decide_eq_true (by first | (with_reducible assumption) | assumption); obtain ⟨ad413, e413, hx413_0, hx413_1, hx413_2⟩ := at_T23 HR0.out x4_1 p413 q413; obtain rfl : ad410 = ad413 := (by injection e413); replace hx413_0 := (HB.out.cell (World.block_lt_of_cell? w _ hx413_0)).trans hx413_0; replace hx413_1 := (HB.out.cell (World.block_lt_of_cell? w _ hx413_1)).trans hx413_1; replace hx413_2 := (HB.out.cell (World.block_lt_of_cell? w _ hx413_2)).trans hx413_2; replace p413 := eq_true p413; replace q413 := eq_true q413) | (go_at_call 16; (with_reducible refine (ancepsref11_Nucleus.calls ((rd_T23 l0 x4_1).f0) ((rd_T23 l0 x4_1).f1) ((rd_T23 l0 x4_1).f2) false _ A16.out).mono ?_); (try clear A16); rintro e w24 ⟨rfl, hb⟩; have n0_ := Aside0.mk (below_step (by repeat (first | (with_reducible first | exact HB.out | apply below_alloc | apply pw_below_drewN | apply below_drew1) | exact HB.out)) hb); clear HB; have HB := n0_; clear n0_; (try clear hb); (try clear hb2); (try clear hk); (try clear hi))); try go_wp2_with (first | (go_at_call 61; (with_reducible refine (ancepsref11_letters.calls  t412 _ A10.out).mono ?_); (try clear A10); rintro e w' ⟨rfl, ⟨nd, rfl⟩⟩; (try first | exact ⟨rfl, _, World.drewN_drewN _ _ _⟩ | exact ⟨rfl, _, Eq.trans (World.drewN_drewN _ _ _) (congrArg (World.drewN _) (Nat.add_assoc _ _ _))⟩); have p413 : 0 ≤ (x4_1 : Int) := of_decide_eq_true (by first | (with_reducible assumption) | assumption); have q413 : x4_1 < (l0.length : Int) := of_decide_eq_true (by first | (with_reducible assumption) | assumption); obtain ⟨ad413, e413, hx413_0, hx413_1, hx413_2⟩ := at_T23 HR0.out x4_1 p413 q413; obtain rfl : ad410 = ad413 := (by injection e413); replace hx413_0 := (HB.out.cell (World.block_lt_of_cell? w _ hx413_0)).trans hx413_0; replace hx413_1 := (HB.out.cell (World.block_lt_of_cell? w _ hx413_1)).trans hx413_1; replace hx413_2 := (HB.out.cell (World.block_lt_of_cell? w _ hx413_2)).trans hx413_2; replace p413 := eq_true p413; replace q413 := eq_true q413) | (go_at_call 16; (with_reducible refine (ancepsref11_Nucleus.calls ((rd_T23 l0 x4_1).f0) ((rd_T23 l0 x4_1).f1) ((rd_T23 l0 x4_1).f2) false _ A16.out).mono ?_); (try clear A16); rintro e w24 ⟨rfl, hb⟩; have n0_ := Aside0.mk (below_step (by repeat (first | (with_reducible first | exact HB.out | apply below_alloc | apply pw_below_drewN | apply below_drew1) | exact HB.out)) hb); clear HB; have HB := n0_; clear n0_; (try clear hb); (try clear hb2); (try clear hk); (try clear hi))))
                              go_roundg kj2
                              case measure => have := HK1.out; have := HJ2.out; omega
                              case rel => exact ⟨(((x3_2 ++ ((rd_T23 l0 x4_1).f2)) ++ (⟨#[47]⟩ : ByteArray)) ++ (t412.extract (((rd_T23 l0 x4_1).f0) : Int).toNat ((ji12) : Int).toNat)), (wrap64 (x4_1 + 1)), (by first | rfl | (simp; done) | (simp only [← hji12] <;> (first | rfl | simp)) | (simp [*]; done)), (by first | rfl | (simp; done) | (simp [*]; done)), H', ⟨by have := HK1.out; have := HJ2.out; omega⟩, ⟨by repeat (first | (with_reducible first | exact HB.out | apply below_alloc | apply pw_below_drewN | apply below_drew1) | exact HB.out)⟩⟩
                          · rw [if_neg c15] at H
                            exact absurd H (by simp)
                        · rw [if_neg c14] at H
                          exact absurd H (by simp)
                      · rw [if_neg c13] at H
                        exact absurd H (by simp)
                    · rw [if_neg c11] at H
                      exact absurd H (by simp)
                  · rw [if_neg c9] at H
                    exact absurd H (by simp)
                · rw [if_neg c8] at H
                  exact absurd H (by simp)
              · rw [if_neg c7] at H
                exact absurd H (by simp)
            · rw [if_neg c6] at H
              exact absurd H (by simp)
      · rw [if_neg c2] at H
        have c2b0 : decide (x4_1 < (l0.length : Int)) = false := decide_eq_false c2
        clear c2
        obtain rfl := Option.some.inj H
        go_wp2
        repeat (go_quiet (fail); try go_wp2)
        go_ret
        exact ⟨by first | rfl | (simp [errW_none, errW_some] <;> rfl) | (simp [*, errW_none, errW_some] <;> rfl), by repeat (first | (with_reducible first | exact HB.out | apply below_alloc | apply pw_below_drewN | apply below_drew1) | exact HB.out)⟩

/-! ### ancepsref11_Format: function 33 -/
def ancepsref11_Format.l0 : Nat → List (S23) → Int → Option (ByteArray × Int)
  | 0, _, _ => none
  | k + 1, x0, x4 => if x4 < (x0.length : Int) then (if 0 ≤ x4 then ((ancepsref11_Valid.f k ((rd_T23 x0 x4).f0) ((rd_T23 x0 x4).f1) ((rd_T23 x0 x4).f2)).bind fun t418 => (if t418 = 0 then (ancepsref11_Format.l0 k x0 (wrap64 (x4 + 1))) else (some ((⟨#[]⟩ : ByteArray), t418)))) else (none)) else ((ancepsref11_Text.f k x0).bind fun t419 => (some (t419, 0)))
def ancepsref11_Format.f (k : Nat) (l0 : List (S23)) : Option (ByteArray × Int) := if (l0.length : Int) > 200 then (some ((⟨#[]⟩ : ByteArray), 3)) else (ancepsref11_Format.l0 k l0 0)
theorem ancepsref11_Format.mono_l : ∀ k, (∀ y0 y1, LeO (ancepsref11_Format.l0 k y0 y1) (ancepsref11_Format.l0 (k + 1) y0 y1))
  | 0 => fun _ _ r h => by simp [ancepsref11_Format.l0] at h
  | k + 1 => by
    have ih0 := ancepsref11_Format.mono_l k
    · intro y0 y1
      unfold ancepsref11_Format.l0
      repeat' first
      | (with_reducible exact ih0 _ _)
      | (with_reducible exact ancepsref11_Text.mono _ _)
      | (with_reducible exact ancepsref11_Valid.mono _ _ _ _)
      | (with_reducible exact LeO.refl _)
      | (with_reducible exact LeO.none _)
      | (with_reducible refine LeO.ite ?_ ?_)
      | (with_reducible refine LeO.bind ?_ (fun _ => ?_))
      | exact ih0 _ _
      | exact ancepsref11_Text.mono _ _
      | exact ancepsref11_Valid.mono _ _ _ _
      | exact LeO.none _
      | refine LeO.ite ?_ ?_
      | refine LeO.bind ?_ (fun _ => ?_)
theorem ancepsref11_Format.mono : ∀ a0 k, LeO (ancepsref11_Format.f k a0) (ancepsref11_Format.f (k + 1) a0) := by
  intro a0 k
  have ih0 := ancepsref11_Format.mono_l k
  unfold ancepsref11_Format.f
  repeat' first
      | (with_reducible exact ih0 _ _)
      | (with_reducible exact ancepsref11_Text.mono _ _)
      | (with_reducible exact ancepsref11_Valid.mono _ _ _ _)
      | (with_reducible exact LeO.refl _)
      | (with_reducible exact LeO.none _)
      | (with_reducible refine LeO.ite ?_ ?_)
      | (with_reducible refine LeO.bind ?_ (fun _ => ?_))
      | exact ih0 _ _
      | exact ancepsref11_Text.mono _ _
      | exact ancepsref11_Valid.mono _ _ _ _
      | exact LeO.none _
      | refine LeO.ite ?_ ?_
      | refine LeO.bind ?_ (fun _ => ?_)
set_option maxHeartbeats 8000000 in
set_option maxRecDepth 100000 in
theorem ancepsref11_Format.calls (k : Nat) (A0 : Option Addr) (c0 : Nat) (l0 : List (S23)) (r1 : ByteArray) (r2 : Int) (w : World) (hr0 : Kd.C k23 w A0 l0.length l0) (hc0 : l0.length ≤ c0) (h : ancepsref11_Format.f k l0 = some (r1, r2)) :
    Calls Tryd.prog 33 #[.slice A0 l0.length c0] w fun e w' => e = .returned (.tuple #[.string r1, .int .i64 r2]) ∧ Below w.heap.size w w' := by
  have hu23 := Tryd.underlying23
  have HR0 := Aside0.mk hr0
  have HC0 := Aside0.mk hc0
  clear hr0 hc0
  have HB := Aside0.mk (Below.refl w.heap.size w)
  have H : (if (l0.length : Int) > 200 then (some ((⟨#[]⟩ : ByteArray), 3)) else (ancepsref11_Format.l0 k l0 0)) = some (r1, r2) := h
  clear h
  by_cases c2 : (l0.length : Int) > 200
  · rw [if_pos c2] at H
    have c2b0 : decide (200 < (l0.length : Int)) = true := decide_eq_true c2
    have c2b1 : decide (200 < l0.length) = true := decide_eq_true (by omega)
    clear c2
    simp only [Option.some.injEq, Prod.mk.injEq] at H
    obtain ⟨rfl, rfl⟩ := H
    go_enter Tryd.func33, Tryd.ntmps33
    go_wp2
    go_ret2
    exact ⟨by first | rfl | (simp [errW_none, errW_some] <;> rfl) | (simp [*, errW_none, errW_some] <;> rfl), by repeat (first | (with_reducible first | exact HB.out | apply below_alloc | apply pw_below_drewN | apply below_drew1) | exact HB.out)⟩
  · rw [if_neg c2] at H
    have c2b0 : decide (200 < (l0.length : Int)) = false := decide_eq_false c2
    have c2b1 : decide (200 < l0.length) = false := decide_eq_false (by omega)
    clear c2
    have H' := Aside0.mk H
    clear H
    go_enter Tryd.func33, Tryd.ntmps33
    go_wp2
    go_loopg [4] k (fun kq v4 w' => ∃ (x4_1 : Int), v4 = .int .i64 x4_1 ∧ Aside0 (ancepsref11_Format.l0 kq l0 x4_1 = some (r1, r2)) ∧ Aside0 (kq ≤ k) ∧ Aside0 (Below w.heap.size w w'))
    case atStart => exact ⟨(0), (by first | rfl | (simp; done) | (simp [*]; done)), H', ⟨Nat.le_refl _⟩, ⟨by repeat (first | (with_reducible first | exact HB.out | apply below_alloc | apply pw_below_drewN | apply below_drew1) | exact HB.out)⟩⟩
    case round =>
      clear H'
      try clear c2
      try clear c2b0
      try clear c2b1
      try clear p2
      obtain ⟨x4_1, rfl, HA, HK1, HB⟩ := hrel
      cases gk with
      | zero => exact absurd HA.out (by simp [ancepsref11_Format.l0])
      | succ k1 =>
        have H := HA.out
        clear HA
        simp only [ancepsref11_Format.l0] at H
        by_cases c3 : x4_1 < (l0.length : Int)
        · rw [if_pos c3] at H
          have c3b0 : decide (x4_1 < (l0.length : Int)) = true := decide_eq_true c3
          clear c3
          by_cases c4 : 0 ≤ x4_1
          · rw [if_pos c4] at H
            have c4b0 : decide (0 ≤ x4_1) = true := decide_eq_true c4
            clear c4
            replace H := Option.bind_eq_some_iff.mp H
            obtain ⟨t418, A50, H⟩ := H
            replace H : (if t418 = 0 then (ancepsref11_Format.l0 k1 l0 (wrap64 (x4_1 + 1))) else (some ((⟨#[]⟩ : ByteArray), t418))) = some (r1, r2) := H
            have A5 := Aside0.mk A50
            clear A50
            by_cases c6 : t418 = 0
            · rw [if_pos c6] at H
              have c6b0 : (t418 == 0) = true := beq_iff_eq.mpr c6
              have c6b1 : (t418 != 0) = false := bne_eq_false_iff_eq.mpr c6
              clear c6
              have H' := Aside0.mk H
              clear H
              have p417 : 0 ≤ (x4_1 : Int) := of_decide_eq_true (by first | (with_reducible assumption) | assumption)
              have q417 : x4_1 < (l0.length : Int) := of_decide_eq_true (by first | (with_reducible assumption) | assumption)
              obtain ⟨ad417, e417, hx417_0, hx417_1, hx417_2⟩ := at_T23 HR0.out x4_1 p417 q417
              cases e417
              replace hx417_0 := (HB.out.cell (World.block_lt_of_cell? w _ hx417_0)).trans hx417_0
              replace hx417_1 := (HB.out.cell (World.block_lt_of_cell? w _ hx417_1)).trans hx417_1
              replace hx417_2 := (HB.out.cell (World.block_lt_of_cell? w _ hx417_2)).trans hx417_2
              replace p417 := eq_true p417
              replace q417 := eq_true q417
              go_wp2_with (first | ((with_reducible refine gate_callee (f := 14) rfl ?_); refine goesL_ (some 19) rfl rfl Tryd.func14 (by kernel_rfl) rfl #[.agg #[.int .i64 ((rd_T23 l0 x4_1).f0), .int .i64 ((rd_T23 l0 x4_1).f1), .string ((rd_T23 l0 x4_1).f2)]] rfl (by (try simp only [List.map_toArray, List.map_cons, List.map_nil]); first | done | rfl | (simp only [List.length_drop, List.length_take]; rfl)) ?_; (with_reducible refine (ancepsref11_Valid.calls k1 ((rd_T23 l0 x4_1).f0) ((rd_T23 l0 x4_1).f1) ((rd_T23 l0 x4_1).f2) t418 _ A5.out).mono ?_); rintro e w7 ⟨rfl, hb⟩; refine ⟨_, rfl, ?_⟩; have n0_ := Aside0.mk (below_step (by repeat (first | (with_reducible first | exact HB.out | apply below_alloc | apply pw_below_drewN | apply below_drew1) | exact HB.out)) hb); clear HB; have HB := n0_; clear n0_; (try clear hb); (try clear hb2); (try clear hk); (try clear hi)))
              go_roundg k1
              case measure => have := HK1.out; omega
              case rel => exact ⟨(wrap64 (x4_1 + 1)), (by first | rfl | (simp; done) | (simp [*]; done)), H', ⟨by have := HK1.out; omega⟩, ⟨by repeat (first | (with_reducible first | exact HB.out | apply below_alloc | apply pw_below_drewN | apply below_drew1) | exact HB.out)⟩⟩
            · rw [if_neg c6] at H
              have c6b0 : (t418 == 0) = false := beq_eq_false_iff_ne.mpr c6
              have c6b1 : (t418 != 0) = true := bne_iff_ne.mpr c6
              simp only [Option.some.injEq, Prod.mk.injEq] at H
              obtain ⟨rfl, rfl⟩ := H
              have p417 : 0 ≤ (x4_1 : Int) := of_decide_eq_true (by first | (with_reducible assumption) | assumption)
              have q417 : x4_1 < (l0.length : Int) := of_decide_eq_true (by first | (with_reducible assumption) | assumption)
              obtain ⟨ad417, e417, hx417_0, hx417_1, hx417_2⟩ := at_T23 HR0.out x4_1 p417 q417
              cases e417
              replace hx417_0 := (HB.out.cell (World.block_lt_of_cell? w _ hx417_0)).trans hx417_0
              replace hx417_1 := (HB.out.cell (World.block_lt_of_cell? w _ hx417_1)).trans hx417_1
              replace hx417_2 := (HB.out.cell (World.block_lt_of_cell? w _ hx417_2)).trans hx417_2
              replace p417 := eq_true p417
              replace q417 := eq_true q417
              go_wp2_with (first | ((with_reducible refine gate_callee (f := 14) rfl ?_); refine goesL_ (some 19) rfl rfl Tryd.func14 (by kernel_rfl) rfl #[.agg #[.int .i64 ((rd_T23 l0 x4_1).f0), .int .i64 ((rd_T23 l0 x4_1).f1), .string ((rd_T23 l0 x4_1).f2)]] rfl (by (try simp only [List.map_toArray, List.map_cons, List.map_nil]); first | done | rfl | (simp only [List.length_drop, List.length_take]; rfl)) ?_; (with_reducible refine (ancepsref11_Valid.calls k1 ((rd_T23 l0 x4_1).f0) ((rd_T23 l0 x4_1).f1) ((rd_T23 l0 x4_1).f2) t418 _ A5.out).mono ?_); rintro e w8 ⟨rfl, hb⟩; refine ⟨_, rfl, ?_⟩; have n0_ := Aside0.mk (below_step (by repeat (first | (with_reducible first | exact HB.out | apply below_alloc | apply pw_below_drewN | apply below_drew1) | exact HB.out)) hb); clear HB; have HB := n0_; clear n0_; (try clear hb); (try clear hb2); (try clear hk); (try clear hi)))
              go_ret2
              exact ⟨by first | rfl | (simp [errW_none, errW_some] <;> rfl) | (simp [*, errW_none, errW_some] <;> rfl), by repeat (first | (with_reducible first | exact HB.out | apply below_alloc | apply pw_below_drewN | apply below_drew1) | exact HB.out)⟩
          · rw [if_neg c4] at H
            exact absurd H (by simp)
        · rw [if_neg c3] at H
          have c3b0 : decide (x4_1 < (l0.length : Int)) = false := decide_eq_false c3
          clear c3
          replace H := Option.bind_eq_some_iff.mp H
          obtain ⟨t419, A90, H⟩ := H
          replace H : (some (t419, 0)) = some (r1, r2) := H
          have A9 := Aside0.mk A90
          clear A90
          simp only [Option.some.injEq, Prod.mk.injEq] at H
          obtain ⟨rfl, rfl⟩ := H
          go_wp2_with (first | ((with_reducible refine gate_callee (f := 52) rfl ?_); refine goesL_ (some 24) rfl rfl Tryd.func52 (by kernel_rfl) rfl #[.slice A0 l0.length c0] rfl (by (try simp only [List.map_toArray, List.map_cons, List.map_nil]); first | done | rfl | (simp only [List.length_drop, List.length_take]; rfl)) ?_; (with_reducible refine (ancepsref11_Text.calls k1 _ _ l0 t419 _ ?side1 ?side2 A9.out).mono ?_); (case side1 => repeat (first | exact (Kd.C_below HR0.out HB.out) | (with_reducible refine Kd.C_alloc ?_ _) | (with_reducible refine Kd.C_drewN ?_ _) | (with_reducible refine Kd.C_drew ?_))); (case side2 => exact HC0.out); rintro e w10 ⟨rfl, hb⟩; refine ⟨_, rfl, ?_⟩; have n0_ := Aside0.mk (below_step (by repeat (first | (with_reducible first | exact HB.out | apply below_alloc | apply pw_below_drewN | apply below_drew1) | exact HB.out)) hb); clear HB; have HB := n0_; clear n0_; (try clear hb); (try clear hb2); (try clear hk); (try clear hi)))
          go_ret2
          exact ⟨by first | rfl | (simp [errW_none, errW_some] <;> rfl) | (simp [*, errW_none, errW_some] <;> rfl), by repeat (first | (with_reducible first | exact HB.out | apply below_alloc | apply pw_below_drewN | apply below_drew1) | exact HB.out)⟩

/-! ### ancepslaw11_SoundFormat: function 9 -/
mutual
def ancepslaw11_SoundFormat.j0 : Nat → List (S23) → Bool → Option (Bool)
  | 0, _, _ => none
  | k + 1, x0, x15 => if x15 = true then ((ancepslaw11_awake.f k).bind fun t422 => (some t422)) else ((api_Sound_22.f x0).bind fun t423 => ((sound_Format.f k t423).bind fun bt426 => ((ancepsref11_Format.f k x0).bind fun bt428 => (if bt426.1.toList = bt428.1.toList then (if bt426.2 = bt428.2 then (ancepslaw11_SoundFormat.j1 k x0 bt426.1 bt426.2 bt428.1 bt428.2 (bt426.2 != 0)) else (ancepslaw11_SoundFormat.j1 k x0 bt426.1 bt426.2 bt428.1 bt428.2 true)) else (ancepslaw11_SoundFormat.j1 k x0 bt426.1 bt426.2 bt428.1 bt428.2 true)))))
def ancepslaw11_SoundFormat.j1 : Nat → List (S23) → ByteArray → Int → ByteArray → Int → Bool → Option (Bool)
  | 0, _, _, _, _, _, _ => none
  | k + 1, x0, x3, x4, x5, x6, x39 => if x39 = true then (if x3.toList = x5.toList then (some (x4 == x6)) else (some false)) else ((sound_Parse.f k x3).bind fun bt430 => (if bt430.2 = 0 then ((ancepsref11_Same.f k x0 bt430.1).bind fun t434 => (some t434)) else (some false)))
end
def ancepslaw11_SoundFormat.f (k : Nat) (l0 : List (S23)) : Option (Bool) := (ancepslaw11_awake.f k).bind fun t420 => (if t420 = true then ((ancepsref11_Few.f k l0 210).bind fun t421 => (ancepslaw11_SoundFormat.j0 k l0 (!t421))) else (ancepslaw11_SoundFormat.j0 k l0 true))
theorem ancepslaw11_SoundFormat.mono_l : ∀ k, (∀ y0 y1, LeO (ancepslaw11_SoundFormat.j0 k y0 y1) (ancepslaw11_SoundFormat.j0 (k + 1) y0 y1)) ∧ (∀ y0 y1 y2 y3 y4 y5, LeO (ancepslaw11_SoundFormat.j1 k y0 y1 y2 y3 y4 y5) (ancepslaw11_SoundFormat.j1 (k + 1) y0 y1 y2 y3 y4 y5))
  | 0 => ⟨fun _ _ r h => by simp [ancepslaw11_SoundFormat.j0] at h, fun _ _ _ _ _ _ r h => by simp [ancepslaw11_SoundFormat.j1] at h⟩
  | k + 1 => by
    obtain ⟨ih0, ih1⟩ := ancepslaw11_SoundFormat.mono_l k
    refine ⟨?_, ?_⟩
    · intro y0 y1
      unfold ancepslaw11_SoundFormat.j0
      repeat' first
      | (with_reducible exact ih0 _ _)
      | (with_reducible exact ih1 _ _ _ _ _ _)
      | (with_reducible exact ancepslaw11_awake.mono _)
      | (with_reducible exact ancepsref11_Few.mono _ _ _)
      | (with_reducible exact ancepsref11_Format.mono _ _)
      | (with_reducible exact ancepsref11_Same.mono _ _ _)
      | (with_reducible exact sound_Format.mono _ _)
      | (with_reducible exact sound_Parse.mono _ _)
      | (with_reducible exact LeO.refl _)
      | (with_reducible exact LeO.none _)
      | (with_reducible refine LeO.ite ?_ ?_)
      | (with_reducible refine LeO.bind ?_ (fun _ => ?_))
      | exact ih0 _ _
      | exact ih1 _ _ _ _ _ _
      | exact ancepslaw11_awake.mono _
      | exact ancepsref11_Few.mono _ _ _
      | exact ancepsref11_Format.mono _ _
      | exact ancepsref11_Same.mono _ _ _
      | exact sound_Format.mono _ _
      | exact sound_Parse.mono _ _
      | exact LeO.none _
      | refine LeO.ite ?_ ?_
      | refine LeO.bind ?_ (fun _ => ?_)
    · intro y0 y1 y2 y3 y4 y5
      unfold ancepslaw11_SoundFormat.j1
      repeat' first
      | (with_reducible exact ih0 _ _)
      | (with_reducible exact ih1 _ _ _ _ _ _)
      | (with_reducible exact ancepslaw11_awake.mono _)
      | (with_reducible exact ancepsref11_Few.mono _ _ _)
      | (with_reducible exact ancepsref11_Format.mono _ _)
      | (with_reducible exact ancepsref11_Same.mono _ _ _)
      | (with_reducible exact sound_Format.mono _ _)
      | (with_reducible exact sound_Parse.mono _ _)
      | (with_reducible exact LeO.refl _)
      | (with_reducible exact LeO.none _)
      | (with_reducible refine LeO.ite ?_ ?_)
      | (with_reducible refine LeO.bind ?_ (fun _ => ?_))
      | exact ih0 _ _
      | exact ih1 _ _ _ _ _ _
      | exact ancepslaw11_awake.mono _
      | exact ancepsref11_Few.mono _ _ _
      | exact ancepsref11_Format.mono _ _
      | exact ancepsref11_Same.mono _ _ _
      | exact sound_Format.mono _ _
      | exact sound_Parse.mono _ _
      | exact LeO.none _
      | refine LeO.ite ?_ ?_
      | refine LeO.bind ?_ (fun _ => ?_)
theorem ancepslaw11_SoundFormat.mono : ∀ a0 k, LeO (ancepslaw11_SoundFormat.f k a0) (ancepslaw11_SoundFormat.f (k + 1) a0) := by
  intro a0 k
  obtain ⟨ih0, ih1⟩ := ancepslaw11_SoundFormat.mono_l k
  unfold ancepslaw11_SoundFormat.f
  repeat' first
      | (with_reducible exact ih0 _ _)
      | (with_reducible exact ih1 _ _ _ _ _ _)
      | (with_reducible exact ancepslaw11_awake.mono _)
      | (with_reducible exact ancepsref11_Few.mono _ _ _)
      | (with_reducible exact ancepsref11_Format.mono _ _)
      | (with_reducible exact ancepsref11_Same.mono _ _ _)
      | (with_reducible exact sound_Format.mono _ _)
      | (with_reducible exact sound_Parse.mono _ _)
      | (with_reducible exact LeO.refl _)
      | (with_reducible exact LeO.none _)
      | (with_reducible refine LeO.ite ?_ ?_)
      | (with_reducible refine LeO.bind ?_ (fun _ => ?_))
      | exact ih0 _ _
      | exact ih1 _ _ _ _ _ _
      | exact ancepslaw11_awake.mono _
      | exact ancepsref11_Few.mono _ _ _
      | exact ancepsref11_Format.mono _ _
      | exact ancepsref11_Same.mono _ _ _
      | exact sound_Format.mono _ _
      | exact sound_Parse.mono _ _
      | exact LeO.none _
      | refine LeO.ite ?_ ?_
      | refine LeO.bind ?_ (fun _ => ?_)
set_option maxHeartbeats 8000000 in
set_option maxRecDepth 100000 in
theorem ancepslaw11_SoundFormat.calls (k : Nat) (A0 : Option Addr) (c0 : Nat) (l0 : List (S23)) (r : Bool) (w : World) (hr0 : Kd.C k23 w A0 l0.length l0) (hc0 : l0.length ≤ c0) (h : ancepslaw11_SoundFormat.f k l0 = some r) :
    Calls Tryd.prog 9 #[.slice A0 l0.length c0] w fun e w' => e = .returned (.bool r) ∧ Below w.heap.size w w' := by
  have HR0 := Aside0.mk hr0
  have HC0 := Aside0.mk hc0
  clear hr0 hc0
  have HB := Aside0.mk (Below.refl w.heap.size w)
  have H : ((ancepslaw11_awake.f k).bind fun t420 => (if t420 = true then ((ancepsref11_Few.f k l0 210).bind fun t421 => (ancepslaw11_SoundFormat.j0 k l0 (!t421))) else (ancepslaw11_SoundFormat.j0 k l0 true))) = some r := h
  clear h
  have HC2 := Aside0.mk H
  clear H
  go_enter Tryd.func9, Tryd.ntmps9
  go_upto_region 1 with (fail)
  go_cut [15] (fun v15 wc => ∃ (kq : Nat) (x15_1 : Bool), v15 = .bool x15_1 ∧ Aside0 (ancepslaw11_SoundFormat.j0 kq l0 x15_1 = some r) ∧ Aside0 (kq ≤ k) ∧ Aside0 (Below w.heap.size w wc))
  case first =>
    have H := HC2.out
    clear HC2
    replace H := Option.bind_eq_some_iff.mp H
    obtain ⟨t420, A30, H⟩ := H
    replace H : (if t420 = true then ((ancepsref11_Few.f k l0 210).bind fun t421 => (ancepslaw11_SoundFormat.j0 k l0 (!t421))) else (ancepslaw11_SoundFormat.j0 k l0 true)) = some r := H
    have A3 := Aside0.mk A30
    clear A30
    by_cases c4 : t420 = true
    · subst c4
      have H1 : ((ancepsref11_Few.f k l0 210).bind fun t421 => (ancepslaw11_SoundFormat.j0 k l0 (!t421))) = some r := by rw [if_pos rfl] at H; exact H
      clear H
      have H := H1
      clear H1
      replace H := Option.bind_eq_some_iff.mp H
      obtain ⟨t421, A50, H⟩ := H
      replace H : (ancepslaw11_SoundFormat.j0 k l0 (!t421)) = some r := H
      have A5 := Aside0.mk A50
      clear A50
      have H' := Aside0.mk H
      clear H
      go_wp2_with (first | ((with_reducible refine gate_callee (f := 11) rfl ?_); refine goesL_ (some 9) rfl rfl Tryd.func11 (by kernel_rfl) rfl #[] rfl (by (try simp only [List.map_toArray, List.map_cons, List.map_nil]); first | done | rfl | (simp only [List.length_drop, List.length_take]; rfl)) ?_; (with_reducible refine (ancepslaw11_awake.calls k  true _ A3.out).mono ?_); rintro e w6 ⟨rfl, hb⟩; refine ⟨_, rfl, ?_⟩; have n0_ := Aside0.mk (below_step (by repeat (first | (with_reducible first | exact HB.out | apply below_alloc | apply pw_below_drewN | apply below_drew1) | exact HB.out)) hb); clear HB; have HB := n0_; clear n0_; (try clear hb); (try clear hb2); (try clear hk); (try clear hi)) | (go_at_call 12; (with_reducible refine (ancepsref11_Few.calls k _ _ l0 210 t421 _ ?side1 ?side2 A5.out).mono ?_); (case side1 => repeat (first | exact (Kd.C_below HR0.out HB.out) | (with_reducible refine Kd.C_alloc ?_ _) | (with_reducible refine Kd.C_drewN ?_ _) | (with_reducible refine Kd.C_drew ?_))); (case side2 => exact HC0.out); rintro e w' ⟨rfl, ⟨nd, rfl⟩⟩))
      go_meet
      case rel => exact ⟨_, (!t421), (by first | rfl | (simp; done) | (simp [*]; done)), H', ⟨by first | omega | exact Nat.le_refl _⟩, ⟨by repeat (first | (with_reducible first | exact HB.out | apply below_alloc | apply pw_below_drewN | apply below_drew1) | exact HB.out)⟩⟩
    · replace c4 := Bool.eq_false_iff.mpr c4
      subst c4
      have H1 : (ancepslaw11_SoundFormat.j0 k l0 true) = some r := by rw [if_neg (show ¬ (false = true) by decide)] at H; exact H
      clear H
      have H := H1
      clear H1
      have H' := Aside0.mk H
      clear H
      go_wp2_with (first | ((with_reducible refine gate_callee (f := 11) rfl ?_); refine goesL_ (some 9) rfl rfl Tryd.func11 (by kernel_rfl) rfl #[] rfl (by (try simp only [List.map_toArray, List.map_cons, List.map_nil]); first | done | rfl | (simp only [List.length_drop, List.length_take]; rfl)) ?_; (with_reducible refine (ancepslaw11_awake.calls k  false _ A3.out).mono ?_); rintro e w7 ⟨rfl, hb⟩; refine ⟨_, rfl, ?_⟩; have n0_ := Aside0.mk (below_step (by repeat (first | (with_reducible first | exact HB.out | apply below_alloc | apply pw_below_drewN | apply below_drew1) | exact HB.out)) hb); clear HB; have HB := n0_; clear n0_; (try clear hb); (try clear hb2); (try clear hk); (try clear hi)))
      go_meet
      case rel => exact ⟨_, (true), (by first | rfl | (simp; done) | (simp [*]; done)), H', ⟨by first | omega | exact Nat.le_refl _⟩, ⟨by repeat (first | (with_reducible first | exact HB.out | apply below_alloc | apply pw_below_drewN | apply below_drew1) | exact HB.out)⟩⟩
  case rest =>
    clear HC2
    try clear c1
    try clear p2
    try clear c4
    obtain ⟨kq, x15_1, rfl, HA, HJ1, HB⟩ := hcut
    cases kq with
    | zero => exact absurd HA.out (by simp [ancepslaw11_SoundFormat.j0])
    | succ kj1 =>
      have H := HA.out
      clear HA
      simp only [ancepslaw11_SoundFormat.j0] at H
      by_cases c8 : x15_1 = true
      · subst c8
        have H1 : ((ancepslaw11_awake.f kj1).bind fun t422 => (some t422)) = some r := by rw [if_pos rfl] at H; exact H
        clear H
        have H := H1
        clear H1
        replace H := Option.bind_eq_some_iff.mp H
        obtain ⟨t422, A90, H⟩ := H
        replace H : (some t422) = some r := H
        have A9 := Aside0.mk A90
        clear A90
        obtain rfl := Option.some.inj H
        go_wp2_with (first | ((with_reducible refine gate_callee (f := 11) rfl ?_); refine goesL_ (some 16) rfl rfl Tryd.func11 (by kernel_rfl) rfl #[] rfl (by (try simp only [List.map_toArray, List.map_cons, List.map_nil]); first | done | rfl | (simp only [List.length_drop, List.length_take]; rfl)) ?_; (with_reducible refine (ancepslaw11_awake.calls kj1  t422 _ A9.out).mono ?_); rintro e w10 ⟨rfl, hb⟩; refine ⟨_, rfl, ?_⟩; have n0_ := Aside0.mk (below_step (by repeat (first | (with_reducible first | exact HB.out | apply below_alloc | apply pw_below_drewN | apply below_drew1) | exact HB.out)) hb); clear HB; have HB := n0_; clear n0_; (try clear hb); (try clear hb2); (try clear hk); (try clear hi)))
        go_ret
        exact ⟨by first | rfl | (simp [errW_none, errW_some] <;> rfl) | (simp [*, errW_none, errW_some] <;> rfl), by repeat (first | (with_reducible first | exact HB.out | apply below_alloc | apply pw_below_drewN | apply below_drew1) | exact HB.out)⟩
      · replace c8 := Bool.eq_false_iff.mpr c8
        subst c8
        have H1 : ((api_Sound_22.f l0).bind fun t423 => ((sound_Format.f kj1 t423).bind fun bt426 => ((ancepsref11_Format.f kj1 l0).bind fun bt428 => (if bt426.1.toList = bt428.1.toList then (if bt426.2 = bt428.2 then (ancepslaw11_SoundFormat.j1 kj1 l0 bt426.1 bt426.2 bt428.1 bt428.2 (bt426.2 != 0)) else (ancepslaw11_SoundFormat.j1 kj1 l0 bt426.1 bt426.2 bt428.1 bt428.2 true)) else (ancepslaw11_SoundFormat.j1 kj1 l0 bt426.1 bt426.2 bt428.1 bt428.2 true))))) = some r := by rw [if_neg (show ¬ (false = true) by decide)] at H; exact H
        clear H
        have H := H1
        clear H1
        replace H := Option.bind_eq_some_iff.mp H
        obtain ⟨t423, A110, H⟩ := H
        replace H : ((sound_Format.f kj1 t423).bind fun bt426 => ((ancepsref11_Format.f kj1 l0).bind fun bt428 => (if bt426.1.toList = bt428.1.toList then (if bt426.2 = bt428.2 then (ancepslaw11_SoundFormat.j1 kj1 l0 bt426.1 bt426.2 bt428.1 bt428.2 (bt426.2 != 0)) else (ancepslaw11_SoundFormat.j1 kj1 l0 bt426.1 bt426.2 bt428.1 bt428.2 true)) else (ancepslaw11_SoundFormat.j1 kj1 l0 bt426.1 bt426.2 bt428.1 bt428.2 true)))) = some r := H
        have A11 := Aside0.mk A110
        clear A110
        replace H := Option.bind_eq_some_iff.mp H
        obtain ⟨⟨t426, t427⟩, A120, H⟩ := H
        replace H : ((ancepsref11_Format.f kj1 l0).bind fun bt428 => (if t426.toList = bt428.1.toList then (if t427 = bt428.2 then (ancepslaw11_SoundFormat.j1 kj1 l0 t426 t427 bt428.1 bt428.2 (t427 != 0)) else (ancepslaw11_SoundFormat.j1 kj1 l0 t426 t427 bt428.1 bt428.2 true)) else (ancepslaw11_SoundFormat.j1 kj1 l0 t426 t427 bt428.1 bt428.2 true))) = some r := H
        have A12 := Aside0.mk A120
        clear A120
        replace H := Option.bind_eq_some_iff.mp H
        obtain ⟨⟨t428, t429⟩, A130, H⟩ := H
        replace H : (if t426.toList = t428.toList then (if t427 = t429 then (ancepslaw11_SoundFormat.j1 kj1 l0 t426 t427 t428 t429 (t427 != 0)) else (ancepslaw11_SoundFormat.j1 kj1 l0 t426 t427 t428 t429 true)) else (ancepslaw11_SoundFormat.j1 kj1 l0 t426 t427 t428 t429 true)) = some r := H
        have A13 := Aside0.mk A130
        clear A130
        have HC14 := Aside0.mk H
        clear H
        go_upto_region 5 with (first | ((with_reducible refine gate_callee (f := 22) rfl ?_); refine goesL_ (some 19) rfl rfl Tryd.func22 (by kernel_rfl) rfl #[.slice A0 l0.length c0] rfl (by (try simp only [List.map_toArray, List.map_cons, List.map_nil]); first | done | rfl | (simp only [List.length_drop, List.length_take]; rfl)) ?_; (with_reducible refine (api_Sound_22.calls _ _ l0 t423 _ ?side1 ?side2 A11.out).mono ?_); (case side1 => repeat (first | exact (Kd.C_below HR0.out HB.out) | (with_reducible refine Kd.C_alloc ?_ _) | (with_reducible refine Kd.C_drewN ?_ _) | (with_reducible refine Kd.C_drew ?_))); (case side2 => exact HC0.out); rintro e w15 ⟨v424, rfl, ho0, hb⟩; refine ⟨_, rfl, ?_⟩; have n0_ := Aside0.mk (Kd.R_lower ho0 (below_size (by repeat (first | (with_reducible first | exact HB.out | apply below_alloc | apply pw_below_drewN | apply below_drew1) | exact HB.out)))); have n1_ := Aside0.mk (below_step (by repeat (first | (with_reducible first | exact HB.out | apply below_alloc | apply pw_below_drewN | apply below_drew1) | exact HB.out)) hb); clear HB; have HO425 := n0_; have HB := n1_; clear n0_ n1_; (try clear hb); (try clear hb2); (try clear hk); (try clear hi); (try clear ho0); obtain ⟨Ao16, co16, eo16⟩ := Kd.R_slice HO425.out; subst eo16) | ((with_reducible refine gate_callee (f := 32) rfl ?_); refine goesL_ (some 20) rfl rfl Tryd.func32 (by kernel_rfl) rfl #[.slice Ao16 t423.length co16] rfl (by (try simp only [List.map_toArray, List.map_cons, List.map_nil]); first | done | rfl | (simp only [List.length_drop, List.length_take]; rfl)) ?_; (with_reducible refine (sound_Format.calls kj1 _ _ t423 t426 t427 _ ?side1 ?side2 A12.out).mono ?_); (case side1 => repeat (first | exact (Kd.R_reads' HO425.out).2.2 | (with_reducible refine Kd.C_alloc ?_ _) | (with_reducible refine Kd.C_drewN ?_ _) | (with_reducible refine Kd.C_drew ?_))); (case side2 => exact (Kd.R_reads' HO425.out).2.1); rintro e w17 ⟨rfl, hb⟩; refine ⟨_, rfl, ?_⟩; have n0_ := Aside0.mk (Kd.R_below (by (with_reducible repeat (first | apply Kd.R_alloc | apply Kd.R_drewN | apply Kd.R_drew)); exact HO425.out) hb); have n1_ := Aside0.mk (below_step (by repeat (first | (with_reducible first | exact HB.out | apply below_alloc | apply pw_below_drewN | apply below_drew1) | exact HB.out)) hb); clear HO425; clear HB; have HO425 := n0_; have HB := n1_; clear n0_ n1_; (try clear hb); (try clear hb2); (try clear hk); (try clear hi)) | ((with_reducible refine gate_callee (f := 33) rfl ?_); refine goesL_ (some 25) rfl rfl Tryd.func33 (by kernel_rfl) rfl #[.slice A0 l0.length c0] rfl (by (try simp only [List.map_toArray, List.map_cons, List.map_nil]); first | done | rfl | (simp only [List.length_drop, List.length_take]; rfl)) ?_; (with_reducible refine (ancepsref11_Format.calls kj1 _ _ l0 t428 t429 _ ?side1 ?side2 A13.out).mono ?_); (case side1 => repeat (first | exact (Kd.C_below HR0.out HB.out) | (with_reducible refine Kd.C_alloc ?_ _) | (with_reducible refine Kd.C_drewN ?_ _) | (with_reducible refine Kd.C_drew ?_))); (case side2 => exact HC0.out); rintro e w18 ⟨rfl, hb⟩; refine ⟨_, rfl, ?_⟩; have n0_ := Aside0.mk (Kd.R_below (by (with_reducible repeat (first | apply Kd.R_alloc | apply Kd.R_drewN | apply Kd.R_drew)); exact HO425.out) hb); have n1_ := Aside0.mk (below_step (by repeat (first | (with_reducible first | exact HB.out | apply below_alloc | apply pw_below_drewN | apply below_drew1) | exact HB.out)) hb); clear HO425; clear HB; have HO425 := n0_; have HB := n1_; clear n0_ n1_; (try clear hb); (try clear hb2); (try clear hk); (try clear hi)))
        (try simp only [Act.put, List.setIfInBounds_toArray, List.set_cons_zero, List.set_cons_succ])
        go_cut [39] (fun v39 wc => ∃ (kq : Nat) (x39_13 : Bool), v39 = .bool x39_13 ∧ Aside0 (ancepslaw11_SoundFormat.j1 kq l0 t426 t427 t428 t429 x39_13 = some r) ∧ Aside0 (kq ≤ kj1) ∧ Aside0 (Below w.heap.size w wc))
        case first =>
          have H := HC14.out
          clear HC14
          by_cases c19 : t426.toList = t428.toList
          · rw [if_pos c19] at H
            have c19b0 : (t426.toList == t428.toList) = true := beq_iff_eq.mpr c19
            have c19b1 : (t426.toList != t428.toList) = false := bne_eq_false_iff_eq.mpr c19
            clear c19
            (first | rw [c19b0] | (simp only [i64_w, i32_w]; rw [c19b0]) | skip)
            by_cases c20 : t427 = t429
            · rw [if_pos c20] at H
              have c20b0 : (t427 == t429) = true := beq_iff_eq.mpr c20
              have c20b1 : (t427 != t429) = false := bne_eq_false_iff_eq.mpr c20
              clear c20
              have H' := Aside0.mk H
              clear H
              go_wp2
              go_meet
              case rel => exact ⟨_, ((t427 != 0)), (by first | rfl | (simp; done) | (simp [*]; done)), H', ⟨by have := HJ1.out; first | omega | exact Nat.le_refl _⟩, ⟨by repeat (first | (with_reducible first | exact HB.out | apply below_alloc | apply pw_below_drewN | apply below_drew1) | exact HB.out)⟩⟩
            · rw [if_neg c20] at H
              have c20b0 : (t427 == t429) = false := beq_eq_false_iff_ne.mpr c20
              have c20b1 : (t427 != t429) = true := bne_iff_ne.mpr c20
              have H' := Aside0.mk H
              clear H
              go_wp2
              go_meet
              case rel => exact ⟨_, (true), (by first | rfl | (simp; done) | (simp [*]; done)), H', ⟨by have := HJ1.out; first | omega | exact Nat.le_refl _⟩, ⟨by repeat (first | (with_reducible first | exact HB.out | apply below_alloc | apply pw_below_drewN | apply below_drew1) | exact HB.out)⟩⟩
          · rw [if_neg c19] at H
            have c19b0 : (t426.toList == t428.toList) = false := beq_eq_false_iff_ne.mpr c19
            have c19b1 : (t426.toList != t428.toList) = true := bne_iff_ne.mpr c19
            (first | rw [c19b0] | (simp only [i64_w, i32_w]; rw [c19b0]) | skip)
            have H' := Aside0.mk H
            clear H
            go_wp2
            go_meet
            case rel => exact ⟨_, (true), (by first | rfl | (simp; done) | (simp [*]; done)), H', ⟨by have := HJ1.out; first | omega | exact Nat.le_refl _⟩, ⟨by repeat (first | (with_reducible first | exact HB.out | apply below_alloc | apply pw_below_drewN | apply below_drew1) | exact HB.out)⟩⟩
        case rest =>
          clear HC14
          try clear c1
          try clear c2
          try clear p2
          try clear c3
          try clear c4
          try clear c8
          try clear c9
          try clear c11
          try clear c19
          try clear c19b0
          try clear c19b1
          try clear c20
          try clear c20b0
          try clear c20b1
          try clear p2
          obtain ⟨kq, x39_13, rfl, HA, HJ13, HB⟩ := hcut
          cases kq with
          | zero => exact absurd HA.out (by simp [ancepslaw11_SoundFormat.j1])
          | succ kj13 =>
            have H := HA.out
            clear HA
            simp only [ancepslaw11_SoundFormat.j1] at H
            by_cases c21 : x39_13 = true
            · subst c21
              have H1 : (if t426.toList = t428.toList then (some (t427 == t429)) else (some false)) = some r := by rw [if_pos rfl] at H; exact H
              clear H
              have H := H1
              clear H1
              by_cases c22 : t426.toList = t428.toList
              · rw [if_pos c22] at H
                have c22b0 : (t426.toList == t428.toList) = true := beq_iff_eq.mpr c22
                have c22b1 : (t426.toList != t428.toList) = false := bne_eq_false_iff_eq.mpr c22
                clear c22
                obtain rfl := Option.some.inj H
                go_wp2
                go_ret
                exact ⟨by first | rfl | (simp [errW_none, errW_some] <;> rfl) | (simp [*, errW_none, errW_some] <;> rfl), by repeat (first | (with_reducible first | exact HB.out | apply below_alloc | apply pw_below_drewN | apply below_drew1) | exact HB.out)⟩
              · rw [if_neg c22] at H
                have c22b0 : (t426.toList == t428.toList) = false := beq_eq_false_iff_ne.mpr c22
                have c22b1 : (t426.toList != t428.toList) = true := bne_iff_ne.mpr c22
                obtain rfl := Option.some.inj H
                go_wp2
                go_ret
                exact ⟨by first | rfl | (simp [errW_none, errW_some] <;> rfl) | (simp [*, errW_none, errW_some] <;> rfl), by repeat (first | (with_reducible first | exact HB.out | apply below_alloc | apply pw_below_drewN | apply below_drew1) | exact HB.out)⟩
            · replace c21 := Bool.eq_false_iff.mpr c21
              subst c21
              have H1 : ((sound_Parse.f kj13 t426).bind fun bt430 => (if bt430.2 = 0 then ((ancepsref11_Same.f kj13 l0 bt430.1).bind fun t434 => (some t434)) else (some false))) = some r := by rw [if_neg (show ¬ (false = true) by decide)] at H; exact H
              clear H
              have H := H1
              clear H1
              replace H := Option.bind_eq_some_iff.mp H
              obtain ⟨⟨t430, t431⟩, A230, H⟩ := H
              replace H : (if t431 = 0 then ((ancepsref11_Same.f kj13 l0 t430).bind fun t434 => (some t434)) else (some false)) = some r := H
              have A23 := Aside0.mk A230
              clear A230
              by_cases c24 : t431 = 0
              · rw [if_pos c24] at H
                have c24b0 : (t431 == 0) = true := beq_iff_eq.mpr c24
                have c24b1 : (t431 != 0) = false := bne_eq_false_iff_eq.mpr c24
                clear c24
                replace H := Option.bind_eq_some_iff.mp H
                obtain ⟨t434, A250, H⟩ := H
                replace H : (some t434) = some r := H
                have A25 := Aside0.mk A250
                clear A250
                obtain rfl := Option.some.inj H
                go_wp2_with (first | ((with_reducible refine gate_callee (f := 30) rfl ?_); refine goesL_ (some 50) rfl rfl Tryd.func30 (by kernel_rfl) rfl #[.string t426] rfl (by (try simp only [List.map_toArray, List.map_cons, List.map_nil]); first | done | rfl | (simp only [List.length_drop, List.length_take]; rfl)) ?_; (with_reducible refine (sound_Parse.calls kj13 t426 t430 t431 _ A23.out).mono ?_); rintro e w26 ⟨v432, rfl, ho0, hb⟩; refine ⟨_, rfl, ?_⟩; have n0_ := Aside0.mk (Kd.R_lower ho0 (below_size (by repeat (first | (with_reducible first | exact HB.out | apply below_alloc | apply pw_below_drewN | apply below_drew1) | exact HB.out)))); have n1_ := Aside0.mk (below_step (by repeat (first | (with_reducible first | exact HB.out | apply below_alloc | apply pw_below_drewN | apply below_drew1) | exact HB.out)) hb); clear HB; have HO433 := n0_; have HB := n1_; clear n0_ n1_; (try clear hb); (try clear hb2); (try clear hk); (try clear hi); (try clear ho0); obtain ⟨Ao27, co27, eo27⟩ := Kd.R_slice HO433.out; subst eo27) | (go_at_call 21; (with_reducible refine (ancepsref11_Same.calls kj13 _ _ l0 _ _ t430 t434 _ ?side1 ?side2 ?side3 ?side4 A25.out).mono ?_); (case side1 => repeat (first | exact (Kd.C_below HR0.out HB.out) | (with_reducible refine Kd.C_alloc ?_ _) | (with_reducible refine Kd.C_drewN ?_ _) | (with_reducible refine Kd.C_drew ?_))); (case side2 => exact HC0.out); (case side3 => repeat (first | exact (Kd.R_reads' HO433.out).2.2 | (with_reducible refine Kd.C_alloc ?_ _) | (with_reducible refine Kd.C_drewN ?_ _) | (with_reducible refine Kd.C_drew ?_))); (case side4 => exact (Kd.R_reads' HO433.out).2.1); rintro e w28 ⟨rfl, hb⟩; have n0_ := Aside0.mk (Kd.R_below (by (with_reducible repeat (first | apply Kd.R_alloc | apply Kd.R_drewN | apply Kd.R_drew)); exact HO433.out) hb); have n1_ := Aside0.mk (below_step (by repeat (first | (with_reducible first | exact HB.out | apply below_alloc | apply pw_below_drewN | apply below_drew1) | exact HB.out)) hb); clear HO433; clear HB; have HO433 := n0_; have HB := n1_; clear n0_ n1_; (try clear hb); (try clear hb2); (try clear hk); (try clear hi)))
                go_ret
                exact ⟨by first | rfl | (simp [errW_none, errW_some] <;> rfl) | (simp [*, errW_none, errW_some] <;> rfl), by repeat (first | (with_reducible first | exact HB.out | apply below_alloc | apply pw_below_drewN | apply below_drew1) | exact HB.out)⟩
              · rw [if_neg c24] at H
                have c24b0 : (t431 == 0) = false := beq_eq_false_iff_ne.mpr c24
                have c24b1 : (t431 != 0) = true := bne_iff_ne.mpr c24
                obtain rfl := Option.some.inj H
                go_wp2_with (first | ((with_reducible refine gate_callee (f := 30) rfl ?_); refine goesL_ (some 50) rfl rfl Tryd.func30 (by kernel_rfl) rfl #[.string t426] rfl (by (try simp only [List.map_toArray, List.map_cons, List.map_nil]); first | done | rfl | (simp only [List.length_drop, List.length_take]; rfl)) ?_; (with_reducible refine (sound_Parse.calls kj13 t426 t430 t431 _ A23.out).mono ?_); rintro e w29 ⟨v432, rfl, ho0, hb⟩; refine ⟨_, rfl, ?_⟩; have n0_ := Aside0.mk (Kd.R_lower ho0 (below_size (by repeat (first | (with_reducible first | exact HB.out | apply below_alloc | apply pw_below_drewN | apply below_drew1) | exact HB.out)))); have n1_ := Aside0.mk (below_step (by repeat (first | (with_reducible first | exact HB.out | apply below_alloc | apply pw_below_drewN | apply below_drew1) | exact HB.out)) hb); clear HB; have HO433 := n0_; have HB := n1_; clear n0_ n1_; (try clear hb); (try clear hb2); (try clear hk); (try clear hi); (try clear ho0)))
                go_ret
                exact ⟨by first | rfl | (simp [errW_none, errW_some] <;> rfl) | (simp [*, errW_none, errW_some] <;> rfl), by repeat (first | (with_reducible first | exact HB.out | apply below_alloc | apply pw_below_drewN | apply below_drew1) | exact HB.out)⟩

/-- THE ONE PURE STATEMENT of ancepslaw11_SoundFormat: yours. -/
def ancepslaw11_SoundFormat.Pure : Prop := ∀ (l0 : List (S23)), l0.length ≤ maxLen → l0.length * 32 ≤ 140737488351232 → (∀ x ∈ l0, (Lit.int .i64 x.f0).wf = true ∧ (Lit.int .i64 x.f1).wf = true ∧ x.f2.size ≤ 140737488351232) → ∃ k, ancepslaw11_SoundFormat.f k l0 = some true
theorem ancepslaw11_SoundFormat.walk (P : ancepslaw11_SoundFormat.Pure) (a0 : Option Addr) (cap0 : Nat) (l0 : List (S23)) (w : World) (hr0 : Kd.C k23 w a0 l0.length l0) (hc0 : l0.length ≤ cap0) (hm0 : l0.length ≤ maxLen) (y0 : l0.length * 32 ≤ 140737488351232) (hw0 : ∀ x ∈ l0, (Lit.int .i64 x.f0).wf = true ∧ (Lit.int .i64 x.f1).wf = true ∧ x.f2.size ≤ 140737488351232) :
    Calls Tryd.prog 9 #[.slice a0 l0.length cap0] w fun e w' => e = .returned (.bool true) ∧ Below w.heap.size w w' := by
  obtain ⟨k, h⟩ := P l0 hm0 y0 hw0
  refine (ancepslaw11_SoundFormat.calls k _ _ l0 true w hr0 hc0 h).mono ?_
  rintro e w' ⟨rfl, hd⟩
  exact ⟨rfl, hd⟩

end Go.Proofs.YtnjiniegpjfemaaDoor.X
