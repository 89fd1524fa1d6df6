-- halved indents
-- printed by this session's xprint.py: out of the translation, by the kit's print with additions; Lean checks it
import Derived.Test.YtnnonjjmlbemfaaWN
import Derived.Test.YtnnonjjmlbemfaaWShare
import Derived.Test.YtnnonjjmlbemfaaWRepsOne
import Derived.Test.YtnnonjjmlbemfaaWGuard
import Derived.Test.YtnnonjjmlbemfaaX0
import Derived.Test.YtnnonjjmlbemfaaX10
import Derived.Test.YtnnonjjmlbemfaaX15
import Derived.Test.YtnnonjjmlbemfaaX16
import Derived.Test.YtnnonjjmlbemfaaX26
namespace Go.Proofs.Ytnnonjjmlbemfaa.X
open Go.RowKit Go.Proofs.YtnnonjjmlbemfaaW.PrintWords Go.Proofs.YtnnonjjmlbemfaaW.PrintLast Go.Proofs.YtnnonjjmlbemfaaW.PrintMore
attribute [local go_sem] max2_int min2_int max_two min_two max_three min_three max_four min_four isSome_setCell binOp_gtr_str binOp_leq_str   -- for this text's walks alone
set_option linter.unusedVariables false
set_option linter.unusedSimpArgs false

/-! ### ancepsref45_Count: function 36 -/
mutual
def ancepsref45_Count.l0 : Nat → ByteArray → ByteArray → Int → List (List Int) → List (List Int) → Option (Int × Int)
 | 0, _, _, _, _, _ => none
 | k + 1, x0, x1, x9, x24, x28 => if x9 ≥ 0 then (if 0 ≤ (wrap64 ((x1.size : Int) + 1)) then (if (wrap64 ((x1.size : Int) + 1) : Int).toNat ≤ 35184372088832 then (if 0 ≤ x9 then (if x9 < (x28.length : Int) then (ancepsref45_Count.l1 k x0 x1 x9 (x1.size : Int) x24 (x28.set (x9 : Int).toNat (List.replicate (wrap64 ((x1.size : Int) + 1) : Int).toNat 0))) else (none)) else (none)) else (none)) else (none)) else (if 0 < (x28.length : Int) then (if 0 < ((rd_L4 x28 0).length : Int) then (if (rd (rd_L4 x28 0) 0) > 4611686018427387904 then (some (0, 3)) else (some (rd (rd_L4 x28 0) 0, 0))) else (none)) else (none))
def ancepsref45_Count.l1 : Nat → ByteArray → ByteArray → Int → Int → List (List Int) → List (List Int) → Option (Int × Int)
 | 0, _, _, _, _, _, _ => none
 | k + 1, x0, x1, x9, x10, x24, x28 => if x10 ≥ 0 then (if x9 = (x0.size : Int) then (ancepsref45_Count.j2 k x0 x1 x24 x28 x9 x10 (x10 == (x1.size : Int))) else (ancepsref45_Count.j2 k x0 x1 x24 x28 x9 x10 false)) else (ancepsref45_Count.l0 k x0 x1 (wrap64 (x9 - 1)) x24 x28)
def ancepsref45_Count.j2 : Nat → ByteArray → ByteArray → List (List Int) → List (List Int) → Int → Int → Bool → Option (Int × Int)
 | 0, _, _, _, _, _, _, _ => none
 | k + 1, x0, x1, x7, x8, x9, x10, x57 => if x57 = true then (if 0 ≤ x9 then (if x9 < (x8.length : Int) then (if 0 ≤ x10 then (if x10 < ((rd_L4 x8 x9).length : Int) then (ancepsref45_Count.j3 k x0 x1 x7 (x8.set (x9 : Int).toNat ((rd_L4 x8 x9).set (x10 : Int).toNat 1)) x9 x10) else (none)) else (none)) else (none)) else (none)) else (ancepsref45_Count.j3 k x0 x1 x7 x8 x9 x10)
def ancepsref45_Count.j3 : Nat → ByteArray → ByteArray → List (List Int) → List (List Int) → Int → Int → Option (Int × Int)
 | 0, _, _, _, _, _, _ => none
 | k + 1, x0, x1, x7, x8, x9, x10 => ancepsref45_Count.l2 k x0 x1 x7 x8 x9 x10 0
def ancepsref45_Count.l2 : Nat → ByteArray → ByteArray → List (List Int) → List (List Int) → Int → Int → Int → Option (Int × Int)
 | 0, _, _, _, _, _, _, _ => none
 | k + 1, x0, x1, x7, x8, x9, x10, x11 => if x11 ≤ 4 then ((ancepsref45_Step.f k x0 x1 x9 x10 x11).bind fun bt496 => (if bt496.2.2.2 = true then (if 0 ≤ x9 then (if x9 < (x7.length : Int) then (if 0 ≤ x10 then (if x10 < ((rd_L2 x7 x9).length : Int) then (if 0 ≤ bt496.1 then (if bt496.1 < (x7.length : Int) then (if 0 ≤ bt496.2.1 then (if bt496.2.1 < ((rd_L2 x7 bt496.1).length : Int) then (if (rd (rd_L2 x7 x9) x10) = (wrap64 (bt496.2.2.1 + (rd (rd_L2 x7 bt496.1) bt496.2.1))) then (if x9 < (x8.length : Int) then (if x10 < ((rd_L4 x8 x9).length : Int) then (if bt496.1 < (x8.length : Int) then (if bt496.2.1 < ((rd_L4 x8 bt496.1).length : Int) then ((ancepsref45_capped.f (rd (rd_L4 x8 x9) x10) (rd (rd_L4 x8 bt496.1) bt496.2.1)).bind fun t509 => (ancepsref45_Count.l2 k x0 x1 x7 (x8.set (x9 : Int).toNat ((rd_L4 x8 x9).set (x10 : Int).toNat t509)) x9 x10 (wrap64 (x11 + 1)))) else (none)) else (none)) else (none)) else (none)) else (ancepsref45_Count.l2 k x0 x1 x7 x8 x9 x10 (wrap64 (x11 + 1)))) else (none)) else (none)) else (none)) else (none)) else (none)) else (none)) else (none)) else (none)) else (ancepsref45_Count.l2 k x0 x1 x7 x8 x9 x10 (wrap64 (x11 + 1))))) else (ancepsref45_Count.l1 k x0 x1 x9 (wrap64 (x10 - 1)) x7 x8)
end
def ancepsref45_Count.f (k : Nat) (a0 : ByteArray) (a1 : ByteArray) : Option (Int × Int) := (ancepsref45_Given.f k a0 a1).bind fun t477 => (if t477 = 0 then ((ancepsref45_table.f k a0 a1).bind fun t478 => (if 0 ≤ (wrap64 ((a0.size : Int) + 1)) then (if (wrap64 ((a0.size : Int) + 1) : Int).toNat ≤ 11728124029610 then (ancepsref45_Count.l0 k a0 a1 (a0.size : Int) t478 (List.replicate (wrap64 ((a0.size : Int) + 1) : Int).toNat [])) else (none)) else (none))) else (some (0, t477)))
theorem ancepsref45_Count.mono_l : ∀ k, (∀ y0 y1 y2 y3 y4, LeO (ancepsref45_Count.l0 k y0 y1 y2 y3 y4) (ancepsref45_Count.l0 (k + 1) y0 y1 y2 y3 y4)) ∧ (∀ y0 y1 y2 y3 y4 y5, LeO (ancepsref45_Count.l1 k y0 y1 y2 y3 y4 y5) (ancepsref45_Count.l1 (k + 1) y0 y1 y2 y3 y4 y5)) ∧ (∀ y0 y1 y2 y3 y4 y5 y6, LeO (ancepsref45_Count.j2 k y0 y1 y2 y3 y4 y5 y6) (ancepsref45_Count.j2 (k + 1) y0 y1 y2 y3 y4 y5 y6)) ∧ (∀ y0 y1 y2 y3 y4 y5, LeO (ancepsref45_Count.j3 k y0 y1 y2 y3 y4 y5) (ancepsref45_Count.j3 (k + 1) y0 y1 y2 y3 y4 y5)) ∧ (∀ y0 y1 y2 y3 y4 y5 y6, LeO (ancepsref45_Count.l2 k y0 y1 y2 y3 y4 y5 y6) (ancepsref45_Count.l2 (k + 1) y0 y1 y2 y3 y4 y5 y6))
 | 0 => ⟨fun _ _ _ _ _ r h => by simp [ancepsref45_Count.l0] at h, fun _ _ _ _ _ _ r h => by simp [ancepsref45_Count.l1] at h, fun _ _ _ _ _ _ _ r h => by simp [ancepsref45_Count.j2] at h, fun _ _ _ _ _ _ r h => by simp [ancepsref45_Count.j3] at h, fun _ _ _ _ _ _ _ r h => by simp [ancepsref45_Count.l2] at h⟩
 | k + 1 => by
  obtain ⟨ih0, ih1, ih2, ih3, ih4⟩ := ancepsref45_Count.mono_l k
  refine ⟨?_, ?_, ?_, ?_, ?_⟩
  ·intro y0 y1 y2 y3 y4
   unfold ancepsref45_Count.l0
   repeat' first
   | (with_reducible exact ih0 _ _ _ _ _)
   | (with_reducible exact ih1 _ _ _ _ _ _)
   | (with_reducible exact ih2 _ _ _ _ _ _ _)
   | (with_reducible exact ih3 _ _ _ _ _ _)
   | (with_reducible exact ih4 _ _ _ _ _ _ _)
   | (with_reducible exact ancepsref45_Given.mono _ _ _)
   | (with_reducible exact ancepsref45_Step.mono _ _ _ _ _ _)
   | (with_reducible exact ancepsref45_table.mono _ _ _)
   | (with_reducible exact LeO.refl _)
   | (with_reducible exact LeO.none _)
   | (with_reducible refine LeO.ite ?_ ?_)
   | (with_reducible refine LeO.bind ?_ (fun _ => ?_))
   | exact ih0 _ _ _ _ _
   | exact ih1 _ _ _ _ _ _
   | exact ih2 _ _ _ _ _ _ _
   | exact ih3 _ _ _ _ _ _
   | exact ih4 _ _ _ _ _ _ _
   | exact ancepsref45_Given.mono _ _ _
   | exact ancepsref45_Step.mono _ _ _ _ _ _
   | exact ancepsref45_table.mono _ _ _
   | exact LeO.none _
   | refine LeO.ite ?_ ?_
   | refine LeO.bind ?_ (fun _ => ?_)
  ·intro y0 y1 y2 y3 y4 y5
   unfold ancepsref45_Count.l1
   repeat' first
   | (with_reducible exact ih0 _ _ _ _ _)
   | (with_reducible exact ih1 _ _ _ _ _ _)
   | (with_reducible exact ih2 _ _ _ _ _ _ _)
   | (with_reducible exact ih3 _ _ _ _ _ _)
   | (with_reducible exact ih4 _ _ _ _ _ _ _)
   | (with_reducible exact ancepsref45_Given.mono _ _ _)
   | (with_reducible exact ancepsref45_Step.mono _ _ _ _ _ _)
   | (with_reducible exact ancepsref45_table.mono _ _ _)
   | (with_reducible exact LeO.refl _)
   | (with_reducible exact LeO.none _)
   | (with_reducible refine LeO.ite ?_ ?_)
   | (with_reducible refine LeO.bind ?_ (fun _ => ?_))
   | exact ih0 _ _ _ _ _
   | exact ih1 _ _ _ _ _ _
   | exact ih2 _ _ _ _ _ _ _
   | exact ih3 _ _ _ _ _ _
   | exact ih4 _ _ _ _ _ _ _
   | exact ancepsref45_Given.mono _ _ _
   | exact ancepsref45_Step.mono _ _ _ _ _ _
   | exact ancepsref45_table.mono _ _ _
   | exact LeO.none _
   | refine LeO.ite ?_ ?_
   | refine LeO.bind ?_ (fun _ => ?_)
  ·intro y0 y1 y2 y3 y4 y5 y6
   unfold ancepsref45_Count.j2
   repeat' first
   | (with_reducible exact ih0 _ _ _ _ _)
   | (with_reducible exact ih1 _ _ _ _ _ _)
   | (with_reducible exact ih2 _ _ _ _ _ _ _)
   | (with_reducible exact ih3 _ _ _ _ _ _)
   | (with_reducible exact ih4 _ _ _ _ _ _ _)
   | (with_reducible exact ancepsref45_Given.mono _ _ _)
   | (with_reducible exact ancepsref45_Step.mono _ _ _ _ _ _)
   | (with_reducible exact ancepsref45_table.mono _ _ _)
   | (with_reducible exact LeO.refl _)
   | (with_reducible exact LeO.none _)
   | (with_reducible refine LeO.ite ?_ ?_)
   | (with_reducible refine LeO.bind ?_ (fun _ => ?_))
   | exact ih0 _ _ _ _ _
   | exact ih1 _ _ _ _ _ _
   | exact ih2 _ _ _ _ _ _ _
   | exact ih3 _ _ _ _ _ _
   | exact ih4 _ _ _ _ _ _ _
   | exact ancepsref45_Given.mono _ _ _
   | exact ancepsref45_Step.mono _ _ _ _ _ _
   | exact ancepsref45_table.mono _ _ _
   | exact LeO.none _
   | refine LeO.ite ?_ ?_
   | refine LeO.bind ?_ (fun _ => ?_)
  ·intro y0 y1 y2 y3 y4 y5
   unfold ancepsref45_Count.j3
   repeat' first
   | (with_reducible exact ih0 _ _ _ _ _)
   | (with_reducible exact ih1 _ _ _ _ _ _)
   | (with_reducible exact ih2 _ _ _ _ _ _ _)
   | (with_reducible exact ih3 _ _ _ _ _ _)
   | (with_reducible exact ih4 _ _ _ _ _ _ _)
   | (with_reducible exact ancepsref45_Given.mono _ _ _)
   | (with_reducible exact ancepsref45_Step.mono _ _ _ _ _ _)
   | (with_reducible exact ancepsref45_table.mono _ _ _)
   | (with_reducible exact LeO.refl _)
   | (with_reducible exact LeO.none _)
   | (with_reducible refine LeO.ite ?_ ?_)
   | (with_reducible refine LeO.bind ?_ (fun _ => ?_))
   | exact ih0 _ _ _ _ _
   | exact ih1 _ _ _ _ _ _
   | exact ih2 _ _ _ _ _ _ _
   | exact ih3 _ _ _ _ _ _
   | exact ih4 _ _ _ _ _ _ _
   | exact ancepsref45_Given.mono _ _ _
   | exact ancepsref45_Step.mono _ _ _ _ _ _
   | exact ancepsref45_table.mono _ _ _
   | exact LeO.none _
   | refine LeO.ite ?_ ?_
   | refine LeO.bind ?_ (fun _ => ?_)
  ·intro y0 y1 y2 y3 y4 y5 y6
   unfold ancepsref45_Count.l2
   repeat' first
   | (with_reducible exact ih0 _ _ _ _ _)
   | (with_reducible exact ih1 _ _ _ _ _ _)
   | (with_reducible exact ih2 _ _ _ _ _ _ _)
   | (with_reducible exact ih3 _ _ _ _ _ _)
   | (with_reducible exact ih4 _ _ _ _ _ _ _)
   | (with_reducible exact ancepsref45_Given.mono _ _ _)
   | (with_reducible exact ancepsref45_Step.mono _ _ _ _ _ _)
   | (with_reducible exact ancepsref45_table.mono _ _ _)
   | (with_reducible exact LeO.refl _)
   | (with_reducible exact LeO.none _)
   | (with_reducible refine LeO.ite ?_ ?_)
   | (with_reducible refine LeO.bind ?_ (fun _ => ?_))
   | exact ih0 _ _ _ _ _
   | exact ih1 _ _ _ _ _ _
   | exact ih2 _ _ _ _ _ _ _
   | exact ih3 _ _ _ _ _ _
   | exact ih4 _ _ _ _ _ _ _
   | exact ancepsref45_Given.mono _ _ _
   | exact ancepsref45_Step.mono _ _ _ _ _ _
   | exact ancepsref45_table.mono _ _ _
   | exact LeO.none _
   | refine LeO.ite ?_ ?_
   | refine LeO.bind ?_ (fun _ => ?_)
theorem ancepsref45_Count.mono : ∀ a0 a1 k, LeO (ancepsref45_Count.f k a0 a1) (ancepsref45_Count.f (k + 1) a0 a1) := by
 intro a0 a1 k
 obtain ⟨ih0, ih1, ih2, ih3, ih4⟩ := ancepsref45_Count.mono_l k
 unfold ancepsref45_Count.f
 repeat' first
   | (with_reducible exact ih0 _ _ _ _ _)
   | (with_reducible exact ih1 _ _ _ _ _ _)
   | (with_reducible exact ih2 _ _ _ _ _ _ _)
   | (with_reducible exact ih3 _ _ _ _ _ _)
   | (with_reducible exact ih4 _ _ _ _ _ _ _)
   | (with_reducible exact ancepsref45_Given.mono _ _ _)
   | (with_reducible exact ancepsref45_Step.mono _ _ _ _ _ _)
   | (with_reducible exact ancepsref45_table.mono _ _ _)
   | (with_reducible exact LeO.refl _)
   | (with_reducible exact LeO.none _)
   | (with_reducible refine LeO.ite ?_ ?_)
   | (with_reducible refine LeO.bind ?_ (fun _ => ?_))
   | exact ih0 _ _ _ _ _
   | exact ih1 _ _ _ _ _ _
   | exact ih2 _ _ _ _ _ _ _
   | exact ih3 _ _ _ _ _ _
   | exact ih4 _ _ _ _ _ _ _
   | exact ancepsref45_Given.mono _ _ _
   | exact ancepsref45_Step.mono _ _ _ _ _ _
   | exact ancepsref45_table.mono _ _ _
   | exact LeO.none _
   | refine LeO.ite ?_ ?_
   | refine LeO.bind ?_ (fun _ => ?_)
def ancepsref45_Count.T19 : Bool × List (List Nat × List Nat) := (true, [([], []), ([0], [0]), ([1], [1]), ([1], [1]), ([2, 3, 1], [1, 2, 3]), ([4, 1], [1, 4]), ([1], [1]), ([5, 6, 1], [1, 5, 6]), ([7, 1], [1, 7]), ([1], [1]), ([1], [1]), ([1], [1]), ([10, 11, 1], [1, 10, 11]), ([12, 1], [1, 12]), ([1], [1]), ([13, 14, 1], [1, 13, 14]), ([15, 1], [1, 15]), ([9, 16, 1], [1, 9, 16]), ([8, 17, 1], [1, 8, 17]), ([1, 18], [1, 18])])
def ancepsref45_Count.B19 : List Nat := [0, 1, 3, 3, 15, 31, 3, 127, 255, 3, 3, 3, 3075, 7171, 3, 31747, 64515, 130563, 262143, 524287]
theorem ancepsref45_Count.tab19 : rtab .any (opsOf Try.f36 19) = ancepsref45_Count.T19 := by kernel_rfl
theorem ancepsref45_Count.bits19 : waitsOk ancepsref45_Count.T19.2 ancepsref45_Count.B19 = true := by kernel_rfl
def ancepsref45_Count.T20 : Bool × List (List Nat × List Nat) := (true, [([], []), ([], []), ([0, 1], [0, 1]), ([2], [2]), ([], []), ([], []), ([], []), ([5, 6], [5, 6]), ([7], [7]), ([], []), ([8, 9], [8, 9]), ([10], [10]), ([], []), ([], []), ([12, 13], [12, 13]), ([14], [14]), ([], []), ([15, 16], [15, 16]), ([17], [17]), ([11, 18], [11, 18]), ([3, 4, 0, 1, 2, 3, 4, 5, 6, 7, 8, 9, 10, 11, 12, 13, 14, 15, 16, 17, 18, 19], [3, 4]), ([20, 19, 19, 0, 1, 2, 3, 4, 5, 6, 7, 8, 9, 10, 11, 12, 13, 14, 15, 16, 17, 18, 19], [19, 20])])
def ancepsref45_Count.B20 : List Nat := [0, 0, 3, 7, 0, 0, 0, 96, 224, 0, 992, 2016, 0, 0, 12288, 28672, 0, 126976, 258048, 524256, 1048575, 2097151]
theorem ancepsref45_Count.tab20 : rtab .any (opsOf Try.f36 20) = ancepsref45_Count.T20 := by kernel_rfl
theorem ancepsref45_Count.bits20 : waitsOk ancepsref45_Count.T20.2 ancepsref45_Count.B20 = true := by kernel_rfl
set_option maxHeartbeats 8000000 in
set_option maxRecDepth 100000 in
theorem ancepsref45_Count.calls (k : Nat) (a0 : ByteArray) (a1 : ByteArray) (r1 : Int) (r2 : Int) (w : World) (h : ancepsref45_Count.f k a0 a1 = some (r1, r2)) :
  Calls Try.prog 36 #[.string a0, .string a1] w fun e w' => e = .returned (.tuple #[.int .i64 r1, .int .i64 r2]) ∧ Below w.heap.size w w' := by
 have HB := Aside0.mk (Below.refl w.heap.size w)
 have H : ((ancepsref45_Given.f k a0 a1).bind fun t477 => (if t477 = 0 then ((ancepsref45_table.f k a0 a1).bind fun t478 => (if 0 ≤ (wrap64 ((a0.size : Int) + 1)) then (if (wrap64 ((a0.size : Int) + 1) : Int).toNat ≤ 11728124029610 then (ancepsref45_Count.l0 k a0 a1 (a0.size : Int) t478 (List.replicate (wrap64 ((a0.size : Int) + 1) : Int).toNat [])) else (none)) else (none))) else (some (0, t477)))) = some (r1, r2) := h
 clear h
 replace H := Option.bind_eq_some_iff.mp H
 obtain ⟨t477, A30, H⟩ := H
 replace H : (if t477 = 0 then ((ancepsref45_table.f k a0 a1).bind fun t478 => (if 0 ≤ (wrap64 ((a0.size : Int) + 1)) then (if (wrap64 ((a0.size : Int) + 1) : Int).toNat ≤ 11728124029610 then (ancepsref45_Count.l0 k a0 a1 (a0.size : Int) t478 (List.replicate (wrap64 ((a0.size : Int) + 1) : Int).toNat [])) else (none)) else (none))) else (some (0, t477))) = some (r1, r2) := H
 have A3 := Aside0.mk A30
 clear A30
 by_cases c4 : t477 = 0
 ·rw [if_pos c4] at H
  have c4b0 : (t477 == 0) = true := beq_iff_eq.mpr c4
  have c4b1 : (t477 != 0) = false := bne_eq_false_iff_eq.mpr c4
  clear c4
  replace H := Option.bind_eq_some_iff.mp H
  obtain ⟨t478, A50, H⟩ := H
  replace H : (if 0 ≤ (wrap64 ((a0.size : Int) + 1)) then (if (wrap64 ((a0.size : Int) + 1) : Int).toNat ≤ 11728124029610 then (ancepsref45_Count.l0 k a0 a1 (a0.size : Int) t478 (List.replicate (wrap64 ((a0.size : Int) + 1) : Int).toNat [])) else (none)) else (none)) = some (r1, r2) := H
  have A5 := Aside0.mk A50
  clear A50
  obtain ⟨ji6, hji6⟩ : ∃ j_ : Int, (wrap64 ((a0.size : Int) + 1)) = j_ := ⟨_, rfl⟩
  replace H : (if 0 ≤ (ji6) then (if (ji6 : Int).toNat ≤ 11728124029610 then (ancepsref45_Count.l0 k a0 a1 (a0.size : Int) t478 (List.replicate (ji6 : Int).toNat [])) else (none)) else (none)) = some (r1, r2) := by first | (rw [hji6] at H; exact H) | (simp only [hji6] at H ⊢; exact H)
  (try rw [hji6] at A3)
  (try rw [hji6] at A5)
  have hji6w : (IntKind.i64.wrap ((a0.size : Int) + 1)) = ji6 := (i64_w _).trans hji6
  by_cases c7 : 0 ≤ (ji6)
  ·rw [if_pos c7] at H
   have c7b0 := eq_true c7
   have c7b1 : decide (0 ≤ (ji6)) = true := decide_eq_true c7
   clear c7
   by_cases c8 : (ji6 : Int).toNat ≤ 11728124029610
   ·rw [if_pos c8] at H
    have c8b0 := eq_true c8
    have c8b1 : decide ((ji6 : Int).toNat ≤ 11728124029610) = true := decide_eq_true c8
    clear c8
    obtain ⟨y481, hy481⟩ : ∃ y_ : List (List Int), y_ = (List.replicate (ji6 : Int).toNat []) := ⟨_, rfl⟩
    replace H : (ancepsref45_Count.l0 k a0 a1 (a0.size : Int) t478 y481) = some (r1, r2) := by first | (rw [hy481]; with_reducible exact H) | (have H2_ := (Option.bind_some _ _).symm.trans H; rw [hy481]; with_reducible exact H2_) | (have H2_ := (Option.bind_some _ _).symm.trans H; with_reducible exact H2_) | with_reducible exact H | (rw [hy481]; exact H) | exact H
    have Ny481 := Aside0.mk hy481
    clear hy481
    have H' := Aside0.mk H
    clear H
    go_enter Try.func36, Try.ntmps36
    go_wp2_with (first | ((with_reducible refine gate_callee (f := 16) rfl ?_); refine goesL_ (some 18) rfl rfl Try.func16 (by kernel_rfl) rfl #[.string a0, .string a1] rfl (by (try simp only [List.map_toArray, List.map_cons, List.map_nil]); first | done | rfl | (simp only [List.length_drop, List.length_take]; rfl)) ?_; (with_reducible refine (ancepsref45_Given.calls k a0 a1 t477 _ A3.out).mono ?_); rintro e w' ⟨rfl, ⟨nd, rfl⟩⟩; refine ⟨_, rfl, ?_⟩) | ((with_reducible refine gate_callee (f := 46) rfl ?_); refine goesL_ (some 24) rfl rfl Try.func46 (by kernel_rfl) rfl #[.string a0, .string a1] rfl (by (try simp only [List.map_toArray, List.map_cons, List.map_nil]); first | done | rfl | (simp only [List.length_drop, List.length_take]; rfl)) ?_; (with_reducible refine (ancepsref45_table.calls k a0 a1 t478 _ A5.out).mono ?_); rintro e w9 ⟨v479, rfl, ho0, hb⟩; refine ⟨_, rfl, ?_⟩; have n0_ := Aside0.mk (Kd.S_lower ho0 (below_size (by repeat (first | (with_reducible first | exact HB.out | apply below_alloc | apply pw_below_drewN | apply below_drew1) | exact HB.out)))); have n1_ := Aside0.mk (below_step (by repeat (first | (with_reducible first | exact HB.out | apply below_alloc | apply pw_below_drewN | apply below_drew1) | exact HB.out)) hb); clear HB; have HO480 := n0_; have HB := n1_; clear n0_ n1_; (try clear hb); (try clear hb2); (try clear hk); (try clear hi); (try clear ho0)) | ((with_reducible refine gate_dst (N := 28) rfl ?_); (try (refine gate_guard (by rfl) ?_; dsimp only)); refine Kd.S_make (Kd.slice 2 (Kd.int .i64)) _ 83 rfl (N := 28) rfl 82 _ _ rfl ji6 rfl rfl Try.underlying82 (.slice none 0 0) 24 info83 rfl (by decide) (by omega) [] (ok := fun _ => True) (okp := fun _ => True) ⟨_, rfl, Kd.R_nil _ _ _ _ _⟩ (fun _ hk => hk) trivial (of_decide_eq_true (by first | (with_reducible assumption) | assumption)) (Nat.le_trans (Nat.mul_le_mul_right _ (of_decide_eq_true (by first | (with_reducible assumption) | assumption) : ji6.toNat ≤ 11728124029610)) (by omega)) (Below.refl _ _) (Nat.le_refl _) ?_; intro v482 w10 ho11 hb hg_ hnew_; clear hg_ hnew_; (first | rw [← Ny481.out] at ho11 | (simp only [Int.reduceToNat] at ho11; rw [← Ny481.out] at ho11)); have n0_ := Aside0.mk (Kd.S_below (by (with_reducible repeat (first | apply Kd.S_alloc | apply Kd.S_drewN | apply Kd.S_drew)); exact HO480.out) hb); have n1_ := Aside0.mk (Kd.S_lower ho11 (below_size (by repeat (first | (with_reducible first | exact HB.out | apply below_alloc | apply pw_below_drewN | apply below_drew1) | exact HB.out)))); have n2_ := Aside0.mk (below_step (by repeat (first | (with_reducible first | exact HB.out | apply below_alloc | apply pw_below_drewN | apply below_drew1) | exact HB.out)) hb); clear HO480; clear HB; have HO480 := n0_; have HO483 := n1_; have HB := n2_; clear n0_ n1_ n2_; clear hb ho11))
    go_loopg [9] k (fun kq v9 w' => ∃ (x9_1 : Int) (x28_1 : List (List Int)), v9 = .int .i64 x9_1 ∧ Aside0 (ancepsref45_Count.l0 kq a0 a1 x9_1 t478 x28_1 = some (r1, r2)) ∧ Aside0 (kq ≤ k) ∧ Aside0 (Kd.S (Kd.slice 3 (Kd.int .i64)) 31 w' w.heap.size (fun _ => True) v479 t478) ∧ Aside0 (Kd.S (Kd.slice 2 (Kd.int .i64)) 83 w' w.heap.size (fun _ => True) v482 x28_1) ∧ Aside0 (Below w.heap.size w w'))
    case atStart => exact ⟨((a0.size : Int)), (y481), (by first | rfl | (simp; done) | (simp [*]; done)), H', ⟨Nat.le_refl _⟩, ⟨by (with_reducible repeat (first | apply Kd.S_alloc | apply Kd.S_drewN | apply Kd.S_drew)); exact HO480.out⟩, ⟨by (with_reducible repeat (first | apply Kd.S_alloc | apply Kd.S_drewN | apply Kd.S_drew)); exact HO483.out⟩, ⟨by repeat (first | (with_reducible first | exact HB.out | apply below_alloc | apply pw_below_drewN | apply below_drew1) | exact HB.out)⟩⟩
    case round =>
     clear H'
     try clear c1
     try clear p2
     try clear c3
     try clear c4
     try clear c4b0
     try clear c4b1
     try clear p6
     try clear c7
     try clear c7b0
     try clear c7b1
     try clear c8
     try clear c8b0
     try clear c8b1
     obtain ⟨x9_1, x28_1, rfl, HA, HK1, HO_24, HO_28, HB⟩ := hrel
     cases gk with
     | zero => exact absurd HA.out (by simp [ancepsref45_Count.l0])
     | succ k1 =>
      have H := HA.out
      clear HA
      simp only [ancepsref45_Count.l0] at H
      by_cases c12 : x9_1 ≥ 0
      ·rw [if_pos c12] at H
       have c12b0 : decide (0 ≤ x9_1) = true := decide_eq_true c12
       clear c12
       obtain ⟨ji13, hji13⟩ : ∃ j_ : Int, (wrap64 ((a1.size : Int) + 1)) = j_ := ⟨_, rfl⟩
       replace H : (if 0 ≤ (ji13) then (if (ji13 : Int).toNat ≤ 35184372088832 then (if 0 ≤ x9_1 then (if x9_1 < (x28_1.length : Int) then (ancepsref45_Count.l1 k1 a0 a1 x9_1 (a1.size : Int) t478 (x28_1.set (x9_1 : Int).toNat (List.replicate (ji13 : Int).toNat 0))) else (none)) else (none)) else (none)) else (none)) = some (r1, r2) := by first | (rw [hji13] at H; exact H) | (simp only [hji13] at H ⊢; exact H)
       have hji13w : (IntKind.i64.wrap ((a1.size : Int) + 1)) = ji13 := (i64_w _).trans hji13
       by_cases c14 : 0 ≤ (ji13)
       ·rw [if_pos c14] at H
        have c14b0 := eq_true c14
        have c14b1 : decide (0 ≤ (ji13)) = true := decide_eq_true c14
        clear c14
        by_cases c15 : (ji13 : Int).toNat ≤ 35184372088832
        ·rw [if_pos c15] at H
         have c15b0 := eq_true c15
         have c15b1 : decide ((ji13 : Int).toNat ≤ 35184372088832) = true := decide_eq_true c15
         clear c15
         obtain ⟨y488, hy488⟩ : ∃ y_ : List Int, y_ = (List.replicate (ji13 : Int).toNat 0) := ⟨_, rfl⟩
         replace H : (if 0 ≤ x9_1 then (if x9_1 < (x28_1.length : Int) then (ancepsref45_Count.l1 k1 a0 a1 x9_1 (a1.size : Int) t478 (x28_1.set (x9_1 : Int).toNat y488)) else (none)) else (none)) = some (r1, r2) := by first | (rw [hy488]; with_reducible exact H) | (have H2_ := (Option.bind_some _ _).symm.trans H; rw [hy488]; with_reducible exact H2_) | (have H2_ := (Option.bind_some _ _).symm.trans H; with_reducible exact H2_) | with_reducible exact H | (rw [hy488]; exact H) | exact H
         have Ny488 := Aside0.mk hy488
         clear hy488
         by_cases c16 : 0 ≤ x9_1
         ·rw [if_pos c16] at H
          have c16b0 : decide (0 ≤ x9_1) = true := decide_eq_true c16
          clear c16
          by_cases c17 : x9_1 < (x28_1.length : Int)
          ·rw [if_pos c17] at H
           have c17b0 : decide (x9_1 < (x28_1.length : Int)) = true := decide_eq_true c17
           clear c17
           obtain ⟨y491, hy491⟩ : ∃ y_ : List (List Int), y_ = (x28_1.set (x9_1 : Int).toNat y488) := ⟨_, rfl⟩
           replace H : (ancepsref45_Count.l1 k1 a0 a1 x9_1 (a1.size : Int) t478 y491) = some (r1, r2) := by first | (rw [hy491]; with_reducible exact H) | (have H2_ := (Option.bind_some _ _).symm.trans H; rw [hy491]; with_reducible exact H2_) | (have H2_ := (Option.bind_some _ _).symm.trans H; with_reducible exact H2_) | with_reducible exact H | (rw [hy491]; exact H) | exact H
           have Ny491 := Aside0.mk hy491
           clear hy491
           have H' := Aside0.mk H
           clear H
           go_wp2_with (first | ((with_reducible refine gate_dst (N := 40) rfl ?_); (try (refine gate_guard (by rfl) ?_; dsimp only)); refine Kd.R_make (Kd.int .i64) _ 2 rfl (N := 40) rfl 83 _ _ rfl ji13 rfl rfl Try.underlying83 (.int .i64 0) 8 info2 rfl (by decide) (by omega) 0 (ok := fun _ => True) (okp := fun _ => True) rfl (fun _ hk => hk) trivial (of_decide_eq_true (by first | (with_reducible assumption) | assumption)) (Nat.le_trans (Nat.mul_le_mul_right _ (of_decide_eq_true (by first | (with_reducible assumption) | assumption) : ji13.toNat ≤ 35184372088832)) (by omega)) (Below.refl _ _) (Nat.le_refl _) ?_; intro v489 w19 ho20 hb hg_ hnew_; clear hg_ hnew_; (first | rw [← Ny488.out] at ho20 | (simp only [Int.reduceToNat] at ho20; rw [← Ny488.out] at ho20)); have n0_ := Aside0.mk (Kd.S_below (by (with_reducible repeat (first | apply Kd.S_alloc | apply Kd.S_drewN | apply Kd.S_drew)); exact HO_24.out) hb); have n1_ := Aside0.mk (Kd.S_elder' (by (with_reducible repeat (first | apply Kd.S_alloc | apply Kd.S_drewN | apply Kd.S_drew)); exact HO_28.out) (Kd.R_base ho20) hb); have n2_ := Aside0.mk (Kd.R_lower ho20 (below_size (by repeat (first | (with_reducible first | exact HB.out | apply below_alloc | apply pw_below_drewN | apply below_drew1) | exact HB.out)))); have n3_ := Aside0.mk (below_step (by repeat (first | (with_reducible first | exact HB.out | apply below_alloc | apply pw_below_drewN | apply below_drew1) | exact HB.out)) hb); clear HO_24; clear HO_28; clear HB; have HO_24 := n0_; have HO_28 := n1_; have HO490 := n2_; have HB := n3_; clear n0_ n1_ n2_ n3_; clear hb ho20; have p18 : 0 ≤ (x9_1 : Int) := of_decide_eq_true (by first | (with_reducible assumption) | assumption); have q18 : (x9_1 : Int) < ((x28_1.length : Int) : Int) := of_decide_eq_true (by first | (with_reducible assumption) | assumption); obtain ⟨go18, co18, eo18, gb18, gl18, cl18, HG18⟩ := Kd.S_form HO_28.out (by omega); (first | cases eo18 | (injection eo18 with ea_ en_ ec_; (first | subst ea_ | (injection ea_ with ea_; subst ea_)); subst ec_; clear en_)); have GB18 := Aside0.mk gb18; have GG18 := Aside0.mk HG18; clear gb18 gl18 HG18; obtain ⟨_, ce18, hcl18, hM18, hcc18, hfr18, _, _⟩ := Kd.S_elem HO_28.out [] (x9_1 : Int) p18 q18; obtain ⟨ve18_0, rfl, ge18_0⟩ := hM18; have hx18_0 := hcc18 0 _ rfl; have hf18_0 := hfr18 0; (try simp only [show ((Kd.slice 2 (Kd.int .i64))).sz = 1 from rfl, Nat.mul_one, Nat.add_zero] at hx18_0); (try simp only [show ((Kd.slice 2 (Kd.int .i64))).sz = 1 from rfl, Nat.mul_one, Nat.add_zero] at hf18_0); (try clear hM18); clear hcl18 hcc18 hfr18; replace p18 := eq_true p18; replace q18 := eq_true q18; have n_ := Aside0.mk (Kd.S_mono (ok' := (fun k_ => some k_ ≠ (v489 : Value).ownBlock)) HO_28.out (fun k_ hk => hk.2)); clear HO_28; have HO_28 := n_; clear n_; have HX21 := Aside0.mk (show Kd.S (Kd.slice 2 (Kd.int .i64)) 83 w19 w.heap.size (fun k_ => ((fun _ => True)) k_ ∧ ¬ ((fun k_ => some k_ = (v489 : Value).ownBlock)) k_) (.slice (some ⟨go18, 0, none⟩) x28_1.length co18) x28_1 from (by (with_reducible repeat (first | apply Kd.S_alloc | apply Kd.S_drewN | apply Kd.S_drew)); exact Kd.S_mono HO_28.out (fun k_ hk => ⟨trivial, fun e_ => hk e_⟩))); obtain ⟨oki21, ce21, hcl21, hM21, hcc21, hfr21, hoki21, hH21⟩ := Kd.S_elem HX21.out [] (x9_1 : Int) (of_decide_eq_true (by first | (with_reducible assumption) | assumption)) (by have h_ : (x9_1 : Int) < ((x28_1.length : Int) : Int) := of_decide_eq_true (by first | (with_reducible assumption) | assumption); first | exact h_ | (have e_ := (Kd.S_reads' HO_28.out).1; omega) | simpa using h_); obtain ⟨ve21_0, rfl, ge21_0⟩ := hM21; have HP21 := Kd.S_seg hH21 (of_decide_eq_true (by first | (with_reducible assumption) | assumption)) (by have h_ : (x9_1 : Int) < ((x28_1.length : Int) : Int) := of_decide_eq_true (by first | (with_reducible assumption) | assumption); first | exact h_ | (have e_ := (Kd.S_reads' HO_28.out).1; omega) | simpa using h_) (seg := [v489]) (j := 0) (show 1 ≤ 1 from by decide) (x' := y488) (Kd.M_row (Kd.R_mono (Kd.R_tight rfl (Kd.R_mono (ok' := fun k_ => ((fun _ => True)) k_ ∧ k_ ≠ go18) (Kd.R_apart' (HO490.out) (Kd.S_typed HO_28.out) (by decide)) (fun k_ hk => ⟨trivial, fun e_ => (hk.2) (by rw [e_]; rfl)⟩))) (fun _ h_ => Or.inr (h_)))) (fun _ hk => hk) (fun k_ hk_ => ((Kd.R_mono (ok' := fun k_ => ((fun _ => True)) k_ ∧ k_ ≠ go18) (Kd.R_apart' (HO490.out) (Kd.S_typed HO_28.out) (by decide)) (fun k_ hk => ⟨trivial, fun e_ => (hk.2) (by rw [e_]; rfl)⟩))).1 k_ hk_.symm); have hx21_0 := hcc21 0 _ rfl; (try simp only [show ((Kd.slice 2 (Kd.int .i64))).sz = 1 from rfl, Nat.mul_one, Nat.add_zero] at hx21_0); have hf21_0 := hfr21 0; (try simp only [show ((Kd.slice 2 (Kd.int .i64))).sz = 1 from rfl, Nat.mul_one, Nat.add_zero] at hf21_0); (try clear hM21); clear hcl21 hcc21 hfr21 hoki21 hH21; (try simp only [show ((Kd.slice 2 (Kd.int .i64))).sz = 1 from rfl, Nat.mul_one, Nat.add_zero] at HP21)) | ((with_reducible refine gate_store (t := 83) (p := 41) rfl ?_); refine store_event (t := 83) (p := 41) (v := ?vo_w22) (w1 := (w19.setCell ⟨go18, (x9_1 : Int).toNat, none⟩ (v489))) ?hg ?ho ?hn ?hr ?_; (case ho => rfl); (case hg => rfl); (case hn => rfl); (case hr => first | (go_simp; done) | (go_simp; rfl) | (obtain ⟨a_, c_, e_⟩ := Kd.R_slice HO490.out; subst e_; first | (go_simp; done) | (go_simp; rfl))); intro w22 hw; have hg : w19.grownBy w22 (some go18) := (by rw [hw]; exact HP21.2); have hp_ : Kd.S (Kd.slice 2 (Kd.int .i64)) 83 w22 w.heap.size (fun _ => True) (.slice (some ⟨go18, 0, none⟩) x28_1.length co18) y491 := (by rw [hw, Ny491.out]; exact HP21.1); clear HP21; have n0_ := Aside0.mk (Kd.S_over' (v := (.slice (some ⟨go18, 0, none⟩) x28_1.length co18)) (by (with_reducible repeat (first | apply Kd.S_alloc | apply Kd.S_drewN | apply Kd.S_drew)); exact HO_24.out) (Kd.S_typed HO_28.out) (by decide) hg); have n1_ := Aside0.mk (hp_); have n2_ := Aside0.mk ((by rw [hw]; exact below_set (HB.out) GB18.out : Below w.heap.size w w22)); clear HO_24; clear HO_28; clear HB; clear HO490; have HO_24 := n0_; have HO_28 := n1_; have HB := n2_; clear n0_ n1_ n2_; clear hg hw hp_))
           go_loopg [10] k1 (fun kq v10 w' => ∃ (x10_2 : Int) (x28_2 : List (List Int)), v10 = .int .i64 x10_2 ∧ Aside0 (ancepsref45_Count.l1 kq a0 a1 x9_1 x10_2 t478 x28_2 = some (r1, r2)) ∧ Aside0 (kq ≤ k1) ∧ Aside0 (Kd.S (Kd.slice 3 (Kd.int .i64)) 31 w' w.heap.size (fun _ => True) v479 t478) ∧ Aside0 (Kd.S (Kd.slice 2 (Kd.int .i64)) 83 w' w.heap.size (fun _ => True) (.slice (some ⟨go18, 0, none⟩) x28_1.length co18) x28_2) ∧ Aside0 (Below w.heap.size w w'))
           case atStart => exact ⟨((a1.size : Int)), (y491), (by first | rfl | (simp; done) | (simp [*]; done)), H', ⟨Nat.le_refl _⟩, ⟨by (with_reducible repeat (first | apply Kd.S_alloc | apply Kd.S_drewN | apply Kd.S_drew)); exact HO_24.out⟩, ⟨by (with_reducible repeat (first | apply Kd.S_alloc | apply Kd.S_drewN | apply Kd.S_drew)); exact HO_28.out⟩, ⟨by repeat (first | (with_reducible first | exact HB.out | apply below_alloc | apply pw_below_drewN | apply below_drew1) | exact HB.out)⟩⟩
           case round =>
            clear H'
            try clear c1
            try clear p1
            try clear q1
            try clear hx1
            try clear c2
            try clear p2
            try clear hx2
            try clear hf2
            try clear c3
            try clear c4
            try clear c4b0
            try clear c4b1
            try clear p6
            try clear c7
            try clear c7b0
            try clear c7b1
            try clear c8
            try clear c8b0
            try clear c8b1
            try clear c12
            try clear c12b0
            try clear c14
            try clear c14b0
            try clear c14b1
            try clear c15
            try clear c15b0
            try clear c15b1
            try clear c16
            try clear c16b0
            try clear c17
            try clear c17b0
            try clear c18
            try clear p18
            try clear q18
            try clear hx18
            try clear hf18
            try clear c21
            try clear hx21
            try clear hf21
            try clear hx18_0
            try clear hx21_0
            try clear p18
            try clear p2
            try clear p6
            try clear q18
            obtain ⟨x10_2, x28_2, rfl, HA, HK2, HO_24, HO_28, HB⟩ := hrel
            have hl28_2 := (Kd.S_reads' HO_28.out).1
            rw [hl28_2] at HO_28
            (try simp only [hl28_2])
            (try simp only [hl28_2] at HO_24)
            cases gk with
            | zero => exact absurd HA.out (by simp [ancepsref45_Count.l1])
            | succ k2 =>
             have H := HA.out
             clear HA
             simp only [ancepsref45_Count.l1] at H
             by_cases c23 : x10_2 ≥ 0
             ·rw [if_pos c23] at H
              have c23b0 : decide (0 ≤ x10_2) = true := decide_eq_true c23
              clear c23
              have HC24 := Aside0.mk H
              clear H
              go_upto_region 13 with (fail)
              go_cut [57] (fun v57 wc => ∃ (kq : Nat) (x57_23 : Bool), v57 = .bool x57_23 ∧ Aside0 (ancepsref45_Count.j2 kq a0 a1 t478 x28_2 x9_1 x10_2 x57_23 = some (r1, r2)) ∧ Aside0 (kq ≤ k2) ∧ Aside0 (Kd.S (Kd.slice 3 (Kd.int .i64)) 31 wc w.heap.size (fun _ => True) v479 t478) ∧ Aside0 (Kd.S (Kd.slice 2 (Kd.int .i64)) 83 wc w.heap.size (fun _ => True) (.slice (some ⟨go18, 0, none⟩) x28_2.length co18) x28_2) ∧ Aside0 (Below w.heap.size w wc))
              case first =>
               have H := HC24.out
               clear HC24
               by_cases c25 : x9_1 = (a0.size : Int)
               ·rw [if_pos c25] at H
                have c25b0 : (x9_1 == (a0.size : Int)) = true := beq_iff_eq.mpr c25
                have c25b1 : (x9_1 != (a0.size : Int)) = false := bne_eq_false_iff_eq.mpr c25
                clear c25
                (first | rw [c25b0] | (simp only [i64_w, i32_w]; rw [c25b0]) | skip)
                have H' := Aside0.mk H
                clear H
                go_wp2
                go_meet
                case rel => exact ⟨_, ((x10_2 == (a1.size : Int))), (by first | rfl | (simp; done) | (simp [*]; done)), H', ⟨by have := HK1.out; have := HK2.out; first | omega | exact Nat.le_refl _⟩, ⟨by (try simp only [hl28_2]); (with_reducible repeat (first | apply Kd.S_alloc | apply Kd.S_drewN | apply Kd.S_drew)); exact HO_24.out⟩, ⟨by (try simp only [hl28_2]); (with_reducible repeat (first | apply Kd.S_alloc | apply Kd.S_drewN | apply Kd.S_drew)); exact HO_28.out⟩, ⟨by repeat (first | (with_reducible first | exact HB.out | apply below_alloc | apply pw_below_drewN | apply below_drew1) | exact HB.out)⟩⟩
               ·rw [if_neg c25] at H
                have c25b0 : (x9_1 == (a0.size : Int)) = false := beq_eq_false_iff_ne.mpr c25
                have c25b1 : (x9_1 != (a0.size : Int)) = true := bne_iff_ne.mpr c25
                (first | rw [c25b0] | (simp only [i64_w, i32_w]; rw [c25b0]) | skip)
                have H' := Aside0.mk H
                clear H
                go_wp2
                go_meet
                case rel => exact ⟨_, (false), (by first | rfl | (simp; done) | (simp [*]; done)), H', ⟨by have := HK1.out; have := HK2.out; first | omega | exact Nat.le_refl _⟩, ⟨by (try simp only [hl28_2]); (with_reducible repeat (first | apply Kd.S_alloc | apply Kd.S_drewN | apply Kd.S_drew)); exact HO_24.out⟩, ⟨by (try simp only [hl28_2]); (with_reducible repeat (first | apply Kd.S_alloc | apply Kd.S_drewN | apply Kd.S_drew)); exact HO_28.out⟩, ⟨by repeat (first | (with_reducible first | exact HB.out | apply below_alloc | apply pw_below_drewN | apply below_drew1) | exact HB.out)⟩⟩
              case rest =>
               clear HC24
               try clear c1
               try clear p1
               try clear q1
               try clear hx1
               try clear c2
               try clear p2
               try clear hx2
               try clear hf2
               try clear c3
               try clear c4
               try clear c4b0
               try clear c4b1
               try clear p6
               try clear c7
               try clear c7b0
               try clear c7b1
               try clear c8
               try clear c8b0
               try clear c8b1
               try clear c12
               try clear c12b0
               try clear c14
               try clear c14b0
               try clear c14b1
               try clear c15
               try clear c15b0
               try clear c15b1
               try clear c16
               try clear c16b0
               try clear c17
               try clear c17b0
               try clear c18
               try clear p18
               try clear q18
               try clear hx18
               try clear hf18
               try clear c21
               try clear hx21
               try clear hf21
               try clear c23
               try clear c23b0
               try clear c25
               try clear c25b0
               try clear c25b1
               try clear hx18_0
               try clear hx21_0
               try clear p1
               try clear p18
               try clear p2
               try clear p6
               try clear q1
               try clear q18
               obtain ⟨kq, x57_23, rfl, HA, HJ23, HO_7, HO_8, HB⟩ := hcut
               cases kq with
               | zero => exact absurd HA.out (by simp [ancepsref45_Count.j2])
               | succ kj23 =>
                have H := HA.out
                clear HA
                simp only [ancepsref45_Count.j2] at H
                have HC26 := Aside0.mk H
                clear H
                go_upto_if 57 with (fail)
                go_cut [] (fun wc => ∃ (kq : Nat) (x8_25 : List (List Int)), Aside0 (ancepsref45_Count.j3 kq a0 a1 t478 x8_25 x9_1 x10_2 = some (r1, r2)) ∧ Aside0 (kq ≤ kj23) ∧ Aside0 (Kd.S (Kd.slice 3 (Kd.int .i64)) 31 wc w.heap.size (fun _ => True) v479 t478) ∧ Aside0 (Kd.S (Kd.slice 2 (Kd.int .i64)) 83 wc w.heap.size (fun _ => True) (.slice (some ⟨go18, 0, none⟩) x28_2.length co18) x8_25) ∧ Aside0 (Below w.heap.size w wc))
                case first =>
                 have H := HC26.out
                 clear HC26
                 by_cases c27 : x57_23 = true
                 ·subst c27
                  have H1 : (if 0 ≤ x9_1 then (if x9_1 < (x28_2.length : Int) then (if 0 ≤ x10_2 then (if x10_2 < ((rd_L4 x28_2 x9_1).length : Int) then (ancepsref45_Count.j3 kj23 a0 a1 t478 (x28_2.set (x9_1 : Int).toNat ((rd_L4 x28_2 x9_1).set (x10_2 : Int).toNat 1)) x9_1 x10_2) else (none)) else (none)) else (none)) else (none)) = some (r1, r2) := by rw [if_pos rfl] at H; exact H
                  clear H
                  have H := H1
                  clear H1
                  by_cases c28 : 0 ≤ x9_1
                  ·rw [if_pos c28] at H
                   have c28b0 : decide (0 ≤ x9_1) = true := decide_eq_true c28
                   clear c28
                   (first | rw [c28b0] | (simp only [i64_w, i32_w]; rw [c28b0]) | skip)
                   by_cases c29 : x9_1 < (x28_2.length : Int)
                   ·rw [if_pos c29] at H
                    have c29b0 : decide (x9_1 < (x28_2.length : Int)) = true := decide_eq_true c29
                    (try simp only [hl28_2] at c29b0)
                    clear c29
                    by_cases c30 : 0 ≤ x10_2
                    ·rw [if_pos c30] at H
                     have c30b0 : decide (0 ≤ x10_2) = true := decide_eq_true c30
                     clear c30
                     by_cases c31 : x10_2 < ((rd_L4 x28_2 x9_1).length : Int)
                     ·rw [if_pos c31] at H
                      have c31b0 : decide (x10_2 < ((rd_L4 x28_2 x9_1).length : Int)) = true := decide_eq_true c31
                      (try simp only [hl28_2] at c31b0)
                      clear c31
                      obtain ⟨y493, hy493⟩ : ∃ y_ : List Int, y_ = ((rd_L4 x28_2 x9_1).set (x10_2 : Int).toNat 1) := ⟨_, rfl⟩
                      replace H : (ancepsref45_Count.j3 kj23 a0 a1 t478 (x28_2.set (x9_1 : Int).toNat y493) x9_1 x10_2) = some (r1, r2) := by first | (rw [hy493]; with_reducible exact H) | (have H2_ := (Option.bind_some _ _).symm.trans H; rw [hy493]; with_reducible exact H2_) | (have H2_ := (Option.bind_some _ _).symm.trans H; with_reducible exact H2_) | with_reducible exact H | (rw [hy493]; exact H) | exact H
                      have Ny493 := Aside0.mk hy493
                      clear hy493
                      obtain ⟨y495, hy495⟩ : ∃ y_ : List (List Int), y_ = (x28_2.set (x9_1 : Int).toNat y493) := ⟨_, rfl⟩
                      replace H : (ancepsref45_Count.j3 kj23 a0 a1 t478 y495 x9_1 x10_2) = some (r1, r2) := by first | (rw [hy495]; with_reducible exact H) | (have H2_ := (Option.bind_some _ _).symm.trans H; rw [hy495]; with_reducible exact H2_) | (have H2_ := (Option.bind_some _ _).symm.trans H; with_reducible exact H2_) | with_reducible exact H | (rw [hy495]; exact H) | exact H
                      have Ny495 := Aside0.mk hy495
                      clear hy495
                      have H' := Aside0.mk H
                      clear H
                      have p492 : 0 ≤ (x9_1 : Int) := of_decide_eq_true (by first | (with_reducible assumption) | assumption)
                      have q492 : x9_1 < (x28_2.length : Int) := of_decide_eq_true (by first | (with_reducible assumption) | assumption)
                      obtain ⟨ad492, A492_0, c492_0, e492, hx492_0, hl492_0, hi492_0⟩ := at_L4 (Kd.S_reads' HO_8.out).2.2 x9_1 p492 q492
                      obtain rfl : (⟨go18, 0, none⟩ : Addr) = ad492 := (by injection e492)
                      obtain ⟨ce492, hce492, hMe492, hcc492⟩ := Kd.S_get HO_8.out [] x9_1 p492 (by first | exact q492 | exact of_decide_eq_true (by first | (with_reducible assumption) | assumption) | (have e_ := (Kd.S_reads' HO_8.out).1; omega))
                      obtain ⟨ve492_0, rfl, ge492_0⟩ := hMe492
                      have hv492_0 := hcc492 0 _ rfl
                      rw [Nat.add_zero, show ((Kd.slice 2 (Kd.int .i64))).sz = 1 from rfl, Nat.mul_one] at hv492_0
                      replace hv492_0 := Option.some.inj (hv492_0.symm.trans hx492_0)
                      rw [hv492_0] at ge492_0
                      have HL492_0 := Aside0.mk (show Kd.R (Kd.int .i64) 2 _ _ _ _ (rd_L4 x28_2 x9_1) from ge492_0)
                      clear hv492_0 ge492_0
                      have HX492_0 := Aside0.mk hx492_0
                      clear hcc492 hce492
                      (first | simp only [add_plain] at hx492_0 | simp only [add_at] at hx492_0 | simp only [Addr.add, Nat.zero_add] at hx492_0 | skip)
                      have HR492_0 := Aside0.mk hi492_0
                      have HC492_0 := Aside0.mk hl492_0
                      clear hi492_0 hl492_0
                      replace p492 := eq_true p492
                      replace q492 := eq_true q492
                      have p32 : 0 ≤ (x10_2 : Int) := of_decide_eq_true (by first | (with_reducible assumption) | assumption)
                      have q32 : (x10_2 : Int) < (((rd_L4 x28_2 x9_1).length : Int) : Int) := of_decide_eq_true (by first | (with_reducible assumption) | assumption)
                      obtain ⟨go32, co32, eo32, gb32, gl32, cl32, HG32⟩ := Kd.R_form HL492_0.out (by omega)
                      (first | cases eo32 | (injection eo32 with ea_ en_ ec_; (first | subst ea_ | (injection ea_ with ea_; subst ea_)); subst ec_; clear en_))
                      have GB32 := Aside0.mk gb32
                      have GG32 := Aside0.mk HG32
                      clear gb32 gl32 HG32
                      obtain ⟨hx32_0, hf32_0⟩ := Kd.R_celln 0 HL492_0.out (x10_2 : Int) p32 q32
                      replace p32 := eq_true p32
                      replace q32 := eq_true q32
                      have hq33 : (x9_1 : Int) < (x28_2.length : Int) := (by have h_ : (x9_1 : Int) < ((x28_2.length : Int) : Int) := of_decide_eq_true (by first | (with_reducible assumption) | assumption); first | exact h_ | (have e_ := (Kd.S_reads' HO_8.out).1; omega) | simpa only [List.length_set, List.length_set] using h_)
                      obtain ⟨oki33, ce33, hcl33, hM33, hcc33, hok33, hbk33⟩ := Kd.S_borrow HO_8.out [] (x9_1 : Int) (of_decide_eq_true (by first | (with_reducible assumption) | assumption)) hq33
                      obtain ⟨ve33_0, rfl, ge33_0⟩ := hM33
                      have hv33 := hcc33 0 _ rfl
                      rw [Nat.add_zero, show ((Kd.slice 2 (Kd.int .i64))).sz = 1 from rfl, Nat.mul_one] at hv33
                      replace hv33 := Option.some.inj (hv33.symm.trans HX492_0.out)
                      subst hv33
                      clear hcc33 hcl33
                      replace ge33_0 := (show Kd.R (Kd.int .i64) 2 _ _ _ _ (rd_L4 x28_2 x9_1) from ge33_0)
                      have HP33 := Kd.R_putg ge33_0 (x10_2 : Int) 1
                      go_wp2_with (first | ((with_reducible refine gate_store (t := 2) (p := 63) rfl ?_); refine store_event (t := 2) (p := 63) (v := ?vo_w34) (w1 := (wc.setCell ⟨go32, (x10_2 : Int).toNat, none⟩ (.int .i64 1))) ?hg ?ho ?hn ?hr ?_; (case ho => rfl); (case hg => rfl); (case hn => rfl); (case hr => first | (go_simp; done) | (go_simp; rfl)); intro w34 hw; have hg : wc.grownBy w34 (some go32) := (by rw [hw]; exact HP33.2); have hz_ : Kd.R (Kd.int .i64) 2 w34 w.heap.size oki33 (.slice (some ⟨go32, 0, none⟩) (rd_L4 x28_2 x9_1).length c492_0) y493 := (by rw [hw, Ny493.out]; exact HP33.1); have hp_ : Kd.S (Kd.slice 2 (Kd.int .i64)) 83 w34 w.heap.size (fun _ => True) (.slice (some ⟨go18, 0, none⟩) x28_2.length co18) y495 := (by rw [Ny495.out]; exact hbk33 hg (fun k_ e_ => by injection e_ with e_; subst e_; exact ge33_0.1 _ rfl) (Kd.M_row hz_)); have hm_ := Kd.R_mono hz_ hok33; clear HP33 hbk33; have n0_ := Aside0.mk (Kd.S_over' (v := (.slice (some ⟨go32, 0, none⟩) (rd_L4 x28_2 x9_1).length c492_0)) (by (with_reducible repeat (first | apply Kd.S_alloc | apply Kd.S_drewN | apply Kd.S_drew)); exact HO_7.out) (Kd.R_typed HL492_0.out) (by decide) hg); have n1_ := Aside0.mk (hp_); have n2_ := Aside0.mk ((by rw [hw]; exact below_set (HB.out) GB32.out : Below w.heap.size w w34)); have n3_ := Aside0.mk (hm_); have n4_ := Aside0.mk ((Kd.R_reads' hm_).2.1); clear HO_7; clear HO_8; clear HB; clear HL492_0; have HO_7 := n0_; have HO_8 := n1_; have HB := n2_; have HL513 := n3_; have HC494 := n4_; clear n0_ n1_ n2_ n3_ n4_; clear hg hw hp_ hz_ hm_ hok33))
                      go_meet
                      case rel => exact ⟨_, (y495), H', ⟨by have := HK1.out; have := HK2.out; have := HJ23.out; first | omega | exact Nat.le_refl _⟩, ⟨by (try simp only [hl28_2]); (with_reducible repeat (first | apply Kd.S_alloc | apply Kd.S_drewN | apply Kd.S_drew)); exact HO_7.out⟩, ⟨by (try simp only [hl28_2]); (with_reducible repeat (first | apply Kd.S_alloc | apply Kd.S_drewN | apply Kd.S_drew)); exact HO_8.out⟩, ⟨by repeat (first | (with_reducible first | exact HB.out | apply below_alloc | apply pw_below_drewN | apply below_drew1) | exact HB.out)⟩⟩
                     ·rw [if_neg c31] at H
                      exact absurd H (by simp)
                    ·rw [if_neg c30] at H
                     exact absurd H (by simp)
                   ·rw [if_neg c29] at H
                    exact absurd H (by simp)
                  ·rw [if_neg c28] at H
                   exact absurd H (by simp)
                 ·replace c27 := Bool.eq_false_iff.mpr c27
                  subst c27
                  have H1 : (ancepsref45_Count.j3 kj23 a0 a1 t478 x28_2 x9_1 x10_2) = some (r1, r2) := by rw [if_neg (show ¬ (false = true) by decide)] at H; exact H
                  clear H
                  have H := H1
                  clear H1
                  have H' := Aside0.mk H
                  clear H
                  go_wp2
                  go_meet
                  case rel => exact ⟨_, (x28_2), H', ⟨by have := HK1.out; have := HK2.out; have := HJ23.out; first | omega | exact Nat.le_refl _⟩, ⟨by (try simp only [hl28_2]); (with_reducible repeat (first | apply Kd.S_alloc | apply Kd.S_drewN | apply Kd.S_drew)); exact HO_7.out⟩, ⟨by (try simp only [hl28_2]); (with_reducible repeat (first | apply Kd.S_alloc | apply Kd.S_drewN | apply Kd.S_drew)); exact HO_8.out⟩, ⟨by repeat (first | (with_reducible first | exact HB.out | apply below_alloc | apply pw_below_drewN | apply below_drew1) | exact HB.out)⟩⟩
                case rest =>
                 clear HC26
                 try clear c1
                 try clear p1
                 try clear q1
                 try clear hx1
                 try clear c2
                 try clear p2
                 try clear hx2
                 try clear hf2
                 try clear c3
                 try clear p3
                 try clear q3
                 try clear hx3
                 try clear hf3
                 try clear c4
                 try clear c4b0
                 try clear c4b1
                 try clear p4
                 try clear q4
                 try clear hx4
                 try clear p6
                 try clear c7
                 try clear c7b0
                 try clear c7b1
                 try clear c8
                 try clear c8b0
                 try clear c8b1
                 try clear c12
                 try clear c12b0
                 try clear c14
                 try clear c14b0
                 try clear c14b1
                 try clear c15
                 try clear c15b0
                 try clear c15b1
                 try clear c16
                 try clear c16b0
                 try clear c17
                 try clear c17b0
                 try clear c18
                 try clear p18
                 try clear q18
                 try clear hx18
                 try clear hf18
                 try clear c21
                 try clear hx21
                 try clear hf21
                 try clear c23
                 try clear c23b0
                 try clear c25
                 try clear c25b0
                 try clear c25b1
                 try clear c27
                 try clear c28
                 try clear c28b0
                 try clear c29
                 try clear c29b0
                 try clear c30
                 try clear c30b0
                 try clear c31
                 try clear c31b0
                 try clear p32
                 try clear q32
                 try clear hx32
                 try clear hf32
                 try clear c33
                 try clear q33
                 try clear hx18_0
                 try clear hx21_0
                 try clear hx32_0
                 try clear hx492_0
                 try clear p1
                 try clear p18
                 try clear p2
                 try clear p32
                 try clear p492
                 try clear p6
                 try clear q1
                 try clear q18
                 try clear q32
                 try clear q492
                 obtain ⟨kq, x8_25, HA, HJ25, HO_7, HO_8, HB⟩ := hcut
                 have hl8_25 := (Kd.S_reads' HO_8.out).1
                 rw [hl8_25] at HO_8
                 (try simp only [hl8_25])
                 (try simp only [hl8_25] at HO_7)
                 cases kq with
                 | zero => exact absurd HA.out (by simp [ancepsref45_Count.j3])
                 | succ kj25 =>
                  have H := HA.out
                  clear HA
                  simp only [ancepsref45_Count.j3] at H
                  have H' := Aside0.mk H
                  clear H
                  go_wp2
                  go_loopg [11] kj25 (fun kq v11 w' => ∃ (x8_5 : List (List Int)) (x11_5 : Int), v11 = .int .i64 x11_5 ∧ Aside0 (ancepsref45_Count.l2 kq a0 a1 t478 x8_5 x9_1 x10_2 x11_5 = some (r1, r2)) ∧ Aside0 (kq ≤ kj25) ∧ Aside0 (Kd.S (Kd.slice 3 (Kd.int .i64)) 31 w' w.heap.size (fun _ => True) v479 t478) ∧ Aside0 (Kd.S (Kd.slice 2 (Kd.int .i64)) 83 w' w.heap.size (fun _ => True) (.slice (some ⟨go18, 0, none⟩) x8_25.length co18) x8_5) ∧ Aside0 (Below w.heap.size w w'))
                  case atStart => exact ⟨(x8_25), (0), (by first | rfl | (simp; done) | (simp [*]; done)), H', ⟨Nat.le_refl _⟩, ⟨by (try simp only [hl28_2]); (try simp only [hl8_25]); (with_reducible repeat (first | apply Kd.S_alloc | apply Kd.S_drewN | apply Kd.S_drew)); exact HO_7.out⟩, ⟨by (try simp only [hl28_2]); (try simp only [hl8_25]); (with_reducible repeat (first | apply Kd.S_alloc | apply Kd.S_drewN | apply Kd.S_drew)); exact HO_8.out⟩, ⟨by repeat (first | (with_reducible first | exact HB.out | apply below_alloc | apply pw_below_drewN | apply below_drew1) | exact HB.out)⟩⟩
                  case round =>
                   clear H'
                   try clear c1
                   try clear p1
                   try clear q1
                   try clear hx1
                   try clear c2
                   try clear p2
                   try clear hx2
                   try clear hf2
                   try clear c3
                   try clear p3
                   try clear q3
                   try clear hx3
                   try clear hf3
                   try clear c4
                   try clear c4b0
                   try clear c4b1
                   try clear p4
                   try clear q4
                   try clear hx4
                   try clear p6
                   try clear c7
                   try clear c7b0
                   try clear c7b1
                   try clear c8
                   try clear c8b0
                   try clear c8b1
                   try clear c12
                   try clear c12b0
                   try clear c14
                   try clear c14b0
                   try clear c14b1
                   try clear c15
                   try clear c15b0
                   try clear c15b1
                   try clear c16
                   try clear c16b0
                   try clear c17
                   try clear c17b0
                   try clear c18
                   try clear p18
                   try clear q18
                   try clear hx18
                   try clear hf18
                   try clear c21
                   try clear hx21
                   try clear hf21
                   try clear c23
                   try clear c23b0
                   try clear c25
                   try clear c25b0
                   try clear c25b1
                   try clear c27
                   try clear c28
                   try clear c28b0
                   try clear c29
                   try clear c29b0
                   try clear c30
                   try clear c30b0
                   try clear c31
                   try clear c31b0
                   try clear p32
                   try clear q32
                   try clear hx32
                   try clear hf32
                   try clear c33
                   try clear q33
                   try clear hx18_0
                   try clear hx21_0
                   try clear hx32_0
                   try clear hx492_0
                   try clear p1
                   try clear p18
                   try clear p2
                   try clear p3
                   try clear p32
                   try clear p4
                   try clear p492
                   try clear p6
                   try clear q1
                   try clear q18
                   try clear q3
                   try clear q32
                   try clear q33
                   try clear q4
                   try clear q492
                   obtain ⟨x8_5, x11_5, rfl, HA, HK5, HO_7, HO_8, HB⟩ := hrel
                   have hl8_5 := (Kd.S_reads' HO_8.out).1
                   rw [hl8_5] at HO_8
                   (try simp only [hl8_5])
                   (try simp only [hl8_5] at HO_7)
                   cases gk with
                   | zero => exact absurd HA.out (by simp [ancepsref45_Count.l2])
                   | succ k5 =>
                    have H := HA.out
                    clear HA
                    simp only [ancepsref45_Count.l2] at H
                    by_cases c35 : x11_5 ≤ 4
                    ·rw [if_pos c35] at H
                     have c35b0 : decide (x11_5 ≤ 4) = true := decide_eq_true c35
                     clear c35
                     replace H := Option.bind_eq_some_iff.mp H
                     obtain ⟨⟨t496, t497, t498, t499⟩, A360, H⟩ := H
                     replace H : (if t499 = true then (if 0 ≤ x9_1 then (if x9_1 < (t478.length : Int) then (if 0 ≤ x10_2 then (if x10_2 < ((rd_L2 t478 x9_1).length : Int) then (if 0 ≤ t496 then (if t496 < (t478.length : Int) then (if 0 ≤ t497 then (if t497 < ((rd_L2 t478 t496).length : Int) then (if (rd (rd_L2 t478 x9_1) x10_2) = (wrap64 (t498 + (rd (rd_L2 t478 t496) t497))) then (if x9_1 < (x8_5.length : Int) then (if x10_2 < ((rd_L4 x8_5 x9_1).length : Int) then (if t496 < (x8_5.length : Int) then (if t497 < ((rd_L4 x8_5 t496).length : Int) then ((ancepsref45_capped.f (rd (rd_L4 x8_5 x9_1) x10_2) (rd (rd_L4 x8_5 t496) t497)).bind fun t509 => (ancepsref45_Count.l2 k5 a0 a1 t478 (x8_5.set (x9_1 : Int).toNat ((rd_L4 x8_5 x9_1).set (x10_2 : Int).toNat t509)) x9_1 x10_2 (wrap64 (x11_5 + 1)))) else (none)) else (none)) else (none)) else (none)) else (ancepsref45_Count.l2 k5 a0 a1 t478 x8_5 x9_1 x10_2 (wrap64 (x11_5 + 1)))) else (none)) else (none)) else (none)) else (none)) else (none)) else (none)) else (none)) else (none)) else (ancepsref45_Count.l2 k5 a0 a1 t478 x8_5 x9_1 x10_2 (wrap64 (x11_5 + 1)))) = some (r1, r2) := H
                     have A36 := Aside0.mk A360
                     clear A360
                     by_cases c37 : t499 = true
                     ·subst c37
                      have H1 : (if 0 ≤ x9_1 then (if x9_1 < (t478.length : Int) then (if 0 ≤ x10_2 then (if x10_2 < ((rd_L2 t478 x9_1).length : Int) then (if 0 ≤ t496 then (if t496 < (t478.length : Int) then (if 0 ≤ t497 then (if t497 < ((rd_L2 t478 t496).length : Int) then (if (rd (rd_L2 t478 x9_1) x10_2) = (wrap64 (t498 + (rd (rd_L2 t478 t496) t497))) then (if x9_1 < (x8_5.length : Int) then (if x10_2 < ((rd_L4 x8_5 x9_1).length : Int) then (if t496 < (x8_5.length : Int) then (if t497 < ((rd_L4 x8_5 t496).length : Int) then ((ancepsref45_capped.f (rd (rd_L4 x8_5 x9_1) x10_2) (rd (rd_L4 x8_5 t496) t497)).bind fun t509 => (ancepsref45_Count.l2 k5 a0 a1 t478 (x8_5.set (x9_1 : Int).toNat ((rd_L4 x8_5 x9_1).set (x10_2 : Int).toNat t509)) x9_1 x10_2 (wrap64 (x11_5 + 1)))) else (none)) else (none)) else (none)) else (none)) else (ancepsref45_Count.l2 k5 a0 a1 t478 x8_5 x9_1 x10_2 (wrap64 (x11_5 + 1)))) else (none)) else (none)) else (none)) else (none)) else (none)) else (none)) else (none)) else (none)) = some (r1, r2) := by rw [if_pos rfl] at H; exact H
                      clear H
                      have H := H1
                      clear H1
                      by_cases c38 : 0 ≤ x9_1
                      ·rw [if_pos c38] at H
                       have c38b0 : decide (0 ≤ x9_1) = true := decide_eq_true c38
                       clear c38
                       by_cases c39 : x9_1 < (t478.length : Int)
                       ·rw [if_pos c39] at H
                        have c39b0 : decide (x9_1 < (t478.length : Int)) = true := decide_eq_true c39
                        (try simp only [hl28_2, hl8_25, hl8_5] at c39b0)
                        clear c39
                        by_cases c40 : 0 ≤ x10_2
                        ·rw [if_pos c40] at H
                         have c40b0 : decide (0 ≤ x10_2) = true := decide_eq_true c40
                         clear c40
                         by_cases c41 : x10_2 < ((rd_L2 t478 x9_1).length : Int)
                         ·rw [if_pos c41] at H
                          have c41b0 : decide (x10_2 < ((rd_L2 t478 x9_1).length : Int)) = true := decide_eq_true c41
                          (try simp only [hl28_2, hl8_25, hl8_5] at c41b0)
                          clear c41
                          by_cases c42 : 0 ≤ t496
                          ·rw [if_pos c42] at H
                           have c42b0 : decide (0 ≤ t496) = true := decide_eq_true c42
                           clear c42
                           by_cases c43 : t496 < (t478.length : Int)
                           ·rw [if_pos c43] at H
                            have c43b0 : decide (t496 < (t478.length : Int)) = true := decide_eq_true c43
                            (try simp only [hl28_2, hl8_25, hl8_5] at c43b0)
                            clear c43
                            by_cases c44 : 0 ≤ t497
                            ·rw [if_pos c44] at H
                             have c44b0 : decide (0 ≤ t497) = true := decide_eq_true c44
                             clear c44
                             by_cases c45 : t497 < ((rd_L2 t478 t496).length : Int)
                             ·rw [if_pos c45] at H
                              have c45b0 : decide (t497 < ((rd_L2 t478 t496).length : Int)) = true := decide_eq_true c45
                              (try simp only [hl28_2, hl8_25, hl8_5] at c45b0)
                              clear c45
                              by_cases c46 : (rd (rd_L2 t478 x9_1) x10_2) = (wrap64 (t498 + (rd (rd_L2 t478 t496) t497)))
                              ·rw [if_pos c46] at H
                               have c46b0 : ((rd (rd_L2 t478 x9_1) x10_2) == (wrap64 (t498 + (rd (rd_L2 t478 t496) t497)))) = true := beq_iff_eq.mpr c46
                               have c46b1 : ((rd (rd_L2 t478 x9_1) x10_2) != (wrap64 (t498 + (rd (rd_L2 t478 t496) t497)))) = false := bne_eq_false_iff_eq.mpr c46
                               clear c46
                               by_cases c47 : x9_1 < (x8_5.length : Int)
                               ·rw [if_pos c47] at H
                                have c47b0 : decide (x9_1 < (x8_5.length : Int)) = true := decide_eq_true c47
                                (try simp only [hl28_2, hl8_25, hl8_5] at c47b0)
                                clear c47
                                by_cases c48 : x10_2 < ((rd_L4 x8_5 x9_1).length : Int)
                                ·rw [if_pos c48] at H
                                 have c48b0 : decide (x10_2 < ((rd_L4 x8_5 x9_1).length : Int)) = true := decide_eq_true c48
                                 (try simp only [hl28_2, hl8_25, hl8_5] at c48b0)
                                 clear c48
                                 by_cases c49 : t496 < (x8_5.length : Int)
                                 ·rw [if_pos c49] at H
                                  have c49b0 : decide (t496 < (x8_5.length : Int)) = true := decide_eq_true c49
                                  (try simp only [hl28_2, hl8_25, hl8_5] at c49b0)
                                  clear c49
                                  by_cases c50 : t497 < ((rd_L4 x8_5 t496).length : Int)
                                  ·rw [if_pos c50] at H
                                   have c50b0 : decide (t497 < ((rd_L4 x8_5 t496).length : Int)) = true := decide_eq_true c50
                                   (try simp only [hl28_2, hl8_25, hl8_5] at c50b0)
                                   clear c50
                                   replace H := Option.bind_eq_some_iff.mp H
                                   obtain ⟨t509, A510, H⟩ := H
                                   replace H : (ancepsref45_Count.l2 k5 a0 a1 t478 (x8_5.set (x9_1 : Int).toNat ((rd_L4 x8_5 x9_1).set (x10_2 : Int).toNat t509)) x9_1 x10_2 (wrap64 (x11_5 + 1))) = some (r1, r2) := H
                                   have A51 := Aside0.mk A510
                                   clear A510
                                   obtain ⟨y510, hy510⟩ : ∃ y_ : List Int, y_ = ((rd_L4 x8_5 x9_1).set (x10_2 : Int).toNat t509) := ⟨_, rfl⟩
                                   replace H : (ancepsref45_Count.l2 k5 a0 a1 t478 (x8_5.set (x9_1 : Int).toNat y510) x9_1 x10_2 (wrap64 (x11_5 + 1))) = some (r1, r2) := by first | (rw [hy510]; with_reducible exact H) | (have H2_ := (Option.bind_some _ _).symm.trans H; rw [hy510]; with_reducible exact H2_) | (have H2_ := (Option.bind_some _ _).symm.trans H; with_reducible exact H2_) | with_reducible exact H | (rw [hy510]; exact H) | exact H
                                   have Ny510 := Aside0.mk hy510
                                   clear hy510
                                   obtain ⟨y512, hy512⟩ : ∃ y_ : List (List Int), y_ = (x8_5.set (x9_1 : Int).toNat y510) := ⟨_, rfl⟩
                                   replace H : (ancepsref45_Count.l2 k5 a0 a1 t478 y512 x9_1 x10_2 (wrap64 (x11_5 + 1))) = some (r1, r2) := by first | (rw [hy512]; with_reducible exact H) | (have H2_ := (Option.bind_some _ _).symm.trans H; rw [hy512]; with_reducible exact H2_) | (have H2_ := (Option.bind_some _ _).symm.trans H; with_reducible exact H2_) | with_reducible exact H | (rw [hy512]; exact H) | exact H
                                   have Ny512 := Aside0.mk hy512
                                   clear hy512
                                   have H' := Aside0.mk H
                                   clear H
                                   try go_wp2_with (first | ((with_reducible refine gate_callee (f := 45) rfl ?_); refine goesL_ (some 74) rfl rfl Try.func45 (by kernel_rfl) rfl #[.string a0, .string a1, .int .i64 x9_1, .int .i64 x10_2, .int .i64 x11_5] rfl (by (try simp only [List.map_toArray, List.map_cons, List.map_nil]); first | done | rfl | (simp only [List.length_drop, List.length_take]; rfl)) ?_; (with_reducible refine (ancepsref45_Step.calls k5 a0 a1 x9_1 x10_2 x11_5 t496 t497 t498 true _ A36.out).mono ?_); rintro e w' ⟨rfl, ⟨nd, rfl⟩⟩; refine ⟨_, rfl, ?_⟩; (try (rw [drewN_self wr]; generalize hq_ : World.drewN wr _ = wr; have n0_ : Aside0 (Kd.S (Kd.slice 3 (Kd.int .i64)) 31 wr w.heap.size (fun _ => True) v479 t478) := ⟨by rw [← hq_]; exact (by (with_reducible repeat (first | apply Kd.S_alloc | apply Kd.S_drewN | apply Kd.S_drew)); exact HO_7.out)⟩; have n1_ : Aside0 (Kd.S (Kd.slice 2 (Kd.int .i64)) 83 wr w.heap.size (fun _ => True) (.slice (some ⟨go18, 0, none⟩) x8_5.length co18) x8_5) := ⟨by rw [← hq_]; exact (by (with_reducible repeat (first | apply Kd.S_alloc | apply Kd.S_drewN | apply Kd.S_drew)); exact HO_8.out)⟩; have n2_ : Aside0 (Below w.heap.size w wr) := ⟨by rw [← hq_]; exact (by repeat (first | (with_reducible first | exact HB.out | apply below_alloc | apply pw_below_drewN | apply below_drew1) | exact HB.out))⟩; clear HO_7 HO_8 HB hq_; have HO_7 := n0_; have HO_8 := n1_; have HB := n2_; clear n0_ n1_ n2_))))
                                   have n0_ := Aside0.mk (Kd.S_drew HO_7.out)
                                   have n1_ := Aside0.mk (Kd.S_drew HO_8.out)
                                   have n2_ := Aside0.mk (below_drew1 HB.out)
                                   clear HO_7
                                   clear HO_8
                                   clear HB
                                   have HO_7 := n0_
                                   have HO_8 := n1_
                                   have HB := n2_
                                   clear n0_ n1_ n2_
                                   obtain ⟨Ao54, co54, eo54⟩ := Kd.S_slice HO_7.out
                                   (first | subst eo54 | (injection eo54 with f1_ f2_ f3_; have f4_ := f1_.symm; have f5_ := f3_.symm; clear f1_ f2_ f3_; subst f4_; subst f5_))
                                   have p500 : 0 ≤ (x9_1 : Int) := of_decide_eq_true (by first | (with_reducible assumption) | assumption)
                                   have q500 : x9_1 < (t478.length : Int) := of_decide_eq_true (by first | (with_reducible assumption) | assumption)
                                   obtain ⟨ad500, A500_0, c500_0, e500, hx500_0, hl500_0, hi500_0⟩ := at_L2 (Kd.S_reads' HO_7.out).2.2 x9_1 p500 q500
                                   cases e500
                                   obtain ⟨ce500, hce500, hMe500, hcc500⟩ := Kd.S_get HO_7.out [] x9_1 p500 (by first | exact q500 | exact of_decide_eq_true (by first | (with_reducible assumption) | assumption) | (have e_ := (Kd.S_reads' HO_7.out).1; omega))
                                   obtain ⟨ve500_0, rfl, ge500_0⟩ := hMe500
                                   have hv500_0 := hcc500 0 _ rfl
                                   rw [Nat.add_zero, show ((Kd.slice 3 (Kd.int .i64))).sz = 1 from rfl, Nat.mul_one] at hv500_0
                                   replace hv500_0 := Option.some.inj (hv500_0.symm.trans hx500_0)
                                   rw [hv500_0] at ge500_0
                                   have HL500_0 := Aside0.mk (show Kd.R (Kd.int .i64) 3 _ _ _ _ (rd_L2 t478 x9_1) from ge500_0)
                                   clear hv500_0 ge500_0
                                   have HX500_0 := Aside0.mk hx500_0
                                   clear hcc500 hce500
                                   have HR500_0 := Aside0.mk hi500_0
                                   have HC500_0 := Aside0.mk hl500_0
                                   clear hi500_0 hl500_0
                                   replace p500 := eq_true p500
                                   replace q500 := eq_true q500
                                   have p501 : 0 ≤ (x10_2 : Int) := of_decide_eq_true (by first | (with_reducible assumption) | assumption)
                                   have q501 : x10_2 < ((rd_L2 t478 x9_1).length : Int) := of_decide_eq_true (by first | (with_reducible assumption) | assumption)
                                   obtain ⟨ad501, e501, hx501_0⟩ := Kd.at_int (by repeat (first | (with_reducible exact HR500_0.out) | (with_reducible refine Kd.C_alloc ?_ _) | (with_reducible refine Kd.C_drewN ?_ _) | (with_reducible refine Kd.C_drew ?_) | exact HR500_0.out)) x10_2 p501 q501
                                   cases e501
                                   replace p501 := eq_true p501
                                   replace q501 := eq_true q501
                                   have p502 : 0 ≤ (t496 : Int) := of_decide_eq_true (by first | (with_reducible assumption) | assumption)
                                   have q502 : t496 < (t478.length : Int) := of_decide_eq_true (by first | (with_reducible assumption) | assumption)
                                   obtain ⟨ad502, A502_0, c502_0, e502, hx502_0, hl502_0, hi502_0⟩ := at_L2 (Kd.S_reads' HO_7.out).2.2 t496 p502 q502
                                   obtain rfl : ad500 = ad502 := (by injection e502)
                                   obtain ⟨ce502, hce502, hMe502, hcc502⟩ := Kd.S_get HO_7.out [] t496 p502 (by first | exact q502 | exact of_decide_eq_true (by first | (with_reducible assumption) | assumption) | (have e_ := (Kd.S_reads' HO_7.out).1; omega))
                                   obtain ⟨ve502_0, rfl, ge502_0⟩ := hMe502
                                   have hv502_0 := hcc502 0 _ rfl
                                   rw [Nat.add_zero, show ((Kd.slice 3 (Kd.int .i64))).sz = 1 from rfl, Nat.mul_one] at hv502_0
                                   replace hv502_0 := Option.some.inj (hv502_0.symm.trans hx502_0)
                                   rw [hv502_0] at ge502_0
                                   have HL502_0 := Aside0.mk (show Kd.R (Kd.int .i64) 3 _ _ _ _ (rd_L2 t478 t496) from ge502_0)
                                   clear hv502_0 ge502_0
                                   have HX502_0 := Aside0.mk hx502_0
                                   clear hcc502 hce502
                                   have HR502_0 := Aside0.mk hi502_0
                                   have HC502_0 := Aside0.mk hl502_0
                                   clear hi502_0 hl502_0
                                   replace p502 := eq_true p502
                                   replace q502 := eq_true q502
                                   have p503 : 0 ≤ (t497 : Int) := of_decide_eq_true (by first | (with_reducible assumption) | assumption)
                                   have q503 : t497 < ((rd_L2 t478 t496).length : Int) := of_decide_eq_true (by first | (with_reducible assumption) | assumption)
                                   obtain ⟨ad503, e503, hx503_0⟩ := Kd.at_int (by repeat (first | (with_reducible exact HR502_0.out) | (with_reducible refine Kd.C_alloc ?_ _) | (with_reducible refine Kd.C_drewN ?_ _) | (with_reducible refine Kd.C_drew ?_) | exact HR502_0.out)) t497 p503 q503
                                   cases e503
                                   replace p503 := eq_true p503
                                   replace q503 := eq_true q503
                                   refine start_ (n := 20) (S := fun w' => w'.cell? (ad500.add (x9_1).toNat) = some (.slice (some ad501) (rd_L2 t478 x9_1).length c500_0) ∧ w'.cell? (ad501.add (x10_2).toNat) = some (.int .i64 (rd (rd_L2 t478 x9_1) x10_2)) ∧ w'.cell? (ad500.add (t496).toNat) = some (.slice (some ad503) (rd_L2 t478 t496).length c502_0) ∧ w'.cell? (ad503.add (t497).toNat) = some (.int .i64 (rd (rd_L2 t478 t496) t497))) (ds := []) #[false, false, false, false, false, false, false, false, false, false, false, false, false, false, false, false, false, false, false, false] (by kernel_rfl) rfl rfl ⟨hx500_0, hx501_0, hx502_0, hx503_0⟩ (fun hHeld => ?_); refine with_tabW ancepsref45_Count.tab19 ancepsref45_Count.bits19 (fun HT_ HW_ => ?_)
                                   generalize wr.drew = w53 at HO_7 HO_8 HB HL500_0 HL502_0 HR500_0 HR502_0 HX500_0 HX502_0 hx500_0 hx501_0 hx502_0 hx503_0 hHeld ⊢
                                   refine pure_ (i := 0) (N := some 79) (v := ?_) (a' := ?_) #[true, false, false, false, false, false, false, false, false, false, false, false, false, false, false, false, false, false, false, false] rfl rfl (any_of HT_.out (by kernel_rfl)) (fun _ _ _ h => h) (Or.inl ⟨by rfl, ?_⟩) ?_ ?_
                                   rotate_left
                                   ·intro w'
                                    go_simp
                                    with_reducible rfl
                                   rotate_left
                                   ·simp only [Act.put, List.setIfInBounds_toArray, List.set_cons_zero, List.set_cons_succ, i64_w, i32_w]
                                    rfl
                                   refine pure_ (i := 1) (N := some 80) (v := ?_) (a' := ?_) #[true, true, false, false, false, false, false, false, false, false, false, false, false, false, false, false, false, false, false, false] rfl rfl (any_of HT_.out (by kernel_rfl)) (fun _ _ _ h => h) (Or.inl ⟨by rfl, ?_⟩) ?_ ?_
                                   rotate_left
                                   ·intro w'
                                    go_simp
                                    with_reducible rfl
                                   rotate_left
                                   ·simp only [Act.put, List.setIfInBounds_toArray, List.set_cons_zero, List.set_cons_succ, i64_w, i32_w]
                                    rfl
                                   refine pure_ (i := 2) (N := some 81) (v := ?_) (a' := ?_) #[true, true, true, false, false, false, false, false, false, false, false, false, false, false, false, false, false, false, false, false] rfl rfl (any_of HT_.out (by kernel_rfl)) (fun _ _ _ h => h) (Or.inl ⟨by rfl, ?_⟩) ?_ ?_
                                   rotate_left
                                   ·intro w'
                                    go_simp
                                    with_reducible rfl
                                   rotate_left
                                   ·simp only [Act.put, List.setIfInBounds_toArray, List.set_cons_zero, List.set_cons_succ, i64_w, i32_w]
                                    rfl
                                   refine pure_ (i := 3) (N := some 82) (v := ?_) (a' := ?_) #[true, true, true, true, false, false, false, false, false, false, false, false, false, false, false, false, false, false, false, false] rfl rfl (any_of HT_.out (by kernel_rfl)) (fun _ _ _ h => h) (Or.inl ⟨by rfl, ?_⟩) ?_ ?_
                                   rotate_left
                                   ·intro w'
                                    go_simp
                                    with_reducible rfl
                                   rotate_left
                                   ·simp only [Act.put, List.setIfInBounds_toArray, List.set_cons_zero, List.set_cons_succ, i64_w, i32_w]
                                    rfl
                                   refine pure_ (i := 4) (N := some 83) (v := ?_) (a' := ?_) #[true, true, true, true, true, false, false, false, false, false, false, false, false, false, false, false, false, false, false, false] rfl rfl (any_of HT_.out (by kernel_rfl)) (fun _ _ _ h => h) (Or.inl ⟨by rfl, ?_⟩) ?_ ?_
                                   rotate_left
                                   ·intro w'
                                    go_simp
                                    with_reducible rfl
                                   rotate_left
                                   ·simp only [Act.put, List.setIfInBounds_toArray, List.set_cons_zero, List.set_cons_succ, i64_w, i32_w]
                                    rfl
                                   refine pure_ (i := 6) (N := some 85) (v := ?_) (a' := ?_) #[true, true, true, true, true, false, true, false, false, false, false, false, false, false, false, false, false, false, false, false] rfl rfl (any_of HT_.out (by kernel_rfl)) (fun _ _ _ h => h) (Or.inl ⟨by rfl, ?_⟩) ?_ ?_
                                   rotate_left
                                   ·intro w'
                                    go_simp
                                    with_reducible rfl
                                   rotate_left
                                   ·simp only [Act.put, List.setIfInBounds_toArray, List.set_cons_zero, List.set_cons_succ, i64_w, i32_w]
                                    rfl
                                   refine pure_ (i := 9) (N := some 88) (v := ?_) (a' := ?_) #[true, true, true, true, true, false, true, false, false, true, false, false, false, false, false, false, false, false, false, false] rfl rfl (any_of HT_.out (by kernel_rfl)) (fun _ _ _ h => h) (Or.inl ⟨by rfl, ?_⟩) ?_ ?_
                                   rotate_left
                                   ·intro w'
                                    go_simp
                                    with_reducible rfl
                                   rotate_left
                                   ·simp only [Act.put, List.setIfInBounds_toArray, List.set_cons_zero, List.set_cons_succ, i64_w, i32_w]
                                    rfl
                                   refine pure_ (i := 10) (N := some 89) (v := ?_) (a' := ?_) #[true, true, true, true, true, false, true, false, false, true, true, false, false, false, false, false, false, false, false, false] rfl rfl (any_of HT_.out (by kernel_rfl)) (fun _ _ _ h => h) (Or.inl ⟨by rfl, ?_⟩) ?_ ?_
                                   rotate_left
                                   ·intro w'
                                    go_simp
                                    with_reducible rfl
                                   rotate_left
                                   ·simp only [Act.put, List.setIfInBounds_toArray, List.set_cons_zero, List.set_cons_succ, i64_w, i32_w]
                                    rfl
                                   refine pure_ (i := 11) (N := some 90) (v := ?_) (a' := ?_) #[true, true, true, true, true, false, true, false, false, true, true, true, false, false, false, false, false, false, false, false] rfl rfl (any_of HT_.out (by kernel_rfl)) (fun _ _ _ h => h) (Or.inl ⟨by rfl, ?_⟩) ?_ ?_
                                   rotate_left
                                   ·intro w'
                                    go_simp
                                    with_reducible rfl
                                   rotate_left
                                   ·simp only [Act.put, List.setIfInBounds_toArray, List.set_cons_zero, List.set_cons_succ, i64_w, i32_w]
                                    rfl
                                   refine pure_ (i := 12) (N := some 91) (v := ?_) (a' := ?_) #[true, true, true, true, true, false, true, false, false, true, true, true, true, false, false, false, false, false, false, false] rfl rfl (any_of HT_.out (by kernel_rfl)) (fun _ _ _ h => h) (Or.inl ⟨by rfl, ?_⟩) ?_ ?_
                                   rotate_left
                                   ·intro w'
                                    go_simp
                                    with_reducible rfl
                                   rotate_left
                                   ·simp only [Act.put, List.setIfInBounds_toArray, List.set_cons_zero, List.set_cons_succ, i64_w, i32_w]
                                    rfl
                                   refine pure_ (i := 14) (N := some 93) (v := ?_) (a' := ?_) #[true, true, true, true, true, false, true, false, false, true, true, true, true, false, true, false, false, false, false, false] rfl rfl (any_of HT_.out (by kernel_rfl)) (fun _ _ _ h => h) (Or.inl ⟨by rfl, ?_⟩) ?_ ?_
                                   rotate_left
                                   ·intro w'
                                    go_simp
                                    with_reducible rfl
                                   rotate_left
                                   ·simp only [Act.put, List.setIfInBounds_toArray, List.set_cons_zero, List.set_cons_succ, i64_w, i32_w]
                                    rfl
                                   refine take_ (i := 5) (N := some 84) (v := ?_) (a' := ?_) #[true, true, true, true, true, true, true, false, false, true, true, true, true, false, true, false, false, false, false, false] rfl rfl (take_ofW HT_.out HW_.out (by kernel_rfl)) (fun _ _ _ h => h) (Or.inl ⟨by rfl, ?_⟩) hHeld ?_ ?_
                                   rotate_left
                                   ·rintro w' ⟨s0, s1, s2, s3⟩
                                    go_simp
                                    with_reducible rfl
                                   rotate_left
                                   ·simp only [Act.put, List.setIfInBounds_toArray, List.set_cons_zero, List.set_cons_succ, i64_w, i32_w]
                                    rfl
                                   refine pure_ (i := 7) (N := some 86) (v := ?_) (a' := ?_) #[true, true, true, true, true, true, true, true, false, true, true, true, true, false, true, false, false, false, false, false] rfl rfl (any_of HT_.out (by kernel_rfl)) (fun _ _ _ h => h) (Or.inl ⟨by rfl, ?_⟩) ?_ ?_
                                   rotate_left
                                   ·intro w'
                                    go_simp
                                    with_reducible rfl
                                   rotate_left
                                   ·simp only [Act.put, List.setIfInBounds_toArray, List.set_cons_zero, List.set_cons_succ, i64_w, i32_w]
                                    rfl
                                   refine take_ (i := 8) (N := some 87) (v := ?_) (a' := ?_) #[true, true, true, true, true, true, true, true, true, true, true, true, true, false, true, false, false, false, false, false] rfl rfl (take_ofW HT_.out HW_.out (by kernel_rfl)) (fun _ _ _ h => h) (Or.inl ⟨by rfl, ?_⟩) hHeld ?_ ?_
                                   rotate_left
                                   ·rintro w' ⟨s0, s1, s2, s3⟩
                                    go_simp
                                    with_reducible rfl
                                   rotate_left
                                   ·simp only [Act.put, List.setIfInBounds_toArray, List.set_cons_zero, List.set_cons_succ, i64_w, i32_w]
                                    rfl
                                   refine take_ (i := 13) (N := some 92) (v := ?_) (a' := ?_) #[true, true, true, true, true, true, true, true, true, true, true, true, true, true, true, false, false, false, false, false] rfl rfl (take_ofW HT_.out HW_.out (by kernel_rfl)) (fun _ _ _ h => h) (Or.inl ⟨by rfl, ?_⟩) hHeld ?_ ?_
                                   rotate_left
                                   ·rintro w' ⟨s0, s1, s2, s3⟩
                                    go_simp
                                    with_reducible rfl
                                   rotate_left
                                   ·simp only [Act.put, List.setIfInBounds_toArray, List.set_cons_zero, List.set_cons_succ, i64_w, i32_w]
                                    rfl
                                   refine pure_ (i := 15) (N := some 94) (v := ?_) (a' := ?_) #[true, true, true, true, true, true, true, true, true, true, true, true, true, true, true, true, false, false, false, false] rfl rfl (any_of HT_.out (by kernel_rfl)) (fun _ _ _ h => h) (Or.inl ⟨by rfl, ?_⟩) ?_ ?_
                                   rotate_left
                                   ·intro w'
                                    go_simp
                                    with_reducible rfl
                                   rotate_left
                                   ·simp only [Act.put, List.setIfInBounds_toArray, List.set_cons_zero, List.set_cons_succ, i64_w, i32_w]
                                    rfl
                                   refine take_ (i := 16) (N := some 95) (v := ?_) (a' := ?_) #[true, true, true, true, true, true, true, true, true, true, true, true, true, true, true, true, true, false, false, false] rfl rfl (take_ofW HT_.out HW_.out (by kernel_rfl)) (fun _ _ _ h => h) (Or.inl ⟨by rfl, ?_⟩) hHeld ?_ ?_
                                   rotate_left
                                   ·rintro w' ⟨s0, s1, s2, s3⟩
                                    go_simp
                                    with_reducible rfl
                                   rotate_left
                                   ·simp only [Act.put, List.setIfInBounds_toArray, List.set_cons_zero, List.set_cons_succ, i64_w, i32_w]
                                    rfl
                                   refine pure_ (i := 17) (N := some 96) (v := ?_) (a' := ?_) #[true, true, true, true, true, true, true, true, true, true, true, true, true, true, true, true, true, true, false, false] rfl rfl (any_of HT_.out (by kernel_rfl)) (fun _ _ _ h => h) (Or.inl ⟨by rfl, ?_⟩) ?_ ?_
                                   rotate_left
                                   ·intro w'
                                    go_simp
                                    with_reducible rfl
                                   rotate_left
                                   ·simp only [Act.put, List.setIfInBounds_toArray, List.set_cons_zero, List.set_cons_succ, i64_w, i32_w]
                                    rfl
                                   refine pure_ (i := 18) (N := some 97) (v := ?_) (a' := ?_) #[true, true, true, true, true, true, true, true, true, true, true, true, true, true, true, true, true, true, true, false] rfl rfl (any_of HT_.out (by kernel_rfl)) (fun _ _ _ h => h) (Or.inl ⟨by rfl, ?_⟩) ?_ ?_
                                   rotate_left
                                   ·intro w'
                                    go_simp
                                    with_reducible rfl
                                   rotate_left
                                   ·simp only [Act.put, List.setIfInBounds_toArray, List.set_cons_zero, List.set_cons_succ, i64_w, i32_w]
                                    rfl
                                   refine pure_ (i := 19) (N := some 98) (v := ?_) (a' := ?_) #[true, true, true, true, true, true, true, true, true, true, true, true, true, true, true, true, true, true, true, true] rfl rfl (any_of HT_.out (by kernel_rfl)) (fun _ _ _ h => h) (Or.inl ⟨by rfl, ?_⟩) ?_ ?_
                                   rotate_left
                                   ·intro w'
                                    go_simp
                                    with_reducible rfl
                                   rotate_left
                                   ·simp only [Act.put, List.setIfInBounds_toArray, List.set_cons_zero, List.set_cons_succ, i64_w, i32_w]
                                    rfl
                                   refine done_ (done_of HT_.out (by kernel_rfl)) ?_
                                   try go_wp2
                                   have n0_ := Aside0.mk (Kd.S_drew HO_7.out)
                                   have n1_ := Aside0.mk (Kd.S_drew HO_8.out)
                                   have n2_ := Aside0.mk (Kd.R_drew HL500_0.out)
                                   have n3_ := Aside0.mk (Kd.R_drew HL502_0.out)
                                   have n4_ := Aside0.mk (Kd.C_drew HR500_0.out)
                                   have n5_ := Aside0.mk (Kd.C_drew HR502_0.out)
                                   have n6_ := Aside0.mk (below_drew1 HB.out)
                                   clear HO_7
                                   clear HO_8
                                   clear HL500_0
                                   clear HL502_0
                                   clear HR500_0
                                   clear HR502_0
                                   clear HB
                                   have HO_7 := n0_
                                   have HO_8 := n1_
                                   have HL500_0 := n2_
                                   have HL502_0 := n3_
                                   have HR500_0 := n4_
                                   have HR502_0 := n5_
                                   have HB := n6_
                                   clear n0_ n1_ n2_ n3_ n4_ n5_ n6_
                                   have p504 : 0 ≤ (x9_1 : Int) := of_decide_eq_true (by first | (with_reducible assumption) | assumption)
                                   have q504 : x9_1 < (x8_5.length : Int) := of_decide_eq_true (by first | (with_reducible assumption) | assumption)
                                   obtain ⟨ad504, A504_0, c504_0, e504, hx504_0, hl504_0, hi504_0⟩ := at_L4 (Kd.S_reads' HO_8.out).2.2 x9_1 p504 q504
                                   obtain rfl : (⟨go18, 0, none⟩ : Addr) = ad504 := (by injection e504)
                                   obtain ⟨ce504, hce504, hMe504, hcc504⟩ := Kd.S_get HO_8.out [] x9_1 p504 (by first | exact q504 | exact of_decide_eq_true (by first | (with_reducible assumption) | assumption) | (have e_ := (Kd.S_reads' HO_8.out).1; omega))
                                   obtain ⟨ve504_0, rfl, ge504_0⟩ := hMe504
                                   have hv504_0 := hcc504 0 _ rfl
                                   rw [Nat.add_zero, show ((Kd.slice 2 (Kd.int .i64))).sz = 1 from rfl, Nat.mul_one] at hv504_0
                                   replace hv504_0 := Option.some.inj (hv504_0.symm.trans hx504_0)
                                   rw [hv504_0] at ge504_0
                                   have HL504_0 := Aside0.mk (show Kd.R (Kd.int .i64) 2 _ _ _ _ (rd_L4 x8_5 x9_1) from ge504_0)
                                   clear hv504_0 ge504_0
                                   have HX504_0 := Aside0.mk hx504_0
                                   clear hcc504 hce504
                                   (first | simp only [add_plain] at hx504_0 | simp only [add_at] at hx504_0 | simp only [Addr.add, Nat.zero_add] at hx504_0 | skip)
                                   have HR504_0 := Aside0.mk hi504_0
                                   have HC504_0 := Aside0.mk hl504_0
                                   clear hi504_0 hl504_0
                                   replace p504 := eq_true p504
                                   replace q504 := eq_true q504
                                   have p505 : 0 ≤ (x9_1 : Int) := of_decide_eq_true (by first | (with_reducible assumption) | assumption)
                                   have q505 : x9_1 < (x8_5.length : Int) := of_decide_eq_true (by first | (with_reducible assumption) | assumption)
                                   obtain ⟨ad505, A505_0, c505_0, e505, hx505_0, hl505_0, hi505_0⟩ := at_L4 (Kd.S_reads' HO_8.out).2.2 x9_1 p505 q505
                                   obtain rfl : (⟨go18, 0, none⟩ : Addr) = ad505 := (by injection e505)
                                   obtain ⟨ce505, hce505, hMe505, hcc505⟩ := Kd.S_get HO_8.out [] x9_1 p505 (by first | exact q505 | exact of_decide_eq_true (by first | (with_reducible assumption) | assumption) | (have e_ := (Kd.S_reads' HO_8.out).1; omega))
                                   obtain ⟨ve505_0, rfl, ge505_0⟩ := hMe505
                                   have hv505_0 := hcc505 0 _ rfl
                                   rw [Nat.add_zero, show ((Kd.slice 2 (Kd.int .i64))).sz = 1 from rfl, Nat.mul_one] at hv505_0
                                   replace hv505_0 := Option.some.inj (hv505_0.symm.trans hx505_0)
                                   rw [hv505_0] at ge505_0
                                   have HL505_0 := Aside0.mk (show Kd.R (Kd.int .i64) 2 _ _ _ _ (rd_L4 x8_5 x9_1) from ge505_0)
                                   clear hv505_0 ge505_0
                                   have HX505_0 := Aside0.mk hx505_0
                                   clear hcc505 hce505
                                   (first | simp only [add_plain] at hx505_0 | simp only [add_at] at hx505_0 | simp only [Addr.add, Nat.zero_add] at hx505_0 | skip)
                                   have HR505_0 := Aside0.mk hi505_0
                                   have HC505_0 := Aside0.mk hl505_0
                                   clear hi505_0 hl505_0
                                   replace p505 := eq_true p505
                                   replace q505 := eq_true q505
                                   have ea_ := Option.some.inj (hx504_0.symm.trans hx505_0)
                                   injection ea_ with ea_ en_ ec_
                                   subst ea_
                                   subst ec_
                                   clear en_
                                   have p506 : 0 ≤ (x10_2 : Int) := of_decide_eq_true (by first | (with_reducible assumption) | assumption)
                                   have q506 : x10_2 < ((rd_L4 x8_5 x9_1).length : Int) := of_decide_eq_true (by first | (with_reducible assumption) | assumption)
                                   obtain ⟨ad506, e506, hx506_0⟩ := Kd.at_int (by repeat (first | (with_reducible exact HR505_0.out) | (with_reducible refine Kd.C_alloc ?_ _) | (with_reducible refine Kd.C_drewN ?_ _) | (with_reducible refine Kd.C_drew ?_) | exact HR505_0.out)) x10_2 p506 q506
                                   cases e506
                                   replace p506 := eq_true p506
                                   replace q506 := eq_true q506
                                   have p507 : 0 ≤ (t496 : Int) := of_decide_eq_true (by first | (with_reducible assumption) | assumption)
                                   have q507 : t496 < (x8_5.length : Int) := of_decide_eq_true (by first | (with_reducible assumption) | assumption)
                                   obtain ⟨ad507, A507_0, c507_0, e507, hx507_0, hl507_0, hi507_0⟩ := at_L4 (Kd.S_reads' HO_8.out).2.2 t496 p507 q507
                                   obtain rfl : (⟨go18, 0, none⟩ : Addr) = ad507 := (by injection e507)
                                   obtain ⟨ce507, hce507, hMe507, hcc507⟩ := Kd.S_get HO_8.out [] t496 p507 (by first | exact q507 | exact of_decide_eq_true (by first | (with_reducible assumption) | assumption) | (have e_ := (Kd.S_reads' HO_8.out).1; omega))
                                   obtain ⟨ve507_0, rfl, ge507_0⟩ := hMe507
                                   have hv507_0 := hcc507 0 _ rfl
                                   rw [Nat.add_zero, show ((Kd.slice 2 (Kd.int .i64))).sz = 1 from rfl, Nat.mul_one] at hv507_0
                                   replace hv507_0 := Option.some.inj (hv507_0.symm.trans hx507_0)
                                   rw [hv507_0] at ge507_0
                                   have HL507_0 := Aside0.mk (show Kd.R (Kd.int .i64) 2 _ _ _ _ (rd_L4 x8_5 t496) from ge507_0)
                                   clear hv507_0 ge507_0
                                   have HX507_0 := Aside0.mk hx507_0
                                   clear hcc507 hce507
                                   (first | simp only [add_plain] at hx507_0 | simp only [add_at] at hx507_0 | simp only [Addr.add, Nat.zero_add] at hx507_0 | skip)
                                   have HR507_0 := Aside0.mk hi507_0
                                   have HC507_0 := Aside0.mk hl507_0
                                   clear hi507_0 hl507_0
                                   replace p507 := eq_true p507
                                   replace q507 := eq_true q507
                                   have p508 : 0 ≤ (t497 : Int) := of_decide_eq_true (by first | (with_reducible assumption) | assumption)
                                   have q508 : t497 < ((rd_L4 x8_5 t496).length : Int) := of_decide_eq_true (by first | (with_reducible assumption) | assumption)
                                   obtain ⟨ad508, e508, hx508_0⟩ := Kd.at_int (by repeat (first | (with_reducible exact HR507_0.out) | (with_reducible refine Kd.C_alloc ?_ _) | (with_reducible refine Kd.C_drewN ?_ _) | (with_reducible refine Kd.C_drew ?_) | exact HR507_0.out)) t497 p508 q508
                                   cases e508
                                   replace p508 := eq_true p508
                                   replace q508 := eq_true q508
                                   refine start_ (n := 22) (S := fun w' => w'.cell? ⟨go18, (x9_1).toNat, none⟩ = some (.slice (some ad506) (rd_L4 x8_5 x9_1).length c504_0) ∧ w'.cell? ⟨go18, (x9_1).toNat, none⟩ = some (.slice (some ad506) (rd_L4 x8_5 x9_1).length c504_0) ∧ w'.cell? (ad506.add (x10_2).toNat) = some (.int .i64 (rd (rd_L4 x8_5 x9_1) x10_2)) ∧ w'.cell? ⟨go18, (t496).toNat, none⟩ = some (.slice (some ad508) (rd_L4 x8_5 t496).length c507_0) ∧ w'.cell? (ad508.add (t497).toNat) = some (.int .i64 (rd (rd_L4 x8_5 t496) t497))) (ds := [21]) #[false, false, false, false, false, false, false, false, false, false, false, false, false, false, false, false, false, false, false, false, false, false] (by kernel_rfl) rfl rfl ⟨hx504_0, hx505_0, hx506_0, hx507_0, hx508_0⟩ (fun hHeld => ?_); refine with_tabW ancepsref45_Count.tab20 ancepsref45_Count.bits20 (fun HT_ HW_ => ?_)
                                   generalize w53.drew = w55 at HO_7 HO_8 HL500_0 HL502_0 HR500_0 HR502_0 HB HL504_0 HL505_0 HL507_0 HR504_0 HR505_0 HR507_0 HX504_0 HX505_0 HX507_0 hx504_0 hx505_0 hx506_0 hx507_0 hx508_0 hHeld ⊢
                                   refine pure_ (i := 0) (N := some 99) (v := ?_) (a' := ?_) #[true, false, false, false, false, false, false, false, false, false, false, false, false, false, false, false, false, false, false, false, false, false] rfl rfl (any_of HT_.out (by kernel_rfl)) (fun _ _ _ h => h) (Or.inl ⟨by rfl, ?_⟩) ?_ ?_
                                   rotate_left
                                   ·intro w'
                                    go_simp
                                    with_reducible rfl
                                   rotate_left
                                   ·simp only [Act.put, List.setIfInBounds_toArray, List.set_cons_zero, List.set_cons_succ, i64_w, i32_w]
                                    rfl
                                   refine pure_ (i := 1) (N := some 100) (v := ?_) (a' := ?_) #[true, true, false, false, false, false, false, false, false, false, false, false, false, false, false, false, false, false, false, false, false, false] rfl rfl (any_of HT_.out (by kernel_rfl)) (fun _ _ _ h => h) (Or.inl ⟨by rfl, ?_⟩) ?_ ?_
                                   rotate_left
                                   ·intro w'
                                    go_simp
                                    with_reducible rfl
                                   rotate_left
                                   ·simp only [Act.put, List.setIfInBounds_toArray, List.set_cons_zero, List.set_cons_succ, i64_w, i32_w]
                                    rfl
                                   refine pure_ (i := 2) (N := some 101) (v := ?_) (a' := ?_) #[true, true, true, false, false, false, false, false, false, false, false, false, false, false, false, false, false, false, false, false, false, false] rfl rfl (any_of HT_.out (by kernel_rfl)) (fun _ _ _ h => h) (Or.inl ⟨by rfl, ?_⟩) ?_ ?_
                                   rotate_left
                                   ·intro w'
                                    go_simp
                                    with_reducible rfl
                                   rotate_left
                                   ·simp only [Act.put, List.setIfInBounds_toArray, List.set_cons_zero, List.set_cons_succ, i64_w, i32_w]
                                    rfl
                                   refine pure_ (i := 4) (N := some 103) (v := ?_) (a' := ?_) #[true, true, true, false, true, false, false, false, false, false, false, false, false, false, false, false, false, false, false, false, false, false] rfl rfl (any_of HT_.out (by kernel_rfl)) (fun _ _ _ h => h) (Or.inl ⟨by rfl, ?_⟩) ?_ ?_
                                   rotate_left
                                   ·intro w'
                                    go_simp
                                    with_reducible rfl
                                   rotate_left
                                   ·simp only [Act.put, List.setIfInBounds_toArray, List.set_cons_zero, List.set_cons_succ, i64_w, i32_w]
                                    rfl
                                   refine pure_ (i := 5) (N := some 104) (v := ?_) (a' := ?_) #[true, true, true, false, true, true, false, false, false, false, false, false, false, false, false, false, false, false, false, false, false, false] rfl rfl (any_of HT_.out (by kernel_rfl)) (fun _ _ _ h => h) (Or.inl ⟨by rfl, ?_⟩) ?_ ?_
                                   rotate_left
                                   ·intro w'
                                    go_simp
                                    with_reducible rfl
                                   rotate_left
                                   ·simp only [Act.put, List.setIfInBounds_toArray, List.set_cons_zero, List.set_cons_succ, i64_w, i32_w]
                                    rfl
                                   refine pure_ (i := 6) (N := some 105) (v := ?_) (a' := ?_) #[true, true, true, false, true, true, true, false, false, false, false, false, false, false, false, false, false, false, false, false, false, false] rfl rfl (any_of HT_.out (by kernel_rfl)) (fun _ _ _ h => h) (Or.inl ⟨by rfl, ?_⟩) ?_ ?_
                                   rotate_left
                                   ·intro w'
                                    go_simp
                                    with_reducible rfl
                                   rotate_left
                                   ·simp only [Act.put, List.setIfInBounds_toArray, List.set_cons_zero, List.set_cons_succ, i64_w, i32_w]
                                    rfl
                                   refine pure_ (i := 7) (N := some 106) (v := ?_) (a' := ?_) #[true, true, true, false, true, true, true, true, false, false, false, false, false, false, false, false, false, false, false, false, false, false] rfl rfl (any_of HT_.out (by kernel_rfl)) (fun _ _ _ h => h) (Or.inl ⟨by rfl, ?_⟩) ?_ ?_
                                   rotate_left
                                   ·intro w'
                                    go_simp
                                    with_reducible rfl
                                   rotate_left
                                   ·simp only [Act.put, List.setIfInBounds_toArray, List.set_cons_zero, List.set_cons_succ, i64_w, i32_w]
                                    rfl
                                   refine pure_ (i := 9) (N := some 108) (v := ?_) (a' := ?_) #[true, true, true, false, true, true, true, true, false, true, false, false, false, false, false, false, false, false, false, false, false, false] rfl rfl (any_of HT_.out (by kernel_rfl)) (fun _ _ _ h => h) (Or.inl ⟨by rfl, ?_⟩) ?_ ?_
                                   rotate_left
                                   ·intro w'
                                    go_simp
                                    with_reducible rfl
                                   rotate_left
                                   ·simp only [Act.put, List.setIfInBounds_toArray, List.set_cons_zero, List.set_cons_succ, i64_w, i32_w]
                                    rfl
                                   refine pure_ (i := 12) (N := some 111) (v := ?_) (a' := ?_) #[true, true, true, false, true, true, true, true, false, true, false, false, true, false, false, false, false, false, false, false, false, false] rfl rfl (any_of HT_.out (by kernel_rfl)) (fun _ _ _ h => h) (Or.inl ⟨by rfl, ?_⟩) ?_ ?_
                                   rotate_left
                                   ·intro w'
                                    go_simp
                                    with_reducible rfl
                                   rotate_left
                                   ·simp only [Act.put, List.setIfInBounds_toArray, List.set_cons_zero, List.set_cons_succ, i64_w, i32_w]
                                    rfl
                                   refine pure_ (i := 13) (N := some 112) (v := ?_) (a' := ?_) #[true, true, true, false, true, true, true, true, false, true, false, false, true, true, false, false, false, false, false, false, false, false] rfl rfl (any_of HT_.out (by kernel_rfl)) (fun _ _ _ h => h) (Or.inl ⟨by rfl, ?_⟩) ?_ ?_
                                   rotate_left
                                   ·intro w'
                                    go_simp
                                    with_reducible rfl
                                   rotate_left
                                   ·simp only [Act.put, List.setIfInBounds_toArray, List.set_cons_zero, List.set_cons_succ, i64_w, i32_w]
                                    rfl
                                   refine pure_ (i := 14) (N := some 113) (v := ?_) (a' := ?_) #[true, true, true, false, true, true, true, true, false, true, false, false, true, true, true, false, false, false, false, false, false, false] rfl rfl (any_of HT_.out (by kernel_rfl)) (fun _ _ _ h => h) (Or.inl ⟨by rfl, ?_⟩) ?_ ?_
                                   rotate_left
                                   ·intro w'
                                    go_simp
                                    with_reducible rfl
                                   rotate_left
                                   ·simp only [Act.put, List.setIfInBounds_toArray, List.set_cons_zero, List.set_cons_succ, i64_w, i32_w]
                                    rfl
                                   refine pure_ (i := 16) (N := some 115) (v := ?_) (a' := ?_) #[true, true, true, false, true, true, true, true, false, true, false, false, true, true, true, false, true, false, false, false, false, false] rfl rfl (any_of HT_.out (by kernel_rfl)) (fun _ _ _ h => h) (Or.inl ⟨by rfl, ?_⟩) ?_ ?_
                                   rotate_left
                                   ·intro w'
                                    go_simp
                                    with_reducible rfl
                                   rotate_left
                                   ·simp only [Act.put, List.setIfInBounds_toArray, List.set_cons_zero, List.set_cons_succ, i64_w, i32_w]
                                    rfl
                                   refine take_ (i := 3) (N := some 102) (v := ?_) (a' := ?_) #[true, true, true, true, true, true, true, true, false, true, false, false, true, true, true, false, true, false, false, false, false, false] rfl rfl (take_ofW HT_.out HW_.out (by kernel_rfl)) (fun _ _ _ h => h) (Or.inl ⟨by rfl, ?_⟩) hHeld ?_ ?_
                                   rotate_left
                                   ·rintro w' ⟨s0, s1, s2, s3, s4⟩
                                    go_simp
                                    with_reducible rfl
                                   rotate_left
                                   ·simp only [Act.put, List.setIfInBounds_toArray, List.set_cons_zero, List.set_cons_succ, i64_w, i32_w]
                                    rfl
                                   refine take_ (i := 8) (N := some 107) (v := ?_) (a' := ?_) #[true, true, true, true, true, true, true, true, true, true, false, false, true, true, true, false, true, false, false, false, false, false] rfl rfl (take_ofW HT_.out HW_.out (by kernel_rfl)) (fun _ _ _ h => h) (Or.inl ⟨by rfl, ?_⟩) hHeld ?_ ?_
                                   rotate_left
                                   ·rintro w' ⟨s0, s1, s2, s3, s4⟩
                                    go_simp
                                    with_reducible rfl
                                   rotate_left
                                   ·simp only [Act.put, List.setIfInBounds_toArray, List.set_cons_zero, List.set_cons_succ, i64_w, i32_w]
                                    rfl
                                   refine pure_ (i := 10) (N := some 109) (v := ?_) (a' := ?_) #[true, true, true, true, true, true, true, true, true, true, true, false, true, true, true, false, true, false, false, false, false, false] rfl rfl (any_of HT_.out (by kernel_rfl)) (fun _ _ _ h => h) (Or.inl ⟨by rfl, ?_⟩) ?_ ?_
                                   rotate_left
                                   ·intro w'
                                    go_simp
                                    with_reducible rfl
                                   rotate_left
                                   ·simp only [Act.put, List.setIfInBounds_toArray, List.set_cons_zero, List.set_cons_succ, i64_w, i32_w]
                                    rfl
                                   refine take_ (i := 11) (N := some 110) (v := ?_) (a' := ?_) #[true, true, true, true, true, true, true, true, true, true, true, true, true, true, true, false, true, false, false, false, false, false] rfl rfl (take_ofW HT_.out HW_.out (by kernel_rfl)) (fun _ _ _ h => h) (Or.inl ⟨by rfl, ?_⟩) hHeld ?_ ?_
                                   rotate_left
                                   ·rintro w' ⟨s0, s1, s2, s3, s4⟩
                                    go_simp
                                    with_reducible rfl
                                   rotate_left
                                   ·simp only [Act.put, List.setIfInBounds_toArray, List.set_cons_zero, List.set_cons_succ, i64_w, i32_w]
                                    rfl
                                   refine take_ (i := 15) (N := some 114) (v := ?_) (a' := ?_) #[true, true, true, true, true, true, true, true, true, true, true, true, true, true, true, true, true, false, false, false, false, false] rfl rfl (take_ofW HT_.out HW_.out (by kernel_rfl)) (fun _ _ _ h => h) (Or.inl ⟨by rfl, ?_⟩) hHeld ?_ ?_
                                   rotate_left
                                   ·rintro w' ⟨s0, s1, s2, s3, s4⟩
                                    go_simp
                                    with_reducible rfl
                                   rotate_left
                                   ·simp only [Act.put, List.setIfInBounds_toArray, List.set_cons_zero, List.set_cons_succ, i64_w, i32_w]
                                    rfl
                                   refine pure_ (i := 17) (N := some 116) (v := ?_) (a' := ?_) #[true, true, true, true, true, true, true, true, true, true, true, true, true, true, true, true, true, true, false, false, false, false] rfl rfl (any_of HT_.out (by kernel_rfl)) (fun _ _ _ h => h) (Or.inl ⟨by rfl, ?_⟩) ?_ ?_
                                   rotate_left
                                   ·intro w'
                                    go_simp
                                    with_reducible rfl
                                   rotate_left
                                   ·simp only [Act.put, List.setIfInBounds_toArray, List.set_cons_zero, List.set_cons_succ, i64_w, i32_w]
                                    rfl
                                   refine take_ (i := 18) (N := some 117) (v := ?_) (a' := ?_) #[true, true, true, true, true, true, true, true, true, true, true, true, true, true, true, true, true, true, true, false, false, false] rfl rfl (take_ofW HT_.out HW_.out (by kernel_rfl)) (fun _ _ _ h => h) (Or.inl ⟨by rfl, ?_⟩) hHeld ?_ ?_
                                   rotate_left
                                   ·rintro w' ⟨s0, s1, s2, s3, s4⟩
                                    go_simp
                                    with_reducible rfl
                                   rotate_left
                                   ·simp only [Act.put, List.setIfInBounds_toArray, List.set_cons_zero, List.set_cons_succ, i64_w, i32_w]
                                    rfl
                                   refine one_ (i := 19) (N := some 118) #[true, true, true, true, true, true, true, true, true, true, true, true, true, true, true, true, true, true, true, true, false, false] rfl rfl (one_of HT_.out (by kernel_rfl)) (by decide) (fun K hK => ?_)
                                   refine goes_ Try.func55 (by kernel_rfl) rfl #[.int .i64 (rd (rd_L4 x8_5 x9_1) x10_2), .int .i64 (rd (rd_L4 x8_5 t496) t497)] (by rfl) rfl rfl (by (try simp only [List.map_toArray, List.map_cons, List.map_nil]); first | done | rfl | (simp only [List.length_drop, List.length_take]; rfl)) ?_
                                   with_reducible refine (ancepsref45_capped.calls (rd (rd_L4 x8_5 x9_1) x10_2) (rd (rd_L4 x8_5 t496) t497) t509 _ A51.out).mono ?_
                                   rintro e w' ⟨rfl, ⟨nd, rfl⟩⟩
                                   refine ⟨_, rfl, ?_⟩
                                   have p52 : 0 ≤ (x10_2 : Int) := of_decide_eq_true (by first | (with_reducible assumption) | assumption)
                                   have q52 : (x10_2 : Int) < (((rd_L4 x8_5 x9_1).length : Int) : Int) := of_decide_eq_true (by first | (with_reducible assumption) | assumption)
                                   obtain ⟨go52, co52, eo52, gb52, gl52, cl52, HG52⟩ := Kd.R_form HL504_0.out (by omega)
                                   (first | cases eo52 | (injection eo52 with ea_ en_ ec_; (first | subst ea_ | (injection ea_ with ea_; subst ea_)); subst ec_; clear en_))
                                   have GB52 := Aside0.mk gb52
                                   have GG52 := Aside0.mk HG52
                                   clear gb52 gl52 HG52
                                   (first | simp only [add_plain] at hx506_0 | skip)
                                   obtain ⟨hx52_0, hf52_0⟩ := Kd.R_celln 0 HL504_0.out (x10_2 : Int) p52 q52
                                   replace p52 := eq_true p52
                                   replace q52 := eq_true q52
                                   have hq56 : (x9_1 : Int) < (x8_5.length : Int) := (by have h_ : (x9_1 : Int) < ((x8_5.length : Int) : Int) := of_decide_eq_true (by first | (with_reducible assumption) | assumption); first | exact h_ | (have e_ := (Kd.S_reads' HO_8.out).1; omega) | simpa only [List.length_set, List.length_set] using h_)
                                   obtain ⟨oki56, ce56, hcl56, hM56, hcc56, hok56, hbk56⟩ := Kd.S_borrow HO_8.out [] (x9_1 : Int) (of_decide_eq_true (by first | (with_reducible assumption) | assumption)) hq56
                                   obtain ⟨ve56_0, rfl, ge56_0⟩ := hM56
                                   have hv56 := hcc56 0 _ rfl
                                   rw [Nat.add_zero, show ((Kd.slice 2 (Kd.int .i64))).sz = 1 from rfl, Nat.mul_one] at hv56
                                   replace hv56 := Option.some.inj (hv56.symm.trans HX504_0.out)
                                   subst hv56
                                   clear hcc56 hcl56
                                   replace ge56_0 := (show Kd.R (Kd.int .i64) 2 _ _ _ _ (rd_L4 x8_5 x9_1) from ge56_0)
                                   have HP56 := Kd.R_putg ge56_0 (x10_2 : Int) t509
                                   rw [← Ny510.out] at HP56
                                   have HS56 := hbk56 HP56.2 (fun k_ e_ => by injection e_ with e_; subst e_; exact ge56_0.1 _ rfl) (x' := y510) (Kd.M_row HP56.1)
                                   rw [← Ny512.out] at HS56
                                   have HQ56 := Aside0.mk HS56
                                   clear HP56 HS56 hbk56 hok56
                                   refine hK.out _ _ ⟨hHeld.1, hHeld.2.1, hHeld.2.2.1, hHeld.2.2.2.1, hHeld.2.2.2.2⟩ (fun hHeld => ?_)
                                   clear hK K
                                   refine norm_ (a' := ?_) ?_ ?_
                                   rotate_left
                                   ·show Act.put _ (some 118) _ = _
                                    simp only [Act.put, List.setIfInBounds_toArray, List.set_cons_zero, List.set_cons_succ, i64_w, i32_w]
                                    rfl
                                   refine pure_ (i := 20) (N := some 119) (v := ?_) (a' := ?_) #[true, true, true, true, true, true, true, true, true, true, true, true, true, true, true, true, true, true, true, true, true, false] rfl rfl (any_of HT_.out (by kernel_rfl)) (fun _ _ _ h => h) (Or.inl ⟨by rfl, ?_⟩) ?_ ?_
                                   rotate_left
                                   ·intro w'
                                    go_simp
                                    with_reducible rfl
                                   rotate_left
                                   ·simp only [Act.put, List.setIfInBounds_toArray, List.set_cons_zero, List.set_cons_succ, i64_w, i32_w]
                                    rfl
                                   refine last_ (i := 21) (N := none) #[true, true, true, true, true, true, true, true, true, true, true, true, true, true, true, true, true, true, true, true, true, true] rfl rfl (one_of HT_.out (by kernel_rfl)) (by decide) (fun K hK => ?_)
                                   refine skip_ (w1 := ?_) (by rfl) rfl ?_ ?_
                                   rotate_left
                                   ·go_simp
                                    rfl
                                   refine hK.out _ _ ?_
                                   clear hK K
                                   refine done_ (done_of HT_.out (by kernel_rfl)) ?_
                                   try go_wp2
                                   (try simp only [← hl8_5])
                                   go_roundg k5
                                   case measure => have := HK1.out; have := HK2.out; have := HJ23.out; have := HJ25.out; have := HK5.out; omega
                                   case rel => exact ⟨(y512), (wrap64 (x11_5 + 1)), (by first | rfl | (simp; done) | (simp [*]; done)), H', ⟨by have := HK1.out; have := HK2.out; have := HJ23.out; have := HJ25.out; have := HK5.out; omega⟩, ⟨by (try simp only [hl28_2]); (try simp only [hl8_25]); (try simp only [hl8_5]); (with_reducible repeat (first | apply Kd.S_alloc | apply Kd.S_drewN | apply Kd.S_drew)); exact Kd.S_mono (Kd.S_far (p := ⟨go52, (x10_2 : Int).toNat, none⟩) (Kd.S_types HO_7.out GG52.out (by decide)) (fun _ hk => hk.2) (.int .i64 t509)) (fun _ hk => trivial)⟩, ⟨by (try simp only [hl28_2]); (try simp only [hl8_25]); (try simp only [hl8_5]); (with_reducible repeat (first | apply Kd.S_alloc | apply Kd.S_drewN | apply Kd.S_drew)); exact HQ56.out⟩, ⟨by repeat (first | (with_reducible first | exact HB.out | apply below_alloc | apply pw_below_drewN | apply below_drew1 | refine below_set ?_ GB52.out) | exact HB.out)⟩⟩
                                  ·rw [if_neg c50] at H
                                   exact absurd H (by simp)
                                 ·rw [if_neg c49] at H
                                  exact absurd H (by simp)
                                ·rw [if_neg c48] at H
                                 exact absurd H (by simp)
                               ·rw [if_neg c47] at H
                                exact absurd H (by simp)
                              ·rw [if_neg c46] at H
                               have c46b0 : ((rd (rd_L2 t478 x9_1) x10_2) == (wrap64 (t498 + (rd (rd_L2 t478 t496) t497)))) = false := beq_eq_false_iff_ne.mpr c46
                               have c46b1 : ((rd (rd_L2 t478 x9_1) x10_2) != (wrap64 (t498 + (rd (rd_L2 t478 t496) t497)))) = true := bne_iff_ne.mpr c46
                               have H' := Aside0.mk H
                               clear H
                               try go_wp2_with (first | ((with_reducible refine gate_callee (f := 45) rfl ?_); refine goesL_ (some 74) rfl rfl Try.func45 (by kernel_rfl) rfl #[.string a0, .string a1, .int .i64 x9_1, .int .i64 x10_2, .int .i64 x11_5] rfl (by (try simp only [List.map_toArray, List.map_cons, List.map_nil]); first | done | rfl | (simp only [List.length_drop, List.length_take]; rfl)) ?_; (with_reducible refine (ancepsref45_Step.calls k5 a0 a1 x9_1 x10_2 x11_5 t496 t497 t498 true _ A36.out).mono ?_); rintro e w' ⟨rfl, ⟨nd, rfl⟩⟩; refine ⟨_, rfl, ?_⟩))
                               (try (rw [drewN_self wr]; generalize hq_ : World.drewN wr _ = wr; have n0_ : Aside0 (Kd.S (Kd.slice 3 (Kd.int .i64)) 31 wr w.heap.size (fun _ => True) v479 t478) := ⟨by rw [← hq_]; exact (by (with_reducible repeat (first | apply Kd.S_alloc | apply Kd.S_drewN | apply Kd.S_drew)); exact HO_7.out)⟩; have n1_ : Aside0 (Kd.S (Kd.slice 2 (Kd.int .i64)) 83 wr w.heap.size (fun _ => True) (.slice (some ⟨go18, 0, none⟩) x8_5.length co18) x8_5) := ⟨by rw [← hq_]; exact (by (with_reducible repeat (first | apply Kd.S_alloc | apply Kd.S_drewN | apply Kd.S_drew)); exact HO_8.out)⟩; have n2_ : Aside0 (Below w.heap.size w wr) := ⟨by rw [← hq_]; exact (by repeat (first | (with_reducible first | exact HB.out | apply below_alloc | apply pw_below_drewN | apply below_drew1) | exact HB.out))⟩; clear HO_7 HO_8 HB hq_; have HO_7 := n0_; have HO_8 := n1_; have HB := n2_; clear n0_ n1_ n2_))
                               have n0_ := Aside0.mk (Kd.S_drew HO_7.out)
                               have n1_ := Aside0.mk (Kd.S_drew HO_8.out)
                               have n2_ := Aside0.mk (below_drew1 HB.out)
                               clear HO_7
                               clear HO_8
                               clear HB
                               have HO_7 := n0_
                               have HO_8 := n1_
                               have HB := n2_
                               clear n0_ n1_ n2_
                               obtain ⟨Ao59, co59, eo59⟩ := Kd.S_slice HO_7.out
                               (first | subst eo59 | (injection eo59 with f1_ f2_ f3_; have f4_ := f1_.symm; have f5_ := f3_.symm; clear f1_ f2_ f3_; subst f4_; subst f5_))
                               have p500 : 0 ≤ (x9_1 : Int) := of_decide_eq_true (by first | (with_reducible assumption) | assumption)
                               have q500 : x9_1 < (t478.length : Int) := of_decide_eq_true (by first | (with_reducible assumption) | assumption)
                               obtain ⟨ad500, A500_0, c500_0, e500, hx500_0, hl500_0, hi500_0⟩ := at_L2 (Kd.S_reads' HO_7.out).2.2 x9_1 p500 q500
                               cases e500
                               obtain ⟨ce500, hce500, hMe500, hcc500⟩ := Kd.S_get HO_7.out [] x9_1 p500 (by first | exact q500 | exact of_decide_eq_true (by first | (with_reducible assumption) | assumption) | (have e_ := (Kd.S_reads' HO_7.out).1; omega))
                               obtain ⟨ve500_0, rfl, ge500_0⟩ := hMe500
                               have hv500_0 := hcc500 0 _ rfl
                               rw [Nat.add_zero, show ((Kd.slice 3 (Kd.int .i64))).sz = 1 from rfl, Nat.mul_one] at hv500_0
                               replace hv500_0 := Option.some.inj (hv500_0.symm.trans hx500_0)
                               rw [hv500_0] at ge500_0
                               have HL500_0 := Aside0.mk (show Kd.R (Kd.int .i64) 3 _ _ _ _ (rd_L2 t478 x9_1) from ge500_0)
                               clear hv500_0 ge500_0
                               have HX500_0 := Aside0.mk hx500_0
                               clear hcc500 hce500
                               have HR500_0 := Aside0.mk hi500_0
                               have HC500_0 := Aside0.mk hl500_0
                               clear hi500_0 hl500_0
                               replace p500 := eq_true p500
                               replace q500 := eq_true q500
                               have p501 : 0 ≤ (x10_2 : Int) := of_decide_eq_true (by first | (with_reducible assumption) | assumption)
                               have q501 : x10_2 < ((rd_L2 t478 x9_1).length : Int) := of_decide_eq_true (by first | (with_reducible assumption) | assumption)
                               obtain ⟨ad501, e501, hx501_0⟩ := Kd.at_int (by repeat (first | (with_reducible exact HR500_0.out) | (with_reducible refine Kd.C_alloc ?_ _) | (with_reducible refine Kd.C_drewN ?_ _) | (with_reducible refine Kd.C_drew ?_) | exact HR500_0.out)) x10_2 p501 q501
                               cases e501
                               replace p501 := eq_true p501
                               replace q501 := eq_true q501
                               have p502 : 0 ≤ (t496 : Int) := of_decide_eq_true (by first | (with_reducible assumption) | assumption)
                               have q502 : t496 < (t478.length : Int) := of_decide_eq_true (by first | (with_reducible assumption) | assumption)
                               obtain ⟨ad502, A502_0, c502_0, e502, hx502_0, hl502_0, hi502_0⟩ := at_L2 (Kd.S_reads' HO_7.out).2.2 t496 p502 q502
                               obtain rfl : ad500 = ad502 := (by injection e502)
                               obtain ⟨ce502, hce502, hMe502, hcc502⟩ := Kd.S_get HO_7.out [] t496 p502 (by first | exact q502 | exact of_decide_eq_true (by first | (with_reducible assumption) | assumption) | (have e_ := (Kd.S_reads' HO_7.out).1; omega))
                               obtain ⟨ve502_0, rfl, ge502_0⟩ := hMe502
                               have hv502_0 := hcc502 0 _ rfl
                               rw [Nat.add_zero, show ((Kd.slice 3 (Kd.int .i64))).sz = 1 from rfl, Nat.mul_one] at hv502_0
                               replace hv502_0 := Option.some.inj (hv502_0.symm.trans hx502_0)
                               rw [hv502_0] at ge502_0
                               have HL502_0 := Aside0.mk (show Kd.R (Kd.int .i64) 3 _ _ _ _ (rd_L2 t478 t496) from ge502_0)
                               clear hv502_0 ge502_0
                               have HX502_0 := Aside0.mk hx502_0
                               clear hcc502 hce502
                               have HR502_0 := Aside0.mk hi502_0
                               have HC502_0 := Aside0.mk hl502_0
                               clear hi502_0 hl502_0
                               replace p502 := eq_true p502
                               replace q502 := eq_true q502
                               have p503 : 0 ≤ (t497 : Int) := of_decide_eq_true (by first | (with_reducible assumption) | assumption)
                               have q503 : t497 < ((rd_L2 t478 t496).length : Int) := of_decide_eq_true (by first | (with_reducible assumption) | assumption)
                               obtain ⟨ad503, e503, hx503_0⟩ := Kd.at_int (by repeat (first | (with_reducible exact HR502_0.out) | (with_reducible refine Kd.C_alloc ?_ _) | (with_reducible refine Kd.C_drewN ?_ _) | (with_reducible refine Kd.C_drew ?_) | exact HR502_0.out)) t497 p503 q503
                               cases e503
                               replace p503 := eq_true p503
                               replace q503 := eq_true q503
                               refine start_ (n := 20) (S := fun w' => w'.cell? (ad500.add (x9_1).toNat) = some (.slice (some ad501) (rd_L2 t478 x9_1).length c500_0) ∧ w'.cell? (ad501.add (x10_2).toNat) = some (.int .i64 (rd (rd_L2 t478 x9_1) x10_2)) ∧ w'.cell? (ad500.add (t496).toNat) = some (.slice (some ad503) (rd_L2 t478 t496).length c502_0) ∧ w'.cell? (ad503.add (t497).toNat) = some (.int .i64 (rd (rd_L2 t478 t496) t497))) (ds := []) #[false, false, false, false, false, false, false, false, false, false, false, false, false, false, false, false, false, false, false, false] (by kernel_rfl) rfl rfl ⟨hx500_0, hx501_0, hx502_0, hx503_0⟩ (fun hHeld => ?_); refine with_tabW ancepsref45_Count.tab19 ancepsref45_Count.bits19 (fun HT_ HW_ => ?_)
                               generalize wr.drew = w58 at HO_7 HO_8 HB HL500_0 HL502_0 HR500_0 HR502_0 HX500_0 HX502_0 hx500_0 hx501_0 hx502_0 hx503_0 hHeld ⊢
                               refine pure_ (i := 0) (N := some 79) (v := ?_) (a' := ?_) #[true, false, false, false, false, false, false, false, false, false, false, false, false, false, false, false, false, false, false, false] rfl rfl (any_of HT_.out (by kernel_rfl)) (fun _ _ _ h => h) (Or.inl ⟨by rfl, ?_⟩) ?_ ?_
                               rotate_left
                               ·intro w'
                                go_simp
                                with_reducible rfl
                               rotate_left
                               ·simp only [Act.put, List.setIfInBounds_toArray, List.set_cons_zero, List.set_cons_succ, i64_w, i32_w]
                                rfl
                               refine pure_ (i := 1) (N := some 80) (v := ?_) (a' := ?_) #[true, true, false, false, false, false, false, false, false, false, false, false, false, false, false, false, false, false, false, false] rfl rfl (any_of HT_.out (by kernel_rfl)) (fun _ _ _ h => h) (Or.inl ⟨by rfl, ?_⟩) ?_ ?_
                               rotate_left
                               ·intro w'
                                go_simp
                                with_reducible rfl
                               rotate_left
                               ·simp only [Act.put, List.setIfInBounds_toArray, List.set_cons_zero, List.set_cons_succ, i64_w, i32_w]
                                rfl
                               refine pure_ (i := 2) (N := some 81) (v := ?_) (a' := ?_) #[true, true, true, false, false, false, false, false, false, false, false, false, false, false, false, false, false, false, false, false] rfl rfl (any_of HT_.out (by kernel_rfl)) (fun _ _ _ h => h) (Or.inl ⟨by rfl, ?_⟩) ?_ ?_
                               rotate_left
                               ·intro w'
                                go_simp
                                with_reducible rfl
                               rotate_left
                               ·simp only [Act.put, List.setIfInBounds_toArray, List.set_cons_zero, List.set_cons_succ, i64_w, i32_w]
                                rfl
                               refine pure_ (i := 3) (N := some 82) (v := ?_) (a' := ?_) #[true, true, true, true, false, false, false, false, false, false, false, false, false, false, false, false, false, false, false, false] rfl rfl (any_of HT_.out (by kernel_rfl)) (fun _ _ _ h => h) (Or.inl ⟨by rfl, ?_⟩) ?_ ?_
                               rotate_left
                               ·intro w'
                                go_simp
                                with_reducible rfl
                               rotate_left
                               ·simp only [Act.put, List.setIfInBounds_toArray, List.set_cons_zero, List.set_cons_succ, i64_w, i32_w]
                                rfl
                               refine pure_ (i := 4) (N := some 83) (v := ?_) (a' := ?_) #[true, true, true, true, true, false, false, false, false, false, false, false, false, false, false, false, false, false, false, false] rfl rfl (any_of HT_.out (by kernel_rfl)) (fun _ _ _ h => h) (Or.inl ⟨by rfl, ?_⟩) ?_ ?_
                               rotate_left
                               ·intro w'
                                go_simp
                                with_reducible rfl
                               rotate_left
                               ·simp only [Act.put, List.setIfInBounds_toArray, List.set_cons_zero, List.set_cons_succ, i64_w, i32_w]
                                rfl
                               refine pure_ (i := 6) (N := some 85) (v := ?_) (a' := ?_) #[true, true, true, true, true, false, true, false, false, false, false, false, false, false, false, false, false, false, false, false] rfl rfl (any_of HT_.out (by kernel_rfl)) (fun _ _ _ h => h) (Or.inl ⟨by rfl, ?_⟩) ?_ ?_
                               rotate_left
                               ·intro w'
                                go_simp
                                with_reducible rfl
                               rotate_left
                               ·simp only [Act.put, List.setIfInBounds_toArray, List.set_cons_zero, List.set_cons_succ, i64_w, i32_w]
                                rfl
                               refine pure_ (i := 9) (N := some 88) (v := ?_) (a' := ?_) #[true, true, true, true, true, false, true, false, false, true, false, false, false, false, false, false, false, false, false, false] rfl rfl (any_of HT_.out (by kernel_rfl)) (fun _ _ _ h => h) (Or.inl ⟨by rfl, ?_⟩) ?_ ?_
                               rotate_left
                               ·intro w'
                                go_simp
                                with_reducible rfl
                               rotate_left
                               ·simp only [Act.put, List.setIfInBounds_toArray, List.set_cons_zero, List.set_cons_succ, i64_w, i32_w]
                                rfl
                               refine pure_ (i := 10) (N := some 89) (v := ?_) (a' := ?_) #[true, true, true, true, true, false, true, false, false, true, true, false, false, false, false, false, false, false, false, false] rfl rfl (any_of HT_.out (by kernel_rfl)) (fun _ _ _ h => h) (Or.inl ⟨by rfl, ?_⟩) ?_ ?_
                               rotate_left
                               ·intro w'
                                go_simp
                                with_reducible rfl
                               rotate_left
                               ·simp only [Act.put, List.setIfInBounds_toArray, List.set_cons_zero, List.set_cons_succ, i64_w, i32_w]
                                rfl
                               refine pure_ (i := 11) (N := some 90) (v := ?_) (a' := ?_) #[true, true, true, true, true, false, true, false, false, true, true, true, false, false, false, false, false, false, false, false] rfl rfl (any_of HT_.out (by kernel_rfl)) (fun _ _ _ h => h) (Or.inl ⟨by rfl, ?_⟩) ?_ ?_
                               rotate_left
                               ·intro w'
                                go_simp
                                with_reducible rfl
                               rotate_left
                               ·simp only [Act.put, List.setIfInBounds_toArray, List.set_cons_zero, List.set_cons_succ, i64_w, i32_w]
                                rfl
                               refine pure_ (i := 12) (N := some 91) (v := ?_) (a' := ?_) #[true, true, true, true, true, false, true, false, false, true, true, true, true, false, false, false, false, false, false, false] rfl rfl (any_of HT_.out (by kernel_rfl)) (fun _ _ _ h => h) (Or.inl ⟨by rfl, ?_⟩) ?_ ?_
                               rotate_left
                               ·intro w'
                                go_simp
                                with_reducible rfl
                               rotate_left
                               ·simp only [Act.put, List.setIfInBounds_toArray, List.set_cons_zero, List.set_cons_succ, i64_w, i32_w]
                                rfl
                               refine pure_ (i := 14) (N := some 93) (v := ?_) (a' := ?_) #[true, true, true, true, true, false, true, false, false, true, true, true, true, false, true, false, false, false, false, false] rfl rfl (any_of HT_.out (by kernel_rfl)) (fun _ _ _ h => h) (Or.inl ⟨by rfl, ?_⟩) ?_ ?_
                               rotate_left
                               ·intro w'
                                go_simp
                                with_reducible rfl
                               rotate_left
                               ·simp only [Act.put, List.setIfInBounds_toArray, List.set_cons_zero, List.set_cons_succ, i64_w, i32_w]
                                rfl
                               refine take_ (i := 5) (N := some 84) (v := ?_) (a' := ?_) #[true, true, true, true, true, true, true, false, false, true, true, true, true, false, true, false, false, false, false, false] rfl rfl (take_ofW HT_.out HW_.out (by kernel_rfl)) (fun _ _ _ h => h) (Or.inl ⟨by rfl, ?_⟩) hHeld ?_ ?_
                               rotate_left
                               ·rintro w' ⟨s0, s1, s2, s3⟩
                                go_simp
                                with_reducible rfl
                               rotate_left
                               ·simp only [Act.put, List.setIfInBounds_toArray, List.set_cons_zero, List.set_cons_succ, i64_w, i32_w]
                                rfl
                               refine pure_ (i := 7) (N := some 86) (v := ?_) (a' := ?_) #[true, true, true, true, true, true, true, true, false, true, true, true, true, false, true, false, false, false, false, false] rfl rfl (any_of HT_.out (by kernel_rfl)) (fun _ _ _ h => h) (Or.inl ⟨by rfl, ?_⟩) ?_ ?_
                               rotate_left
                               ·intro w'
                                go_simp
                                with_reducible rfl
                               rotate_left
                               ·simp only [Act.put, List.setIfInBounds_toArray, List.set_cons_zero, List.set_cons_succ, i64_w, i32_w]
                                rfl
                               refine take_ (i := 8) (N := some 87) (v := ?_) (a' := ?_) #[true, true, true, true, true, true, true, true, true, true, true, true, true, false, true, false, false, false, false, false] rfl rfl (take_ofW HT_.out HW_.out (by kernel_rfl)) (fun _ _ _ h => h) (Or.inl ⟨by rfl, ?_⟩) hHeld ?_ ?_
                               rotate_left
                               ·rintro w' ⟨s0, s1, s2, s3⟩
                                go_simp
                                with_reducible rfl
                               rotate_left
                               ·simp only [Act.put, List.setIfInBounds_toArray, List.set_cons_zero, List.set_cons_succ, i64_w, i32_w]
                                rfl
                               refine take_ (i := 13) (N := some 92) (v := ?_) (a' := ?_) #[true, true, true, true, true, true, true, true, true, true, true, true, true, true, true, false, false, false, false, false] rfl rfl (take_ofW HT_.out HW_.out (by kernel_rfl)) (fun _ _ _ h => h) (Or.inl ⟨by rfl, ?_⟩) hHeld ?_ ?_
                               rotate_left
                               ·rintro w' ⟨s0, s1, s2, s3⟩
                                go_simp
                                with_reducible rfl
                               rotate_left
                               ·simp only [Act.put, List.setIfInBounds_toArray, List.set_cons_zero, List.set_cons_succ, i64_w, i32_w]
                                rfl
                               refine pure_ (i := 15) (N := some 94) (v := ?_) (a' := ?_) #[true, true, true, true, true, true, true, true, true, true, true, true, true, true, true, true, false, false, false, false] rfl rfl (any_of HT_.out (by kernel_rfl)) (fun _ _ _ h => h) (Or.inl ⟨by rfl, ?_⟩) ?_ ?_
                               rotate_left
                               ·intro w'
                                go_simp
                                with_reducible rfl
                               rotate_left
                               ·simp only [Act.put, List.setIfInBounds_toArray, List.set_cons_zero, List.set_cons_succ, i64_w, i32_w]
                                rfl
                               refine take_ (i := 16) (N := some 95) (v := ?_) (a' := ?_) #[true, true, true, true, true, true, true, true, true, true, true, true, true, true, true, true, true, false, false, false] rfl rfl (take_ofW HT_.out HW_.out (by kernel_rfl)) (fun _ _ _ h => h) (Or.inl ⟨by rfl, ?_⟩) hHeld ?_ ?_
                               rotate_left
                               ·rintro w' ⟨s0, s1, s2, s3⟩
                                go_simp
                                with_reducible rfl
                               rotate_left
                               ·simp only [Act.put, List.setIfInBounds_toArray, List.set_cons_zero, List.set_cons_succ, i64_w, i32_w]
                                rfl
                               refine pure_ (i := 17) (N := some 96) (v := ?_) (a' := ?_) #[true, true, true, true, true, true, true, true, true, true, true, true, true, true, true, true, true, true, false, false] rfl rfl (any_of HT_.out (by kernel_rfl)) (fun _ _ _ h => h) (Or.inl ⟨by rfl, ?_⟩) ?_ ?_
                               rotate_left
                               ·intro w'
                                go_simp
                                with_reducible rfl
                               rotate_left
                               ·simp only [Act.put, List.setIfInBounds_toArray, List.set_cons_zero, List.set_cons_succ, i64_w, i32_w]
                                rfl
                               refine pure_ (i := 18) (N := some 97) (v := ?_) (a' := ?_) #[true, true, true, true, true, true, true, true, true, true, true, true, true, true, true, true, true, true, true, false] rfl rfl (any_of HT_.out (by kernel_rfl)) (fun _ _ _ h => h) (Or.inl ⟨by rfl, ?_⟩) ?_ ?_
                               rotate_left
                               ·intro w'
                                go_simp
                                with_reducible rfl
                               rotate_left
                               ·simp only [Act.put, List.setIfInBounds_toArray, List.set_cons_zero, List.set_cons_succ, i64_w, i32_w]
                                rfl
                               refine pure_ (i := 19) (N := some 98) (v := ?_) (a' := ?_) #[true, true, true, true, true, true, true, true, true, true, true, true, true, true, true, true, true, true, true, true] rfl rfl (any_of HT_.out (by kernel_rfl)) (fun _ _ _ h => h) (Or.inl ⟨by rfl, ?_⟩) ?_ ?_
                               rotate_left
                               ·intro w'
                                go_simp
                                with_reducible rfl
                               rotate_left
                               ·simp only [Act.put, List.setIfInBounds_toArray, List.set_cons_zero, List.set_cons_succ, i64_w, i32_w]
                                rfl
                               refine done_ (done_of HT_.out (by kernel_rfl)) ?_
                               try go_wp2
                               (try simp only [← hl8_5])
                               go_roundg k5
                               case measure => have := HK1.out; have := HK2.out; have := HJ23.out; have := HJ25.out; have := HK5.out; omega
                               case rel => exact ⟨(x8_5), (wrap64 (x11_5 + 1)), (by first | rfl | (simp; done) | (simp [*]; done)), H', ⟨by have := HK1.out; have := HK2.out; have := HJ23.out; have := HJ25.out; have := HK5.out; omega⟩, ⟨by (try simp only [hl28_2]); (try simp only [hl8_25]); (try simp only [hl8_5]); (with_reducible repeat (first | apply Kd.S_alloc | apply Kd.S_drewN | apply Kd.S_drew)); exact HO_7.out⟩, ⟨by (try simp only [hl28_2]); (try simp only [hl8_25]); (try simp only [hl8_5]); (with_reducible repeat (first | apply Kd.S_alloc | apply Kd.S_drewN | apply Kd.S_drew)); exact HO_8.out⟩, ⟨by repeat (first | (with_reducible first | exact HB.out | apply below_alloc | apply pw_below_drewN | apply below_drew1) | exact HB.out)⟩⟩
                             ·rw [if_neg c45] at H
                              exact absurd H (by simp)
                            ·rw [if_neg c44] at H
                             exact absurd H (by simp)
                           ·rw [if_neg c43] at H
                            exact absurd H (by simp)
                          ·rw [if_neg c42] at H
                           exact absurd H (by simp)
                         ·rw [if_neg c41] at H
                          exact absurd H (by simp)
                        ·rw [if_neg c40] at H
                         exact absurd H (by simp)
                       ·rw [if_neg c39] at H
                        exact absurd H (by simp)
                      ·rw [if_neg c38] at H
                       exact absurd H (by simp)
                     ·replace c37 := Bool.eq_false_iff.mpr c37
                      subst c37
                      have H1 : (ancepsref45_Count.l2 k5 a0 a1 t478 x8_5 x9_1 x10_2 (wrap64 (x11_5 + 1))) = some (r1, r2) := by rw [if_neg (show ¬ (false = true) by decide)] at H; exact H
                      clear H
                      have H := H1
                      clear H1
                      have H' := Aside0.mk H
                      clear H
                      try go_wp2_with (first | ((with_reducible refine gate_callee (f := 45) rfl ?_); refine goesL_ (some 74) rfl rfl Try.func45 (by kernel_rfl) rfl #[.string a0, .string a1, .int .i64 x9_1, .int .i64 x10_2, .int .i64 x11_5] rfl (by (try simp only [List.map_toArray, List.map_cons, List.map_nil]); first | done | rfl | (simp only [List.length_drop, List.length_take]; rfl)) ?_; (with_reducible refine (ancepsref45_Step.calls k5 a0 a1 x9_1 x10_2 x11_5 t496 t497 t498 false _ A36.out).mono ?_); rintro e w' ⟨rfl, ⟨nd, rfl⟩⟩; refine ⟨_, rfl, ?_⟩))
                      (try (rw [drewN_self wr]; generalize hq_ : World.drewN wr _ = wr; have n0_ : Aside0 (Kd.S (Kd.slice 3 (Kd.int .i64)) 31 wr w.heap.size (fun _ => True) v479 t478) := ⟨by rw [← hq_]; exact (by (with_reducible repeat (first | apply Kd.S_alloc | apply Kd.S_drewN | apply Kd.S_drew)); exact HO_7.out)⟩; have n1_ : Aside0 (Kd.S (Kd.slice 2 (Kd.int .i64)) 83 wr w.heap.size (fun _ => True) (.slice (some ⟨go18, 0, none⟩) x8_5.length co18) x8_5) := ⟨by rw [← hq_]; exact (by (with_reducible repeat (first | apply Kd.S_alloc | apply Kd.S_drewN | apply Kd.S_drew)); exact HO_8.out)⟩; have n2_ : Aside0 (Below w.heap.size w wr) := ⟨by rw [← hq_]; exact (by repeat (first | (with_reducible first | exact HB.out | apply below_alloc | apply pw_below_drewN | apply below_drew1) | exact HB.out))⟩; clear HO_7 HO_8 HB hq_; have HO_7 := n0_; have HO_8 := n1_; have HB := n2_; clear n0_ n1_ n2_))
                      have n0_ := Aside0.mk (Kd.S_drew HO_7.out)
                      have n1_ := Aside0.mk (Kd.S_drew HO_8.out)
                      have n2_ := Aside0.mk (below_drew1 HB.out)
                      clear HO_7
                      clear HO_8
                      clear HB
                      have HO_7 := n0_
                      have HO_8 := n1_
                      have HB := n2_
                      clear n0_ n1_ n2_
                      refine start_ (n := 20) (S := fun w' => True) (ds := []) #[false, false, false, false, false, false, false, false, false, false, false, false, false, false, false, false, false, false, false, false] (by kernel_rfl) rfl rfl trivial (fun hHeld => ?_); refine with_tabW ancepsref45_Count.tab19 ancepsref45_Count.bits19 (fun HT_ HW_ => ?_)
                      generalize wr.drew = w60 at HO_7 HO_8 HB hHeld ⊢
                      refine pure_ (i := 0) (N := some 79) (v := ?_) (a' := ?_) #[true, false, false, false, false, false, false, false, false, false, false, false, false, false, false, false, false, false, false, false] rfl rfl (any_of HT_.out (by kernel_rfl)) (fun _ _ _ h => h) (Or.inl ⟨by rfl, ?_⟩) ?_ ?_
                      rotate_left
                      ·intro w'
                       go_simp
                       with_reducible rfl
                      rotate_left
                      ·simp only [Act.put, List.setIfInBounds_toArray, List.set_cons_zero, List.set_cons_succ, i64_w, i32_w]
                       rfl
                      refine pure_ (i := 1) (N := some 80) (v := ?_) (a' := ?_) #[true, true, false, false, false, false, false, false, false, false, false, false, false, false, false, false, false, false, false, false] rfl rfl (any_of HT_.out (by kernel_rfl)) (fun _ _ _ h => h) (Or.inl ⟨by rfl, ?_⟩) ?_ ?_
                      rotate_left
                      ·intro w'
                       go_simp
                       with_reducible rfl
                      rotate_left
                      ·simp only [Act.put, List.setIfInBounds_toArray, List.set_cons_zero, List.set_cons_succ, i64_w, i32_w]
                       rfl
                      refine pure_ (i := 2) (N := some 81) (v := undef) (a' := ?_) #[true, true, true, false, false, false, false, false, false, false, false, false, false, false, false, false, false, false, false, false] rfl rfl (any_of HT_.out (by kernel_rfl)) (fun _ _ _ h => h) (Or.inr ⟨by rfl, rfl⟩) ?_ ?_
                      rotate_left
                      ·simp only [Act.put, List.setIfInBounds_toArray, List.set_cons_zero, List.set_cons_succ, i64_w, i32_w]
                       rfl
                      refine pure_ (i := 3) (N := some 82) (v := undef) (a' := ?_) #[true, true, true, true, false, false, false, false, false, false, false, false, false, false, false, false, false, false, false, false] rfl rfl (any_of HT_.out (by kernel_rfl)) (fun _ _ _ h => h) (Or.inr ⟨by rfl, rfl⟩) ?_ ?_
                      rotate_left
                      ·simp only [Act.put, List.setIfInBounds_toArray, List.set_cons_zero, List.set_cons_succ, i64_w, i32_w]
                       rfl
                      refine pure_ (i := 4) (N := some 83) (v := undef) (a' := ?_) #[true, true, true, true, true, false, false, false, false, false, false, false, false, false, false, false, false, false, false, false] rfl rfl (any_of HT_.out (by kernel_rfl)) (fun _ _ _ h => h) (Or.inr ⟨by rfl, rfl⟩) ?_ ?_
                      rotate_left
                      ·simp only [Act.put, List.setIfInBounds_toArray, List.set_cons_zero, List.set_cons_succ, i64_w, i32_w]
                       rfl
                      refine pure_ (i := 5) (N := some 84) (v := undef) (a' := ?_) #[true, true, true, true, true, true, false, false, false, false, false, false, false, false, false, false, false, false, false, false] rfl rfl (any_of HT_.out (by kernel_rfl)) (fun _ _ _ h => h) (Or.inr ⟨by rfl, rfl⟩) ?_ ?_
                      rotate_left
                      ·simp only [Act.put, List.setIfInBounds_toArray, List.set_cons_zero, List.set_cons_succ, i64_w, i32_w]
                       rfl
                      refine pure_ (i := 6) (N := some 85) (v := undef) (a' := ?_) #[true, true, true, true, true, true, true, false, false, false, false, false, false, false, false, false, false, false, false, false] rfl rfl (any_of HT_.out (by kernel_rfl)) (fun _ _ _ h => h) (Or.inr ⟨by rfl, rfl⟩) ?_ ?_
                      rotate_left
                      ·simp only [Act.put, List.setIfInBounds_toArray, List.set_cons_zero, List.set_cons_succ, i64_w, i32_w]
                       rfl
                      refine pure_ (i := 7) (N := some 86) (v := undef) (a' := ?_) #[true, true, true, true, true, true, true, true, false, false, false, false, false, false, false, false, false, false, false, false] rfl rfl (any_of HT_.out (by kernel_rfl)) (fun _ _ _ h => h) (Or.inr ⟨by rfl, rfl⟩) ?_ ?_
                      rotate_left
                      ·simp only [Act.put, List.setIfInBounds_toArray, List.set_cons_zero, List.set_cons_succ, i64_w, i32_w]
                       rfl
                      refine pure_ (i := 8) (N := some 87) (v := undef) (a' := ?_) #[true, true, true, true, true, true, true, true, true, false, false, false, false, false, false, false, false, false, false, false] rfl rfl (any_of HT_.out (by kernel_rfl)) (fun _ _ _ h => h) (Or.inr ⟨by rfl, rfl⟩) ?_ ?_
                      rotate_left
                      ·simp only [Act.put, List.setIfInBounds_toArray, List.set_cons_zero, List.set_cons_succ, i64_w, i32_w]
                       rfl
                      refine pure_ (i := 9) (N := some 88) (v := undef) (a' := ?_) #[true, true, true, true, true, true, true, true, true, true, false, false, false, false, false, false, false, false, false, false] rfl rfl (any_of HT_.out (by kernel_rfl)) (fun _ _ _ h => h) (Or.inr ⟨by rfl, rfl⟩) ?_ ?_
                      rotate_left
                      ·simp only [Act.put, List.setIfInBounds_toArray, List.set_cons_zero, List.set_cons_succ, i64_w, i32_w]
                       rfl
                      refine pure_ (i := 10) (N := some 89) (v := undef) (a' := ?_) #[true, true, true, true, true, true, true, true, true, true, true, false, false, false, false, false, false, false, false, false] rfl rfl (any_of HT_.out (by kernel_rfl)) (fun _ _ _ h => h) (Or.inr ⟨by rfl, rfl⟩) ?_ ?_
                      rotate_left
                      ·simp only [Act.put, List.setIfInBounds_toArray, List.set_cons_zero, List.set_cons_succ, i64_w, i32_w]
                       rfl
                      refine pure_ (i := 11) (N := some 90) (v := undef) (a' := ?_) #[true, true, true, true, true, true, true, true, true, true, true, true, false, false, false, false, false, false, false, false] rfl rfl (any_of HT_.out (by kernel_rfl)) (fun _ _ _ h => h) (Or.inr ⟨by rfl, rfl⟩) ?_ ?_
                      rotate_left
                      ·simp only [Act.put, List.setIfInBounds_toArray, List.set_cons_zero, List.set_cons_succ, i64_w, i32_w]
                       rfl
                      refine pure_ (i := 12) (N := some 91) (v := undef) (a' := ?_) #[true, true, true, true, true, true, true, true, true, true, true, true, true, false, false, false, false, false, false, false] rfl rfl (any_of HT_.out (by kernel_rfl)) (fun _ _ _ h => h) (Or.inr ⟨by rfl, rfl⟩) ?_ ?_
                      rotate_left
                      ·simp only [Act.put, List.setIfInBounds_toArray, List.set_cons_zero, List.set_cons_succ, i64_w, i32_w]
                       rfl
                      refine pure_ (i := 13) (N := some 92) (v := undef) (a' := ?_) #[true, true, true, true, true, true, true, true, true, true, true, true, true, true, false, false, false, false, false, false] rfl rfl (any_of HT_.out (by kernel_rfl)) (fun _ _ _ h => h) (Or.inr ⟨by rfl, rfl⟩) ?_ ?_
                      rotate_left
                      ·simp only [Act.put, List.setIfInBounds_toArray, List.set_cons_zero, List.set_cons_succ, i64_w, i32_w]
                       rfl
                      refine pure_ (i := 14) (N := some 93) (v := undef) (a' := ?_) #[true, true, true, true, true, true, true, true, true, true, true, true, true, true, true, false, false, false, false, false] rfl rfl (any_of HT_.out (by kernel_rfl)) (fun _ _ _ h => h) (Or.inr ⟨by rfl, rfl⟩) ?_ ?_
                      rotate_left
                      ·simp only [Act.put, List.setIfInBounds_toArray, List.set_cons_zero, List.set_cons_succ, i64_w, i32_w]
                       rfl
                      refine pure_ (i := 15) (N := some 94) (v := undef) (a' := ?_) #[true, true, true, true, true, true, true, true, true, true, true, true, true, true, true, true, false, false, false, false] rfl rfl (any_of HT_.out (by kernel_rfl)) (fun _ _ _ h => h) (Or.inr ⟨by rfl, rfl⟩) ?_ ?_
                      rotate_left
                      ·simp only [Act.put, List.setIfInBounds_toArray, List.set_cons_zero, List.set_cons_succ, i64_w, i32_w]
                       rfl
                      refine pure_ (i := 16) (N := some 95) (v := undef) (a' := ?_) #[true, true, true, true, true, true, true, true, true, true, true, true, true, true, true, true, true, false, false, false] rfl rfl (any_of HT_.out (by kernel_rfl)) (fun _ _ _ h => h) (Or.inr ⟨by rfl, rfl⟩) ?_ ?_
                      rotate_left
                      ·simp only [Act.put, List.setIfInBounds_toArray, List.set_cons_zero, List.set_cons_succ, i64_w, i32_w]
                       rfl
                      refine pure_ (i := 17) (N := some 96) (v := undef) (a' := ?_) #[true, true, true, true, true, true, true, true, true, true, true, true, true, true, true, true, true, true, false, false] rfl rfl (any_of HT_.out (by kernel_rfl)) (fun _ _ _ h => h) (Or.inr ⟨by rfl, rfl⟩) ?_ ?_
                      rotate_left
                      ·simp only [Act.put, List.setIfInBounds_toArray, List.set_cons_zero, List.set_cons_succ, i64_w, i32_w]
                       rfl
                      refine pure_ (i := 18) (N := some 97) (v := undef) (a' := ?_) #[true, true, true, true, true, true, true, true, true, true, true, true, true, true, true, true, true, true, true, false] rfl rfl (any_of HT_.out (by kernel_rfl)) (fun _ _ _ h => h) (Or.inr ⟨by rfl, rfl⟩) ?_ ?_
                      rotate_left
                      ·simp only [Act.put, List.setIfInBounds_toArray, List.set_cons_zero, List.set_cons_succ, i64_w, i32_w]
                       rfl
                      refine pure_ (i := 19) (N := some 98) (v := ?_) (a' := ?_) #[true, true, true, true, true, true, true, true, true, true, true, true, true, true, true, true, true, true, true, true] rfl rfl (any_of HT_.out (by kernel_rfl)) (fun _ _ _ h => h) (Or.inl ⟨by rfl, ?_⟩) ?_ ?_
                      rotate_left
                      ·intro w'
                       go_simp
                       with_reducible rfl
                      rotate_left
                      ·simp only [Act.put, List.setIfInBounds_toArray, List.set_cons_zero, List.set_cons_succ, i64_w, i32_w]
                       rfl
                      refine done_ (done_of HT_.out (by kernel_rfl)) ?_
                      try go_wp2
                      (try simp only [← hl8_5])
                      go_roundg k5
                      case measure => have := HK1.out; have := HK2.out; have := HJ23.out; have := HJ25.out; have := HK5.out; omega
                      case rel => exact ⟨(x8_5), (wrap64 (x11_5 + 1)), (by first | rfl | (simp; done) | (simp [*]; done)), H', ⟨by have := HK1.out; have := HK2.out; have := HJ23.out; have := HJ25.out; have := HK5.out; omega⟩, ⟨by (try simp only [hl28_2]); (try simp only [hl8_25]); (try simp only [hl8_5]); (with_reducible repeat (first | apply Kd.S_alloc | apply Kd.S_drewN | apply Kd.S_drew)); exact HO_7.out⟩, ⟨by (try simp only [hl28_2]); (try simp only [hl8_25]); (try simp only [hl8_5]); (with_reducible repeat (first | apply Kd.S_alloc | apply Kd.S_drewN | apply Kd.S_drew)); exact HO_8.out⟩, ⟨by repeat (first | (with_reducible first | exact HB.out | apply below_alloc | apply pw_below_drewN | apply below_drew1) | exact HB.out)⟩⟩
                    ·rw [if_neg c35] at H
                     have c35b0 : decide (x11_5 ≤ 4) = false := decide_eq_false c35
                     clear c35
                     have H' := Aside0.mk H
                     clear H
                     go_wp2
                     (try simp only [← hl28_2, ← hl8_25, ← hl8_5])
                     go_roundg k5
                     case measure => have := HK1.out; have := HK2.out; have := HJ23.out; have := HJ25.out; have := HK5.out; omega
                     case rel => exact ⟨(wrap64 (x10_2 - 1)), (x8_5), (by first | rfl | (simp; done) | (simp [*]; done)), H', ⟨by have := HK1.out; have := HK2.out; have := HJ23.out; have := HJ25.out; have := HK5.out; omega⟩, ⟨by (try simp only [hl28_2]); (try simp only [hl8_25]); (try simp only [hl8_5]); (with_reducible repeat (first | apply Kd.S_alloc | apply Kd.S_drewN | apply Kd.S_drew)); exact HO_7.out⟩, ⟨by (try simp only [hl28_2]); (try simp only [hl8_25]); (try simp only [hl8_5]); (with_reducible repeat (first | apply Kd.S_alloc | apply Kd.S_drewN | apply Kd.S_drew)); exact HO_8.out⟩, ⟨by repeat (first | (with_reducible first | exact HB.out | apply below_alloc | apply pw_below_drewN | apply below_drew1) | exact HB.out)⟩⟩
             ·rw [if_neg c23] at H
              have c23b0 : decide (0 ≤ x10_2) = false := decide_eq_false c23
              clear c23
              have H' := Aside0.mk H
              clear H
              go_wp2
              (try simp only [← hl28_2])
              go_roundg k2
              case measure => have := HK1.out; have := HK2.out; omega
              case rel => exact ⟨(wrap64 (x9_1 - 1)), (x28_2), (by first | rfl | (simp; done) | (simp [*]; done)), H', ⟨by have := HK1.out; have := HK2.out; omega⟩, ⟨by (try simp only [hl28_2]); (with_reducible repeat (first | apply Kd.S_alloc | apply Kd.S_drewN | apply Kd.S_drew)); exact HO_24.out⟩, ⟨by (try simp only [hl28_2]); (with_reducible repeat (first | apply Kd.S_alloc | apply Kd.S_drewN | apply Kd.S_drew)); exact HO_28.out⟩, ⟨by repeat (first | (with_reducible first | exact HB.out | apply below_alloc | apply pw_below_drewN | apply below_drew1) | exact HB.out)⟩⟩
          ·rw [if_neg c17] at H
           exact absurd H (by simp)
         ·rw [if_neg c16] at H
          exact absurd H (by simp)
        ·rw [if_neg c15] at H
         exact absurd H (by simp)
       ·rw [if_neg c14] at H
        exact absurd H (by simp)
      ·rw [if_neg c12] at H
       have c12b0 : decide (0 ≤ x9_1) = false := decide_eq_false c12
       clear c12
       by_cases c61 : 0 < (x28_1.length : Int)
       ·rw [if_pos c61] at H
        have c61b0 : decide (0 < (x28_1.length : Int)) = true := decide_eq_true c61
        have c61b1 : decide (0 < x28_1.length) = true := decide_eq_true (by omega)
        clear c61
        by_cases c62 : 0 < ((rd_L4 x28_1 0).length : Int)
        ·rw [if_pos c62] at H
         have c62b0 : decide (0 < ((rd_L4 x28_1 0).length : Int)) = true := decide_eq_true c62
         have c62b1 : decide (0 < (rd_L4 x28_1 0).length) = true := decide_eq_true (by omega)
         clear c62
         by_cases c63 : (rd (rd_L4 x28_1 0) 0) > 4611686018427387904
         ·rw [if_pos c63] at H
          have c63b0 : decide (4611686018427387904 < (rd (rd_L4 x28_1 0) 0)) = true := decide_eq_true c63
          clear c63
          simp only [Option.some.injEq, Prod.mk.injEq] at H
          obtain ⟨rfl, rfl⟩ := H
          obtain ⟨Ao64, co64, eo64⟩ := Kd.S_slice HO_28.out
          subst eo64
          have p484 : 0 ≤ (0 : Int) := (by omega)
          have q484 : 0 < (x28_1.length : Int) := of_decide_eq_true (by first | (with_reducible assumption) | assumption)
          obtain ⟨ad484, A484_0, c484_0, e484, hx484_0, hl484_0, hi484_0⟩ := at_L4 (Kd.S_reads' HO_28.out).2.2 0 p484 q484
          cases e484
          obtain ⟨ce484, hce484, hMe484, hcc484⟩ := Kd.S_get HO_28.out [] 0 p484 (by first | exact q484 | exact of_decide_eq_true (by first | (with_reducible assumption) | assumption) | (have e_ := (Kd.S_reads' HO_28.out).1; omega))
          obtain ⟨ve484_0, rfl, ge484_0⟩ := hMe484
          have hv484_0 := hcc484 0 _ rfl
          rw [Nat.add_zero, show ((Kd.slice 2 (Kd.int .i64))).sz = 1 from rfl, Nat.mul_one] at hv484_0
          replace hv484_0 := Option.some.inj (hv484_0.symm.trans hx484_0)
          rw [hv484_0] at ge484_0
          have HL484_0 := Aside0.mk (show Kd.R (Kd.int .i64) 2 _ _ _ _ (rd_L4 x28_1 0) from ge484_0)
          clear hv484_0 ge484_0
          have HX484_0 := Aside0.mk hx484_0
          clear hcc484 hce484
          have qi484 : (0 < x28_1.length) = True := eq_true (by omega)
          (try rw [show ((0 : Int)).toNat = 0 from rfl] at hx484_0)
          (try rw [Addr.add_zero'] at hx484_0)
          have HR484_0 := Aside0.mk hi484_0
          have HC484_0 := Aside0.mk hl484_0
          clear hi484_0 hl484_0
          replace p484 := eq_true p484
          replace q484 := eq_true q484
          have p485 : 0 ≤ (0 : Int) := (by omega)
          have q485 : 0 < ((rd_L4 x28_1 0).length : Int) := of_decide_eq_true (by first | (with_reducible assumption) | assumption)
          obtain ⟨ad485, e485, hx485_0⟩ := Kd.at_int (by repeat (first | (with_reducible exact HR484_0.out) | (with_reducible refine Kd.C_alloc ?_ _) | (with_reducible refine Kd.C_drewN ?_ _) | (with_reducible refine Kd.C_drew ?_) | exact HR484_0.out)) 0 p485 q485
          cases e485
          have qi485 : (0 < (rd_L4 x28_1 0).length) = True := eq_true (by omega)
          (try rw [show ((0 : Int)).toNat = 0 from rfl] at hx485_0)
          (try rw [Addr.add_zero'] at hx485_0)
          replace p485 := eq_true p485
          replace q485 := eq_true q485
          go_wp2
          go_ret2
          exact ⟨by first | rfl | (simp [errW_none, errW_some] <;> rfl) | (simp only [← hji6]; first | rfl | (simp [errW_none, errW_some] <;> rfl)) | (simp [*, errW_none, errW_some] <;> rfl), by repeat (first | (with_reducible first | exact HB.out | apply below_alloc | apply pw_below_drewN | apply below_drew1) | exact HB.out)⟩
         ·rw [if_neg c63] at H
          have c63b0 : decide (4611686018427387904 < (rd (rd_L4 x28_1 0) 0)) = false := decide_eq_false c63
          clear c63
          simp only [Option.some.injEq, Prod.mk.injEq] at H
          obtain ⟨rfl, rfl⟩ := H
          obtain ⟨Ao65, co65, eo65⟩ := Kd.S_slice HO_28.out
          subst eo65
          have p484 : 0 ≤ (0 : Int) := (by omega)
          have q484 : 0 < (x28_1.length : Int) := of_decide_eq_true (by first | (with_reducible assumption) | assumption)
          obtain ⟨ad484, A484_0, c484_0, e484, hx484_0, hl484_0, hi484_0⟩ := at_L4 (Kd.S_reads' HO_28.out).2.2 0 p484 q484
          cases e484
          obtain ⟨ce484, hce484, hMe484, hcc484⟩ := Kd.S_get HO_28.out [] 0 p484 (by first | exact q484 | exact of_decide_eq_true (by first | (with_reducible assumption) | assumption) | (have e_ := (Kd.S_reads' HO_28.out).1; omega))
          obtain ⟨ve484_0, rfl, ge484_0⟩ := hMe484
          have hv484_0 := hcc484 0 _ rfl
          rw [Nat.add_zero, show ((Kd.slice 2 (Kd.int .i64))).sz = 1 from rfl, Nat.mul_one] at hv484_0
          replace hv484_0 := Option.some.inj (hv484_0.symm.trans hx484_0)
          rw [hv484_0] at ge484_0
          have HL484_0 := Aside0.mk (show Kd.R (Kd.int .i64) 2 _ _ _ _ (rd_L4 x28_1 0) from ge484_0)
          clear hv484_0 ge484_0
          have HX484_0 := Aside0.mk hx484_0
          clear hcc484 hce484
          have qi484 : (0 < x28_1.length) = True := eq_true (by omega)
          (try rw [show ((0 : Int)).toNat = 0 from rfl] at hx484_0)
          (try rw [Addr.add_zero'] at hx484_0)
          have HR484_0 := Aside0.mk hi484_0
          have HC484_0 := Aside0.mk hl484_0
          clear hi484_0 hl484_0
          replace p484 := eq_true p484
          replace q484 := eq_true q484
          have p485 : 0 ≤ (0 : Int) := (by omega)
          have q485 : 0 < ((rd_L4 x28_1 0).length : Int) := of_decide_eq_true (by first | (with_reducible assumption) | assumption)
          obtain ⟨ad485, e485, hx485_0⟩ := Kd.at_int (by repeat (first | (with_reducible exact HR484_0.out) | (with_reducible refine Kd.C_alloc ?_ _) | (with_reducible refine Kd.C_drewN ?_ _) | (with_reducible refine Kd.C_drew ?_) | exact HR484_0.out)) 0 p485 q485
          cases e485
          have qi485 : (0 < (rd_L4 x28_1 0).length) = True := eq_true (by omega)
          (try rw [show ((0 : Int)).toNat = 0 from rfl] at hx485_0)
          (try rw [Addr.add_zero'] at hx485_0)
          replace p485 := eq_true p485
          replace q485 := eq_true q485
          have p486 : 0 ≤ (0 : Int) := (by omega)
          have q486 : 0 < (x28_1.length : Int) := of_decide_eq_true (by first | (with_reducible assumption) | assumption)
          obtain ⟨ad486, A486_0, c486_0, e486, hx486_0, hl486_0, hi486_0⟩ := at_L4 (Kd.S_reads' HO_28.out).2.2 0 p486 q486
          obtain rfl : ad484 = ad486 := (by injection e486)
          obtain ⟨ce486, hce486, hMe486, hcc486⟩ := Kd.S_get HO_28.out [] 0 p486 (by first | exact q486 | exact of_decide_eq_true (by first | (with_reducible assumption) | assumption) | (have e_ := (Kd.S_reads' HO_28.out).1; omega))
          obtain ⟨ve486_0, rfl, ge486_0⟩ := hMe486
          have hv486_0 := hcc486 0 _ rfl
          rw [Nat.add_zero, show ((Kd.slice 2 (Kd.int .i64))).sz = 1 from rfl, Nat.mul_one] at hv486_0
          replace hv486_0 := Option.some.inj (hv486_0.symm.trans hx486_0)
          rw [hv486_0] at ge486_0
          have HL486_0 := Aside0.mk (show Kd.R (Kd.int .i64) 2 _ _ _ _ (rd_L4 x28_1 0) from ge486_0)
          clear hv486_0 ge486_0
          have HX486_0 := Aside0.mk hx486_0
          clear hcc486 hce486
          have qi486 : (0 < x28_1.length) = True := eq_true (by omega)
          (try rw [show ((0 : Int)).toNat = 0 from rfl] at hx486_0)
          (try rw [Addr.add_zero'] at hx486_0)
          have HR486_0 := Aside0.mk hi486_0
          have HC486_0 := Aside0.mk hl486_0
          clear hi486_0 hl486_0
          replace p486 := eq_true p486
          replace q486 := eq_true q486
          have ea_ := Option.some.inj (hx484_0.symm.trans hx486_0)
          injection ea_ with ea_ en_ ec_
          subst ea_
          subst ec_
          clear en_
          have p487 : 0 ≤ (0 : Int) := (by omega)
          have q487 : 0 < ((rd_L4 x28_1 0).length : Int) := of_decide_eq_true (by first | (with_reducible assumption) | assumption)
          obtain ⟨ad487, e487, hx487_0⟩ := Kd.at_int (by repeat (first | (with_reducible exact HR486_0.out) | (with_reducible refine Kd.C_alloc ?_ _) | (with_reducible refine Kd.C_drewN ?_ _) | (with_reducible refine Kd.C_drew ?_) | exact HR486_0.out)) 0 p487 q487
          cases e487
          have qi487 : (0 < (rd_L4 x28_1 0).length) = True := eq_true (by omega)
          (try rw [show ((0 : Int)).toNat = 0 from rfl] at hx487_0)
          (try rw [Addr.add_zero'] at hx487_0)
          replace p487 := eq_true p487
          replace q487 := eq_true q487
          go_wp2
          go_ret2
          exact ⟨by first | rfl | (simp [errW_none, errW_some] <;> rfl) | (simp only [← hji6]; first | rfl | (simp [errW_none, errW_some] <;> rfl)) | (simp [*, errW_none, errW_some] <;> rfl), by repeat (first | (with_reducible first | exact HB.out | apply below_alloc | apply pw_below_drewN | apply below_drew1) | exact HB.out)⟩
        ·rw [if_neg c62] at H
         exact absurd H (by simp)
       ·rw [if_neg c61] at H
        exact absurd H (by simp)
   ·rw [if_neg c8] at H
    exact absurd H (by simp)
  ·rw [if_neg c7] at H
   exact absurd H (by simp)
 ·rw [if_neg c4] at H
  have c4b0 : (t477 == 0) = false := beq_eq_false_iff_ne.mpr c4
  have c4b1 : (t477 != 0) = true := bne_iff_ne.mpr c4
  simp only [Option.some.injEq, Prod.mk.injEq] at H
  obtain ⟨rfl, rfl⟩ := H
  go_enter Try.func36, Try.ntmps36
  go_wp2_with (first | ((with_reducible refine gate_callee (f := 16) rfl ?_); refine goesL_ (some 18) rfl rfl Try.func16 (by kernel_rfl) rfl #[.string a0, .string a1] rfl (by (try simp only [List.map_toArray, List.map_cons, List.map_nil]); first | done | rfl | (simp only [List.length_drop, List.length_take]; rfl)) ?_; (with_reducible refine (ancepsref45_Given.calls k a0 a1 t477 _ A3.out).mono ?_); rintro e w' ⟨rfl, ⟨nd, rfl⟩⟩; refine ⟨_, rfl, ?_⟩))
  go_ret2
  exact ⟨by first | rfl | (simp [errW_none, errW_some] <;> rfl) | (simp [*, errW_none, errW_some] <;> rfl), by repeat (first | (with_reducible first | exact HB.out | apply below_alloc | apply pw_below_drewN | apply below_drew1) | exact HB.out)⟩

end Go.Proofs.Ytnnonjjmlbemfaa.X
