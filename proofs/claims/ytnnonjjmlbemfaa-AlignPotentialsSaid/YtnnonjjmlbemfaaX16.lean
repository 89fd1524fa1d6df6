-- halved indents
-- printed by this session's xprint.py: out of the translation, by the kit's print with additions; Lean checks it
import Derived.Test.YtnnonjjmlbemfaaWN
import Derived.Test.YtnnonjjmlbemfaaWShare
import Derived.Test.YtnnonjjmlbemfaaWRepsOne
import Derived.Test.YtnnonjjmlbemfaaWGuard
import Derived.Test.YtnnonjjmlbemfaaX0
import Derived.Test.YtnnonjjmlbemfaaX15
namespace Go.Proofs.Ytnnonjjmlbemfaa.X
open Go.RowKit Go.Proofs.YtnnonjjmlbemfaaW.PrintWords Go.Proofs.YtnnonjjmlbemfaaW.PrintLast Go.Proofs.YtnnonjjmlbemfaaW.PrintMore
attribute [local go_sem] max2_int min2_int max_two min_two max_three min_three max_four min_four isSome_setCell binOp_gtr_str binOp_leq_str   -- for this text's walks alone
set_option linter.unusedVariables false
set_option linter.unusedSimpArgs false

/-! ### ancepsref45_table: function 46 -/
mutual
def ancepsref45_table.l0 : Nat → ByteArray → ByteArray → Int → List (List Int) → Option ((List (List Int)))
 | 0, _, _, _, _ => none
 | k + 1, x0, x1, x6, x16 => if x6 ≥ 0 then (if 0 ≤ (wrap64 ((x1.size : Int) + 1)) then (if (wrap64 ((x1.size : Int) + 1) : Int).toNat ≤ 35184372088832 then (if 0 ≤ x6 then (if x6 < (x16.length : Int) then (ancepsref45_table.l1 k x0 x1 x6 (x1.size : Int) (x16.set (x6 : Int).toNat (List.replicate (wrap64 ((x1.size : Int) + 1) : Int).toNat 0))) else (none)) else (none)) else (none)) else (none)) else (some x16)
def ancepsref45_table.l1 : Nat → ByteArray → ByteArray → Int → Int → List (List Int) → Option ((List (List Int)))
 | 0, _, _, _, _, _ => none
 | k + 1, x0, x1, x6, x7, x16 => if x7 ≥ 0 then (if x6 = (x0.size : Int) then (ancepsref45_table.j2 k x0 x1 x16 x6 x7 (x7 == (x1.size : Int))) else (ancepsref45_table.j2 k x0 x1 x16 x6 x7 false)) else (ancepsref45_table.l0 k x0 x1 (wrap64 (x6 - 1)) x16)
def ancepsref45_table.j2 : Nat → ByteArray → ByteArray → List (List Int) → Int → Int → Bool → Option ((List (List Int)))
 | 0, _, _, _, _, _, _ => none
 | k + 1, x0, x1, x5, x6, x7, x45 => if x45 = true then (ancepsref45_table.l1 k x0 x1 x6 (wrap64 (x7 - 1)) x5) else (if 0 ≤ x6 then (if x6 < (x5.length : Int) then (if 0 ≤ x7 then (if x7 < ((rd_L2 x5 x6).length : Int) then (ancepsref45_table.l2 k x0 x1 (x5.set (x6 : Int).toNat ((rd_L2 x5 x6).set (x7 : Int).toNat 1000000)) x6 x7 0) else (none)) else (none)) else (none)) else (none))
def ancepsref45_table.l2 : Nat → ByteArray → ByteArray → List (List Int) → Int → Int → Int → Option ((List (List Int)))
 | 0, _, _, _, _, _, _ => none
 | k + 1, x0, x1, x5, x6, x7, x8 => if x8 ≤ 4 then ((ancepsref45_Step.f k x0 x1 x6 x7 x8).bind fun bt248 => (if bt248.2.2.2 = true then (if 0 ≤ x6 then (if x6 < (x5.length : Int) then (if 0 ≤ x7 then (if x7 < ((rd_L2 x5 x6).length : Int) then (if 0 ≤ bt248.1 then (if bt248.1 < (x5.length : Int) then (if 0 ≤ bt248.2.1 then (if bt248.2.1 < ((rd_L2 x5 bt248.1).length : Int) then (ancepsref45_table.l2 k x0 x1 (x5.set (x6 : Int).toNat ((rd_L2 x5 x6).set (x7 : Int).toNat (mn (rd (rd_L2 x5 x6) x7) (wrap64 (bt248.2.2.1 + (rd (rd_L2 x5 bt248.1) bt248.2.1)))))) x6 x7 (wrap64 (x8 + 1))) else (none)) else (none)) else (none)) else (none)) else (none)) else (none)) else (none)) else (none)) else (ancepsref45_table.l2 k x0 x1 x5 x6 x7 (wrap64 (x8 + 1))))) else (ancepsref45_table.l1 k x0 x1 x6 (wrap64 (x7 - 1)) x5)
end
def ancepsref45_table.f (k : Nat) (a0 : ByteArray) (a1 : ByteArray) : Option ((List (List Int))) := if 0 ≤ (wrap64 ((a0.size : Int) + 1)) then (if (wrap64 ((a0.size : Int) + 1) : Int).toNat ≤ 11728124029610 then (ancepsref45_table.l0 k a0 a1 (a0.size : Int) (List.replicate (wrap64 ((a0.size : Int) + 1) : Int).toNat [])) else (none)) else (none)
theorem ancepsref45_table.mono_l : ∀ k, (∀ y0 y1 y2 y3, LeO (ancepsref45_table.l0 k y0 y1 y2 y3) (ancepsref45_table.l0 (k + 1) y0 y1 y2 y3)) ∧ (∀ y0 y1 y2 y3 y4, LeO (ancepsref45_table.l1 k y0 y1 y2 y3 y4) (ancepsref45_table.l1 (k + 1) y0 y1 y2 y3 y4)) ∧ (∀ y0 y1 y2 y3 y4 y5, LeO (ancepsref45_table.j2 k y0 y1 y2 y3 y4 y5) (ancepsref45_table.j2 (k + 1) y0 y1 y2 y3 y4 y5)) ∧ (∀ y0 y1 y2 y3 y4 y5, LeO (ancepsref45_table.l2 k y0 y1 y2 y3 y4 y5) (ancepsref45_table.l2 (k + 1) y0 y1 y2 y3 y4 y5))
 | 0 => ⟨fun _ _ _ _ r h => by simp [ancepsref45_table.l0] at h, fun _ _ _ _ _ r h => by simp [ancepsref45_table.l1] at h, fun _ _ _ _ _ _ r h => by simp [ancepsref45_table.j2] at h, fun _ _ _ _ _ _ r h => by simp [ancepsref45_table.l2] at h⟩
 | k + 1 => by
  obtain ⟨ih0, ih1, ih2, ih3⟩ := ancepsref45_table.mono_l k
  refine ⟨?_, ?_, ?_, ?_⟩
  ·intro y0 y1 y2 y3
   unfold ancepsref45_table.l0
   repeat' first
   | (with_reducible exact ih0 _ _ _ _)
   | (with_reducible exact ih1 _ _ _ _ _)
   | (with_reducible exact ih2 _ _ _ _ _ _)
   | (with_reducible exact ih3 _ _ _ _ _ _)
   | (with_reducible exact ancepsref45_Step.mono _ _ _ _ _ _)
   | (with_reducible exact LeO.refl _)
   | (with_reducible exact LeO.none _)
   | (with_reducible refine LeO.ite ?_ ?_)
   | (with_reducible refine LeO.bind ?_ (fun _ => ?_))
   | exact ih0 _ _ _ _
   | exact ih1 _ _ _ _ _
   | exact ih2 _ _ _ _ _ _
   | exact ih3 _ _ _ _ _ _
   | exact ancepsref45_Step.mono _ _ _ _ _ _
   | exact LeO.none _
   | refine LeO.ite ?_ ?_
   | refine LeO.bind ?_ (fun _ => ?_)
  ·intro y0 y1 y2 y3 y4
   unfold ancepsref45_table.l1
   repeat' first
   | (with_reducible exact ih0 _ _ _ _)
   | (with_reducible exact ih1 _ _ _ _ _)
   | (with_reducible exact ih2 _ _ _ _ _ _)
   | (with_reducible exact ih3 _ _ _ _ _ _)
   | (with_reducible exact ancepsref45_Step.mono _ _ _ _ _ _)
   | (with_reducible exact LeO.refl _)
   | (with_reducible exact LeO.none _)
   | (with_reducible refine LeO.ite ?_ ?_)
   | (with_reducible refine LeO.bind ?_ (fun _ => ?_))
   | exact ih0 _ _ _ _
   | exact ih1 _ _ _ _ _
   | exact ih2 _ _ _ _ _ _
   | exact ih3 _ _ _ _ _ _
   | exact ancepsref45_Step.mono _ _ _ _ _ _
   | exact LeO.none _
   | refine LeO.ite ?_ ?_
   | refine LeO.bind ?_ (fun _ => ?_)
  ·intro y0 y1 y2 y3 y4 y5
   unfold ancepsref45_table.j2
   repeat' first
   | (with_reducible exact ih0 _ _ _ _)
   | (with_reducible exact ih1 _ _ _ _ _)
   | (with_reducible exact ih2 _ _ _ _ _ _)
   | (with_reducible exact ih3 _ _ _ _ _ _)
   | (with_reducible exact ancepsref45_Step.mono _ _ _ _ _ _)
   | (with_reducible exact LeO.refl _)
   | (with_reducible exact LeO.none _)
   | (with_reducible refine LeO.ite ?_ ?_)
   | (with_reducible refine LeO.bind ?_ (fun _ => ?_))
   | exact ih0 _ _ _ _
   | exact ih1 _ _ _ _ _
   | exact ih2 _ _ _ _ _ _
   | exact ih3 _ _ _ _ _ _
   | exact ancepsref45_Step.mono _ _ _ _ _ _
   | exact LeO.none _
   | refine LeO.ite ?_ ?_
   | refine LeO.bind ?_ (fun _ => ?_)
  ·intro y0 y1 y2 y3 y4 y5
   unfold ancepsref45_table.l2
   repeat' first
   | (with_reducible exact ih0 _ _ _ _)
   | (with_reducible exact ih1 _ _ _ _ _)
   | (with_reducible exact ih2 _ _ _ _ _ _)
   | (with_reducible exact ih3 _ _ _ _ _ _)
   | (with_reducible exact ancepsref45_Step.mono _ _ _ _ _ _)
   | (with_reducible exact LeO.refl _)
   | (with_reducible exact LeO.none _)
   | (with_reducible refine LeO.ite ?_ ?_)
   | (with_reducible refine LeO.bind ?_ (fun _ => ?_))
   | exact ih0 _ _ _ _
   | exact ih1 _ _ _ _ _
   | exact ih2 _ _ _ _ _ _
   | exact ih3 _ _ _ _ _ _
   | exact ancepsref45_Step.mono _ _ _ _ _ _
   | exact LeO.none _
   | refine LeO.ite ?_ ?_
   | refine LeO.bind ?_ (fun _ => ?_)
theorem ancepsref45_table.mono : ∀ a0 a1 k, LeO (ancepsref45_table.f k a0 a1) (ancepsref45_table.f (k + 1) a0 a1) := by
 intro a0 a1 k
 obtain ⟨ih0, ih1, ih2, ih3⟩ := ancepsref45_table.mono_l k
 unfold ancepsref45_table.f
 repeat' first
   | (with_reducible exact ih0 _ _ _ _)
   | (with_reducible exact ih1 _ _ _ _ _)
   | (with_reducible exact ih2 _ _ _ _ _ _)
   | (with_reducible exact ih3 _ _ _ _ _ _)
   | (with_reducible exact ancepsref45_Step.mono _ _ _ _ _ _)
   | (with_reducible exact LeO.refl _)
   | (with_reducible exact LeO.none _)
   | (with_reducible refine LeO.ite ?_ ?_)
   | (with_reducible refine LeO.bind ?_ (fun _ => ?_))
   | exact ih0 _ _ _ _
   | exact ih1 _ _ _ _ _
   | exact ih2 _ _ _ _ _ _
   | exact ih3 _ _ _ _ _ _
   | exact ancepsref45_Step.mono _ _ _ _ _ _
   | exact LeO.none _
   | refine LeO.ite ?_ ?_
   | refine LeO.bind ?_ (fun _ => ?_)
def ancepsref45_table.T16 : Bool × List (List Nat × List Nat) := (true, [([], []), ([], []), ([0, 1], [0, 1]), ([2], [2]), ([], []), ([], []), ([], []), ([5, 6], [5, 6]), ([7], [7]), ([], []), ([8, 9], [8, 9]), ([10], [10]), ([], []), ([], []), ([], []), ([13, 14], [13, 14]), ([15], [15]), ([], []), ([16, 17], [16, 17]), ([18], [18]), ([12, 19], [12, 19]), ([11, 20], [11, 20]), ([3, 4, 0, 1, 2, 3, 4, 5, 6, 7, 8, 9, 10, 11, 12, 13, 14, 15, 16, 17, 18, 19, 20, 21], [3, 4]), ([22, 21, 0, 1, 2, 3, 4, 5, 6, 7, 8, 9, 10, 11, 12, 13, 14, 15, 16, 17, 18, 19, 20, 21], [21, 22])])
def ancepsref45_table.B16 : List Nat := [0, 0, 3, 7, 0, 0, 0, 96, 224, 0, 992, 2016, 0, 0, 0, 24576, 57344, 0, 253952, 516096, 1044480, 2097120, 4194303, 8388607]
theorem ancepsref45_table.tab16 : rtab .any (opsOf Try.f46 16) = ancepsref45_table.T16 := by kernel_rfl
theorem ancepsref45_table.bits16 : waitsOk ancepsref45_table.T16.2 ancepsref45_table.B16 = true := by kernel_rfl
set_option maxHeartbeats 8000000 in
set_option maxRecDepth 100000 in
theorem ancepsref45_table.calls (k : Nat) (a0 : ByteArray) (a1 : ByteArray) (r : List (List Int)) (w : World) (h : ancepsref45_table.f k a0 a1 = some r) :
  Calls Try.prog 46 #[.string a0, .string a1] w fun e w' => ∃ v0_ : Value, e = .returned (v0_) ∧ Kd.S (Kd.slice 3 (Kd.int .i64)) 31 w' w.heap.size (fun _ => True) v0_ r ∧ Below w.heap.size w w' := by
 have HB := Aside0.mk (Below.refl w.heap.size w)
 have H : (if 0 ≤ (wrap64 ((a0.size : Int) + 1)) then (if (wrap64 ((a0.size : Int) + 1) : Int).toNat ≤ 11728124029610 then (ancepsref45_table.l0 k a0 a1 (a0.size : Int) (List.replicate (wrap64 ((a0.size : Int) + 1) : Int).toNat [])) else (none)) else (none)) = some r := h
 clear h
 obtain ⟨ji3, hji3⟩ : ∃ j_ : Int, (wrap64 ((a0.size : Int) + 1)) = j_ := ⟨_, rfl⟩
 replace H : (if 0 ≤ (ji3) then (if (ji3 : Int).toNat ≤ 11728124029610 then (ancepsref45_table.l0 k a0 a1 (a0.size : Int) (List.replicate (ji3 : Int).toNat [])) else (none)) else (none)) = some r := by first | (rw [hji3] at H; exact H) | (simp only [hji3] at H ⊢; exact H)
 have hji3w : (IntKind.i64.wrap ((a0.size : Int) + 1)) = ji3 := (i64_w _).trans hji3
 by_cases c4 : 0 ≤ (ji3)
 ·rw [if_pos c4] at H
  have c4b0 := eq_true c4
  have c4b1 : decide (0 ≤ (ji3)) = true := decide_eq_true c4
  clear c4
  by_cases c5 : (ji3 : Int).toNat ≤ 11728124029610
  ·rw [if_pos c5] at H
   have c5b0 := eq_true c5
   have c5b1 : decide ((ji3 : Int).toNat ≤ 11728124029610) = true := decide_eq_true c5
   clear c5
   obtain ⟨y237, hy237⟩ : ∃ y_ : List (List Int), y_ = (List.replicate (ji3 : Int).toNat []) := ⟨_, rfl⟩
   replace H : (ancepsref45_table.l0 k a0 a1 (a0.size : Int) y237) = some r := by first | (rw [hy237]; with_reducible exact H) | (have H2_ := (Option.bind_some _ _).symm.trans H; rw [hy237]; with_reducible exact H2_) | (have H2_ := (Option.bind_some _ _).symm.trans H; with_reducible exact H2_) | with_reducible exact H | (rw [hy237]; exact H) | exact H
   have Ny237 := Aside0.mk hy237
   clear hy237
   have H' := Aside0.mk H
   clear H
   go_enter Try.func46, Try.ntmps46
   go_wp2_with (first | ((with_reducible refine gate_dst (N := 16) rfl ?_); (try (refine gate_guard (by rfl) ?_; dsimp only)); refine Kd.S_make (Kd.slice 3 (Kd.int .i64)) _ 31 rfl (N := 16) rfl 32 _ _ rfl ji3 rfl rfl Try.underlying32 (.slice none 0 0) 24 info31 rfl (by decide) (by omega) [] (ok := fun _ => True) (okp := fun _ => True) ⟨_, rfl, Kd.R_nil _ _ _ _ _⟩ (fun _ hk => hk) trivial (of_decide_eq_true (by first | (with_reducible assumption) | assumption)) (Nat.le_trans (Nat.mul_le_mul_right _ (of_decide_eq_true (by first | (with_reducible assumption) | assumption) : ji3.toNat ≤ 11728124029610)) (by omega)) (Below.refl _ _) (Nat.le_refl _) ?_; intro v238 w6 ho7 hb hg_ hnew_; clear hg_ hnew_; (first | rw [← Ny237.out] at ho7 | (simp only [Int.reduceToNat] at ho7; rw [← Ny237.out] at ho7)); have n0_ := Aside0.mk (Kd.S_lower ho7 (below_size (by repeat (first | (with_reducible first | exact HB.out | apply below_alloc | apply pw_below_drewN | apply below_drew1) | exact HB.out)))); have n1_ := Aside0.mk (below_step (by repeat (first | (with_reducible first | exact HB.out | apply below_alloc | apply pw_below_drewN | apply below_drew1) | exact HB.out)) hb); clear HB; have HO239 := n0_; have HB := n1_; clear n0_ n1_; clear hb ho7))
   go_loopg [6] k (fun kq v6 w' => ∃ (x6_1 : Int) (x16_1 : List (List Int)), v6 = .int .i64 x6_1 ∧ Aside0 (ancepsref45_table.l0 kq a0 a1 x6_1 x16_1 = some r) ∧ Aside0 (kq ≤ k) ∧ Aside0 (Kd.S (Kd.slice 3 (Kd.int .i64)) 31 w' w.heap.size (fun _ => True) v238 x16_1) ∧ Aside0 (Below w.heap.size w w'))
   case atStart => exact ⟨((a0.size : Int)), (y237), (by first | rfl | (simp; done) | (simp [*]; done)), H', ⟨Nat.le_refl _⟩, ⟨by (with_reducible repeat (first | apply Kd.S_alloc | apply Kd.S_drewN | apply Kd.S_drew)); exact HO239.out⟩, ⟨by repeat (first | (with_reducible first | exact HB.out | apply below_alloc | apply pw_below_drewN | apply below_drew1) | exact HB.out)⟩⟩
   case round =>
    clear H'
    try clear p2
    try clear c4
    try clear c4b0
    try clear c4b1
    try clear c5
    try clear c5b0
    try clear c5b1
    try clear p6
    obtain ⟨x6_1, x16_1, rfl, HA, HK1, HO_16, HB⟩ := hrel
    cases gk with
    | zero => exact absurd HA.out (by simp [ancepsref45_table.l0])
    | succ k1 =>
     have H := HA.out
     clear HA
     simp only [ancepsref45_table.l0] at H
     by_cases c8 : x6_1 ≥ 0
     ·rw [if_pos c8] at H
      have c8b0 : decide (0 ≤ x6_1) = true := decide_eq_true c8
      clear c8
      obtain ⟨ji9, hji9⟩ : ∃ j_ : Int, (wrap64 ((a1.size : Int) + 1)) = j_ := ⟨_, rfl⟩
      replace H : (if 0 ≤ (ji9) then (if (ji9 : Int).toNat ≤ 35184372088832 then (if 0 ≤ x6_1 then (if x6_1 < (x16_1.length : Int) then (ancepsref45_table.l1 k1 a0 a1 x6_1 (a1.size : Int) (x16_1.set (x6_1 : Int).toNat (List.replicate (ji9 : Int).toNat 0))) else (none)) else (none)) else (none)) else (none)) = some r := by first | (rw [hji9] at H; exact H) | (simp only [hji9] at H ⊢; exact H)
      have hji9w : (IntKind.i64.wrap ((a1.size : Int) + 1)) = ji9 := (i64_w _).trans hji9
      by_cases c10 : 0 ≤ (ji9)
      ·rw [if_pos c10] at H
       have c10b0 := eq_true c10
       have c10b1 : decide (0 ≤ (ji9)) = true := decide_eq_true c10
       clear c10
       by_cases c11 : (ji9 : Int).toNat ≤ 35184372088832
       ·rw [if_pos c11] at H
        have c11b0 := eq_true c11
        have c11b1 : decide ((ji9 : Int).toNat ≤ 35184372088832) = true := decide_eq_true c11
        clear c11
        obtain ⟨y240, hy240⟩ : ∃ y_ : List Int, y_ = (List.replicate (ji9 : Int).toNat 0) := ⟨_, rfl⟩
        replace H : (if 0 ≤ x6_1 then (if x6_1 < (x16_1.length : Int) then (ancepsref45_table.l1 k1 a0 a1 x6_1 (a1.size : Int) (x16_1.set (x6_1 : Int).toNat y240)) else (none)) else (none)) = some r := by first | (rw [hy240]; with_reducible exact H) | (have H2_ := (Option.bind_some _ _).symm.trans H; rw [hy240]; with_reducible exact H2_) | (have H2_ := (Option.bind_some _ _).symm.trans H; with_reducible exact H2_) | with_reducible exact H | (rw [hy240]; exact H) | exact H
        have Ny240 := Aside0.mk hy240
        clear hy240
        by_cases c12 : 0 ≤ x6_1
        ·rw [if_pos c12] at H
         have c12b0 : decide (0 ≤ x6_1) = true := decide_eq_true c12
         clear c12
         by_cases c13 : x6_1 < (x16_1.length : Int)
         ·rw [if_pos c13] at H
          have c13b0 : decide (x6_1 < (x16_1.length : Int)) = true := decide_eq_true c13
          clear c13
          obtain ⟨y243, hy243⟩ : ∃ y_ : List (List Int), y_ = (x16_1.set (x6_1 : Int).toNat y240) := ⟨_, rfl⟩
          replace H : (ancepsref45_table.l1 k1 a0 a1 x6_1 (a1.size : Int) y243) = some r := by first | (rw [hy243]; with_reducible exact H) | (have H2_ := (Option.bind_some _ _).symm.trans H; rw [hy243]; with_reducible exact H2_) | (have H2_ := (Option.bind_some _ _).symm.trans H; with_reducible exact H2_) | with_reducible exact H | (rw [hy243]; exact H) | exact H
          have Ny243 := Aside0.mk hy243
          clear hy243
          have H' := Aside0.mk H
          clear H
          go_wp2_with (first | ((with_reducible refine gate_dst (N := 28) rfl ?_); (try (refine gate_guard (by rfl) ?_; dsimp only)); refine Kd.R_make (Kd.int .i64) _ 3 rfl (N := 28) rfl 31 _ _ rfl ji9 rfl rfl Try.underlying31 (.int .i64 0) 8 info3 rfl (by decide) (by omega) 0 (ok := fun _ => True) (okp := fun _ => True) rfl (fun _ hk => hk) trivial (of_decide_eq_true (by first | (with_reducible assumption) | assumption)) (Nat.le_trans (Nat.mul_le_mul_right _ (of_decide_eq_true (by first | (with_reducible assumption) | assumption) : ji9.toNat ≤ 35184372088832)) (by omega)) (Below.refl _ _) (Nat.le_refl _) ?_; intro v241 w15 ho16 hb hg_ hnew_; clear hg_ hnew_; (first | rw [← Ny240.out] at ho16 | (simp only [Int.reduceToNat] at ho16; rw [← Ny240.out] at ho16)); have n0_ := Aside0.mk (Kd.S_elder' (by (with_reducible repeat (first | apply Kd.S_alloc | apply Kd.S_drewN | apply Kd.S_drew)); exact HO_16.out) (Kd.R_base ho16) hb); have n1_ := Aside0.mk (Kd.R_lower ho16 (below_size (by repeat (first | (with_reducible first | exact HB.out | apply below_alloc | apply pw_below_drewN | apply below_drew1) | exact HB.out)))); have n2_ := Aside0.mk (below_step (by repeat (first | (with_reducible first | exact HB.out | apply below_alloc | apply pw_below_drewN | apply below_drew1) | exact HB.out)) hb); clear HO_16; clear HB; have HO_16 := n0_; have HO242 := n1_; have HB := n2_; clear n0_ n1_ n2_; clear hb ho16; have p14 : 0 ≤ (x6_1 : Int) := of_decide_eq_true (by first | (with_reducible assumption) | assumption); have q14 : (x6_1 : Int) < ((x16_1.length : Int) : Int) := of_decide_eq_true (by first | (with_reducible assumption) | assumption); obtain ⟨go14, co14, eo14, gb14, gl14, cl14, HG14⟩ := Kd.S_form HO_16.out (by omega); (first | cases eo14 | (injection eo14 with ea_ en_ ec_; (first | subst ea_ | (injection ea_ with ea_; subst ea_)); subst ec_; clear en_)); have GB14 := Aside0.mk gb14; have GG14 := Aside0.mk HG14; clear gb14 gl14 HG14; obtain ⟨_, ce14, hcl14, hM14, hcc14, hfr14, _, _⟩ := Kd.S_elem HO_16.out [] (x6_1 : Int) p14 q14; obtain ⟨ve14_0, rfl, ge14_0⟩ := hM14; have hx14_0 := hcc14 0 _ rfl; have hf14_0 := hfr14 0; (try simp only [show ((Kd.slice 3 (Kd.int .i64))).sz = 1 from rfl, Nat.mul_one, Nat.add_zero] at hx14_0); (try simp only [show ((Kd.slice 3 (Kd.int .i64))).sz = 1 from rfl, Nat.mul_one, Nat.add_zero] at hf14_0); (try clear hM14); clear hcl14 hcc14 hfr14; replace p14 := eq_true p14; replace q14 := eq_true q14; have n_ := Aside0.mk (Kd.S_mono (ok' := (fun k_ => some k_ ≠ (v241 : Value).ownBlock)) HO_16.out (fun k_ hk => hk.2)); clear HO_16; have HO_16 := n_; clear n_; have HX17 := Aside0.mk (show Kd.S (Kd.slice 3 (Kd.int .i64)) 31 w15 w.heap.size (fun k_ => ((fun _ => True)) k_ ∧ ¬ ((fun k_ => some k_ = (v241 : Value).ownBlock)) k_) (.slice (some ⟨go14, 0, none⟩) x16_1.length co14) x16_1 from (by (with_reducible repeat (first | apply Kd.S_alloc | apply Kd.S_drewN | apply Kd.S_drew)); exact Kd.S_mono HO_16.out (fun k_ hk => ⟨trivial, fun e_ => hk e_⟩))); obtain ⟨oki17, ce17, hcl17, hM17, hcc17, hfr17, hoki17, hH17⟩ := Kd.S_elem HX17.out [] (x6_1 : Int) (of_decide_eq_true (by first | (with_reducible assumption) | assumption)) (by have h_ : (x6_1 : Int) < ((x16_1.length : Int) : Int) := of_decide_eq_true (by first | (with_reducible assumption) | assumption); first | exact h_ | (have e_ := (Kd.S_reads' HO_16.out).1; omega) | simpa using h_); obtain ⟨ve17_0, rfl, ge17_0⟩ := hM17; have HP17 := Kd.S_seg hH17 (of_decide_eq_true (by first | (with_reducible assumption) | assumption)) (by have h_ : (x6_1 : Int) < ((x16_1.length : Int) : Int) := of_decide_eq_true (by first | (with_reducible assumption) | assumption); first | exact h_ | (have e_ := (Kd.S_reads' HO_16.out).1; omega) | simpa using h_) (seg := [v241]) (j := 0) (show 1 ≤ 1 from by decide) (x' := y240) (Kd.M_row (Kd.R_mono (Kd.R_tight rfl (Kd.R_mono (ok' := fun k_ => ((fun _ => True)) k_ ∧ k_ ≠ go14) (Kd.R_apart' (HO242.out) (Kd.S_typed HO_16.out) (by decide)) (fun k_ hk => ⟨trivial, fun e_ => (hk.2) (by rw [e_]; rfl)⟩))) (fun _ h_ => Or.inr (h_)))) (fun _ hk => hk) (fun k_ hk_ => ((Kd.R_mono (ok' := fun k_ => ((fun _ => True)) k_ ∧ k_ ≠ go14) (Kd.R_apart' (HO242.out) (Kd.S_typed HO_16.out) (by decide)) (fun k_ hk => ⟨trivial, fun e_ => (hk.2) (by rw [e_]; rfl)⟩))).1 k_ hk_.symm); have hx17_0 := hcc17 0 _ rfl; (try simp only [show ((Kd.slice 3 (Kd.int .i64))).sz = 1 from rfl, Nat.mul_one, Nat.add_zero] at hx17_0); have hf17_0 := hfr17 0; (try simp only [show ((Kd.slice 3 (Kd.int .i64))).sz = 1 from rfl, Nat.mul_one, Nat.add_zero] at hf17_0); (try clear hM17); clear hcl17 hcc17 hfr17 hoki17 hH17; (try simp only [show ((Kd.slice 3 (Kd.int .i64))).sz = 1 from rfl, Nat.mul_one, Nat.add_zero] at HP17)) | ((with_reducible refine gate_store (t := 31) (p := 29) rfl ?_); refine store_event (t := 31) (p := 29) (v := ?vo_w18) (w1 := (w15.setCell ⟨go14, (x6_1 : Int).toNat, none⟩ (v241))) ?hg ?ho ?hn ?hr ?_; (case ho => rfl); (case hg => rfl); (case hn => rfl); (case hr => first | (go_simp; done) | (go_simp; rfl) | (obtain ⟨a_, c_, e_⟩ := Kd.R_slice HO242.out; subst e_; first | (go_simp; done) | (go_simp; rfl))); intro w18 hw; have hg : w15.grownBy w18 (some go14) := (by rw [hw]; exact HP17.2); have hp_ : Kd.S (Kd.slice 3 (Kd.int .i64)) 31 w18 w.heap.size (fun _ => True) (.slice (some ⟨go14, 0, none⟩) x16_1.length co14) y243 := (by rw [hw, Ny243.out]; exact HP17.1); clear HP17; have n0_ := Aside0.mk (hp_); have n1_ := Aside0.mk ((by rw [hw]; exact below_set (HB.out) GB14.out : Below w.heap.size w w18)); clear HO_16; clear HB; clear HO242; have HO_16 := n0_; have HB := n1_; clear n0_ n1_; clear hg hw hp_))
          go_loopg [7] k1 (fun kq v7 w' => ∃ (x7_2 : Int) (x16_2 : List (List Int)), v7 = .int .i64 x7_2 ∧ Aside0 (ancepsref45_table.l1 kq a0 a1 x6_1 x7_2 x16_2 = some r) ∧ Aside0 (kq ≤ k1) ∧ Aside0 (Kd.S (Kd.slice 3 (Kd.int .i64)) 31 w' w.heap.size (fun _ => True) (.slice (some ⟨go14, 0, none⟩) x16_1.length co14) x16_2) ∧ Aside0 (Below w.heap.size w w'))
          case atStart => exact ⟨((a1.size : Int)), (y243), (by first | rfl | (simp; done) | (simp [*]; done)), H', ⟨Nat.le_refl _⟩, ⟨by (with_reducible repeat (first | apply Kd.S_alloc | apply Kd.S_drewN | apply Kd.S_drew)); exact HO_16.out⟩, ⟨by repeat (first | (with_reducible first | exact HB.out | apply below_alloc | apply pw_below_drewN | apply below_drew1) | exact HB.out)⟩⟩
          case round =>
           clear H'
           try clear c1
           try clear p1
           try clear q1
           try clear hx1
           try clear p2
           try clear c4
           try clear c4b0
           try clear c4b1
           try clear c5
           try clear c5b0
           try clear c5b1
           try clear p6
           try clear c8
           try clear c8b0
           try clear c10
           try clear c10b0
           try clear c10b1
           try clear c11
           try clear c11b0
           try clear c11b1
           try clear c12
           try clear c12b0
           try clear c13
           try clear c13b0
           try clear c14
           try clear p14
           try clear q14
           try clear hx14
           try clear hf14
           try clear c17
           try clear hx17
           try clear hf17
           try clear hx14_0
           try clear hx17_0
           try clear p14
           try clear p2
           try clear p6
           try clear q14
           obtain ⟨x7_2, x16_2, rfl, HA, HK2, HO_16, HB⟩ := hrel
           have hl16_2 := (Kd.S_reads' HO_16.out).1
           rw [hl16_2] at HO_16
           (try simp only [hl16_2])
           cases gk with
           | zero => exact absurd HA.out (by simp [ancepsref45_table.l1])
           | succ k2 =>
            have H := HA.out
            clear HA
            simp only [ancepsref45_table.l1] at H
            by_cases c19 : x7_2 ≥ 0
            ·rw [if_pos c19] at H
             have c19b0 : decide (0 ≤ x7_2) = true := decide_eq_true c19
             clear c19
             have HC20 := Aside0.mk H
             clear H
             go_upto_region 9 with (fail)
             go_cut [45] (fun v45 wc => ∃ (kq : Nat) (x45_19 : Bool), v45 = .bool x45_19 ∧ Aside0 (ancepsref45_table.j2 kq a0 a1 x16_2 x6_1 x7_2 x45_19 = some r) ∧ Aside0 (kq ≤ k2) ∧ Aside0 (Kd.S (Kd.slice 3 (Kd.int .i64)) 31 wc w.heap.size (fun _ => True) (.slice (some ⟨go14, 0, none⟩) x16_2.length co14) x16_2) ∧ Aside0 (Below w.heap.size w wc))
             case first =>
              have H := HC20.out
              clear HC20
              by_cases c21 : x6_1 = (a0.size : Int)
              ·rw [if_pos c21] at H
               have c21b0 : (x6_1 == (a0.size : Int)) = true := beq_iff_eq.mpr c21
               have c21b1 : (x6_1 != (a0.size : Int)) = false := bne_eq_false_iff_eq.mpr c21
               clear c21
               (first | rw [c21b0] | (simp only [i64_w, i32_w]; rw [c21b0]) | skip)
               have H' := Aside0.mk H
               clear H
               go_wp2
               go_meet
               case rel => exact ⟨_, ((x7_2 == (a1.size : Int))), (by first | rfl | (simp; done) | (simp [*]; done)), H', ⟨by have := HK1.out; have := HK2.out; first | omega | exact Nat.le_refl _⟩, ⟨by (try simp only [hl16_2]); (with_reducible repeat (first | apply Kd.S_alloc | apply Kd.S_drewN | apply Kd.S_drew)); exact HO_16.out⟩, ⟨by repeat (first | (with_reducible first | exact HB.out | apply below_alloc | apply pw_below_drewN | apply below_drew1) | exact HB.out)⟩⟩
              ·rw [if_neg c21] at H
               have c21b0 : (x6_1 == (a0.size : Int)) = false := beq_eq_false_iff_ne.mpr c21
               have c21b1 : (x6_1 != (a0.size : Int)) = true := bne_iff_ne.mpr c21
               (first | rw [c21b0] | (simp only [i64_w, i32_w]; rw [c21b0]) | skip)
               have H' := Aside0.mk H
               clear H
               go_wp2
               go_meet
               case rel => exact ⟨_, (false), (by first | rfl | (simp; done) | (simp [*]; done)), H', ⟨by have := HK1.out; have := HK2.out; first | omega | exact Nat.le_refl _⟩, ⟨by (try simp only [hl16_2]); (with_reducible repeat (first | apply Kd.S_alloc | apply Kd.S_drewN | apply Kd.S_drew)); exact HO_16.out⟩, ⟨by repeat (first | (with_reducible first | exact HB.out | apply below_alloc | apply pw_below_drewN | apply below_drew1) | exact HB.out)⟩⟩
             case rest =>
              clear HC20
              try clear c1
              try clear p1
              try clear q1
              try clear hx1
              try clear c2
              try clear p2
              try clear c4
              try clear c4b0
              try clear c4b1
              try clear c5
              try clear c5b0
              try clear c5b1
              try clear p6
              try clear c8
              try clear c8b0
              try clear c10
              try clear c10b0
              try clear c10b1
              try clear c11
              try clear c11b0
              try clear c11b1
              try clear c12
              try clear c12b0
              try clear c13
              try clear c13b0
              try clear c14
              try clear p14
              try clear q14
              try clear hx14
              try clear hf14
              try clear c17
              try clear hx17
              try clear hf17
              try clear c19
              try clear c19b0
              try clear c21
              try clear c21b0
              try clear c21b1
              try clear hx14_0
              try clear hx17_0
              try clear p1
              try clear p14
              try clear p2
              try clear p6
              try clear q1
              try clear q14
              obtain ⟨kq, x45_19, rfl, HA, HJ19, HO_5, HB⟩ := hcut
              cases kq with
              | zero => exact absurd HA.out (by simp [ancepsref45_table.j2])
              | succ kj19 =>
               have H := HA.out
               clear HA
               simp only [ancepsref45_table.j2] at H
               by_cases c22 : x45_19 = true
               ·subst c22
                have H1 : (ancepsref45_table.l1 kj19 a0 a1 x6_1 (wrap64 (x7_2 - 1)) x16_2) = some r := by rw [if_pos rfl] at H; exact H
                clear H
                have H := H1
                clear H1
                have H' := Aside0.mk H
                clear H
                go_wp2
                (try simp only [← hl16_2])
                go_roundg kj19
                case measure => have := HK1.out; have := HK2.out; have := HJ19.out; omega
                case rel => exact ⟨(wrap64 (x7_2 - 1)), (x16_2), (by first | rfl | (simp; done) | (simp [*]; done)), H', ⟨by have := HK1.out; have := HK2.out; have := HJ19.out; omega⟩, ⟨by (try simp only [hl16_2]); (with_reducible repeat (first | apply Kd.S_alloc | apply Kd.S_drewN | apply Kd.S_drew)); exact HO_5.out⟩, ⟨by repeat (first | (with_reducible first | exact HB.out | apply below_alloc | apply pw_below_drewN | apply below_drew1) | exact HB.out)⟩⟩
               ·replace c22 := Bool.eq_false_iff.mpr c22
                subst c22
                have H1 : (if 0 ≤ x6_1 then (if x6_1 < (x16_2.length : Int) then (if 0 ≤ x7_2 then (if x7_2 < ((rd_L2 x16_2 x6_1).length : Int) then (ancepsref45_table.l2 kj19 a0 a1 (x16_2.set (x6_1 : Int).toNat ((rd_L2 x16_2 x6_1).set (x7_2 : Int).toNat 1000000)) x6_1 x7_2 0) else (none)) else (none)) else (none)) else (none)) = some r := by rw [if_neg (show ¬ (false = true) by decide)] at H; exact H
                clear H
                have H := H1
                clear H1
                by_cases c23 : 0 ≤ x6_1
                ·rw [if_pos c23] at H
                 have c23b0 : decide (0 ≤ x6_1) = true := decide_eq_true c23
                 clear c23
                 by_cases c24 : x6_1 < (x16_2.length : Int)
                 ·rw [if_pos c24] at H
                  have c24b0 : decide (x6_1 < (x16_2.length : Int)) = true := decide_eq_true c24
                  (try simp only [hl16_2] at c24b0)
                  clear c24
                  by_cases c25 : 0 ≤ x7_2
                  ·rw [if_pos c25] at H
                   have c25b0 : decide (0 ≤ x7_2) = true := decide_eq_true c25
                   clear c25
                   by_cases c26 : x7_2 < ((rd_L2 x16_2 x6_1).length : Int)
                   ·rw [if_pos c26] at H
                    have c26b0 : decide (x7_2 < ((rd_L2 x16_2 x6_1).length : Int)) = true := decide_eq_true c26
                    (try simp only [hl16_2] at c26b0)
                    clear c26
                    obtain ⟨y245, hy245⟩ : ∃ y_ : List Int, y_ = ((rd_L2 x16_2 x6_1).set (x7_2 : Int).toNat 1000000) := ⟨_, rfl⟩
                    replace H : (ancepsref45_table.l2 kj19 a0 a1 (x16_2.set (x6_1 : Int).toNat y245) x6_1 x7_2 0) = some r := by first | (rw [hy245]; with_reducible exact H) | (have H2_ := (Option.bind_some _ _).symm.trans H; rw [hy245]; with_reducible exact H2_) | (have H2_ := (Option.bind_some _ _).symm.trans H; with_reducible exact H2_) | with_reducible exact H | (rw [hy245]; exact H) | exact H
                    have Ny245 := Aside0.mk hy245
                    clear hy245
                    obtain ⟨y247, hy247⟩ : ∃ y_ : List (List Int), y_ = (x16_2.set (x6_1 : Int).toNat y245) := ⟨_, rfl⟩
                    replace H : (ancepsref45_table.l2 kj19 a0 a1 y247 x6_1 x7_2 0) = some r := by first | (rw [hy247]; with_reducible exact H) | (have H2_ := (Option.bind_some _ _).symm.trans H; rw [hy247]; with_reducible exact H2_) | (have H2_ := (Option.bind_some _ _).symm.trans H; with_reducible exact H2_) | with_reducible exact H | (rw [hy247]; exact H) | exact H
                    have Ny247 := Aside0.mk hy247
                    clear hy247
                    have H' := Aside0.mk H
                    clear H
                    have p244 : 0 ≤ (x6_1 : Int) := of_decide_eq_true (by first | (with_reducible assumption) | assumption)
                    have q244 : x6_1 < (x16_2.length : Int) := of_decide_eq_true (by first | (with_reducible assumption) | assumption)
                    obtain ⟨ad244, A244_0, c244_0, e244, hx244_0, hl244_0, hi244_0⟩ := at_L2 (Kd.S_reads' HO_5.out).2.2 x6_1 p244 q244
                    obtain rfl : (⟨go14, 0, none⟩ : Addr) = ad244 := (by injection e244)
                    obtain ⟨ce244, hce244, hMe244, hcc244⟩ := Kd.S_get HO_5.out [] x6_1 p244 (by first | exact q244 | exact of_decide_eq_true (by first | (with_reducible assumption) | assumption) | (have e_ := (Kd.S_reads' HO_5.out).1; omega))
                    obtain ⟨ve244_0, rfl, ge244_0⟩ := hMe244
                    have hv244_0 := hcc244 0 _ rfl
                    rw [Nat.add_zero, show ((Kd.slice 3 (Kd.int .i64))).sz = 1 from rfl, Nat.mul_one] at hv244_0
                    replace hv244_0 := Option.some.inj (hv244_0.symm.trans hx244_0)
                    rw [hv244_0] at ge244_0
                    have HL244_0 := Aside0.mk (show Kd.R (Kd.int .i64) 3 _ _ _ _ (rd_L2 x16_2 x6_1) from ge244_0)
                    clear hv244_0 ge244_0
                    have HX244_0 := Aside0.mk hx244_0
                    clear hcc244 hce244
                    (first | simp only [add_plain] at hx244_0 | simp only [add_at] at hx244_0 | simp only [Addr.add, Nat.zero_add] at hx244_0 | skip)
                    have HR244_0 := Aside0.mk hi244_0
                    have HC244_0 := Aside0.mk hl244_0
                    clear hi244_0 hl244_0
                    replace p244 := eq_true p244
                    replace q244 := eq_true q244
                    have p27 : 0 ≤ (x7_2 : Int) := of_decide_eq_true (by first | (with_reducible assumption) | assumption)
                    have q27 : (x7_2 : Int) < (((rd_L2 x16_2 x6_1).length : Int) : Int) := of_decide_eq_true (by first | (with_reducible assumption) | assumption)
                    obtain ⟨go27, co27, eo27, gb27, gl27, cl27, HG27⟩ := Kd.R_form HL244_0.out (by omega)
                    (first | cases eo27 | (injection eo27 with ea_ en_ ec_; (first | subst ea_ | (injection ea_ with ea_; subst ea_)); subst ec_; clear en_))
                    have GB27 := Aside0.mk gb27
                    have GG27 := Aside0.mk HG27
                    clear gb27 gl27 HG27
                    obtain ⟨hx27_0, hf27_0⟩ := Kd.R_celln 0 HL244_0.out (x7_2 : Int) p27 q27
                    replace p27 := eq_true p27
                    replace q27 := eq_true q27
                    have hq28 : (x6_1 : Int) < (x16_2.length : Int) := (by have h_ : (x6_1 : Int) < ((x16_2.length : Int) : Int) := of_decide_eq_true (by first | (with_reducible assumption) | assumption); first | exact h_ | (have e_ := (Kd.S_reads' HO_5.out).1; omega) | simpa only [List.length_set, List.length_set] using h_)
                    obtain ⟨oki28, ce28, hcl28, hM28, hcc28, hok28, hbk28⟩ := Kd.S_borrow HO_5.out [] (x6_1 : Int) (of_decide_eq_true (by first | (with_reducible assumption) | assumption)) hq28
                    obtain ⟨ve28_0, rfl, ge28_0⟩ := hM28
                    have hv28 := hcc28 0 _ rfl
                    rw [Nat.add_zero, show ((Kd.slice 3 (Kd.int .i64))).sz = 1 from rfl, Nat.mul_one] at hv28
                    replace hv28 := Option.some.inj (hv28.symm.trans HX244_0.out)
                    subst hv28
                    clear hcc28 hcl28
                    replace ge28_0 := (show Kd.R (Kd.int .i64) 3 _ _ _ _ (rd_L2 x16_2 x6_1) from ge28_0)
                    have HP28 := Kd.R_putg ge28_0 (x7_2 : Int) 1000000
                    go_wp2_with (first | ((with_reducible refine gate_store (t := 3) (p := 51) rfl ?_); refine store_event (t := 3) (p := 51) (v := ?vo_w29) (w1 := (wc.setCell ⟨go27, (x7_2 : Int).toNat, none⟩ (.int .i64 1000000))) ?hg ?ho ?hn ?hr ?_; (case ho => rfl); (case hg => rfl); (case hn => rfl); (case hr => first | (go_simp; done) | (go_simp; rfl)); intro w29 hw; have hg : wc.grownBy w29 (some go27) := (by rw [hw]; exact HP28.2); have hz_ : Kd.R (Kd.int .i64) 3 w29 w.heap.size oki28 (.slice (some ⟨go27, 0, none⟩) (rd_L2 x16_2 x6_1).length c244_0) y245 := (by rw [hw, Ny245.out]; exact HP28.1); have hp_ : Kd.S (Kd.slice 3 (Kd.int .i64)) 31 w29 w.heap.size (fun _ => True) (.slice (some ⟨go14, 0, none⟩) x16_2.length co14) y247 := (by rw [Ny247.out]; exact hbk28 hg (fun k_ e_ => by injection e_ with e_; subst e_; exact ge28_0.1 _ rfl) (Kd.M_row hz_)); have hm_ := Kd.R_mono hz_ hok28; clear HP28 hbk28; have n0_ := Aside0.mk (hp_); have n1_ := Aside0.mk ((by rw [hw]; exact below_set (HB.out) GB27.out : Below w.heap.size w w29)); have n2_ := Aside0.mk (hm_); have n3_ := Aside0.mk ((Kd.R_reads' hm_).2.1); clear HO_5; clear HB; clear HL244_0; have HO_5 := n0_; have HB := n1_; have HL260 := n2_; have HC246 := n3_; clear n0_ n1_ n2_ n3_; clear hg hw hp_ hz_ hm_ hok28))
                    go_loopg [8] kj19 (fun kq v8 w' => ∃ (x5_4 : List (List Int)) (x8_4 : Int), v8 = .int .i64 x8_4 ∧ Aside0 (ancepsref45_table.l2 kq a0 a1 x5_4 x6_1 x7_2 x8_4 = some r) ∧ Aside0 (kq ≤ kj19) ∧ Aside0 (Kd.S (Kd.slice 3 (Kd.int .i64)) 31 w' w.heap.size (fun _ => True) (.slice (some ⟨go14, 0, none⟩) x16_2.length co14) x5_4) ∧ Aside0 (Below w.heap.size w w'))
                    case atStart => exact ⟨(y247), (0), (by first | rfl | (simp; done) | (simp [*]; done)), H', ⟨Nat.le_refl _⟩, ⟨by (try simp only [hl16_2]); (with_reducible repeat (first | apply Kd.S_alloc | apply Kd.S_drewN | apply Kd.S_drew)); exact HO_5.out⟩, ⟨by repeat (first | (with_reducible first | exact HB.out | apply below_alloc | apply pw_below_drewN | apply below_drew1) | exact HB.out)⟩⟩
                    case round =>
                     clear H'
                     try clear c1
                     try clear p1
                     try clear q1
                     try clear hx1
                     try clear c2
                     try clear p2
                     try clear q2
                     try clear hx2
                     try clear hf2
                     try clear c4
                     try clear c4b0
                     try clear c4b1
                     try clear c5
                     try clear c5b0
                     try clear c5b1
                     try clear p6
                     try clear c8
                     try clear c8b0
                     try clear c10
                     try clear c10b0
                     try clear c10b1
                     try clear c11
                     try clear c11b0
                     try clear c11b1
                     try clear c12
                     try clear c12b0
                     try clear c13
                     try clear c13b0
                     try clear c14
                     try clear p14
                     try clear q14
                     try clear hx14
                     try clear hf14
                     try clear c17
                     try clear hx17
                     try clear hf17
                     try clear c19
                     try clear c19b0
                     try clear c21
                     try clear c21b0
                     try clear c21b1
                     try clear c22
                     try clear c23
                     try clear c23b0
                     try clear c24
                     try clear c24b0
                     try clear p24
                     try clear q24
                     try clear hx24
                     try clear c25
                     try clear c25b0
                     try clear c26
                     try clear c26b0
                     try clear p27
                     try clear q27
                     try clear hx27
                     try clear hf27
                     try clear c28
                     try clear q28
                     try clear hx14_0
                     try clear hx17_0
                     try clear hx244_0
                     try clear hx27_0
                     try clear p1
                     try clear p14
                     try clear p2
                     try clear p244
                     try clear p27
                     try clear p6
                     try clear q1
                     try clear q14
                     try clear q244
                     try clear q27
                     obtain ⟨x5_4, x8_4, rfl, HA, HK4, HO_5, HB⟩ := hrel
                     have hl5_4 := (Kd.S_reads' HO_5.out).1
                     rw [hl5_4] at HO_5
                     (try simp only [hl5_4])
                     cases gk with
                     | zero => exact absurd HA.out (by simp [ancepsref45_table.l2])
                     | succ k4 =>
                      have H := HA.out
                      clear HA
                      simp only [ancepsref45_table.l2] at H
                      by_cases c30 : x8_4 ≤ 4
                      ·rw [if_pos c30] at H
                       have c30b0 : decide (x8_4 ≤ 4) = true := decide_eq_true c30
                       clear c30
                       replace H := Option.bind_eq_some_iff.mp H
                       obtain ⟨⟨t248, t249, t250, t251⟩, A310, H⟩ := H
                       replace H : (if t251 = true then (if 0 ≤ x6_1 then (if x6_1 < (x5_4.length : Int) then (if 0 ≤ x7_2 then (if x7_2 < ((rd_L2 x5_4 x6_1).length : Int) then (if 0 ≤ t248 then (if t248 < (x5_4.length : Int) then (if 0 ≤ t249 then (if t249 < ((rd_L2 x5_4 t248).length : Int) then (ancepsref45_table.l2 k4 a0 a1 (x5_4.set (x6_1 : Int).toNat ((rd_L2 x5_4 x6_1).set (x7_2 : Int).toNat (mn (rd (rd_L2 x5_4 x6_1) x7_2) (wrap64 (t250 + (rd (rd_L2 x5_4 t248) t249)))))) x6_1 x7_2 (wrap64 (x8_4 + 1))) else (none)) else (none)) else (none)) else (none)) else (none)) else (none)) else (none)) else (none)) else (ancepsref45_table.l2 k4 a0 a1 x5_4 x6_1 x7_2 (wrap64 (x8_4 + 1)))) = some r := H
                       have A31 := Aside0.mk A310
                       clear A310
                       by_cases c32 : t251 = true
                       ·subst c32
                        have H1 : (if 0 ≤ x6_1 then (if x6_1 < (x5_4.length : Int) then (if 0 ≤ x7_2 then (if x7_2 < ((rd_L2 x5_4 x6_1).length : Int) then (if 0 ≤ t248 then (if t248 < (x5_4.length : Int) then (if 0 ≤ t249 then (if t249 < ((rd_L2 x5_4 t248).length : Int) then (ancepsref45_table.l2 k4 a0 a1 (x5_4.set (x6_1 : Int).toNat ((rd_L2 x5_4 x6_1).set (x7_2 : Int).toNat (mn (rd (rd_L2 x5_4 x6_1) x7_2) (wrap64 (t250 + (rd (rd_L2 x5_4 t248) t249)))))) x6_1 x7_2 (wrap64 (x8_4 + 1))) else (none)) else (none)) else (none)) else (none)) else (none)) else (none)) else (none)) else (none)) = some r := by rw [if_pos rfl] at H; exact H
                        clear H
                        have H := H1
                        clear H1
                        by_cases c33 : 0 ≤ x6_1
                        ·rw [if_pos c33] at H
                         have c33b0 : decide (0 ≤ x6_1) = true := decide_eq_true c33
                         clear c33
                         by_cases c34 : x6_1 < (x5_4.length : Int)
                         ·rw [if_pos c34] at H
                          have c34b0 : decide (x6_1 < (x5_4.length : Int)) = true := decide_eq_true c34
                          (try simp only [hl16_2, hl5_4] at c34b0)
                          clear c34
                          by_cases c35 : 0 ≤ x7_2
                          ·rw [if_pos c35] at H
                           have c35b0 : decide (0 ≤ x7_2) = true := decide_eq_true c35
                           clear c35
                           by_cases c36 : x7_2 < ((rd_L2 x5_4 x6_1).length : Int)
                           ·rw [if_pos c36] at H
                            have c36b0 : decide (x7_2 < ((rd_L2 x5_4 x6_1).length : Int)) = true := decide_eq_true c36
                            (try simp only [hl16_2, hl5_4] at c36b0)
                            clear c36
                            by_cases c37 : 0 ≤ t248
                            ·rw [if_pos c37] at H
                             have c37b0 : decide (0 ≤ t248) = true := decide_eq_true c37
                             clear c37
                             by_cases c38 : t248 < (x5_4.length : Int)
                             ·rw [if_pos c38] at H
                              have c38b0 : decide (t248 < (x5_4.length : Int)) = true := decide_eq_true c38
                              (try simp only [hl16_2, hl5_4] at c38b0)
                              clear c38
                              by_cases c39 : 0 ≤ t249
                              ·rw [if_pos c39] at H
                               have c39b0 : decide (0 ≤ t249) = true := decide_eq_true c39
                               clear c39
                               by_cases c40 : t249 < ((rd_L2 x5_4 t248).length : Int)
                               ·rw [if_pos c40] at H
                                have c40b0 : decide (t249 < ((rd_L2 x5_4 t248).length : Int)) = true := decide_eq_true c40
                                (try simp only [hl16_2, hl5_4] at c40b0)
                                clear c40
                                obtain ⟨ji41, hji41⟩ : ∃ j_ : Int, (mn (rd (rd_L2 x5_4 x6_1) x7_2) (wrap64 (t250 + (rd (rd_L2 x5_4 t248) t249)))) = j_ := ⟨_, rfl⟩
                                replace H : (ancepsref45_table.l2 k4 a0 a1 (x5_4.set (x6_1 : Int).toNat ((rd_L2 x5_4 x6_1).set (x7_2 : Int).toNat (ji41))) x6_1 x7_2 (wrap64 (x8_4 + 1))) = some r := by first | (rw [hji41] at H; exact H) | (simp only [hji41] at H ⊢; exact H)
                                (try rw [hji41] at A31)
                                have hji41_ : (if (wrap64 (t250 + (rd (rd_L2 x5_4 t248) t249))) < (rd (rd_L2 x5_4 x6_1) x7_2) then (wrap64 (t250 + (rd (rd_L2 x5_4 t248) t249))) else (rd (rd_L2 x5_4 x6_1) x7_2)) = ji41 := hji41
                                obtain ⟨y257, hy257⟩ : ∃ y_ : List Int, y_ = ((rd_L2 x5_4 x6_1).set (x7_2 : Int).toNat (ji41)) := ⟨_, rfl⟩
                                replace H : (ancepsref45_table.l2 k4 a0 a1 (x5_4.set (x6_1 : Int).toNat y257) x6_1 x7_2 (wrap64 (x8_4 + 1))) = some r := by first | (rw [hy257]; with_reducible exact H) | (have H2_ := (Option.bind_some _ _).symm.trans H; rw [hy257]; with_reducible exact H2_) | (have H2_ := (Option.bind_some _ _).symm.trans H; with_reducible exact H2_) | with_reducible exact H | (rw [hy257]; exact H) | exact H
                                have Ny257 := Aside0.mk hy257
                                clear hy257
                                obtain ⟨y259, hy259⟩ : ∃ y_ : List (List Int), y_ = (x5_4.set (x6_1 : Int).toNat y257) := ⟨_, rfl⟩
                                replace H : (ancepsref45_table.l2 k4 a0 a1 y259 x6_1 x7_2 (wrap64 (x8_4 + 1))) = some r := by first | (rw [hy259]; with_reducible exact H) | (have H2_ := (Option.bind_some _ _).symm.trans H; rw [hy259]; with_reducible exact H2_) | (have H2_ := (Option.bind_some _ _).symm.trans H; with_reducible exact H2_) | with_reducible exact H | (rw [hy259]; exact H) | exact H
                                have Ny259 := Aside0.mk hy259
                                clear hy259
                                have H' := Aside0.mk H
                                clear H
                                try go_wp2_with (first | ((with_reducible refine gate_callee (f := 45) rfl ?_); refine goesL_ (some 62) rfl rfl Try.func45 (by kernel_rfl) rfl #[.string a0, .string a1, .int .i64 x6_1, .int .i64 x7_2, .int .i64 x8_4] rfl (by (try simp only [List.map_toArray, List.map_cons, List.map_nil]); first | done | rfl | (simp only [List.length_drop, List.length_take]; rfl)) ?_; (with_reducible refine (ancepsref45_Step.calls k4 a0 a1 x6_1 x7_2 x8_4 t248 t249 t250 true _ A31.out).mono ?_); rintro e w' ⟨rfl, ⟨nd, rfl⟩⟩; refine ⟨_, rfl, ?_⟩; (try (rw [drewN_self wr]; generalize hq_ : World.drewN wr _ = wr; have n0_ : Aside0 (Kd.S (Kd.slice 3 (Kd.int .i64)) 31 wr w.heap.size (fun _ => True) (.slice (some ⟨go14, 0, none⟩) x5_4.length co14) x5_4) := ⟨by rw [← hq_]; exact (by (with_reducible repeat (first | apply Kd.S_alloc | apply Kd.S_drewN | apply Kd.S_drew)); exact HO_5.out)⟩; have n1_ : Aside0 (Below w.heap.size w wr) := ⟨by rw [← hq_]; exact (by repeat (first | (with_reducible first | exact HB.out | apply below_alloc | apply pw_below_drewN | apply below_drew1) | exact HB.out))⟩; clear HO_5 HB hq_; have HO_5 := n0_; have HB := n1_; clear n0_ n1_))))
                                have n0_ := Aside0.mk (Kd.S_drew HO_5.out)
                                have n1_ := Aside0.mk (below_drew1 HB.out)
                                clear HO_5
                                clear HB
                                have HO_5 := n0_
                                have HB := n1_
                                clear n0_ n1_
                                have p252 : 0 ≤ (x6_1 : Int) := of_decide_eq_true (by first | (with_reducible assumption) | assumption)
                                have q252 : x6_1 < (x5_4.length : Int) := of_decide_eq_true (by first | (with_reducible assumption) | assumption)
                                obtain ⟨ad252, A252_0, c252_0, e252, hx252_0, hl252_0, hi252_0⟩ := at_L2 (Kd.S_reads' HO_5.out).2.2 x6_1 p252 q252
                                obtain rfl : (⟨go14, 0, none⟩ : Addr) = ad252 := (by injection e252)
                                obtain ⟨ce252, hce252, hMe252, hcc252⟩ := Kd.S_get HO_5.out [] x6_1 p252 (by first | exact q252 | exact of_decide_eq_true (by first | (with_reducible assumption) | assumption) | (have e_ := (Kd.S_reads' HO_5.out).1; omega))
                                obtain ⟨ve252_0, rfl, ge252_0⟩ := hMe252
                                have hv252_0 := hcc252 0 _ rfl
                                rw [Nat.add_zero, show ((Kd.slice 3 (Kd.int .i64))).sz = 1 from rfl, Nat.mul_one] at hv252_0
                                replace hv252_0 := Option.some.inj (hv252_0.symm.trans hx252_0)
                                rw [hv252_0] at ge252_0
                                have HL252_0 := Aside0.mk (show Kd.R (Kd.int .i64) 3 _ _ _ _ (rd_L2 x5_4 x6_1) from ge252_0)
                                clear hv252_0 ge252_0
                                have HX252_0 := Aside0.mk hx252_0
                                clear hcc252 hce252
                                (first | simp only [add_plain] at hx252_0 | simp only [add_at] at hx252_0 | simp only [Addr.add, Nat.zero_add] at hx252_0 | skip)
                                have HR252_0 := Aside0.mk hi252_0
                                have HC252_0 := Aside0.mk hl252_0
                                clear hi252_0 hl252_0
                                replace p252 := eq_true p252
                                replace q252 := eq_true q252
                                have p253 : 0 ≤ (x6_1 : Int) := of_decide_eq_true (by first | (with_reducible assumption) | assumption)
                                have q253 : x6_1 < (x5_4.length : Int) := of_decide_eq_true (by first | (with_reducible assumption) | assumption)
                                obtain ⟨ad253, A253_0, c253_0, e253, hx253_0, hl253_0, hi253_0⟩ := at_L2 (Kd.S_reads' HO_5.out).2.2 x6_1 p253 q253
                                obtain rfl : (⟨go14, 0, none⟩ : Addr) = ad253 := (by injection e253)
                                obtain ⟨ce253, hce253, hMe253, hcc253⟩ := Kd.S_get HO_5.out [] x6_1 p253 (by first | exact q253 | exact of_decide_eq_true (by first | (with_reducible assumption) | assumption) | (have e_ := (Kd.S_reads' HO_5.out).1; omega))
                                obtain ⟨ve253_0, rfl, ge253_0⟩ := hMe253
                                have hv253_0 := hcc253 0 _ rfl
                                rw [Nat.add_zero, show ((Kd.slice 3 (Kd.int .i64))).sz = 1 from rfl, Nat.mul_one] at hv253_0
                                replace hv253_0 := Option.some.inj (hv253_0.symm.trans hx253_0)
                                rw [hv253_0] at ge253_0
                                have HL253_0 := Aside0.mk (show Kd.R (Kd.int .i64) 3 _ _ _ _ (rd_L2 x5_4 x6_1) from ge253_0)
                                clear hv253_0 ge253_0
                                have HX253_0 := Aside0.mk hx253_0
                                clear hcc253 hce253
                                (first | simp only [add_plain] at hx253_0 | simp only [add_at] at hx253_0 | simp only [Addr.add, Nat.zero_add] at hx253_0 | skip)
                                have HR253_0 := Aside0.mk hi253_0
                                have HC253_0 := Aside0.mk hl253_0
                                clear hi253_0 hl253_0
                                replace p253 := eq_true p253
                                replace q253 := eq_true q253
                                have ea_ := Option.some.inj (hx252_0.symm.trans hx253_0)
                                injection ea_ with ea_ en_ ec_
                                subst ea_
                                subst ec_
                                clear en_
                                have p254 : 0 ≤ (x7_2 : Int) := of_decide_eq_true (by first | (with_reducible assumption) | assumption)
                                have q254 : x7_2 < ((rd_L2 x5_4 x6_1).length : Int) := of_decide_eq_true (by first | (with_reducible assumption) | assumption)
                                obtain ⟨ad254, e254, hx254_0⟩ := Kd.at_int (by repeat (first | (with_reducible exact HR253_0.out) | (with_reducible refine Kd.C_alloc ?_ _) | (with_reducible refine Kd.C_drewN ?_ _) | (with_reducible refine Kd.C_drew ?_) | exact HR253_0.out)) x7_2 p254 q254
                                cases e254
                                replace p254 := eq_true p254
                                replace q254 := eq_true q254
                                have p255 : 0 ≤ (t248 : Int) := of_decide_eq_true (by first | (with_reducible assumption) | assumption)
                                have q255 : t248 < (x5_4.length : Int) := of_decide_eq_true (by first | (with_reducible assumption) | assumption)
                                obtain ⟨ad255, A255_0, c255_0, e255, hx255_0, hl255_0, hi255_0⟩ := at_L2 (Kd.S_reads' HO_5.out).2.2 t248 p255 q255
                                obtain rfl : (⟨go14, 0, none⟩ : Addr) = ad255 := (by injection e255)
                                obtain ⟨ce255, hce255, hMe255, hcc255⟩ := Kd.S_get HO_5.out [] t248 p255 (by first | exact q255 | exact of_decide_eq_true (by first | (with_reducible assumption) | assumption) | (have e_ := (Kd.S_reads' HO_5.out).1; omega))
                                obtain ⟨ve255_0, rfl, ge255_0⟩ := hMe255
                                have hv255_0 := hcc255 0 _ rfl
                                rw [Nat.add_zero, show ((Kd.slice 3 (Kd.int .i64))).sz = 1 from rfl, Nat.mul_one] at hv255_0
                                replace hv255_0 := Option.some.inj (hv255_0.symm.trans hx255_0)
                                rw [hv255_0] at ge255_0
                                have HL255_0 := Aside0.mk (show Kd.R (Kd.int .i64) 3 _ _ _ _ (rd_L2 x5_4 t248) from ge255_0)
                                clear hv255_0 ge255_0
                                have HX255_0 := Aside0.mk hx255_0
                                clear hcc255 hce255
                                (first | simp only [add_plain] at hx255_0 | simp only [add_at] at hx255_0 | simp only [Addr.add, Nat.zero_add] at hx255_0 | skip)
                                have HR255_0 := Aside0.mk hi255_0
                                have HC255_0 := Aside0.mk hl255_0
                                clear hi255_0 hl255_0
                                replace p255 := eq_true p255
                                replace q255 := eq_true q255
                                have p256 : 0 ≤ (t249 : Int) := of_decide_eq_true (by first | (with_reducible assumption) | assumption)
                                have q256 : t249 < ((rd_L2 x5_4 t248).length : Int) := of_decide_eq_true (by first | (with_reducible assumption) | assumption)
                                obtain ⟨ad256, e256, hx256_0⟩ := Kd.at_int (by repeat (first | (with_reducible exact HR255_0.out) | (with_reducible refine Kd.C_alloc ?_ _) | (with_reducible refine Kd.C_drewN ?_ _) | (with_reducible refine Kd.C_drew ?_) | exact HR255_0.out)) t249 p256 q256
                                cases e256
                                replace p256 := eq_true p256
                                replace q256 := eq_true q256
                                have p42 : 0 ≤ (x7_2 : Int) := of_decide_eq_true (by first | (with_reducible assumption) | assumption)
                                have q42 : (x7_2 : Int) < (((rd_L2 x5_4 x6_1).length : Int) : Int) := of_decide_eq_true (by first | (with_reducible assumption) | assumption)
                                obtain ⟨go42, co42, eo42, gb42, gl42, cl42, HG42⟩ := Kd.R_form HL252_0.out (by omega)
                                (first | cases eo42 | (injection eo42 with ea_ en_ ec_; (first | subst ea_ | (injection ea_ with ea_; subst ea_)); subst ec_; clear en_))
                                have GB42 := Aside0.mk gb42
                                have GG42 := Aside0.mk HG42
                                clear gb42 gl42 HG42
                                (first | simp only [add_plain] at hx254_0 | skip)
                                obtain ⟨hx42_0, hf42_0⟩ := Kd.R_celln 0 HL252_0.out (x7_2 : Int) p42 q42
                                replace p42 := eq_true p42
                                replace q42 := eq_true q42
                                have hq44 : (x6_1 : Int) < (x5_4.length : Int) := (by have h_ : (x6_1 : Int) < ((x5_4.length : Int) : Int) := of_decide_eq_true (by first | (with_reducible assumption) | assumption); first | exact h_ | (have e_ := (Kd.S_reads' HO_5.out).1; omega) | simpa only [List.length_set, List.length_set] using h_)
                                obtain ⟨oki44, ce44, hcl44, hM44, hcc44, hok44, hbk44⟩ := Kd.S_borrow HO_5.out [] (x6_1 : Int) (of_decide_eq_true (by first | (with_reducible assumption) | assumption)) hq44
                                obtain ⟨ve44_0, rfl, ge44_0⟩ := hM44
                                have hv44 := hcc44 0 _ rfl
                                rw [Nat.add_zero, show ((Kd.slice 3 (Kd.int .i64))).sz = 1 from rfl, Nat.mul_one] at hv44
                                replace hv44 := Option.some.inj (hv44.symm.trans HX252_0.out)
                                subst hv44
                                clear hcc44 hcl44
                                replace ge44_0 := (show Kd.R (Kd.int .i64) 3 _ _ _ _ (rd_L2 x5_4 x6_1) from ge44_0)
                                have HP44 := Kd.R_putg ge44_0 (x7_2 : Int) ji41
                                rw [← Ny257.out] at HP44
                                have HS44 := hbk44 HP44.2 (fun k_ e_ => by injection e_ with e_; subst e_; exact ge44_0.1 _ rfl) (x' := y257) (Kd.M_row HP44.1)
                                rw [← Ny259.out] at HS44
                                have HQ44 := Aside0.mk HS44
                                clear HP44 HS44 hbk44 hok44
                                refine start_ (n := 24) (S := fun w' => w'.cell? ⟨go14, (x6_1).toNat, none⟩ = some (.slice (some ⟨go42, 0, none⟩) (rd_L2 x5_4 x6_1).length c252_0) ∧ w'.cell? ⟨go14, (x6_1).toNat, none⟩ = some (.slice (some ⟨go42, 0, none⟩) (rd_L2 x5_4 x6_1).length c252_0) ∧ w'.cell? ⟨go42, (x7_2).toNat, none⟩ = some (.int .i64 (rd (rd_L2 x5_4 x6_1) x7_2)) ∧ w'.cell? ⟨go14, (t248).toNat, none⟩ = some (.slice (some ad256) (rd_L2 x5_4 t248).length c255_0) ∧ w'.cell? (ad256.add (t249).toNat) = some (.int .i64 (rd (rd_L2 x5_4 t248) t249))) (ds := [23]) #[false, false, false, false, false, false, false, false, false, false, false, false, false, false, false, false, false, false, false, false, false, false, false, false] (by kernel_rfl) rfl rfl ⟨hx252_0, hx253_0, hx254_0, hx255_0, hx256_0⟩ (fun hHeld => ?_); refine with_tabW ancepsref45_table.tab16 ancepsref45_table.bits16 (fun HT_ HW_ => ?_)
                                generalize wr.drew = w43 at HO_5 HB GG42 HL252_0 HL253_0 HL255_0 HQ44 HR252_0 HR253_0 HR255_0 HX252_0 HX253_0 HX255_0 hf42_0 hx252_0 hx253_0 hx254_0 hx255_0 hx256_0 hx42_0 hHeld ⊢
                                refine pure_ (i := 0) (N := some 68) (v := ?_) (a' := ?_) #[true, false, false, false, false, false, false, false, false, false, false, false, false, false, false, false, false, false, false, false, false, false, false, false] rfl rfl (any_of HT_.out (by kernel_rfl)) (fun _ _ _ h => h) (Or.inl ⟨by rfl, ?_⟩) ?_ ?_
                                rotate_left
                                ·intro w'
                                 go_simp
                                 with_reducible rfl
                                rotate_left
                                ·simp only [Act.put, List.setIfInBounds_toArray, List.set_cons_zero, List.set_cons_succ, i64_w, i32_w]
                                 rfl
                                refine pure_ (i := 1) (N := some 69) (v := ?_) (a' := ?_) #[true, true, false, false, false, false, false, false, false, false, false, false, false, false, false, false, false, false, false, false, false, false, false, false] rfl rfl (any_of HT_.out (by kernel_rfl)) (fun _ _ _ h => h) (Or.inl ⟨by rfl, ?_⟩) ?_ ?_
                                rotate_left
                                ·intro w'
                                 go_simp
                                 with_reducible rfl
                                rotate_left
                                ·simp only [Act.put, List.setIfInBounds_toArray, List.set_cons_zero, List.set_cons_succ, i64_w, i32_w]
                                 rfl
                                refine pure_ (i := 2) (N := some 70) (v := ?_) (a' := ?_) #[true, true, true, false, false, false, false, false, false, false, false, false, false, false, false, false, false, false, false, false, false, false, false, false] rfl rfl (any_of HT_.out (by kernel_rfl)) (fun _ _ _ h => h) (Or.inl ⟨by rfl, ?_⟩) ?_ ?_
                                rotate_left
                                ·intro w'
                                 go_simp
                                 with_reducible rfl
                                rotate_left
                                ·simp only [Act.put, List.setIfInBounds_toArray, List.set_cons_zero, List.set_cons_succ, i64_w, i32_w]
                                 rfl
                                refine pure_ (i := 4) (N := some 72) (v := ?_) (a' := ?_) #[true, true, true, false, true, false, false, false, false, false, false, false, false, false, false, false, false, false, false, false, false, false, false, false] rfl rfl (any_of HT_.out (by kernel_rfl)) (fun _ _ _ h => h) (Or.inl ⟨by rfl, ?_⟩) ?_ ?_
                                rotate_left
                                ·intro w'
                                 go_simp
                                 with_reducible rfl
                                rotate_left
                                ·simp only [Act.put, List.setIfInBounds_toArray, List.set_cons_zero, List.set_cons_succ, i64_w, i32_w]
                                 rfl
                                refine pure_ (i := 5) (N := some 73) (v := ?_) (a' := ?_) #[true, true, true, false, true, true, false, false, false, false, false, false, false, false, false, false, false, false, false, false, false, false, false, false] rfl rfl (any_of HT_.out (by kernel_rfl)) (fun _ _ _ h => h) (Or.inl ⟨by rfl, ?_⟩) ?_ ?_
                                rotate_left
                                ·intro w'
                                 go_simp
                                 with_reducible rfl
                                rotate_left
                                ·simp only [Act.put, List.setIfInBounds_toArray, List.set_cons_zero, List.set_cons_succ, i64_w, i32_w]
                                 rfl
                                refine pure_ (i := 6) (N := some 74) (v := ?_) (a' := ?_) #[true, true, true, false, true, true, true, false, false, false, false, false, false, false, false, false, false, false, false, false, false, false, false, false] rfl rfl (any_of HT_.out (by kernel_rfl)) (fun _ _ _ h => h) (Or.inl ⟨by rfl, ?_⟩) ?_ ?_
                                rotate_left
                                ·intro w'
                                 go_simp
                                 with_reducible rfl
                                rotate_left
                                ·simp only [Act.put, List.setIfInBounds_toArray, List.set_cons_zero, List.set_cons_succ, i64_w, i32_w]
                                 rfl
                                refine pure_ (i := 7) (N := some 75) (v := ?_) (a' := ?_) #[true, true, true, false, true, true, true, true, false, false, false, false, false, false, false, false, false, false, false, false, false, false, false, false] rfl rfl (any_of HT_.out (by kernel_rfl)) (fun _ _ _ h => h) (Or.inl ⟨by rfl, ?_⟩) ?_ ?_
                                rotate_left
                                ·intro w'
                                 go_simp
                                 with_reducible rfl
                                rotate_left
                                ·simp only [Act.put, List.setIfInBounds_toArray, List.set_cons_zero, List.set_cons_succ, i64_w, i32_w]
                                 rfl
                                refine pure_ (i := 9) (N := some 77) (v := ?_) (a' := ?_) #[true, true, true, false, true, true, true, true, false, true, false, false, false, false, false, false, false, false, false, false, false, false, false, false] rfl rfl (any_of HT_.out (by kernel_rfl)) (fun _ _ _ h => h) (Or.inl ⟨by rfl, ?_⟩) ?_ ?_
                                rotate_left
                                ·intro w'
                                 go_simp
                                 with_reducible rfl
                                rotate_left
                                ·simp only [Act.put, List.setIfInBounds_toArray, List.set_cons_zero, List.set_cons_succ, i64_w, i32_w]
                                 rfl
                                refine pure_ (i := 12) (N := some 80) (v := ?_) (a' := ?_) #[true, true, true, false, true, true, true, true, false, true, false, false, true, false, false, false, false, false, false, false, false, false, false, false] rfl rfl (any_of HT_.out (by kernel_rfl)) (fun _ _ _ h => h) (Or.inl ⟨by rfl, ?_⟩) ?_ ?_
                                rotate_left
                                ·intro w'
                                 go_simp
                                 with_reducible rfl
                                rotate_left
                                ·simp only [Act.put, List.setIfInBounds_toArray, List.set_cons_zero, List.set_cons_succ, i64_w, i32_w]
                                 rfl
                                refine pure_ (i := 13) (N := some 81) (v := ?_) (a' := ?_) #[true, true, true, false, true, true, true, true, false, true, false, false, true, true, false, false, false, false, false, false, false, false, false, false] rfl rfl (any_of HT_.out (by kernel_rfl)) (fun _ _ _ h => h) (Or.inl ⟨by rfl, ?_⟩) ?_ ?_
                                rotate_left
                                ·intro w'
                                 go_simp
                                 with_reducible rfl
                                rotate_left
                                ·simp only [Act.put, List.setIfInBounds_toArray, List.set_cons_zero, List.set_cons_succ, i64_w, i32_w]
                                 rfl
                                refine pure_ (i := 14) (N := some 82) (v := ?_) (a' := ?_) #[true, true, true, false, true, true, true, true, false, true, false, false, true, true, true, false, false, false, false, false, false, false, false, false] rfl rfl (any_of HT_.out (by kernel_rfl)) (fun _ _ _ h => h) (Or.inl ⟨by rfl, ?_⟩) ?_ ?_
                                rotate_left
                                ·intro w'
                                 go_simp
                                 with_reducible rfl
                                rotate_left
                                ·simp only [Act.put, List.setIfInBounds_toArray, List.set_cons_zero, List.set_cons_succ, i64_w, i32_w]
                                 rfl
                                refine pure_ (i := 15) (N := some 83) (v := ?_) (a' := ?_) #[true, true, true, false, true, true, true, true, false, true, false, false, true, true, true, true, false, false, false, false, false, false, false, false] rfl rfl (any_of HT_.out (by kernel_rfl)) (fun _ _ _ h => h) (Or.inl ⟨by rfl, ?_⟩) ?_ ?_
                                rotate_left
                                ·intro w'
                                 go_simp
                                 with_reducible rfl
                                rotate_left
                                ·simp only [Act.put, List.setIfInBounds_toArray, List.set_cons_zero, List.set_cons_succ, i64_w, i32_w]
                                 rfl
                                refine pure_ (i := 17) (N := some 85) (v := ?_) (a' := ?_) #[true, true, true, false, true, true, true, true, false, true, false, false, true, true, true, true, false, true, false, false, false, false, false, false] rfl rfl (any_of HT_.out (by kernel_rfl)) (fun _ _ _ h => h) (Or.inl ⟨by rfl, ?_⟩) ?_ ?_
                                rotate_left
                                ·intro w'
                                 go_simp
                                 with_reducible rfl
                                rotate_left
                                ·simp only [Act.put, List.setIfInBounds_toArray, List.set_cons_zero, List.set_cons_succ, i64_w, i32_w]
                                 rfl
                                refine take_ (i := 3) (N := some 71) (v := ?_) (a' := ?_) #[true, true, true, true, true, true, true, true, false, true, false, false, true, true, true, true, false, true, false, false, false, false, false, false] rfl rfl (take_ofW HT_.out HW_.out (by kernel_rfl)) (fun _ _ _ h => h) (Or.inl ⟨by rfl, ?_⟩) hHeld ?_ ?_
                                rotate_left
                                ·rintro w' ⟨s0, s1, s2, s3, s4⟩
                                 go_simp
                                 with_reducible rfl
                                rotate_left
                                ·simp only [Act.put, List.setIfInBounds_toArray, List.set_cons_zero, List.set_cons_succ, i64_w, i32_w]
                                 rfl
                                refine take_ (i := 8) (N := some 76) (v := ?_) (a' := ?_) #[true, true, true, true, true, true, true, true, true, true, false, false, true, true, true, true, false, true, false, false, false, false, false, false] rfl rfl (take_ofW HT_.out HW_.out (by kernel_rfl)) (fun _ _ _ h => h) (Or.inl ⟨by rfl, ?_⟩) hHeld ?_ ?_
                                rotate_left
                                ·rintro w' ⟨s0, s1, s2, s3, s4⟩
                                 go_simp
                                 with_reducible rfl
                                rotate_left
                                ·simp only [Act.put, List.setIfInBounds_toArray, List.set_cons_zero, List.set_cons_succ, i64_w, i32_w]
                                 rfl
                                refine pure_ (i := 10) (N := some 78) (v := ?_) (a' := ?_) #[true, true, true, true, true, true, true, true, true, true, true, false, true, true, true, true, false, true, false, false, false, false, false, false] rfl rfl (any_of HT_.out (by kernel_rfl)) (fun _ _ _ h => h) (Or.inl ⟨by rfl, ?_⟩) ?_ ?_
                                rotate_left
                                ·intro w'
                                 go_simp
                                 with_reducible rfl
                                rotate_left
                                ·simp only [Act.put, List.setIfInBounds_toArray, List.set_cons_zero, List.set_cons_succ, i64_w, i32_w]
                                 rfl
                                refine take_ (i := 11) (N := some 79) (v := ?_) (a' := ?_) #[true, true, true, true, true, true, true, true, true, true, true, true, true, true, true, true, false, true, false, false, false, false, false, false] rfl rfl (take_ofW HT_.out HW_.out (by kernel_rfl)) (fun _ _ _ h => h) (Or.inl ⟨by rfl, ?_⟩) hHeld ?_ ?_
                                rotate_left
                                ·rintro w' ⟨s0, s1, s2, s3, s4⟩
                                 go_simp
                                 with_reducible rfl
                                rotate_left
                                ·simp only [Act.put, List.setIfInBounds_toArray, List.set_cons_zero, List.set_cons_succ, i64_w, i32_w]
                                 rfl
                                refine take_ (i := 16) (N := some 84) (v := ?_) (a' := ?_) #[true, true, true, true, true, true, true, true, true, true, true, true, true, true, true, true, true, true, false, false, false, false, false, false] rfl rfl (take_ofW HT_.out HW_.out (by kernel_rfl)) (fun _ _ _ h => h) (Or.inl ⟨by rfl, ?_⟩) hHeld ?_ ?_
                                rotate_left
                                ·rintro w' ⟨s0, s1, s2, s3, s4⟩
                                 go_simp
                                 with_reducible rfl
                                rotate_left
                                ·simp only [Act.put, List.setIfInBounds_toArray, List.set_cons_zero, List.set_cons_succ, i64_w, i32_w]
                                 rfl
                                refine pure_ (i := 18) (N := some 86) (v := ?_) (a' := ?_) #[true, true, true, true, true, true, true, true, true, true, true, true, true, true, true, true, true, true, true, false, false, false, false, false] rfl rfl (any_of HT_.out (by kernel_rfl)) (fun _ _ _ h => h) (Or.inl ⟨by rfl, ?_⟩) ?_ ?_
                                rotate_left
                                ·intro w'
                                 go_simp
                                 with_reducible rfl
                                rotate_left
                                ·simp only [Act.put, List.setIfInBounds_toArray, List.set_cons_zero, List.set_cons_succ, i64_w, i32_w]
                                 rfl
                                refine take_ (i := 19) (N := some 87) (v := ?_) (a' := ?_) #[true, true, true, true, true, true, true, true, true, true, true, true, true, true, true, true, true, true, true, true, false, false, false, false] rfl rfl (take_ofW HT_.out HW_.out (by kernel_rfl)) (fun _ _ _ h => h) (Or.inl ⟨by rfl, ?_⟩) hHeld ?_ ?_
                                rotate_left
                                ·rintro w' ⟨s0, s1, s2, s3, s4⟩
                                 go_simp
                                 with_reducible rfl
                                rotate_left
                                ·simp only [Act.put, List.setIfInBounds_toArray, List.set_cons_zero, List.set_cons_succ, i64_w, i32_w]
                                 rfl
                                refine pure_ (i := 20) (N := some 88) (v := ?_) (a' := ?_) #[true, true, true, true, true, true, true, true, true, true, true, true, true, true, true, true, true, true, true, true, true, false, false, false] rfl rfl (any_of HT_.out (by kernel_rfl)) (fun _ _ _ h => h) (Or.inl ⟨by rfl, ?_⟩) ?_ ?_
                                rotate_left
                                ·intro w'
                                 go_simp
                                 with_reducible rfl
                                rotate_left
                                ·simp only [Act.put, List.setIfInBounds_toArray, List.set_cons_zero, List.set_cons_succ, i64_w, i32_w]
                                 rfl
                                refine pure_ (i := 21) (N := some 89) (v := ?_) (a' := ?_) #[true, true, true, true, true, true, true, true, true, true, true, true, true, true, true, true, true, true, true, true, true, true, false, false] rfl rfl (any_of HT_.out (by kernel_rfl)) (fun _ _ _ h => h) (Or.inl ⟨by rfl, ?_⟩) ?_ ?_
                                rotate_left
                                ·intro w'
                                 go_simp
                                 with_reducible rfl
                                rotate_left
                                ·simp only [Act.put, List.setIfInBounds_toArray, List.set_cons_zero, List.set_cons_succ, i64_w, i32_w]
                                 rfl
                                refine pure_ (i := 22) (N := some 90) (v := ?_) (a' := ?_) #[true, true, true, true, true, true, true, true, true, true, true, true, true, true, true, true, true, true, true, true, true, true, true, false] rfl rfl (any_of HT_.out (by kernel_rfl)) (fun _ _ _ h => h) (Or.inl ⟨by rfl, ?_⟩) ?_ ?_
                                rotate_left
                                ·intro w'
                                 go_simp
                                 with_reducible rfl
                                rotate_left
                                ·simp only [Act.put, List.setIfInBounds_toArray, List.set_cons_zero, List.set_cons_succ, i64_w, i32_w]
                                 rfl
                                refine last_ (i := 23) (N := none) #[true, true, true, true, true, true, true, true, true, true, true, true, true, true, true, true, true, true, true, true, true, true, true, true] rfl rfl (one_of HT_.out (by kernel_rfl)) (by decide) (fun K hK => ?_)
                                refine skip_ (w1 := ?_) (by rfl) rfl ?_ ?_
                                rotate_left
                                ·go_simp
                                 rfl
                                refine hK.out _ _ ?_
                                clear hK K
                                refine done_ (done_of HT_.out (by kernel_rfl)) ?_
                                try go_wp2
                                (try simp only [← hl5_4])
                                go_roundg k4
                                case measure => have := HK1.out; have := HK2.out; have := HJ19.out; have := HK4.out; omega
                                case rel => exact ⟨(y259), (wrap64 (x8_4 + 1)), (by first | rfl | (simp; done) | (simp [*]; done)), H', ⟨by have := HK1.out; have := HK2.out; have := HJ19.out; have := HK4.out; omega⟩, ⟨by (try simp only [hl16_2]); (try simp only [hl5_4]); (with_reducible repeat (first | apply Kd.S_alloc | apply Kd.S_drewN | apply Kd.S_drew)); exact HQ44.out⟩, ⟨by repeat (first | (with_reducible first | exact HB.out | apply below_alloc | apply pw_below_drewN | apply below_drew1 | refine below_set ?_ GB42.out) | exact HB.out)⟩⟩
                               ·rw [if_neg c40] at H
                                exact absurd H (by simp)
                              ·rw [if_neg c39] at H
                               exact absurd H (by simp)
                             ·rw [if_neg c38] at H
                              exact absurd H (by simp)
                            ·rw [if_neg c37] at H
                             exact absurd H (by simp)
                           ·rw [if_neg c36] at H
                            exact absurd H (by simp)
                          ·rw [if_neg c35] at H
                           exact absurd H (by simp)
                         ·rw [if_neg c34] at H
                          exact absurd H (by simp)
                        ·rw [if_neg c33] at H
                         exact absurd H (by simp)
                       ·replace c32 := Bool.eq_false_iff.mpr c32
                        subst c32
                        have H1 : (ancepsref45_table.l2 k4 a0 a1 x5_4 x6_1 x7_2 (wrap64 (x8_4 + 1))) = some r := by rw [if_neg (show ¬ (false = true) by decide)] at H; exact H
                        clear H
                        have H := H1
                        clear H1
                        have H' := Aside0.mk H
                        clear H
                        go_wp2_with (first | ((with_reducible refine gate_callee (f := 45) rfl ?_); refine goesL_ (some 62) rfl rfl Try.func45 (by kernel_rfl) rfl #[.string a0, .string a1, .int .i64 x6_1, .int .i64 x7_2, .int .i64 x8_4] rfl (by (try simp only [List.map_toArray, List.map_cons, List.map_nil]); first | done | rfl | (simp only [List.length_drop, List.length_take]; rfl)) ?_; (with_reducible refine (ancepsref45_Step.calls k4 a0 a1 x6_1 x7_2 x8_4 t248 t249 t250 false _ A31.out).mono ?_); rintro e w' ⟨rfl, ⟨nd, rfl⟩⟩; refine ⟨_, rfl, ?_⟩))
                        (try simp only [← hl5_4])
                        go_roundg k4
                        case measure => have := HK1.out; have := HK2.out; have := HJ19.out; have := HK4.out; omega
                        case rel => exact ⟨(x5_4), (wrap64 (x8_4 + 1)), (by first | rfl | (simp; done) | (simp [*]; done)), H', ⟨by have := HK1.out; have := HK2.out; have := HJ19.out; have := HK4.out; omega⟩, ⟨by (try simp only [hl16_2]); (try simp only [hl5_4]); (with_reducible repeat (first | apply Kd.S_alloc | apply Kd.S_drewN | apply Kd.S_drew)); exact HO_5.out⟩, ⟨by repeat (first | (with_reducible first | exact HB.out | apply below_alloc | apply pw_below_drewN | apply below_drew1) | exact HB.out)⟩⟩
                      ·rw [if_neg c30] at H
                       have c30b0 : decide (x8_4 ≤ 4) = false := decide_eq_false c30
                       clear c30
                       have H' := Aside0.mk H
                       clear H
                       go_wp2
                       (try simp only [← hl16_2, ← hl5_4])
                       go_roundg k4
                       case measure => have := HK1.out; have := HK2.out; have := HJ19.out; have := HK4.out; omega
                       case rel => exact ⟨(wrap64 (x7_2 - 1)), (x5_4), (by first | rfl | (simp; done) | (simp [*]; done)), H', ⟨by have := HK1.out; have := HK2.out; have := HJ19.out; have := HK4.out; omega⟩, ⟨by (try simp only [hl16_2]); (try simp only [hl5_4]); (with_reducible repeat (first | apply Kd.S_alloc | apply Kd.S_drewN | apply Kd.S_drew)); exact HO_5.out⟩, ⟨by repeat (first | (with_reducible first | exact HB.out | apply below_alloc | apply pw_below_drewN | apply below_drew1) | exact HB.out)⟩⟩
                   ·rw [if_neg c26] at H
                    exact absurd H (by simp)
                  ·rw [if_neg c25] at H
                   exact absurd H (by simp)
                 ·rw [if_neg c24] at H
                  exact absurd H (by simp)
                ·rw [if_neg c23] at H
                 exact absurd H (by simp)
            ·rw [if_neg c19] at H
             have c19b0 : decide (0 ≤ x7_2) = false := decide_eq_false c19
             clear c19
             have H' := Aside0.mk H
             clear H
             go_wp2
             (try simp only [← hl16_2])
             go_roundg k2
             case measure => have := HK1.out; have := HK2.out; omega
             case rel => exact ⟨(wrap64 (x6_1 - 1)), (x16_2), (by first | rfl | (simp; done) | (simp [*]; done)), H', ⟨by have := HK1.out; have := HK2.out; omega⟩, ⟨by (try simp only [hl16_2]); (with_reducible repeat (first | apply Kd.S_alloc | apply Kd.S_drewN | apply Kd.S_drew)); exact HO_16.out⟩, ⟨by repeat (first | (with_reducible first | exact HB.out | apply below_alloc | apply pw_below_drewN | apply below_drew1) | exact HB.out)⟩⟩
         ·rw [if_neg c13] at H
          exact absurd H (by simp)
        ·rw [if_neg c12] at H
         exact absurd H (by simp)
       ·rw [if_neg c11] at H
        exact absurd H (by simp)
      ·rw [if_neg c10] at H
       exact absurd H (by simp)
     ·rw [if_neg c8] at H
      have c8b0 : decide (0 ≤ x6_1) = false := decide_eq_false c8
      clear c8
      obtain rfl := Option.some.inj H
      go_wp2
      go_ret
      exact ⟨_, by first | rfl | (simp [errW_none, errW_some] <;> rfl) | (simp only [← hji3]; first | rfl | (simp [errW_none, errW_some] <;> rfl)) | (simp [*, errW_none, errW_some] <;> rfl), by (with_reducible repeat (first | apply Kd.S_alloc | apply Kd.S_drewN | apply Kd.S_drew)); exact HO_16.out, by repeat (first | (with_reducible first | exact HB.out | apply below_alloc | apply pw_below_drewN | apply below_drew1) | exact HB.out)⟩
  ·rw [if_neg c5] at H
   exact absurd H (by simp)
 ·rw [if_neg c4] at H
  exact absurd H (by simp)

end Go.Proofs.Ytnnonjjmlbemfaa.X
