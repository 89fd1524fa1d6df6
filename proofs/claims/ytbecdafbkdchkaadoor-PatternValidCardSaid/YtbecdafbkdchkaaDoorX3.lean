-- printed by this session's xprint.py: out of the translation, by the kit's print with additions; Lean checks it
import Derived.Test.YtbecdafbkdchkaaDoorWN
import Derived.Test.YtbecdafbkdchkaaDoorWShare
import Derived.Test.YtbecdafbkdchkaaDoorWRepsOne
import Derived.Test.YtbecdafbkdchkaaDoorWGuard
import Derived.Test.YtbecdafbkdchkaaDoorX0
import Derived.Test.YtbecdafbkdchkaaDoorX1
import Derived.Test.YtbecdafbkdchkaaDoorX2
namespace Go.Proofs.YtbecdafbkdchkaaDoor.X
open Go.RowKit Go.Proofs.YtbecdafbkdchkaaDoorW.PrintWords Go.Proofs.YtbecdafbkdchkaaDoorW.PrintLast Go.Proofs.YtbecdafbkdchkaaDoorW.PrintMore
attribute [local go_sem] max2_int min2_int max_two min_two max_three min_three max_four min_four isSome_setCell binOp_gtr_str binOp_leq_str   -- for this text's walks alone
set_option linter.unusedVariables false
set_option linter.unusedSimpArgs false

/-! ### pattern_Expand: function 17 -/
mutual
def pattern_Expand.l0 : Nat → ByteArray → Int → List ByteArray → Int → Int → Option (List ByteArray × Int)
  | 0, _, _, _, _, _ => none
  | k + 1, x0, x5, x6, x21, x22 => if x22 < x21 then (if x0.size ≤ 140737488355328 then ((some (bytesOf x0 : List Int)).bind fun y138 => (pattern_Expand.l1 k x0 x5 x6 x22 x5 x21 x22 y138 (y138.length : Int) 0)) else (none)) else (some (x6, 0))
def pattern_Expand.l1 : Nat → ByteArray → Int → List ByteArray → Int → Int → Int → Int → List Int → Int → Int → Option (List ByteArray × Int)
  | 0, _, _, _, _, _, _, _, _, _, _ => none
  | k + 1, x0, x5, x6, x7, x9, x21, x22, x26, x29, x30 => if x30 < x29 then (if 0 ≤ x30 then (if x30 < (x26.length : Int) then (if (rd x26 x30) = 120 then (if 0 ≤ (wrap64 (x9 - 1)) then (if 0 ≤ (Go.bits .and .i64 (shr .i64 x7 (wrap64 (x9 - 1))) 1) then (if (Go.bits .and .i64 (shr .i64 x7 (wrap64 (x9 - 1))) 1) < 3 then (pattern_Expand.l1 k x0 x5 x6 x7 (wrap64 (x9 - 1)) x21 x22 (x26.set (x30 : Int).toNat (bt (⟨#[117, 45, 120]⟩ : ByteArray) (Go.bits .and .i64 (shr .i64 x7 (wrap64 (x9 - 1))) 1))) x29 (wrap64 (x30 + 1))) else (none)) else (none)) else (none)) else (pattern_Expand.l1 k x0 x5 x6 x7 x9 x21 x22 x26 x29 (wrap64 (x30 + 1)))) else (none)) else (none)) else (if x6.length < 8796093022208 then (pattern_Expand.l0 k x0 x5 (x6 ++ [strOfNums x26]) x21 (wrap64 (x22 + 1))) else (none))
end
def pattern_Expand.f (k : Nat) (a0 : ByteArray) : Option (List ByteArray × Int) := (pattern_Valid.f k a0).bind fun t136 => (if t136 = 0 then ((strings_Count.f a0 (⟨#[120]⟩ : ByteArray)).bind fun t137 => (if t137 > 10 then (some (([] : List ByteArray), 3)) else (if 0 ≤ t137 then (pattern_Expand.l0 k a0 t137 ([] : List ByteArray) (shl .i64 1 t137) 0) else (none)))) else (some (([] : List ByteArray), t136)))
theorem pattern_Expand.mono_l : ∀ k, (∀ y0 y1 y2 y3 y4, LeO (pattern_Expand.l0 k y0 y1 y2 y3 y4) (pattern_Expand.l0 (k + 1) y0 y1 y2 y3 y4)) ∧ (∀ y0 y1 y2 y3 y4 y5 y6 y7 y8 y9, LeO (pattern_Expand.l1 k y0 y1 y2 y3 y4 y5 y6 y7 y8 y9) (pattern_Expand.l1 (k + 1) y0 y1 y2 y3 y4 y5 y6 y7 y8 y9))
  | 0 => ⟨fun _ _ _ _ _ r h => by simp [pattern_Expand.l0] at h, fun _ _ _ _ _ _ _ _ _ _ r h => by simp [pattern_Expand.l1] at h⟩
  | k + 1 => by
    obtain ⟨ih0, ih1⟩ := pattern_Expand.mono_l k
    refine ⟨?_, ?_⟩
    · intro y0 y1 y2 y3 y4
      unfold pattern_Expand.l0
      repeat' first
      | (with_reducible exact ih0 _ _ _ _ _)
      | (with_reducible exact ih1 _ _ _ _ _ _ _ _ _ _)
      | (with_reducible exact pattern_Valid.mono _ _)
      | (with_reducible exact LeO.refl _)
      | (with_reducible exact LeO.none _)
      | (with_reducible refine LeO.ite ?_ ?_)
      | (with_reducible refine LeO.bind ?_ (fun _ => ?_))
      | exact ih0 _ _ _ _ _
      | exact ih1 _ _ _ _ _ _ _ _ _ _
      | exact pattern_Valid.mono _ _
      | exact LeO.none _
      | refine LeO.ite ?_ ?_
      | refine LeO.bind ?_ (fun _ => ?_)
    · intro y0 y1 y2 y3 y4 y5 y6 y7 y8 y9
      unfold pattern_Expand.l1
      repeat' first
      | (with_reducible exact ih0 _ _ _ _ _)
      | (with_reducible exact ih1 _ _ _ _ _ _ _ _ _ _)
      | (with_reducible exact pattern_Valid.mono _ _)
      | (with_reducible exact LeO.refl _)
      | (with_reducible exact LeO.none _)
      | (with_reducible refine LeO.ite ?_ ?_)
      | (with_reducible refine LeO.bind ?_ (fun _ => ?_))
      | exact ih0 _ _ _ _ _
      | exact ih1 _ _ _ _ _ _ _ _ _ _
      | exact pattern_Valid.mono _ _
      | exact LeO.none _
      | refine LeO.ite ?_ ?_
      | refine LeO.bind ?_ (fun _ => ?_)
theorem pattern_Expand.mono : ∀ a0 k, LeO (pattern_Expand.f k a0) (pattern_Expand.f (k + 1) a0) := by
  intro a0 k
  obtain ⟨ih0, ih1⟩ := pattern_Expand.mono_l k
  unfold pattern_Expand.f
  repeat' first
      | (with_reducible exact ih0 _ _ _ _ _)
      | (with_reducible exact ih1 _ _ _ _ _ _ _ _ _ _)
      | (with_reducible exact pattern_Valid.mono _ _)
      | (with_reducible exact LeO.refl _)
      | (with_reducible exact LeO.none _)
      | (with_reducible refine LeO.ite ?_ ?_)
      | (with_reducible refine LeO.bind ?_ (fun _ => ?_))
      | exact ih0 _ _ _ _ _
      | exact ih1 _ _ _ _ _ _ _ _ _ _
      | exact pattern_Valid.mono _ _
      | exact LeO.none _
      | refine LeO.ite ?_ ?_
      | refine LeO.bind ?_ (fun _ => ?_)
set_option maxHeartbeats 8000000 in
set_option maxRecDepth 100000 in
theorem pattern_Expand.calls (k : Nat) (a0 : ByteArray) (r1 : List ByteArray) (r2 : Int) (w : World) (h : pattern_Expand.f k a0 = some (r1, r2)) :
    Calls Tryd.prog 17 #[.string a0] w fun e w' => ∃ v0_ : Value, e = .returned (.tuple #[v0_, .int .i64 r2]) ∧ Kd.R Kd.string 9 w' w.heap.size (fun _ => True) v0_ r1 ∧ Below w.heap.size w w' := by
  have HB := Aside0.mk (Below.refl w.heap.size w)
  have H : ((pattern_Valid.f k a0).bind fun t136 => (if t136 = 0 then ((strings_Count.f a0 (⟨#[120]⟩ : ByteArray)).bind fun t137 => (if t137 > 10 then (some (([] : List ByteArray), 3)) else (if 0 ≤ t137 then (pattern_Expand.l0 k a0 t137 ([] : List ByteArray) (shl .i64 1 t137) 0) else (none)))) else (some (([] : List ByteArray), t136)))) = some (r1, r2) := h
  clear h
  replace H := Option.bind_eq_some_iff.mp H
  obtain ⟨t136, A20, H⟩ := H
  replace H : (if t136 = 0 then ((strings_Count.f a0 (⟨#[120]⟩ : ByteArray)).bind fun t137 => (if t137 > 10 then (some (([] : List ByteArray), 3)) else (if 0 ≤ t137 then (pattern_Expand.l0 k a0 t137 ([] : List ByteArray) (shl .i64 1 t137) 0) else (none)))) else (some (([] : List ByteArray), t136))) = some (r1, r2) := H
  have A2 := Aside0.mk A20
  clear A20
  by_cases c3 : t136 = 0
  · rw [if_pos c3] at H
    have c3b0 : (t136 == 0) = true := beq_iff_eq.mpr c3
    have c3b1 : (t136 != 0) = false := bne_eq_false_iff_eq.mpr c3
    clear c3
    replace H := Option.bind_eq_some_iff.mp H
    obtain ⟨t137, A40, H⟩ := H
    replace H : (if t137 > 10 then (some (([] : List ByteArray), 3)) else (if 0 ≤ t137 then (pattern_Expand.l0 k a0 t137 ([] : List ByteArray) (shl .i64 1 t137) 0) else (none))) = some (r1, r2) := H
    have A4 := Aside0.mk A40
    clear A40
    by_cases c5 : t137 > 10
    · rw [if_pos c5] at H
      have c5b0 : decide (10 < t137) = true := decide_eq_true c5
      clear c5
      simp only [Option.some.injEq, Prod.mk.injEq] at H
      obtain ⟨rfl, rfl⟩ := H
      go_enter Tryd.func17, Tryd.ntmps17
      go_wp2_with (first | ((with_reducible refine gate_callee (f := 9) rfl ?_); refine goesL_ (some 12) rfl rfl Tryd.func9 (by kernel_rfl) rfl #[.string a0] rfl (by (try simp only [List.map_toArray, List.map_cons, List.map_nil]); first | done | rfl | (simp only [List.length_drop, List.length_take]; rfl)) ?_; (with_reducible refine (pattern_Valid.calls k a0 t136 _ A2.out).mono ?_); rintro e w' ⟨rfl, ⟨nd, rfl⟩⟩; refine ⟨_, rfl, ?_⟩) | ((with_reducible refine gate_callee (f := 29) rfl ?_); refine goesL_ (some 17) rfl rfl Tryd.func29 (by kernel_rfl) rfl #[.string a0, .string (⟨#[120]⟩ : ByteArray)] rfl (by (try simp only [List.map_toArray, List.map_cons, List.map_nil]); first | done | rfl | (simp only [List.length_drop, List.length_take]; rfl)) ?_; (with_reducible refine (strings_Count.calls a0 (⟨#[120]⟩ : ByteArray) t137 _ A4.out).mono ?_); rintro e w' ⟨rfl, ⟨nd, rfl⟩⟩; refine ⟨_, rfl, ?_⟩))
      go_ret2
      exact ⟨_, by first | rfl | (simp [errW_none, errW_some] <;> rfl) | (simp [*, errW_none, errW_some] <;> rfl), by first | exact Kd.R_nil _ _ _ _ _ | exact Kd.N_nil _ _ _ _ _ | exact Kd.V_nil _ _ _ _ _ | exact Kd.Q_nil _ _ _ _ _ | exact Kd.S_nil _ _ _ _ _, by repeat (first | (with_reducible first | exact HB.out | apply below_alloc | apply pw_below_drewN | apply below_drew1) | exact HB.out)⟩
    · rw [if_neg c5] at H
      have c5b0 : decide (10 < t137) = false := decide_eq_false c5
      clear c5
      by_cases c6 : 0 ≤ t137
      · rw [if_pos c6] at H
        have c6b0 := eq_true c6
        have c6b1 : decide (0 ≤ t137) = true := decide_eq_true c6
        clear c6
        obtain ⟨ji7, hji7⟩ : ∃ j_ : Int, (shl .i64 1 t137) = j_ := ⟨_, rfl⟩
        replace H : (pattern_Expand.l0 k a0 t137 ([] : List ByteArray) ji7 0) = some (r1, r2) := by first | (rw [hji7] at H; exact H) | (simp only [hji7] at H ⊢; exact H)
        (try rw [hji7] at A2)
        (try rw [hji7] at A4)
        have hji7_ : (IntKind.i64.wrap (1 * 2 ^ min t137.toNat 64)) = ji7 := hji7
        have hji7z : t137 ≤ 64 → (IntKind.i64.wrap (1 * 2 ^ t137.toNat)) = ji7 := shl_small hji7
        have hji7u : (IntKind.i64.wrap (2 ^ min t137.toNat 64)) = ji7 := by have h_ := hji7_; rw [Int.one_mul] at h_; exact h_
        have hji7v : t137 ≤ 64 → (IntKind.i64.wrap (2 ^ t137.toNat)) = ji7 := fun hle_ => by have h_ := hji7z hle_; rw [Int.one_mul] at h_; exact h_
        have hji7y : (wrap64 (1 * 2 ^ min t137.toNat 64)) = ji7 := (i64_w _).symm.trans hji7_
        have hji7x : t137 ≤ 64 → (wrap64 (1 * 2 ^ t137.toNat)) = ji7 := fun h_ => (i64_w _).symm.trans (hji7z h_)
        have H' := Aside0.mk H
        clear H
        go_enter Tryd.func17, Tryd.ntmps17
        go_wp2_with (first | ((with_reducible refine gate_callee (f := 9) rfl ?_); refine goesL_ (some 12) rfl rfl Tryd.func9 (by kernel_rfl) rfl #[.string a0] rfl (by (try simp only [List.map_toArray, List.map_cons, List.map_nil]); first | done | rfl | (simp only [List.length_drop, List.length_take]; rfl)) ?_; (with_reducible refine (pattern_Valid.calls k a0 t136 _ A2.out).mono ?_); rintro e w' ⟨rfl, ⟨nd, rfl⟩⟩; refine ⟨_, rfl, ?_⟩) | ((with_reducible refine gate_callee (f := 29) rfl ?_); refine goesL_ (some 17) rfl rfl Tryd.func29 (by kernel_rfl) rfl #[.string a0, .string (⟨#[120]⟩ : ByteArray)] rfl (by (try simp only [List.map_toArray, List.map_cons, List.map_nil]); first | done | rfl | (simp only [List.length_drop, List.length_take]; rfl)) ?_; (with_reducible refine (strings_Count.calls a0 (⟨#[120]⟩ : ByteArray) t137 _ A4.out).mono ?_); rintro e w' ⟨rfl, ⟨nd, rfl⟩⟩; refine ⟨_, rfl, ?_⟩))
        go_loopg [6, 22] k (fun kq v6 v22 w' => ∃ (x6_1 : List ByteArray) (x22_1 : Int), v22 = .int .i64 x22_1 ∧ Aside0 (pattern_Expand.l0 kq a0 t137 x6_1 ji7 x22_1 = some (r1, r2)) ∧ Aside0 (kq ≤ k) ∧ Aside0 (Kd.R Kd.string 9 w' w.heap.size (fun _ => True) v6 x6_1) ∧ Aside0 (Below w.heap.size w w'))
        case atStart => exact ⟨(([] : List ByteArray)), (0), (by first | rfl | (simp; done) | (simp [*]; done)), H', ⟨Nat.le_refl _⟩, ⟨by first | exact Kd.R_nil _ _ _ _ _ | exact Kd.N_nil _ _ _ _ _ | exact Kd.V_nil _ _ _ _ _ | exact Kd.Q_nil _ _ _ _ _ | exact Kd.S_nil _ _ _ _ _⟩, ⟨by repeat (first | (with_reducible first | exact HB.out | apply below_alloc | apply pw_below_drewN | apply below_drew1) | exact HB.out)⟩⟩
        case round =>
          clear H'
          try clear c1
          try clear c2
          try clear p2
          try clear c3
          try clear c3b0
          try clear c3b1
          try clear c5
          try clear c5b0
          try clear c6
          try clear c6b0
          try clear c6b1
          try clear p6
          obtain ⟨x6_1, x22_1, rfl, HA, HK1, HO_6, HB⟩ := hrel
          cases gk with
          | zero => exact absurd HA.out (by simp [pattern_Expand.l0])
          | succ k1 =>
            have H := HA.out
            clear HA
            simp only [pattern_Expand.l0] at H
            by_cases c8 : x22_1 < ji7
            · rw [if_pos c8] at H
              have c8b0 : decide (x22_1 < ji7) = true := decide_eq_true c8
              clear c8
              by_cases c9 : a0.size ≤ 140737488355328
              · rw [if_pos c9] at H
                have c9b0 := eq_true c9
                have c9b1 : decide (a0.size ≤ 140737488355328) = true := decide_eq_true c9
                clear c9
                obtain ⟨y138, hy138⟩ : ∃ y_ : List Int, y_ = (bytesOf a0) := ⟨_, rfl⟩
                replace H : (pattern_Expand.l1 k1 a0 t137 x6_1 x22_1 t137 ji7 x22_1 y138 (y138.length : Int) 0) = some (r1, r2) := by first | (rw [hy138]; with_reducible exact H) | (have H2_ := (Option.bind_some _ _).symm.trans H; rw [hy138]; with_reducible exact H2_) | (have H2_ := (Option.bind_some _ _).symm.trans H; with_reducible exact H2_) | with_reducible exact H | (rw [hy138]; exact H) | exact H
                have Ny138 := Aside0.mk hy138
                clear hy138
                have H' := Aside0.mk H
                clear H
                go_wp2_with (first | ((with_reducible refine gate_dst (N := 26) rfl ?_); refine Kd.B_conv _ 5 rfl (N := 26) rfl 9 46 _ rfl a0 rfl Tryd.underlying9 Tryd.underlying46 Tryd.underlying5 (ok := fun _ => True) trivial (Nat.le_trans (of_decide_eq_true (by first | (with_reducible assumption) | assumption) : a0.size ≤ 140737488355328) (by decide)) (Below.refl _ _) (Nat.le_refl _) ?_; intro v139 w10 ho11 hb hg_ hnew_; clear hg_ hnew_; (first | rw [← Ny138.out] at ho11 | (simp only [Int.reduceToNat] at ho11; rw [← Ny138.out] at ho11)); have n0_ := Aside0.mk (Kd.R_below (by (with_reducible repeat (first | apply Kd.R_alloc | apply Kd.R_drewN | apply Kd.R_drew)); exact HO_6.out) hb); have n1_ := Aside0.mk (Kd.B_lower ho11 (below_size (by repeat (first | (with_reducible first | exact HB.out | apply below_alloc | apply pw_below_drewN | apply below_drew1) | exact HB.out)))); have n2_ := Aside0.mk (below_step (by repeat (first | (with_reducible first | exact HB.out | apply below_alloc | apply pw_below_drewN | apply below_drew1) | exact HB.out)) hb); clear HO_6; clear HB; have HO_6 := n0_; have HO140 := n1_; have HB := n2_; clear n0_ n1_ n2_; clear hb ho11; obtain ⟨Ao12, co12, eo12⟩ := Kd.B_slice HO140.out; subst eo12))
                go_loopg [9, 30] k1 (fun kq v9 v30 w' => ∃ (x9_2 : Int) (x26_2 : List Int) (x30_2 : Int), v9 = .int .i64 x9_2 ∧ v30 = .int .i64 x30_2 ∧ Aside0 (pattern_Expand.l1 kq a0 t137 x6_1 x22_1 x9_2 ji7 x22_1 x26_2 (y138.length : Int) x30_2 = some (r1, r2)) ∧ Aside0 (kq ≤ k1) ∧ Aside0 (Kd.R Kd.string 9 w' w.heap.size (fun _ => True) u6 x6_1) ∧ Aside0 (Kd.B (Kd.int .u8) 5 w' w.heap.size (fun _ => True) (.slice Ao12 y138.length co12) x26_2) ∧ Aside0 (Below w.heap.size w w'))
                case atStart => exact ⟨(t137), (y138), (0), (by first | rfl | (simp; done) | (simp [*]; done)), (by first | rfl | (simp; done) | (simp [*]; done)), H', ⟨Nat.le_refl _⟩, ⟨by (with_reducible repeat (first | apply Kd.R_alloc | apply Kd.R_drewN | apply Kd.R_drew)); exact HO_6.out⟩, ⟨by (with_reducible repeat (first | apply Kd.B_alloc | apply Kd.B_drewN | apply Kd.B_drew)); exact HO140.out⟩, ⟨by repeat (first | (with_reducible first | exact HB.out | apply below_alloc | apply pw_below_drewN | apply below_drew1) | exact HB.out)⟩⟩
                case round =>
                  clear H'
                  try clear c1
                  try clear c2
                  try clear p2
                  try clear c3
                  try clear c3b0
                  try clear c3b1
                  try clear c5
                  try clear c5b0
                  try clear c6
                  try clear c6b0
                  try clear c6b1
                  try clear p6
                  try clear c8
                  try clear c8b0
                  try clear c9
                  try clear c9b0
                  try clear c9b1
                  try clear p2
                  try clear p6
                  obtain ⟨x9_2, x26_2, x30_2, rfl, rfl, HA, HK2, HO_6, HO_26, HB⟩ := hrel
                  have hl26_2 := (Kd.B_reads' HO_26.out).1
                  rw [hl26_2] at HO_26
                  (try simp only [hl26_2])
                  (try simp only [hl26_2] at HO_6)
                  cases gk with
                  | zero => exact absurd HA.out (by simp [pattern_Expand.l1])
                  | succ k2 =>
                    have H := HA.out
                    clear HA
                    simp only [pattern_Expand.l1] at H
                    by_cases c13 : x30_2 < (y138.length : Int)
                    · rw [if_pos c13] at H
                      have c13b0 : decide (x30_2 < (y138.length : Int)) = true := decide_eq_true c13
                      (try simp only [hl26_2] at c13b0)
                      clear c13
                      by_cases c14 : 0 ≤ x30_2
                      · rw [if_pos c14] at H
                        have c14b0 : decide (0 ≤ x30_2) = true := decide_eq_true c14
                        clear c14
                        by_cases c15 : x30_2 < (x26_2.length : Int)
                        · rw [if_pos c15] at H
                          have c15b0 : decide (x30_2 < (x26_2.length : Int)) = true := decide_eq_true c15
                          (try simp only [hl26_2] at c15b0)
                          clear c15
                          by_cases c16 : (rd x26_2 x30_2) = 120
                          · rw [if_pos c16] at H
                            have c16b0 : ((rd x26_2 x30_2) == 120) = true := beq_iff_eq.mpr c16
                            have c16b1 : ((rd x26_2 x30_2) != 120) = false := bne_eq_false_iff_eq.mpr c16
                            clear c16
                            obtain ⟨ji17, hji17⟩ : ∃ j_ : Int, (wrap64 (x9_2 - 1)) = j_ := ⟨_, rfl⟩
                            replace H : (if 0 ≤ (ji17) then (if 0 ≤ (Go.bits .and .i64 (shr .i64 x22_1 (ji17)) 1) then (if (Go.bits .and .i64 (shr .i64 x22_1 (ji17)) 1) < 3 then (pattern_Expand.l1 k2 a0 t137 x6_1 x22_1 ji17 ji7 x22_1 (x26_2.set (x30_2 : Int).toNat (bt (⟨#[117, 45, 120]⟩ : ByteArray) (Go.bits .and .i64 (shr .i64 x22_1 (ji17)) 1))) (y138.length : Int) (wrap64 (x30_2 + 1))) else (none)) else (none)) else (none)) = some (r1, r2) := by first | (rw [hji17] at H; exact H) | (simp only [hji17] at H ⊢; exact H)
                            have hji17w : (IntKind.i64.wrap (x9_2 - 1)) = ji17 := (i64_w _).trans hji17
                            by_cases c18 : 0 ≤ (ji17)
                            · rw [if_pos c18] at H
                              have c18b0 := eq_true c18
                              have c18b1 : decide (0 ≤ (ji17)) = true := decide_eq_true c18
                              clear c18
                              obtain ⟨ji19, hji19⟩ : ∃ j_ : Int, (shr .i64 x22_1 (ji17)) = j_ := ⟨_, rfl⟩
                              replace H : (if 0 ≤ (Go.bits .and .i64 (ji19) 1) then (if (Go.bits .and .i64 (ji19) 1) < 3 then (pattern_Expand.l1 k2 a0 t137 x6_1 x22_1 ji17 ji7 x22_1 (x26_2.set (x30_2 : Int).toNat (bt (⟨#[117, 45, 120]⟩ : ByteArray) (Go.bits .and .i64 (ji19) 1))) (y138.length : Int) (wrap64 (x30_2 + 1))) else (none)) else (none)) = some (r1, r2) := by first | (rw [hji19] at H; exact H) | (simp only [hji19] at H ⊢; exact H)
                              have hji19_ : (x22_1 / 2 ^ min (ji17).toNat 64) = ji19 := hji19
                              have hji19z : (ji17) ≤ 64 → (x22_1 / 2 ^ (ji17).toNat) = ji19 := shr_small hji19
                              by_cases c20 : 0 ≤ (Go.bits .and .i64 (ji19) 1)
                              · rw [if_pos c20] at H
                                have c20b0 : decide (0 ≤ (Go.bits .and .i64 (ji19) 1)) = true := decide_eq_true c20
                                clear c20
                                by_cases c21 : (Go.bits .and .i64 (ji19) 1) < 3
                                · rw [if_pos c21] at H
                                  have c21b0 : decide ((Go.bits .and .i64 (ji19) 1) < 3) = true := decide_eq_true c21
                                  clear c21
                                  obtain ⟨y142, hy142⟩ : ∃ y_ : List Int, y_ = (x26_2.set (x30_2 : Int).toNat (bt (⟨#[117, 45, 120]⟩ : ByteArray) (Go.bits .and .i64 (ji19) 1))) := ⟨_, rfl⟩
                                  replace H : (pattern_Expand.l1 k2 a0 t137 x6_1 x22_1 ji17 ji7 x22_1 y142 (y138.length : Int) (wrap64 (x30_2 + 1))) = some (r1, r2) := by first | (rw [hy142]; with_reducible exact H) | (have H2_ := (Option.bind_some _ _).symm.trans H; rw [hy142]; with_reducible exact H2_) | (have H2_ := (Option.bind_some _ _).symm.trans H; with_reducible exact H2_) | with_reducible exact H | (rw [hy142]; exact H) | exact H
                                  have Ny142 := Aside0.mk hy142
                                  clear hy142
                                  have H' := Aside0.mk H
                                  clear H
                                  have p141 : 0 ≤ (x30_2 : Int) := of_decide_eq_true (by first | (with_reducible assumption) | assumption)
                                  have q141 : x30_2 < (x26_2.length : Int) := of_decide_eq_true (by first | (with_reducible assumption) | assumption)
                                  obtain ⟨ad141, e141, hx141_0⟩ := Kd.at_int (Kd.B_reads' HO_26.out).2.2 x30_2 p141 q141
                                  cases e141
                                  replace p141 := eq_true p141
                                  replace q141 := eq_true q141
                                  have p22 : 0 ≤ ((Go.bits .and .i64 (ji19) 1) : Int) := of_decide_eq_true (by first | (with_reducible assumption) | assumption)
                                  have q22 : (Go.bits .and .i64 (ji19) 1) < (3 : Int) := of_decide_eq_true (by first | (with_reducible assumption) | assumption)
                                  have hx22 := bt_at (⟨#[117, 45, 120]⟩ : ByteArray) (Go.bits .and .i64 (ji19) 1)
                                  replace p22 := eq_true p22
                                  replace q22 := eq_true q22
                                  have p23 : 0 ≤ (x30_2 : Int) := of_decide_eq_true (by first | (with_reducible assumption) | assumption)
                                  have q23 : (x30_2 : Int) < ((x26_2.length : Int) : Int) := of_decide_eq_true (by first | (with_reducible assumption) | assumption)
                                  obtain ⟨go23, co23, eo23, gb23, gl23, cl23, HG23⟩ := Kd.B_form HO_26.out (by omega)
                                  (first | cases eo23 | (injection eo23 with ea_ en_ ec_; (first | subst ea_ | (injection ea_ with ea_; subst ea_)); subst ec_; clear en_))
                                  have GB23 := Aside0.mk gb23
                                  have GG23 := Aside0.mk HG23
                                  clear gb23 gl23 HG23
                                  (first | simp only [add_plain] at hx141_0 | skip)
                                  obtain ⟨hx23_0, hf23_0⟩ := Kd.B_celln 0 HO_26.out (x30_2 : Int) p23 q23
                                  replace p23 := eq_true p23
                                  replace q23 := eq_true q23
                                  have HP24 := Kd.B_putg HO_26.out (x30_2 : Int) (bt (⟨#[117, 45, 120]⟩ : ByteArray) (Go.bits .and .i64 (ji19) 1))
                                  go_wp2_with (first | ((with_reducible refine gate_store (t := 5) (p := 47) rfl ?_); refine store_event (t := 5) (p := 47) (v := ?vo_w25) (w1 := (wr.setCell ⟨go23, (x30_2 : Int).toNat, none⟩ (.int .u8 (bt (⟨#[117, 45, 120]⟩ : ByteArray) (Go.bits .and .i64 (ji19) 1))))) ?hg ?ho ?hn ?hr ?_; (case ho => rfl); (case hg => rfl); (case hn => rfl); (case hr => first | (go_simp; done) | (go_simp; rfl)); intro w25 hw; have hg : wr.grownBy w25 (some go23) := (by rw [hw]; exact HP24.2); have hp_ : Kd.B (Kd.int .u8) 5 w25 w.heap.size (fun _ => True) (.slice (some ⟨go23, 0, none⟩) x26_2.length co12) y142 := (by rw [hw, Ny142.out]; exact HP24.1); clear HP24; have n0_ := Aside0.mk (Kd.R_overB (v := (.slice (some ⟨go23, 0, none⟩) x26_2.length co12)) (by (with_reducible repeat (first | apply Kd.R_alloc | apply Kd.R_drewN | apply Kd.R_drew)); exact HO_6.out) (Kd.B_typed HO_26.out) hg); have n1_ := Aside0.mk (hp_); have n2_ := Aside0.mk ((by rw [hw]; exact below_set (HB.out) GB23.out : Below w.heap.size w w25)); clear HO_6; clear HO_26; clear HB; have HO_6 := n0_; have HO_26 := n1_; have HB := n2_; clear n0_ n1_ n2_; clear hg hw hp_))
                                  (try simp only [← hl26_2])
                                  go_roundg k2
                                  case measure => have := HK1.out; have := HK2.out; omega
                                  case rel => exact ⟨(ji17), (y142), (wrap64 (x30_2 + 1)), (by first | rfl | (simp; done) | (simp only [← hji17] <;> (first | rfl | simp)) | (simp [*]; done)), (by first | rfl | (simp; done) | (simp [*]; done)), H', ⟨by have := HK1.out; have := HK2.out; omega⟩, ⟨by (try simp only [hl26_2]); (with_reducible repeat (first | apply Kd.R_alloc | apply Kd.R_drewN | apply Kd.R_drew)); exact HO_6.out⟩, ⟨by (try simp only [hl26_2]); (with_reducible repeat (first | apply Kd.B_alloc | apply Kd.B_drewN | apply Kd.B_drew)); exact HO_26.out⟩, ⟨by repeat (first | (with_reducible first | exact HB.out | apply below_alloc | apply pw_below_drewN | apply below_drew1) | exact HB.out)⟩⟩
                                · rw [if_neg c21] at H
                                  exact absurd H (by simp)
                              · rw [if_neg c20] at H
                                exact absurd H (by simp)
                            · rw [if_neg c18] at H
                              exact absurd H (by simp)
                          · rw [if_neg c16] at H
                            have c16b0 : ((rd x26_2 x30_2) == 120) = false := beq_eq_false_iff_ne.mpr c16
                            have c16b1 : ((rd x26_2 x30_2) != 120) = true := bne_iff_ne.mpr c16
                            have H' := Aside0.mk H
                            clear H
                            have p141 : 0 ≤ (x30_2 : Int) := of_decide_eq_true (by first | (with_reducible assumption) | assumption)
                            have q141 : x30_2 < (x26_2.length : Int) := of_decide_eq_true (by first | (with_reducible assumption) | assumption)
                            obtain ⟨ad141, e141, hx141_0⟩ := Kd.at_int (Kd.B_reads' HO_26.out).2.2 x30_2 p141 q141
                            cases e141
                            replace p141 := eq_true p141
                            replace q141 := eq_true q141
                            go_wp2
                            (try simp only [← hl26_2])
                            go_roundg k2
                            case measure => have := HK1.out; have := HK2.out; omega
                            case rel => exact ⟨(x9_2), (x26_2), (wrap64 (x30_2 + 1)), (by first | rfl | (simp; done) | (simp [*]; done)), (by first | rfl | (simp; done) | (simp [*]; done)), H', ⟨by have := HK1.out; have := HK2.out; omega⟩, ⟨by (try simp only [hl26_2]); (with_reducible repeat (first | apply Kd.R_alloc | apply Kd.R_drewN | apply Kd.R_drew)); exact HO_6.out⟩, ⟨by (try simp only [hl26_2]); (with_reducible repeat (first | apply Kd.B_alloc | apply Kd.B_drewN | apply Kd.B_drew)); exact HO_26.out⟩, ⟨by repeat (first | (with_reducible first | exact HB.out | apply below_alloc | apply pw_below_drewN | apply below_drew1) | exact HB.out)⟩⟩
                        · rw [if_neg c15] at H
                          exact absurd H (by simp)
                      · rw [if_neg c14] at H
                        exact absurd H (by simp)
                    · rw [if_neg c13] at H
                      have c13b0 : decide (x30_2 < (y138.length : Int)) = false := decide_eq_false c13
                      (try simp only [hl26_2] at c13b0)
                      clear c13
                      by_cases c26 : x6_1.length < 8796093022208
                      · rw [if_pos c26] at H
                        have LMc26 := Aside0.mk c26
                        clear c26
                        obtain ⟨y143, hy143⟩ : ∃ y_ : List ByteArray, y_ = (x6_1 ++ [strOfNums x26_2]) := ⟨_, rfl⟩
                        replace H : (pattern_Expand.l0 k2 a0 t137 y143 ji7 (wrap64 (x22_1 + 1))) = some (r1, r2) := by first | (rw [hy143]; with_reducible exact H) | (have H2_ := (Option.bind_some _ _).symm.trans H; rw [hy143]; with_reducible exact H2_) | (have H2_ := (Option.bind_some _ _).symm.trans H; with_reducible exact H2_) | with_reducible exact H | (rw [hy143]; exact H) | exact H
                        have Ny143 := Aside0.mk hy143
                        clear hy143
                        have H' := Aside0.mk H
                        clear H
                        have hcv27 := Kd.B_string (P := Tryd.prog) Tryd.underlying46 Tryd.underlying5 Tryd.underlying9 HO_26.out
                        go_wp2_with (first | ((with_reducible refine gate_builtin (b := .append) (xs := #[.tmp 49, .tmp 52]) rfl ?_); at_builtin; refine Kd.R_append Kd.string (w0 := w) w.heap.size rfl (.tmp 49) (.tmp 52) 34 9 (.string ⟨#[]⟩) 16 rfl Tryd.underlying34 info9 rfl (by decide) (by omega) u6 x6_1 (strOfNums x26_2) [.string (strOfNums x26_2)] (fun _ => True) (fun _ => False) rfl rfl ?aP (fun _ hk => hk.elim) ?aF ?aO ?aB ?aS ?aL ?_; (case aP => exact rfl); (case aB => exact (by repeat (first | (with_reducible first | exact HB.out | apply below_alloc | apply pw_below_drewN | apply below_drew1) | exact HB.out))); (case aF => exact (fun _ _ => trivial)); (case aO => exact (by (with_reducible repeat (first | apply Kd.R_alloc | apply Kd.R_drewN | apply Kd.R_drew)); exact HO_6.out)); (case aS => exact (below_size (by repeat (first | (with_reducible first | exact HB.out | apply below_alloc | apply pw_below_drewN | apply below_drew1) | exact HB.out)))); (case aL => have := LMc26.out; omega); intro v144 w28 ho hb hg hat; rw [← Ny143.out] at ho; have n0_ := Aside0.mk (Kd.B_over' (by (with_reducible repeat (first | apply Kd.B_alloc | apply Kd.B_drewN | apply Kd.B_drew)); exact HO_26.out) (Kd.R_typed (by (with_reducible repeat (first | apply Kd.R_alloc | apply Kd.R_drewN | apply Kd.R_drew)); exact HO_6.out)) (by decide) hg); have n1_ := Aside0.mk (hb); have n2_ := Aside0.mk (ho); clear HO_26; clear HB; clear HO_6; have HO_26 := n0_; have HB := n1_; have HO145 := n2_; clear n0_ n1_ n2_; clear ho hb hg hat))
                        (try simp only [← hl26_2])
                        go_roundg k2
                        case measure => have := HK1.out; have := HK2.out; omega
                        case rel => exact ⟨(y143), (wrap64 (x22_1 + 1)), (by first | rfl | (simp; done) | (simp [*]; done)), H', ⟨by have := HK1.out; have := HK2.out; omega⟩, ⟨by (try simp only [hl26_2]); (with_reducible repeat (first | apply Kd.R_alloc | apply Kd.R_drewN | apply Kd.R_drew)); exact HO145.out⟩, ⟨by repeat (first | (with_reducible first | exact HB.out | apply below_alloc | apply pw_below_drewN | apply below_drew1) | exact HB.out)⟩⟩
                      · rw [if_neg c26] at H
                        exact absurd H (by simp)
              · rw [if_neg c9] at H
                exact absurd H (by simp)
            · rw [if_neg c8] at H
              have c8b0 : decide (x22_1 < ji7) = false := decide_eq_false c8
              clear c8
              simp only [Option.some.injEq, Prod.mk.injEq] at H
              obtain ⟨rfl, rfl⟩ := H
              go_wp2
              go_ret2
              exact ⟨_, by first | rfl | (simp [errW_none, errW_some] <;> rfl) | (simp only [← hji7]; first | rfl | (simp [errW_none, errW_some] <;> rfl)) | (simp [*, errW_none, errW_some] <;> rfl), by (with_reducible repeat (first | apply Kd.R_alloc | apply Kd.R_drewN | apply Kd.R_drew)); exact HO_6.out, by repeat (first | (with_reducible first | exact HB.out | apply below_alloc | apply pw_below_drewN | apply below_drew1) | exact HB.out)⟩
      · rw [if_neg c6] at H
        exact absurd H (by simp)
  · rw [if_neg c3] at H
    have c3b0 : (t136 == 0) = false := beq_eq_false_iff_ne.mpr c3
    have c3b1 : (t136 != 0) = true := bne_iff_ne.mpr c3
    simp only [Option.some.injEq, Prod.mk.injEq] at H
    obtain ⟨rfl, rfl⟩ := H
    go_enter Tryd.func17, Tryd.ntmps17
    go_wp2_with (first | ((with_reducible refine gate_callee (f := 9) rfl ?_); refine goesL_ (some 12) rfl rfl Tryd.func9 (by kernel_rfl) rfl #[.string a0] rfl (by (try simp only [List.map_toArray, List.map_cons, List.map_nil]); first | done | rfl | (simp only [List.length_drop, List.length_take]; rfl)) ?_; (with_reducible refine (pattern_Valid.calls k a0 t136 _ A2.out).mono ?_); rintro e w' ⟨rfl, ⟨nd, rfl⟩⟩; refine ⟨_, rfl, ?_⟩))
    go_ret2
    exact ⟨_, by first | rfl | (simp [errW_none, errW_some] <;> rfl) | (simp [*, errW_none, errW_some] <;> rfl), by first | exact Kd.R_nil _ _ _ _ _ | exact Kd.N_nil _ _ _ _ _ | exact Kd.V_nil _ _ _ _ _ | exact Kd.Q_nil _ _ _ _ _ | exact Kd.S_nil _ _ _ _ _, by repeat (first | (with_reducible first | exact HB.out | apply below_alloc | apply pw_below_drewN | apply below_drew1) | exact HB.out)⟩

/-! ### pattern_Morae: function 18 -/
def pattern_Morae.f (k : Nat) (a0 : ByteArray) : Option (Int × Int × Int) := (pattern_Valid.f k a0).bind fun t146 => (if t146 = 0 then ((strings_Count.f a0 (⟨#[45]⟩ : ByteArray)).bind fun t147 => ((strings_Count.f a0 (⟨#[120]⟩ : ByteArray)).bind fun t148 => (some (wrap64 ((a0.size : Int) + t147), wrap64 ((wrap64 ((a0.size : Int) + t147)) + t148), 0)))) else (some (0, 0, t146)))
theorem pattern_Morae.mono : ∀ a0 k, LeO (pattern_Morae.f k a0) (pattern_Morae.f (k + 1) a0) := by
  intro a0 k
  unfold pattern_Morae.f
  repeat' first
      | (with_reducible exact pattern_Valid.mono _ _)
      | (with_reducible exact LeO.refl _)
      | (with_reducible exact LeO.none _)
      | (with_reducible refine LeO.ite ?_ ?_)
      | (with_reducible refine LeO.bind ?_ (fun _ => ?_))
      | exact pattern_Valid.mono _ _
      | exact LeO.none _
      | refine LeO.ite ?_ ?_
      | refine LeO.bind ?_ (fun _ => ?_)
set_option maxHeartbeats 8000000 in
set_option maxRecDepth 100000 in
theorem pattern_Morae.calls (k : Nat) (a0 : ByteArray) (r1 : Int) (r2 : Int) (r3 : Int) (w : World) (h : pattern_Morae.f k a0 = some (r1, r2, r3)) :
    Calls Tryd.prog 18 #[.string a0] w fun e w' => e = .returned (.tuple #[.int .i64 r1, .int .i64 r2, .int .i64 r3]) ∧ Drawn0 w w' := by
  have H : ((pattern_Valid.f k a0).bind fun t146 => (if t146 = 0 then ((strings_Count.f a0 (⟨#[45]⟩ : ByteArray)).bind fun t147 => ((strings_Count.f a0 (⟨#[120]⟩ : ByteArray)).bind fun t148 => (some (wrap64 ((a0.size : Int) + t147), wrap64 ((wrap64 ((a0.size : Int) + t147)) + t148), 0)))) else (some (0, 0, t146)))) = some (r1, r2, r3) := h
  clear h
  replace H := Option.bind_eq_some_iff.mp H
  obtain ⟨t146, A20, H⟩ := H
  replace H : (if t146 = 0 then ((strings_Count.f a0 (⟨#[45]⟩ : ByteArray)).bind fun t147 => ((strings_Count.f a0 (⟨#[120]⟩ : ByteArray)).bind fun t148 => (some (wrap64 ((a0.size : Int) + t147), wrap64 ((wrap64 ((a0.size : Int) + t147)) + t148), 0)))) else (some (0, 0, t146))) = some (r1, r2, r3) := H
  have A2 := Aside0.mk A20
  clear A20
  by_cases c3 : t146 = 0
  · rw [if_pos c3] at H
    have c3b0 : (t146 == 0) = true := beq_iff_eq.mpr c3
    have c3b1 : (t146 != 0) = false := bne_eq_false_iff_eq.mpr c3
    clear c3
    replace H := Option.bind_eq_some_iff.mp H
    obtain ⟨t147, A40, H⟩ := H
    replace H : ((strings_Count.f a0 (⟨#[120]⟩ : ByteArray)).bind fun t148 => (some (wrap64 ((a0.size : Int) + t147), wrap64 ((wrap64 ((a0.size : Int) + t147)) + t148), 0))) = some (r1, r2, r3) := H
    have A4 := Aside0.mk A40
    clear A40
    replace H := Option.bind_eq_some_iff.mp H
    obtain ⟨t148, A50, H⟩ := H
    replace H : (some (wrap64 ((a0.size : Int) + t147), wrap64 ((wrap64 ((a0.size : Int) + t147)) + t148), 0)) = some (r1, r2, r3) := H
    have A5 := Aside0.mk A50
    clear A50
    simp only [Option.some.injEq, Prod.mk.injEq] at H
    obtain ⟨rfl, rfl, rfl⟩ := H
    go_enter Tryd.func18, Tryd.ntmps18
    go_wp2_with (first | ((with_reducible refine gate_callee (f := 9) rfl ?_); refine goesL_ (some 9) rfl rfl Tryd.func9 (by kernel_rfl) rfl #[.string a0] rfl (by (try simp only [List.map_toArray, List.map_cons, List.map_nil]); first | done | rfl | (simp only [List.length_drop, List.length_take]; rfl)) ?_; (with_reducible refine (pattern_Valid.calls k a0 t146 _ A2.out).mono ?_); rintro e w' ⟨rfl, ⟨nd, rfl⟩⟩; refine ⟨_, rfl, ?_⟩) | ((with_reducible refine gate_callee (f := 29) rfl ?_); refine goesL_ (some 14) rfl rfl Tryd.func29 (by kernel_rfl) rfl #[.string a0, .string (⟨#[45]⟩ : ByteArray)] rfl (by (try simp only [List.map_toArray, List.map_cons, List.map_nil]); first | done | rfl | (simp only [List.length_drop, List.length_take]; rfl)) ?_; (with_reducible refine (strings_Count.calls a0 (⟨#[45]⟩ : ByteArray) t147 _ A4.out).mono ?_); rintro e w' ⟨rfl, ⟨nd, rfl⟩⟩; refine ⟨_, rfl, ?_⟩) | ((with_reducible refine gate_callee (f := 29) rfl ?_); refine goesL_ (some 16) rfl rfl Tryd.func29 (by kernel_rfl) rfl #[.string a0, .string (⟨#[120]⟩ : ByteArray)] rfl (by (try simp only [List.map_toArray, List.map_cons, List.map_nil]); first | done | rfl | (simp only [List.length_drop, List.length_take]; rfl)) ?_; (with_reducible refine (strings_Count.calls a0 (⟨#[120]⟩ : ByteArray) t148 _ A5.out).mono ?_); rintro e w' ⟨rfl, ⟨nd, rfl⟩⟩; refine ⟨_, rfl, ?_⟩))
    go_ret3
    exact ⟨by first | rfl | (simp; done) | (simp [*]; done), by repeat (first | exact Drawn0.refl _ | apply Drawn0.step)⟩
  · rw [if_neg c3] at H
    have c3b0 : (t146 == 0) = false := beq_eq_false_iff_ne.mpr c3
    have c3b1 : (t146 != 0) = true := bne_iff_ne.mpr c3
    simp only [Option.some.injEq, Prod.mk.injEq] at H
    obtain ⟨rfl, rfl, rfl⟩ := H
    go_enter Tryd.func18, Tryd.ntmps18
    go_wp2_with (first | ((with_reducible refine gate_callee (f := 9) rfl ?_); refine goesL_ (some 9) rfl rfl Tryd.func9 (by kernel_rfl) rfl #[.string a0] rfl (by (try simp only [List.map_toArray, List.map_cons, List.map_nil]); first | done | rfl | (simp only [List.length_drop, List.length_take]; rfl)) ?_; (with_reducible refine (pattern_Valid.calls k a0 t146 _ A2.out).mono ?_); rintro e w' ⟨rfl, ⟨nd, rfl⟩⟩; refine ⟨_, rfl, ?_⟩))
    go_ret3
    exact ⟨by first | rfl | (simp; done) | (simp [*]; done), by repeat (first | exact Drawn0.refl _ | apply Drawn0.step)⟩

/-! ### pattern_Match: function 19 -/
def pattern_Match.f (k : Nat) (a0 : ByteArray) (a1 : ByteArray) : Option (Bool) := (pattern_Meet.f k a0 a1).bind fun bt149 => (some (bt149.2 == 0))
theorem pattern_Match.mono : ∀ a0 a1 k, LeO (pattern_Match.f k a0 a1) (pattern_Match.f (k + 1) a0 a1) := by
  intro a0 a1 k
  unfold pattern_Match.f
  repeat' first
      | (with_reducible exact pattern_Meet.mono _ _ _)
      | (with_reducible exact LeO.refl _)
      | (with_reducible exact LeO.none _)
      | (with_reducible refine LeO.ite ?_ ?_)
      | (with_reducible refine LeO.bind ?_ (fun _ => ?_))
      | exact pattern_Meet.mono _ _ _
      | exact LeO.none _
      | refine LeO.ite ?_ ?_
      | refine LeO.bind ?_ (fun _ => ?_)
set_option maxHeartbeats 8000000 in
set_option maxRecDepth 100000 in
theorem pattern_Match.calls (k : Nat) (a0 : ByteArray) (a1 : ByteArray) (r : Bool) (w : World) (h : pattern_Match.f k a0 a1 = some r) :
    Calls Tryd.prog 19 #[.string a0, .string a1] w fun e w' => e = .returned (.bool r) ∧ Below w.heap.size w w' := by
  have HB := Aside0.mk (Below.refl w.heap.size w)
  have H : ((pattern_Meet.f k a0 a1).bind fun bt149 => (some (bt149.2 == 0))) = some r := h
  clear h
  replace H := Option.bind_eq_some_iff.mp H
  obtain ⟨⟨t149, t150⟩, A30, H⟩ := H
  replace H : (some (t150 == 0)) = some r := H
  have A3 := Aside0.mk A30
  clear A30
  obtain rfl := Option.some.inj H
  go_enter Tryd.func19, Tryd.ntmps19
  go_wp2_with (first | ((with_reducible refine gate_callee (f := 15) rfl ?_); refine goesL_ (some 10) rfl rfl Tryd.func15 (by kernel_rfl) rfl #[.string a0, .string a1] rfl (by (try simp only [List.map_toArray, List.map_cons, List.map_nil]); first | done | rfl | (simp only [List.length_drop, List.length_take]; rfl)) ?_; (with_reducible refine (pattern_Meet.calls k a0 a1 t149 t150 _ A3.out).mono ?_); rintro e w4 ⟨rfl, hb⟩; refine ⟨_, rfl, ?_⟩; have n0_ := Aside0.mk (below_step (by repeat (first | (with_reducible first | exact HB.out | apply below_alloc | apply pw_below_drewN | apply below_drew1) | exact HB.out)) hb); clear HB; have HB := n0_; clear n0_; (try clear hb); (try clear hb2); (try clear hk); (try clear hi)))
  go_ret
  exact ⟨by first | rfl | (simp [errW_none, errW_some] <;> rfl) | (simp [*, errW_none, errW_some] <;> rfl), by repeat (first | (with_reducible first | exact HB.out | apply below_alloc | apply pw_below_drewN | apply below_drew1) | exact HB.out)⟩

/-! ### slices_Equal_string_string: function 20 -/
def slices_Equal_string_string.l0 : Nat → List ByteArray → List ByteArray → Int → Int → Option (Bool)
  | 0, _, _, _, _ => none
  | k + 1, x0, x1, x12, x13 => if x13 < x12 then (if 0 ≤ x13 then (if x13 < (x0.length : Int) then (if x13 < (x1.length : Int) then (if (rdOf ByteArray.empty x0 x13).toList = (rdOf ByteArray.empty x1 x13).toList then (slices_Equal_string_string.l0 k x0 x1 x12 (wrap64 (x13 + 1))) else (some false)) else (none)) else (none)) else (none)) else (some true)
def slices_Equal_string_string.f (k : Nat) (l0 : List ByteArray) (l1 : List ByteArray) : Option (Bool) := if (l0.length : Int) = (l1.length : Int) then (slices_Equal_string_string.l0 k l0 l1 (l0.length : Int) 0) else (some false)
theorem slices_Equal_string_string.mono_l : ∀ k, (∀ y0 y1 y2 y3, LeO (slices_Equal_string_string.l0 k y0 y1 y2 y3) (slices_Equal_string_string.l0 (k + 1) y0 y1 y2 y3))
  | 0 => fun _ _ _ _ r h => by simp [slices_Equal_string_string.l0] at h
  | k + 1 => by
    have ih0 := slices_Equal_string_string.mono_l k
    · intro y0 y1 y2 y3
      unfold slices_Equal_string_string.l0
      repeat' first
      | (with_reducible exact ih0 _ _ _ _)
      | (with_reducible exact LeO.refl _)
      | (with_reducible exact LeO.none _)
      | (with_reducible refine LeO.ite ?_ ?_)
      | (with_reducible refine LeO.bind ?_ (fun _ => ?_))
      | exact ih0 _ _ _ _
      | exact LeO.none _
      | refine LeO.ite ?_ ?_
      | refine LeO.bind ?_ (fun _ => ?_)
theorem slices_Equal_string_string.mono : ∀ a0 a1 k, LeO (slices_Equal_string_string.f k a0 a1) (slices_Equal_string_string.f (k + 1) a0 a1) := by
  intro a0 a1 k
  have ih0 := slices_Equal_string_string.mono_l k
  unfold slices_Equal_string_string.f
  repeat' first
      | (with_reducible exact ih0 _ _ _ _)
      | (with_reducible exact LeO.refl _)
      | (with_reducible exact LeO.none _)
      | (with_reducible refine LeO.ite ?_ ?_)
      | (with_reducible refine LeO.bind ?_ (fun _ => ?_))
      | exact ih0 _ _ _ _
      | exact LeO.none _
      | refine LeO.ite ?_ ?_
      | refine LeO.bind ?_ (fun _ => ?_)
set_option maxHeartbeats 8000000 in
set_option maxRecDepth 100000 in
theorem slices_Equal_string_string.calls (k : Nat) (A0 : Option Addr) (c0 : Nat) (l0 : List ByteArray) (A1 : Option Addr) (c1 : Nat) (l1 : List ByteArray) (r : Bool) (w : World) (hr0 : Kd.C Kd.string w A0 l0.length l0) (hc0 : l0.length ≤ c0) (hr1 : Kd.C Kd.string w A1 l1.length l1) (hc1 : l1.length ≤ c1) (h : slices_Equal_string_string.f k l0 l1 = some r) :
    Calls Tryd.prog 20 #[.slice A0 l0.length c0, .slice A1 l1.length c1] w fun e w' => e = .returned (.bool r) ∧ Drawn0 w w' := by
  have HR0 := Aside0.mk hr0
  have HC0 := Aside0.mk hc0
  clear hr0 hc0
  have HR1 := Aside0.mk hr1
  have HC1 := Aside0.mk hc1
  clear hr1 hc1
  have H : (if (l0.length : Int) = (l1.length : Int) then (slices_Equal_string_string.l0 k l0 l1 (l0.length : Int) 0) else (some false)) = some r := h
  clear h
  by_cases c3 : (l0.length : Int) = (l1.length : Int)
  · rw [if_pos c3] at H
    have c3b0 : ((l0.length : Int) == (l1.length : Int)) = true := beq_iff_eq.mpr c3
    have c3b1 : ((l0.length : Int) != (l1.length : Int)) = false := bne_eq_false_iff_eq.mpr c3
    have c3b2 : (l0.length == l1.length) = true := by first | simpa using c3 | (simp at c3 ⊢; omega)
    clear c3
    have H' := Aside0.mk H
    clear H
    go_enter Tryd.func20, Tryd.ntmps20
    go_wp2
    repeat (go_quiet (fail); try go_wp2)
    go_loopg [13] k (fun kq v13 w' => ∃ (x13_1 : Int), v13 = .int .i64 x13_1 ∧ Aside0 (slices_Equal_string_string.l0 kq l0 l1 (l0.length : Int) x13_1 = some r) ∧ Aside0 (kq ≤ k) ∧ Drawn0 w w')
    case atStart => exact ⟨(0), (by first | rfl | (simp; done) | (simp [*]; done)), H', ⟨Nat.le_refl _⟩, by repeat (first | exact Drawn0.refl _ | apply Drawn0.step)⟩
    case round =>
      clear H'
      try clear c1
      try clear c2
      try clear p2
      try clear c3
      try clear c3b0
      try clear c3b1
      try clear c3b2
      obtain ⟨x13_1, rfl, HA, HK1, ⟨m1, rfl⟩⟩ := hrel
      cases gk with
      | zero => exact absurd HA.out (by simp [slices_Equal_string_string.l0])
      | succ k1 =>
        have H := HA.out
        clear HA
        simp only [slices_Equal_string_string.l0] at H
        by_cases c4 : x13_1 < (l0.length : Int)
        · rw [if_pos c4] at H
          have c4b0 : decide (x13_1 < (l0.length : Int)) = true := decide_eq_true c4
          clear c4
          by_cases c5 : 0 ≤ x13_1
          · rw [if_pos c5] at H
            have c5b0 : decide (0 ≤ x13_1) = true := decide_eq_true c5
            clear c5
            by_cases c6 : x13_1 < (l0.length : Int)
            · rw [if_pos c6] at H
              have c6b0 : decide (x13_1 < (l0.length : Int)) = true := decide_eq_true c6
              clear c6
              by_cases c7 : x13_1 < (l1.length : Int)
              · rw [if_pos c7] at H
                have c7b0 : decide (x13_1 < (l1.length : Int)) = true := decide_eq_true c7
                clear c7
                by_cases c8 : (rdOf ByteArray.empty l0 x13_1).toList = (rdOf ByteArray.empty l1 x13_1).toList
                · rw [if_pos c8] at H
                  have c8b0 : ((rdOf ByteArray.empty l0 x13_1).toList == (rdOf ByteArray.empty l1 x13_1).toList) = true := beq_iff_eq.mpr c8
                  have c8b1 : ((rdOf ByteArray.empty l0 x13_1).toList != (rdOf ByteArray.empty l1 x13_1).toList) = false := bne_eq_false_iff_eq.mpr c8
                  clear c8
                  have H' := Aside0.mk H
                  clear H
                  have p151 : 0 ≤ (x13_1 : Int) := of_decide_eq_true (by first | (with_reducible assumption) | assumption)
                  have q151 : x13_1 < (l0.length : Int) := of_decide_eq_true (by first | (with_reducible assumption) | assumption)
                  obtain ⟨ad151, e151, hx151_0⟩ := Kd.at_string HR0.out x13_1 p151 q151
                  cases e151
                  replace p151 := eq_true p151
                  replace q151 := eq_true q151
                  have p152 : 0 ≤ (x13_1 : Int) := of_decide_eq_true (by first | (with_reducible assumption) | assumption)
                  have q152 : x13_1 < (l1.length : Int) := of_decide_eq_true (by first | (with_reducible assumption) | assumption)
                  obtain ⟨ad152, e152, hx152_0⟩ := Kd.at_string HR1.out x13_1 p152 q152
                  cases e152
                  replace p152 := eq_true p152
                  replace q152 := eq_true q152
                  go_wp2
                  repeat (go_quiet (fail); try go_wp2)
                  go_roundg k1
                  case measure => have := HK1.out; omega
                  case rel => exact ⟨(wrap64 (x13_1 + 1)), (by first | rfl | (simp; done) | (simp [*]; done)), H', ⟨by have := HK1.out; omega⟩, by repeat (first | exact Drawn0.refl _ | apply Drawn0.step)⟩
                · rw [if_neg c8] at H
                  have c8b0 : ((rdOf ByteArray.empty l0 x13_1).toList == (rdOf ByteArray.empty l1 x13_1).toList) = false := beq_eq_false_iff_ne.mpr c8
                  have c8b1 : ((rdOf ByteArray.empty l0 x13_1).toList != (rdOf ByteArray.empty l1 x13_1).toList) = true := bne_iff_ne.mpr c8
                  obtain rfl := Option.some.inj H
                  have p151 : 0 ≤ (x13_1 : Int) := of_decide_eq_true (by first | (with_reducible assumption) | assumption)
                  have q151 : x13_1 < (l0.length : Int) := of_decide_eq_true (by first | (with_reducible assumption) | assumption)
                  obtain ⟨ad151, e151, hx151_0⟩ := Kd.at_string HR0.out x13_1 p151 q151
                  cases e151
                  replace p151 := eq_true p151
                  replace q151 := eq_true q151
                  have p152 : 0 ≤ (x13_1 : Int) := of_decide_eq_true (by first | (with_reducible assumption) | assumption)
                  have q152 : x13_1 < (l1.length : Int) := of_decide_eq_true (by first | (with_reducible assumption) | assumption)
                  obtain ⟨ad152, e152, hx152_0⟩ := Kd.at_string HR1.out x13_1 p152 q152
                  cases e152
                  replace p152 := eq_true p152
                  replace q152 := eq_true q152
                  go_wp2
                  repeat (go_quiet (fail); try go_wp2)
                  go_ret
                  exact ⟨by first | rfl | (simp; done) | (simp [*]; done), by repeat (first | exact Drawn0.refl _ | apply Drawn0.step)⟩
              · rw [if_neg c7] at H
                exact absurd H (by simp)
            · rw [if_neg c6] at H
              exact absurd H (by simp)
          · rw [if_neg c5] at H
            exact absurd H (by simp)
        · rw [if_neg c4] at H
          have c4b0 : decide (x13_1 < (l0.length : Int)) = false := decide_eq_false c4
          clear c4
          obtain rfl := Option.some.inj H
          go_wp2
          repeat (go_quiet (fail); try go_wp2)
          go_ret
          exact ⟨by first | rfl | (simp; done) | (simp [*]; done), by repeat (first | exact Drawn0.refl _ | apply Drawn0.step)⟩
  · rw [if_neg c3] at H
    have c3b0 : ((l0.length : Int) == (l1.length : Int)) = false := beq_eq_false_iff_ne.mpr c3
    have c3b1 : ((l0.length : Int) != (l1.length : Int)) = true := bne_iff_ne.mpr c3
    have c3b2 : (l0.length == l1.length) = false := by first | simpa using c3 | (simp at c3 ⊢; omega)
    obtain rfl := Option.some.inj H
    go_enter Tryd.func20, Tryd.ntmps20
    go_wp2
    repeat (go_quiet (fail); try go_wp2)
    go_ret
    exact ⟨by first | rfl | (simp; done) | (simp [*]; done), by repeat (first | exact Drawn0.refl _ | apply Drawn0.step)⟩

/-! ### ancepslaw04_awake: function 4 -/
def ancepslaw04_awake.f (k : Nat)  : Option (Bool) := (pattern_Meet.f k (⟨#[120, 45]⟩ : ByteArray) (⟨#[117, 120]⟩ : ByteArray)).bind fun bt153 => ((pattern_Join.f k (⟨#[120, 45]⟩ : ByteArray) (⟨#[117, 120]⟩ : ByteArray)).bind fun bt155 => ((pattern_Expand.f k (⟨#[120, 45, 120]⟩ : ByteArray)).bind fun bt157 => ((pattern_Morae.f k (⟨#[120, 45, 120]⟩ : ByteArray)).bind fun bt161 => ((pattern_Letters.f k (⟨#[45, 46, 117, 117, 46]⟩ : ByteArray)).bind fun bt164 => ((pattern_Match.f k (⟨#[120, 45]⟩ : ByteArray) (⟨#[117, 120]⟩ : ByteArray)).bind fun t168 => (if t168 = true then (if bt153.2 = 0 then (if bt153.1.toList = ([117, 45] : List UInt8) then (if bt155.2 = 0 then (if bt155.1.toList = ([120, 120] : List UInt8) then (if bt157.2 = 0 then ((slices_Equal_string_string.f k bt157.1 (([(⟨#[117, 45, 117]⟩ : ByteArray), (⟨#[117, 45, 45]⟩ : ByteArray), (⟨#[45, 45, 117]⟩ : ByteArray), (⟨#[45, 45, 45]⟩ : ByteArray)] : List ByteArray))).bind fun t172 => (if t172 = true then (if bt161.2.2 = 0 then (if bt161.1 = 4 then (if bt161.2.1 = 6 then (if bt164.2 = 0 then ((slices_Equal_int_int.f k bt164.1 (([3, 0, 2] : List Int))).bind fun t176 => (some t176)) else (some false)) else (some false)) else (some false)) else (some false)) else (some false))) else (some false)) else (some false)) else (some false)) else (some false)) else (some false)) else (some false)))))))
theorem ancepslaw04_awake.mono : ∀ k, LeO (ancepslaw04_awake.f k ) (ancepslaw04_awake.f (k + 1) ) := by
  intro  k
  unfold ancepslaw04_awake.f
  repeat' first
      | (with_reducible exact pattern_Expand.mono _ _)
      | (with_reducible exact pattern_Join.mono _ _ _)
      | (with_reducible exact pattern_Letters.mono _ _)
      | (with_reducible exact pattern_Match.mono _ _ _)
      | (with_reducible exact pattern_Meet.mono _ _ _)
      | (with_reducible exact pattern_Morae.mono _ _)
      | (with_reducible exact slices_Equal_int_int.mono _ _ _)
      | (with_reducible exact slices_Equal_string_string.mono _ _ _)
      | (with_reducible exact LeO.refl _)
      | (with_reducible exact LeO.none _)
      | (with_reducible refine LeO.ite ?_ ?_)
      | (with_reducible refine LeO.bind ?_ (fun _ => ?_))
      | exact pattern_Expand.mono _ _
      | exact pattern_Join.mono _ _ _
      | exact pattern_Letters.mono _ _
      | exact pattern_Match.mono _ _ _
      | exact pattern_Meet.mono _ _ _
      | exact pattern_Morae.mono _ _
      | exact slices_Equal_int_int.mono _ _ _
      | exact slices_Equal_string_string.mono _ _ _
      | exact LeO.none _
      | refine LeO.ite ?_ ?_
      | refine LeO.bind ?_ (fun _ => ?_)
set_option maxHeartbeats 8000000 in
set_option maxRecDepth 100000 in
theorem ancepslaw04_awake.calls (k : Nat)  (r : Bool) (w : World) (h : ancepslaw04_awake.f k  = some r) :
    Calls Tryd.prog 4 #[] w fun e w' => e = .returned (.bool r) ∧ Below w.heap.size w w' := by
  have HB := Aside0.mk (Below.refl w.heap.size w)
  have H : ((pattern_Meet.f k (⟨#[120, 45]⟩ : ByteArray) (⟨#[117, 120]⟩ : ByteArray)).bind fun bt153 => ((pattern_Join.f k (⟨#[120, 45]⟩ : ByteArray) (⟨#[117, 120]⟩ : ByteArray)).bind fun bt155 => ((pattern_Expand.f k (⟨#[120, 45, 120]⟩ : ByteArray)).bind fun bt157 => ((pattern_Morae.f k (⟨#[120, 45, 120]⟩ : ByteArray)).bind fun bt161 => ((pattern_Letters.f k (⟨#[45, 46, 117, 117, 46]⟩ : ByteArray)).bind fun bt164 => ((pattern_Match.f k (⟨#[120, 45]⟩ : ByteArray) (⟨#[117, 120]⟩ : ByteArray)).bind fun t168 => (if t168 = true then (if bt153.2 = 0 then (if bt153.1.toList = ([117, 45] : List UInt8) then (if bt155.2 = 0 then (if bt155.1.toList = ([120, 120] : List UInt8) then (if bt157.2 = 0 then ((slices_Equal_string_string.f k bt157.1 (([(⟨#[117, 45, 117]⟩ : ByteArray), (⟨#[117, 45, 45]⟩ : ByteArray), (⟨#[45, 45, 117]⟩ : ByteArray), (⟨#[45, 45, 45]⟩ : ByteArray)] : List ByteArray))).bind fun t172 => (if t172 = true then (if bt161.2.2 = 0 then (if bt161.1 = 4 then (if bt161.2.1 = 6 then (if bt164.2 = 0 then ((slices_Equal_int_int.f k bt164.1 (([3, 0, 2] : List Int))).bind fun t176 => (some t176)) else (some false)) else (some false)) else (some false)) else (some false)) else (some false))) else (some false)) else (some false)) else (some false)) else (some false)) else (some false)) else (some false)))))))) = some r := h
  clear h
  replace H := Option.bind_eq_some_iff.mp H
  obtain ⟨⟨t153, t154⟩, A10, H⟩ := H
  replace H : ((pattern_Join.f k (⟨#[120, 45]⟩ : ByteArray) (⟨#[117, 120]⟩ : ByteArray)).bind fun bt155 => ((pattern_Expand.f k (⟨#[120, 45, 120]⟩ : ByteArray)).bind fun bt157 => ((pattern_Morae.f k (⟨#[120, 45, 120]⟩ : ByteArray)).bind fun bt161 => ((pattern_Letters.f k (⟨#[45, 46, 117, 117, 46]⟩ : ByteArray)).bind fun bt164 => ((pattern_Match.f k (⟨#[120, 45]⟩ : ByteArray) (⟨#[117, 120]⟩ : ByteArray)).bind fun t168 => (if t168 = true then (if t154 = 0 then (if t153.toList = ([117, 45] : List UInt8) then (if bt155.2 = 0 then (if bt155.1.toList = ([120, 120] : List UInt8) then (if bt157.2 = 0 then ((slices_Equal_string_string.f k bt157.1 (([(⟨#[117, 45, 117]⟩ : ByteArray), (⟨#[117, 45, 45]⟩ : ByteArray), (⟨#[45, 45, 117]⟩ : ByteArray), (⟨#[45, 45, 45]⟩ : ByteArray)] : List ByteArray))).bind fun t172 => (if t172 = true then (if bt161.2.2 = 0 then (if bt161.1 = 4 then (if bt161.2.1 = 6 then (if bt164.2 = 0 then ((slices_Equal_int_int.f k bt164.1 (([3, 0, 2] : List Int))).bind fun t176 => (some t176)) else (some false)) else (some false)) else (some false)) else (some false)) else (some false))) else (some false)) else (some false)) else (some false)) else (some false)) else (some false)) else (some false))))))) = some r := H
  have A1 := Aside0.mk A10
  clear A10
  replace H := Option.bind_eq_some_iff.mp H
  obtain ⟨⟨t155, t156⟩, A20, H⟩ := H
  replace H : ((pattern_Expand.f k (⟨#[120, 45, 120]⟩ : ByteArray)).bind fun bt157 => ((pattern_Morae.f k (⟨#[120, 45, 120]⟩ : ByteArray)).bind fun bt161 => ((pattern_Letters.f k (⟨#[45, 46, 117, 117, 46]⟩ : ByteArray)).bind fun bt164 => ((pattern_Match.f k (⟨#[120, 45]⟩ : ByteArray) (⟨#[117, 120]⟩ : ByteArray)).bind fun t168 => (if t168 = true then (if t154 = 0 then (if t153.toList = ([117, 45] : List UInt8) then (if t156 = 0 then (if t155.toList = ([120, 120] : List UInt8) then (if bt157.2 = 0 then ((slices_Equal_string_string.f k bt157.1 (([(⟨#[117, 45, 117]⟩ : ByteArray), (⟨#[117, 45, 45]⟩ : ByteArray), (⟨#[45, 45, 117]⟩ : ByteArray), (⟨#[45, 45, 45]⟩ : ByteArray)] : List ByteArray))).bind fun t172 => (if t172 = true then (if bt161.2.2 = 0 then (if bt161.1 = 4 then (if bt161.2.1 = 6 then (if bt164.2 = 0 then ((slices_Equal_int_int.f k bt164.1 (([3, 0, 2] : List Int))).bind fun t176 => (some t176)) else (some false)) else (some false)) else (some false)) else (some false)) else (some false))) else (some false)) else (some false)) else (some false)) else (some false)) else (some false)) else (some false)))))) = some r := H
  have A2 := Aside0.mk A20
  clear A20
  replace H := Option.bind_eq_some_iff.mp H
  obtain ⟨⟨t157, t158⟩, A30, H⟩ := H
  replace H : ((pattern_Morae.f k (⟨#[120, 45, 120]⟩ : ByteArray)).bind fun bt161 => ((pattern_Letters.f k (⟨#[45, 46, 117, 117, 46]⟩ : ByteArray)).bind fun bt164 => ((pattern_Match.f k (⟨#[120, 45]⟩ : ByteArray) (⟨#[117, 120]⟩ : ByteArray)).bind fun t168 => (if t168 = true then (if t154 = 0 then (if t153.toList = ([117, 45] : List UInt8) then (if t156 = 0 then (if t155.toList = ([120, 120] : List UInt8) then (if t158 = 0 then ((slices_Equal_string_string.f k t157 (([(⟨#[117, 45, 117]⟩ : ByteArray), (⟨#[117, 45, 45]⟩ : ByteArray), (⟨#[45, 45, 117]⟩ : ByteArray), (⟨#[45, 45, 45]⟩ : ByteArray)] : List ByteArray))).bind fun t172 => (if t172 = true then (if bt161.2.2 = 0 then (if bt161.1 = 4 then (if bt161.2.1 = 6 then (if bt164.2 = 0 then ((slices_Equal_int_int.f k bt164.1 (([3, 0, 2] : List Int))).bind fun t176 => (some t176)) else (some false)) else (some false)) else (some false)) else (some false)) else (some false))) else (some false)) else (some false)) else (some false)) else (some false)) else (some false)) else (some false))))) = some r := H
  have A3 := Aside0.mk A30
  clear A30
  replace H := Option.bind_eq_some_iff.mp H
  obtain ⟨⟨t161, t162, t163⟩, A40, H⟩ := H
  replace H : ((pattern_Letters.f k (⟨#[45, 46, 117, 117, 46]⟩ : ByteArray)).bind fun bt164 => ((pattern_Match.f k (⟨#[120, 45]⟩ : ByteArray) (⟨#[117, 120]⟩ : ByteArray)).bind fun t168 => (if t168 = true then (if t154 = 0 then (if t153.toList = ([117, 45] : List UInt8) then (if t156 = 0 then (if t155.toList = ([120, 120] : List UInt8) then (if t158 = 0 then ((slices_Equal_string_string.f k t157 (([(⟨#[117, 45, 117]⟩ : ByteArray), (⟨#[117, 45, 45]⟩ : ByteArray), (⟨#[45, 45, 117]⟩ : ByteArray), (⟨#[45, 45, 45]⟩ : ByteArray)] : List ByteArray))).bind fun t172 => (if t172 = true then (if t163 = 0 then (if t161 = 4 then (if t162 = 6 then (if bt164.2 = 0 then ((slices_Equal_int_int.f k bt164.1 (([3, 0, 2] : List Int))).bind fun t176 => (some t176)) else (some false)) else (some false)) else (some false)) else (some false)) else (some false))) else (some false)) else (some false)) else (some false)) else (some false)) else (some false)) else (some false)))) = some r := H
  have A4 := Aside0.mk A40
  clear A40
  replace H := Option.bind_eq_some_iff.mp H
  obtain ⟨⟨t164, t165⟩, A50, H⟩ := H
  replace H : ((pattern_Match.f k (⟨#[120, 45]⟩ : ByteArray) (⟨#[117, 120]⟩ : ByteArray)).bind fun t168 => (if t168 = true then (if t154 = 0 then (if t153.toList = ([117, 45] : List UInt8) then (if t156 = 0 then (if t155.toList = ([120, 120] : List UInt8) then (if t158 = 0 then ((slices_Equal_string_string.f k t157 (([(⟨#[117, 45, 117]⟩ : ByteArray), (⟨#[117, 45, 45]⟩ : ByteArray), (⟨#[45, 45, 117]⟩ : ByteArray), (⟨#[45, 45, 45]⟩ : ByteArray)] : List ByteArray))).bind fun t172 => (if t172 = true then (if t163 = 0 then (if t161 = 4 then (if t162 = 6 then (if t165 = 0 then ((slices_Equal_int_int.f k t164 (([3, 0, 2] : List Int))).bind fun t176 => (some t176)) else (some false)) else (some false)) else (some false)) else (some false)) else (some false))) else (some false)) else (some false)) else (some false)) else (some false)) else (some false)) else (some false))) = some r := H
  have A5 := Aside0.mk A50
  clear A50
  replace H := Option.bind_eq_some_iff.mp H
  obtain ⟨t168, A60, H⟩ := H
  replace H : (if t168 = true then (if t154 = 0 then (if t153.toList = ([117, 45] : List UInt8) then (if t156 = 0 then (if t155.toList = ([120, 120] : List UInt8) then (if t158 = 0 then ((slices_Equal_string_string.f k t157 (([(⟨#[117, 45, 117]⟩ : ByteArray), (⟨#[117, 45, 45]⟩ : ByteArray), (⟨#[45, 45, 117]⟩ : ByteArray), (⟨#[45, 45, 45]⟩ : ByteArray)] : List ByteArray))).bind fun t172 => (if t172 = true then (if t163 = 0 then (if t161 = 4 then (if t162 = 6 then (if t165 = 0 then ((slices_Equal_int_int.f k t164 (([3, 0, 2] : List Int))).bind fun t176 => (some t176)) else (some false)) else (some false)) else (some false)) else (some false)) else (some false))) else (some false)) else (some false)) else (some false)) else (some false)) else (some false)) else (some false)) = some r := H
  have A6 := Aside0.mk A60
  clear A60
  by_cases c7 : t168 = true
  · subst c7
    have H1 : (if t154 = 0 then (if t153.toList = ([117, 45] : List UInt8) then (if t156 = 0 then (if t155.toList = ([120, 120] : List UInt8) then (if t158 = 0 then ((slices_Equal_string_string.f k t157 (([(⟨#[117, 45, 117]⟩ : ByteArray), (⟨#[117, 45, 45]⟩ : ByteArray), (⟨#[45, 45, 117]⟩ : ByteArray), (⟨#[45, 45, 45]⟩ : ByteArray)] : List ByteArray))).bind fun t172 => (if t172 = true then (if t163 = 0 then (if t161 = 4 then (if t162 = 6 then (if t165 = 0 then ((slices_Equal_int_int.f k t164 (([3, 0, 2] : List Int))).bind fun t176 => (some t176)) else (some false)) else (some false)) else (some false)) else (some false)) else (some false))) else (some false)) else (some false)) else (some false)) else (some false)) else (some false)) = some r := by rw [if_pos rfl] at H; exact H
    clear H
    have H := H1
    clear H1
    by_cases c8 : t154 = 0
    · rw [if_pos c8] at H
      have c8b0 : (t154 == 0) = true := beq_iff_eq.mpr c8
      have c8b1 : (t154 != 0) = false := bne_eq_false_iff_eq.mpr c8
      clear c8
      by_cases c9 : t153.toList = ([117, 45] : List UInt8)
      · rw [if_pos c9] at H
        have c9b0 : (t153.toList == ([117, 45] : List UInt8)) = true := beq_iff_eq.mpr c9
        have c9b1 : (t153.toList != ([117, 45] : List UInt8)) = false := bne_eq_false_iff_eq.mpr c9
        clear c9
        by_cases c10 : t156 = 0
        · rw [if_pos c10] at H
          have c10b0 : (t156 == 0) = true := beq_iff_eq.mpr c10
          have c10b1 : (t156 != 0) = false := bne_eq_false_iff_eq.mpr c10
          clear c10
          by_cases c11 : t155.toList = ([120, 120] : List UInt8)
          · rw [if_pos c11] at H
            have c11b0 : (t155.toList == ([120, 120] : List UInt8)) = true := beq_iff_eq.mpr c11
            have c11b1 : (t155.toList != ([120, 120] : List UInt8)) = false := bne_eq_false_iff_eq.mpr c11
            clear c11
            by_cases c12 : t158 = 0
            · rw [if_pos c12] at H
              have c12b0 : (t158 == 0) = true := beq_iff_eq.mpr c12
              have c12b1 : (t158 != 0) = false := bne_eq_false_iff_eq.mpr c12
              clear c12
              obtain ⟨y169, hy169⟩ : ∃ y_ : List ByteArray, y_ = (([(⟨#[117, 45, 117]⟩ : ByteArray), (⟨#[117, 45, 45]⟩ : ByteArray), (⟨#[45, 45, 117]⟩ : ByteArray), (⟨#[45, 45, 45]⟩ : ByteArray)] : List ByteArray)) := ⟨_, rfl⟩
              replace H : ((slices_Equal_string_string.f k t157 y169).bind fun t172 => (if t172 = true then (if t163 = 0 then (if t161 = 4 then (if t162 = 6 then (if t165 = 0 then ((slices_Equal_int_int.f k t164 (([3, 0, 2] : List Int))).bind fun t176 => (some t176)) else (some false)) else (some false)) else (some false)) else (some false)) else (some false))) = some r := by first | (rw [hy169]; with_reducible exact H) | (have H2_ := (Option.bind_some _ _).symm.trans H; rw [hy169]; with_reducible exact H2_) | (have H2_ := (Option.bind_some _ _).symm.trans H; with_reducible exact H2_) | with_reducible exact H | (rw [hy169]; exact H) | exact H
              have Ny169 := Aside0.mk hy169
              clear hy169
              replace H := Option.bind_eq_some_iff.mp H
              obtain ⟨t172, A130, H⟩ := H
              replace H : (if t172 = true then (if t163 = 0 then (if t161 = 4 then (if t162 = 6 then (if t165 = 0 then ((slices_Equal_int_int.f k t164 (([3, 0, 2] : List Int))).bind fun t176 => (some t176)) else (some false)) else (some false)) else (some false)) else (some false)) else (some false)) = some r := H
              have A13 := Aside0.mk A130
              clear A130
              by_cases c14 : t172 = true
              · subst c14
                have H1 : (if t163 = 0 then (if t161 = 4 then (if t162 = 6 then (if t165 = 0 then ((slices_Equal_int_int.f k t164 (([3, 0, 2] : List Int))).bind fun t176 => (some t176)) else (some false)) else (some false)) else (some false)) else (some false)) = some r := by rw [if_pos rfl] at H; exact H
                clear H
                have H := H1
                clear H1
                by_cases c15 : t163 = 0
                · rw [if_pos c15] at H
                  have c15b0 : (t163 == 0) = true := beq_iff_eq.mpr c15
                  have c15b1 : (t163 != 0) = false := bne_eq_false_iff_eq.mpr c15
                  clear c15
                  by_cases c16 : t161 = 4
                  · rw [if_pos c16] at H
                    have c16b0 : (t161 == 4) = true := beq_iff_eq.mpr c16
                    have c16b1 : (t161 != 4) = false := bne_eq_false_iff_eq.mpr c16
                    clear c16
                    by_cases c17 : t162 = 6
                    · rw [if_pos c17] at H
                      have c17b0 : (t162 == 6) = true := beq_iff_eq.mpr c17
                      have c17b1 : (t162 != 6) = false := bne_eq_false_iff_eq.mpr c17
                      clear c17
                      by_cases c18 : t165 = 0
                      · rw [if_pos c18] at H
                        have c18b0 : (t165 == 0) = true := beq_iff_eq.mpr c18
                        have c18b1 : (t165 != 0) = false := bne_eq_false_iff_eq.mpr c18
                        clear c18
                        obtain ⟨y173, hy173⟩ : ∃ y_ : List Int, y_ = (([3, 0, 2] : List Int)) := ⟨_, rfl⟩
                        replace H : ((slices_Equal_int_int.f k t164 y173).bind fun t176 => (some t176)) = some r := by first | (rw [hy173]; with_reducible exact H) | (have H2_ := (Option.bind_some _ _).symm.trans H; rw [hy173]; with_reducible exact H2_) | (have H2_ := (Option.bind_some _ _).symm.trans H; with_reducible exact H2_) | with_reducible exact H | (rw [hy173]; exact H) | exact H
                        have Ny173 := Aside0.mk hy173
                        clear hy173
                        replace H := Option.bind_eq_some_iff.mp H
                        obtain ⟨t176, A190, H⟩ := H
                        replace H : (some t176) = some r := H
                        have A19 := Aside0.mk A190
                        clear A190
                        obtain rfl := Option.some.inj H
                        go_enter Tryd.func4, Tryd.ntmps4
                        go_wp2_with (first | ((with_reducible refine gate_callee (f := 15) rfl ?_); refine goesL_ (some 13) rfl rfl Tryd.func15 (by kernel_rfl) rfl #[.string (⟨#[120, 45]⟩ : ByteArray), .string (⟨#[117, 120]⟩ : ByteArray)] rfl (by (try simp only [List.map_toArray, List.map_cons, List.map_nil]); first | done | rfl | (simp only [List.length_drop, List.length_take]; rfl)) ?_; (with_reducible refine (pattern_Meet.calls k (⟨#[120, 45]⟩ : ByteArray) (⟨#[117, 120]⟩ : ByteArray) t153 t154 _ A1.out).mono ?_); rintro e w20 ⟨rfl, hb⟩; refine ⟨_, rfl, ?_⟩; have n0_ := Aside0.mk (below_step (by repeat (first | (with_reducible first | exact HB.out | apply below_alloc | apply pw_below_drewN | apply below_drew1) | exact HB.out)) hb); clear HB; have HB := n0_; clear n0_; (try clear hb); (try clear hb2); (try clear hk); (try clear hi)) | ((with_reducible refine gate_callee (f := 16) rfl ?_); refine goesL_ (some 17) rfl rfl Tryd.func16 (by kernel_rfl) rfl #[.string (⟨#[120, 45]⟩ : ByteArray), .string (⟨#[117, 120]⟩ : ByteArray)] rfl (by (try simp only [List.map_toArray, List.map_cons, List.map_nil]); first | done | rfl | (simp only [List.length_drop, List.length_take]; rfl)) ?_; (with_reducible refine (pattern_Join.calls k (⟨#[120, 45]⟩ : ByteArray) (⟨#[117, 120]⟩ : ByteArray) t155 t156 _ A2.out).mono ?_); rintro e w21 ⟨rfl, hb⟩; refine ⟨_, rfl, ?_⟩; have n0_ := Aside0.mk (below_step (by repeat (first | (with_reducible first | exact HB.out | apply below_alloc | apply pw_below_drewN | apply below_drew1) | exact HB.out)) hb); clear HB; have HB := n0_; clear n0_; (try clear hb); (try clear hb2); (try clear hk); (try clear hi)) | ((with_reducible refine gate_callee (f := 17) rfl ?_); refine goesL_ (some 21) rfl rfl Tryd.func17 (by kernel_rfl) rfl #[.string (⟨#[120, 45, 120]⟩ : ByteArray)] rfl (by (try simp only [List.map_toArray, List.map_cons, List.map_nil]); first | done | rfl | (simp only [List.length_drop, List.length_take]; rfl)) ?_; (with_reducible refine (pattern_Expand.calls k (⟨#[120, 45, 120]⟩ : ByteArray) t157 t158 _ A3.out).mono ?_); rintro e w22 ⟨v159, rfl, ho0, hb⟩; refine ⟨_, rfl, ?_⟩; have n0_ := Aside0.mk (Kd.R_lower ho0 (below_size (by repeat (first | (with_reducible first | exact HB.out | apply below_alloc | apply pw_below_drewN | apply below_drew1) | exact HB.out)))); have n1_ := Aside0.mk (below_step (by repeat (first | (with_reducible first | exact HB.out | apply below_alloc | apply pw_below_drewN | apply below_drew1) | exact HB.out)) hb); clear HB; have HO160 := n0_; have HB := n1_; clear n0_ n1_; (try clear hb); (try clear hb2); (try clear hk); (try clear hi); (try clear ho0)) | ((with_reducible refine gate_callee (f := 18) rfl ?_); refine goesL_ (some 25) rfl rfl Tryd.func18 (by kernel_rfl) rfl #[.string (⟨#[120, 45, 120]⟩ : ByteArray)] rfl (by (try simp only [List.map_toArray, List.map_cons, List.map_nil]); first | done | rfl | (simp only [List.length_drop, List.length_take]; rfl)) ?_; (with_reducible refine (pattern_Morae.calls k (⟨#[120, 45, 120]⟩ : ByteArray) t161 t162 t163 _ A4.out).mono ?_); rintro e w' ⟨rfl, ⟨nd, rfl⟩⟩; refine ⟨_, rfl, ?_⟩) | ((with_reducible refine gate_callee (f := 7) rfl ?_); refine goesL_ (some 30) rfl rfl Tryd.func7 (by kernel_rfl) rfl #[.string (⟨#[45, 46, 117, 117, 46]⟩ : ByteArray)] rfl (by (try simp only [List.map_toArray, List.map_cons, List.map_nil]); first | done | rfl | (simp only [List.length_drop, List.length_take]; rfl)) ?_; (with_reducible refine (pattern_Letters.calls k (⟨#[45, 46, 117, 117, 46]⟩ : ByteArray) t164 t165 _ A5.out).mono ?_); rintro e w23 ⟨v166, rfl, ho0, hb⟩; refine ⟨_, rfl, ?_⟩; have n0_ := Aside0.mk (Kd.R_below (by (with_reducible repeat (first | apply Kd.R_alloc | apply Kd.R_drewN | apply Kd.R_drew)); exact HO160.out) hb); have n1_ := Aside0.mk (Kd.R_lower ho0 (below_size (by repeat (first | (with_reducible first | exact HB.out | apply below_alloc | apply pw_below_drewN | apply below_drew1) | exact HB.out)))); have n2_ := Aside0.mk (below_step (by repeat (first | (with_reducible first | exact HB.out | apply below_alloc | apply pw_below_drewN | apply below_drew1) | exact HB.out)) hb); clear HO160; clear HB; have HO160 := n0_; have HO167 := n1_; have HB := n2_; clear n0_ n1_ n2_; (try clear hb); (try clear hb2); (try clear hk); (try clear hi); (try clear ho0)) | ((with_reducible refine gate_callee (f := 19) rfl ?_); refine goesL_ (some 33) rfl rfl Tryd.func19 (by kernel_rfl) rfl #[.string (⟨#[120, 45]⟩ : ByteArray), .string (⟨#[117, 120]⟩ : ByteArray)] rfl (by (try simp only [List.map_toArray, List.map_cons, List.map_nil]); first | done | rfl | (simp only [List.length_drop, List.length_take]; rfl)) ?_; (with_reducible refine (pattern_Match.calls k (⟨#[120, 45]⟩ : ByteArray) (⟨#[117, 120]⟩ : ByteArray) true _ A6.out).mono ?_); rintro e w24 ⟨rfl, hb⟩; refine ⟨_, rfl, ?_⟩; have n0_ := Aside0.mk (Kd.R_below (by (with_reducible repeat (first | apply Kd.R_alloc | apply Kd.R_drewN | apply Kd.R_drew)); exact HO160.out) hb); have n1_ := Aside0.mk (Kd.R_below (by (with_reducible repeat (first | apply Kd.R_alloc | apply Kd.R_drewN | apply Kd.R_drew)); exact HO167.out) hb); have n2_ := Aside0.mk (below_step (by repeat (first | (with_reducible first | exact HB.out | apply below_alloc | apply pw_below_drewN | apply below_drew1) | exact HB.out)) hb); clear HO160; clear HO167; clear HB; have HO160 := n0_; have HO167 := n1_; have HB := n2_; clear n0_ n1_ n2_; (try clear hb); (try clear hb2); (try clear hk); (try clear hi)) | ((with_reducible refine gate_dst (N := 56) rfl ?_); (try (refine gate_guard (by rfl) ?_; dsimp only)); refine Kd.R_lit Kd.string _ 9 ?hg (N := 56) ?hd (xs := ([(⟨#[117, 45, 117]⟩ : ByteArray), (⟨#[117, 45, 45]⟩ : ByteArray), (⟨#[45, 45, 117]⟩ : ByteArray), (⟨#[45, 45, 45]⟩ : ByteArray)] : List ByteArray)) (inner := [.string (⟨#[117, 45, 117]⟩ : ByteArray), .string (⟨#[117, 45, 45]⟩ : ByteArray), .string (⟨#[45, 45, 117]⟩ : ByteArray), .string (⟨#[45, 45, 45]⟩ : ByteArray)]) (ok := fun _ => True) (okp := fun _ => True) ?hr ?hp (fun _ hk => hk) trivial (Below.refl _ _) (Nat.le_refl _) (by simp) ?_; (case hd => rfl); (case hg => rfl); (case hr => first | (go_simp; done) | (go_simp; rfl)); (case hp => exact (Reps.one (show Kd.M Kd.string _ _ _ (⟨#[117, 45, 117]⟩ : ByteArray) [.string (⟨#[117, 45, 117]⟩ : ByteArray)] from rfl) (Reps.one (show Kd.M Kd.string _ _ _ (⟨#[117, 45, 45]⟩ : ByteArray) [.string (⟨#[117, 45, 45]⟩ : ByteArray)] from rfl) (Reps.one (show Kd.M Kd.string _ _ _ (⟨#[45, 45, 117]⟩ : ByteArray) [.string (⟨#[45, 45, 117]⟩ : ByteArray)] from rfl) (Reps.one (show Kd.M Kd.string _ _ _ (⟨#[45, 45, 45]⟩ : ByteArray) [.string (⟨#[45, 45, 45]⟩ : ByteArray)] from rfl) (Reps.none _ _)))))); intro v170 w25 ho26 hb hg_ hnew_; clear hg_ hnew_; (first | rw [← Ny169.out] at ho26 | (simp only [Int.reduceToNat] at ho26; rw [← Ny169.out] at ho26)); have n0_ := Aside0.mk (Kd.R_elder' (by (with_reducible repeat (first | apply Kd.R_alloc | apply Kd.R_drewN | apply Kd.R_drew)); exact HO160.out) (Kd.R_base ho26) hb); have n1_ := Aside0.mk (Kd.R_below (by (with_reducible repeat (first | apply Kd.R_alloc | apply Kd.R_drewN | apply Kd.R_drew)); exact HO167.out) hb); have n2_ := Aside0.mk (Kd.R_lower (Kd.R_new' ho26 (Kd.R_lt (by (with_reducible repeat (first | apply Kd.R_alloc | apply Kd.R_drewN | apply Kd.R_drew)); exact HO160.out))) (below_size (by repeat (first | (with_reducible first | exact HB.out | apply below_alloc | apply pw_below_drewN | apply below_drew1) | exact HB.out)))); have n3_ := Aside0.mk (below_step (by repeat (first | (with_reducible first | exact HB.out | apply below_alloc | apply pw_below_drewN | apply below_drew1) | exact HB.out)) hb); clear HO160; clear HO167; clear HB; have HO160 := n0_; have HO167 := n1_; have HO171 := n2_; have HB := n3_; clear n0_ n1_ n2_ n3_; clear hb ho26; obtain ⟨Ao27, co27, eo27⟩ := Kd.R_slice HO160.out; subst eo27; obtain ⟨Ao28, co28, eo28⟩ := Kd.R_slice HO171.out; subst eo28) | (go_at_call 20; (with_reducible refine (slices_Equal_string_string.calls k _ _ t157 _ _ y169 true _ ?side1 ?side2 ?side3 ?side4 A13.out).mono ?_); (case side1 => repeat (first | exact (Kd.R_reads' HO160.out).2.2 | (with_reducible refine Kd.C_alloc ?_ _) | (with_reducible refine Kd.C_drewN ?_ _) | (with_reducible refine Kd.C_drew ?_))); (case side2 => exact (Kd.R_reads' HO160.out).2.1); (case side3 => repeat (first | exact (Kd.R_reads' HO171.out).2.2 | (with_reducible refine Kd.C_alloc ?_ _) | (with_reducible refine Kd.C_drewN ?_ _) | (with_reducible refine Kd.C_drew ?_))); (case side4 => exact (Kd.R_reads' HO171.out).2.1); rintro e w' ⟨rfl, ⟨nd, rfl⟩⟩) | ((with_reducible refine gate_dst (N := 77) rfl ?_); (try (refine gate_guard (by rfl) ?_; dsimp only)); refine Kd.R_lit (Kd.int .i64) _ 3 ?hg (N := 77) ?hd (xs := ([3, 0, 2] : List Int)) (inner := [.int .i64 3, .int .i64 0, .int .i64 2]) (ok := fun _ => True) (okp := fun _ => True) ?hr ?hp (fun _ hk => hk) trivial (Below.refl _ _) (Nat.le_refl _) (by simp) ?_; (case hd => rfl); (case hg => rfl); (case hr => first | (go_simp; done) | (go_simp; rfl)); (case hp => exact (Reps.one (show Kd.M (Kd.int .i64) _ _ _ 3 [.int .i64 3] from rfl) (Reps.one (show Kd.M (Kd.int .i64) _ _ _ 0 [.int .i64 0] from rfl) (Reps.one (show Kd.M (Kd.int .i64) _ _ _ 2 [.int .i64 2] from rfl) (Reps.none _ _))))); intro v174 w29 ho30 hb hg_ hnew_; clear hg_ hnew_; (first | rw [← Ny173.out] at ho30 | (simp only [Int.reduceToNat] at ho30; rw [← Ny173.out] at ho30)); have n0_ := Aside0.mk (Kd.R_below (by (with_reducible repeat (first | apply Kd.R_alloc | apply Kd.R_drewN | apply Kd.R_drew)); exact HO160.out) hb); have n1_ := Aside0.mk (Kd.R_elder' (by (with_reducible repeat (first | apply Kd.R_alloc | apply Kd.R_drewN | apply Kd.R_drew)); exact HO167.out) (Kd.R_base ho30) hb); have n2_ := Aside0.mk (Kd.R_below (by (with_reducible repeat (first | apply Kd.R_alloc | apply Kd.R_drewN | apply Kd.R_drew)); exact HO171.out) hb); have n3_ := Aside0.mk (Kd.R_lower (Kd.R_new' ho30 (Kd.R_lt (by (with_reducible repeat (first | apply Kd.R_alloc | apply Kd.R_drewN | apply Kd.R_drew)); exact HO167.out))) (below_size (by repeat (first | (with_reducible first | exact HB.out | apply below_alloc | apply pw_below_drewN | apply below_drew1) | exact HB.out)))); have n4_ := Aside0.mk (below_step (by repeat (first | (with_reducible first | exact HB.out | apply below_alloc | apply pw_below_drewN | apply below_drew1) | exact HB.out)) hb); clear HO160; clear HO167; clear HO171; clear HB; have HO160 := n0_; have HO167 := n1_; have HO171 := n2_; have HO175 := n3_; have HB := n4_; clear n0_ n1_ n2_ n3_ n4_; clear hb ho30; obtain ⟨Ao31, co31, eo31⟩ := Kd.R_slice HO167.out; subst eo31; obtain ⟨Ao32, co32, eo32⟩ := Kd.R_slice HO175.out; subst eo32) | (go_at_call 13; (with_reducible refine (slices_Equal_int_int.calls k _ _ t164 _ _ y173 t176 _ ?side1 ?side2 ?side3 ?side4 A19.out).mono ?_); (case side1 => repeat (first | exact (Kd.R_reads' HO167.out).2.2 | (with_reducible refine Kd.C_alloc ?_ _) | (with_reducible refine Kd.C_drewN ?_ _) | (with_reducible refine Kd.C_drew ?_))); (case side2 => exact (Kd.R_reads' HO167.out).2.1); (case side3 => repeat (first | exact (Kd.R_reads' HO175.out).2.2 | (with_reducible refine Kd.C_alloc ?_ _) | (with_reducible refine Kd.C_drewN ?_ _) | (with_reducible refine Kd.C_drew ?_))); (case side4 => exact (Kd.R_reads' HO175.out).2.1); rintro e w' ⟨rfl, ⟨nd, rfl⟩⟩))
                        go_ret
                        exact ⟨by first | rfl | (simp [errW_none, errW_some] <;> rfl) | (simp [*, errW_none, errW_some] <;> rfl), by repeat (first | (with_reducible first | exact HB.out | apply below_alloc | apply pw_below_drewN | apply below_drew1) | exact HB.out)⟩
                      · rw [if_neg c18] at H
                        have c18b0 : (t165 == 0) = false := beq_eq_false_iff_ne.mpr c18
                        have c18b1 : (t165 != 0) = true := bne_iff_ne.mpr c18
                        obtain rfl := Option.some.inj H
                        go_enter Tryd.func4, Tryd.ntmps4
                        go_wp2_with (first | ((with_reducible refine gate_callee (f := 15) rfl ?_); refine goesL_ (some 13) rfl rfl Tryd.func15 (by kernel_rfl) rfl #[.string (⟨#[120, 45]⟩ : ByteArray), .string (⟨#[117, 120]⟩ : ByteArray)] rfl (by (try simp only [List.map_toArray, List.map_cons, List.map_nil]); first | done | rfl | (simp only [List.length_drop, List.length_take]; rfl)) ?_; (with_reducible refine (pattern_Meet.calls k (⟨#[120, 45]⟩ : ByteArray) (⟨#[117, 120]⟩ : ByteArray) t153 t154 _ A1.out).mono ?_); rintro e w33 ⟨rfl, hb⟩; refine ⟨_, rfl, ?_⟩; have n0_ := Aside0.mk (below_step (by repeat (first | (with_reducible first | exact HB.out | apply below_alloc | apply pw_below_drewN | apply below_drew1) | exact HB.out)) hb); clear HB; have HB := n0_; clear n0_; (try clear hb); (try clear hb2); (try clear hk); (try clear hi)) | ((with_reducible refine gate_callee (f := 16) rfl ?_); refine goesL_ (some 17) rfl rfl Tryd.func16 (by kernel_rfl) rfl #[.string (⟨#[120, 45]⟩ : ByteArray), .string (⟨#[117, 120]⟩ : ByteArray)] rfl (by (try simp only [List.map_toArray, List.map_cons, List.map_nil]); first | done | rfl | (simp only [List.length_drop, List.length_take]; rfl)) ?_; (with_reducible refine (pattern_Join.calls k (⟨#[120, 45]⟩ : ByteArray) (⟨#[117, 120]⟩ : ByteArray) t155 t156 _ A2.out).mono ?_); rintro e w34 ⟨rfl, hb⟩; refine ⟨_, rfl, ?_⟩; have n0_ := Aside0.mk (below_step (by repeat (first | (with_reducible first | exact HB.out | apply below_alloc | apply pw_below_drewN | apply below_drew1) | exact HB.out)) hb); clear HB; have HB := n0_; clear n0_; (try clear hb); (try clear hb2); (try clear hk); (try clear hi)) | ((with_reducible refine gate_callee (f := 17) rfl ?_); refine goesL_ (some 21) rfl rfl Tryd.func17 (by kernel_rfl) rfl #[.string (⟨#[120, 45, 120]⟩ : ByteArray)] rfl (by (try simp only [List.map_toArray, List.map_cons, List.map_nil]); first | done | rfl | (simp only [List.length_drop, List.length_take]; rfl)) ?_; (with_reducible refine (pattern_Expand.calls k (⟨#[120, 45, 120]⟩ : ByteArray) t157 t158 _ A3.out).mono ?_); rintro e w35 ⟨v159, rfl, ho0, hb⟩; refine ⟨_, rfl, ?_⟩; have n0_ := Aside0.mk (Kd.R_lower ho0 (below_size (by repeat (first | (with_reducible first | exact HB.out | apply below_alloc | apply pw_below_drewN | apply below_drew1) | exact HB.out)))); have n1_ := Aside0.mk (below_step (by repeat (first | (with_reducible first | exact HB.out | apply below_alloc | apply pw_below_drewN | apply below_drew1) | exact HB.out)) hb); clear HB; have HO160 := n0_; have HB := n1_; clear n0_ n1_; (try clear hb); (try clear hb2); (try clear hk); (try clear hi); (try clear ho0)) | ((with_reducible refine gate_callee (f := 18) rfl ?_); refine goesL_ (some 25) rfl rfl Tryd.func18 (by kernel_rfl) rfl #[.string (⟨#[120, 45, 120]⟩ : ByteArray)] rfl (by (try simp only [List.map_toArray, List.map_cons, List.map_nil]); first | done | rfl | (simp only [List.length_drop, List.length_take]; rfl)) ?_; (with_reducible refine (pattern_Morae.calls k (⟨#[120, 45, 120]⟩ : ByteArray) t161 t162 t163 _ A4.out).mono ?_); rintro e w' ⟨rfl, ⟨nd, rfl⟩⟩; refine ⟨_, rfl, ?_⟩) | ((with_reducible refine gate_callee (f := 7) rfl ?_); refine goesL_ (some 30) rfl rfl Tryd.func7 (by kernel_rfl) rfl #[.string (⟨#[45, 46, 117, 117, 46]⟩ : ByteArray)] rfl (by (try simp only [List.map_toArray, List.map_cons, List.map_nil]); first | done | rfl | (simp only [List.length_drop, List.length_take]; rfl)) ?_; (with_reducible refine (pattern_Letters.calls k (⟨#[45, 46, 117, 117, 46]⟩ : ByteArray) t164 t165 _ A5.out).mono ?_); rintro e w36 ⟨v166, rfl, ho0, hb⟩; refine ⟨_, rfl, ?_⟩; have n0_ := Aside0.mk (Kd.R_below (by (with_reducible repeat (first | apply Kd.R_alloc | apply Kd.R_drewN | apply Kd.R_drew)); exact HO160.out) hb); have n1_ := Aside0.mk (Kd.R_lower ho0 (below_size (by repeat (first | (with_reducible first | exact HB.out | apply below_alloc | apply pw_below_drewN | apply below_drew1) | exact HB.out)))); have n2_ := Aside0.mk (below_step (by repeat (first | (with_reducible first | exact HB.out | apply below_alloc | apply pw_below_drewN | apply below_drew1) | exact HB.out)) hb); clear HO160; clear HB; have HO160 := n0_; have HO167 := n1_; have HB := n2_; clear n0_ n1_ n2_; (try clear hb); (try clear hb2); (try clear hk); (try clear hi); (try clear ho0)) | ((with_reducible refine gate_callee (f := 19) rfl ?_); refine goesL_ (some 33) rfl rfl Tryd.func19 (by kernel_rfl) rfl #[.string (⟨#[120, 45]⟩ : ByteArray), .string (⟨#[117, 120]⟩ : ByteArray)] rfl (by (try simp only [List.map_toArray, List.map_cons, List.map_nil]); first | done | rfl | (simp only [List.length_drop, List.length_take]; rfl)) ?_; (with_reducible refine (pattern_Match.calls k (⟨#[120, 45]⟩ : ByteArray) (⟨#[117, 120]⟩ : ByteArray) true _ A6.out).mono ?_); rintro e w37 ⟨rfl, hb⟩; refine ⟨_, rfl, ?_⟩; have n0_ := Aside0.mk (Kd.R_below (by (with_reducible repeat (first | apply Kd.R_alloc | apply Kd.R_drewN | apply Kd.R_drew)); exact HO160.out) hb); have n1_ := Aside0.mk (Kd.R_below (by (with_reducible repeat (first | apply Kd.R_alloc | apply Kd.R_drewN | apply Kd.R_drew)); exact HO167.out) hb); have n2_ := Aside0.mk (below_step (by repeat (first | (with_reducible first | exact HB.out | apply below_alloc | apply pw_below_drewN | apply below_drew1) | exact HB.out)) hb); clear HO160; clear HO167; clear HB; have HO160 := n0_; have HO167 := n1_; have HB := n2_; clear n0_ n1_ n2_; (try clear hb); (try clear hb2); (try clear hk); (try clear hi)) | ((with_reducible refine gate_dst (N := 56) rfl ?_); (try (refine gate_guard (by rfl) ?_; dsimp only)); refine Kd.R_lit Kd.string _ 9 ?hg (N := 56) ?hd (xs := ([(⟨#[117, 45, 117]⟩ : ByteArray), (⟨#[117, 45, 45]⟩ : ByteArray), (⟨#[45, 45, 117]⟩ : ByteArray), (⟨#[45, 45, 45]⟩ : ByteArray)] : List ByteArray)) (inner := [.string (⟨#[117, 45, 117]⟩ : ByteArray), .string (⟨#[117, 45, 45]⟩ : ByteArray), .string (⟨#[45, 45, 117]⟩ : ByteArray), .string (⟨#[45, 45, 45]⟩ : ByteArray)]) (ok := fun _ => True) (okp := fun _ => True) ?hr ?hp (fun _ hk => hk) trivial (Below.refl _ _) (Nat.le_refl _) (by simp) ?_; (case hd => rfl); (case hg => rfl); (case hr => first | (go_simp; done) | (go_simp; rfl)); (case hp => exact (Reps.one (show Kd.M Kd.string _ _ _ (⟨#[117, 45, 117]⟩ : ByteArray) [.string (⟨#[117, 45, 117]⟩ : ByteArray)] from rfl) (Reps.one (show Kd.M Kd.string _ _ _ (⟨#[117, 45, 45]⟩ : ByteArray) [.string (⟨#[117, 45, 45]⟩ : ByteArray)] from rfl) (Reps.one (show Kd.M Kd.string _ _ _ (⟨#[45, 45, 117]⟩ : ByteArray) [.string (⟨#[45, 45, 117]⟩ : ByteArray)] from rfl) (Reps.one (show Kd.M Kd.string _ _ _ (⟨#[45, 45, 45]⟩ : ByteArray) [.string (⟨#[45, 45, 45]⟩ : ByteArray)] from rfl) (Reps.none _ _)))))); intro v170 w38 ho39 hb hg_ hnew_; clear hg_ hnew_; (first | rw [← Ny169.out] at ho39 | (simp only [Int.reduceToNat] at ho39; rw [← Ny169.out] at ho39)); have n0_ := Aside0.mk (Kd.R_elder' (by (with_reducible repeat (first | apply Kd.R_alloc | apply Kd.R_drewN | apply Kd.R_drew)); exact HO160.out) (Kd.R_base ho39) hb); have n1_ := Aside0.mk (Kd.R_below (by (with_reducible repeat (first | apply Kd.R_alloc | apply Kd.R_drewN | apply Kd.R_drew)); exact HO167.out) hb); have n2_ := Aside0.mk (Kd.R_lower (Kd.R_new' ho39 (Kd.R_lt (by (with_reducible repeat (first | apply Kd.R_alloc | apply Kd.R_drewN | apply Kd.R_drew)); exact HO160.out))) (below_size (by repeat (first | (with_reducible first | exact HB.out | apply below_alloc | apply pw_below_drewN | apply below_drew1) | exact HB.out)))); have n3_ := Aside0.mk (below_step (by repeat (first | (with_reducible first | exact HB.out | apply below_alloc | apply pw_below_drewN | apply below_drew1) | exact HB.out)) hb); clear HO160; clear HO167; clear HB; have HO160 := n0_; have HO167 := n1_; have HO171 := n2_; have HB := n3_; clear n0_ n1_ n2_ n3_; clear hb ho39; obtain ⟨Ao40, co40, eo40⟩ := Kd.R_slice HO160.out; subst eo40; obtain ⟨Ao41, co41, eo41⟩ := Kd.R_slice HO171.out; subst eo41) | (go_at_call 20; (with_reducible refine (slices_Equal_string_string.calls k _ _ t157 _ _ y169 true _ ?side1 ?side2 ?side3 ?side4 A13.out).mono ?_); (case side1 => repeat (first | exact (Kd.R_reads' HO160.out).2.2 | (with_reducible refine Kd.C_alloc ?_ _) | (with_reducible refine Kd.C_drewN ?_ _) | (with_reducible refine Kd.C_drew ?_))); (case side2 => exact (Kd.R_reads' HO160.out).2.1); (case side3 => repeat (first | exact (Kd.R_reads' HO171.out).2.2 | (with_reducible refine Kd.C_alloc ?_ _) | (with_reducible refine Kd.C_drewN ?_ _) | (with_reducible refine Kd.C_drew ?_))); (case side4 => exact (Kd.R_reads' HO171.out).2.1); rintro e w' ⟨rfl, ⟨nd, rfl⟩⟩))
                        go_ret
                        exact ⟨by first | rfl | (simp [errW_none, errW_some] <;> rfl) | (simp [*, errW_none, errW_some] <;> rfl), by repeat (first | (with_reducible first | exact HB.out | apply below_alloc | apply pw_below_drewN | apply below_drew1) | exact HB.out)⟩
                    · rw [if_neg c17] at H
                      have c17b0 : (t162 == 6) = false := beq_eq_false_iff_ne.mpr c17
                      have c17b1 : (t162 != 6) = true := bne_iff_ne.mpr c17
                      obtain rfl := Option.some.inj H
                      go_enter Tryd.func4, Tryd.ntmps4
                      go_wp2_with (first | ((with_reducible refine gate_callee (f := 15) rfl ?_); refine goesL_ (some 13) rfl rfl Tryd.func15 (by kernel_rfl) rfl #[.string (⟨#[120, 45]⟩ : ByteArray), .string (⟨#[117, 120]⟩ : ByteArray)] rfl (by (try simp only [List.map_toArray, List.map_cons, List.map_nil]); first | done | rfl | (simp only [List.length_drop, List.length_take]; rfl)) ?_; (with_reducible refine (pattern_Meet.calls k (⟨#[120, 45]⟩ : ByteArray) (⟨#[117, 120]⟩ : ByteArray) t153 t154 _ A1.out).mono ?_); rintro e w42 ⟨rfl, hb⟩; refine ⟨_, rfl, ?_⟩; have n0_ := Aside0.mk (below_step (by repeat (first | (with_reducible first | exact HB.out | apply below_alloc | apply pw_below_drewN | apply below_drew1) | exact HB.out)) hb); clear HB; have HB := n0_; clear n0_; (try clear hb); (try clear hb2); (try clear hk); (try clear hi)) | ((with_reducible refine gate_callee (f := 16) rfl ?_); refine goesL_ (some 17) rfl rfl Tryd.func16 (by kernel_rfl) rfl #[.string (⟨#[120, 45]⟩ : ByteArray), .string (⟨#[117, 120]⟩ : ByteArray)] rfl (by (try simp only [List.map_toArray, List.map_cons, List.map_nil]); first | done | rfl | (simp only [List.length_drop, List.length_take]; rfl)) ?_; (with_reducible refine (pattern_Join.calls k (⟨#[120, 45]⟩ : ByteArray) (⟨#[117, 120]⟩ : ByteArray) t155 t156 _ A2.out).mono ?_); rintro e w43 ⟨rfl, hb⟩; refine ⟨_, rfl, ?_⟩; have n0_ := Aside0.mk (below_step (by repeat (first | (with_reducible first | exact HB.out | apply below_alloc | apply pw_below_drewN | apply below_drew1) | exact HB.out)) hb); clear HB; have HB := n0_; clear n0_; (try clear hb); (try clear hb2); (try clear hk); (try clear hi)) | ((with_reducible refine gate_callee (f := 17) rfl ?_); refine goesL_ (some 21) rfl rfl Tryd.func17 (by kernel_rfl) rfl #[.string (⟨#[120, 45, 120]⟩ : ByteArray)] rfl (by (try simp only [List.map_toArray, List.map_cons, List.map_nil]); first | done | rfl | (simp only [List.length_drop, List.length_take]; rfl)) ?_; (with_reducible refine (pattern_Expand.calls k (⟨#[120, 45, 120]⟩ : ByteArray) t157 t158 _ A3.out).mono ?_); rintro e w44 ⟨v159, rfl, ho0, hb⟩; refine ⟨_, rfl, ?_⟩; have n0_ := Aside0.mk (Kd.R_lower ho0 (below_size (by repeat (first | (with_reducible first | exact HB.out | apply below_alloc | apply pw_below_drewN | apply below_drew1) | exact HB.out)))); have n1_ := Aside0.mk (below_step (by repeat (first | (with_reducible first | exact HB.out | apply below_alloc | apply pw_below_drewN | apply below_drew1) | exact HB.out)) hb); clear HB; have HO160 := n0_; have HB := n1_; clear n0_ n1_; (try clear hb); (try clear hb2); (try clear hk); (try clear hi); (try clear ho0)) | ((with_reducible refine gate_callee (f := 18) rfl ?_); refine goesL_ (some 25) rfl rfl Tryd.func18 (by kernel_rfl) rfl #[.string (⟨#[120, 45, 120]⟩ : ByteArray)] rfl (by (try simp only [List.map_toArray, List.map_cons, List.map_nil]); first | done | rfl | (simp only [List.length_drop, List.length_take]; rfl)) ?_; (with_reducible refine (pattern_Morae.calls k (⟨#[120, 45, 120]⟩ : ByteArray) t161 t162 t163 _ A4.out).mono ?_); rintro e w' ⟨rfl, ⟨nd, rfl⟩⟩; refine ⟨_, rfl, ?_⟩) | ((with_reducible refine gate_callee (f := 7) rfl ?_); refine goesL_ (some 30) rfl rfl Tryd.func7 (by kernel_rfl) rfl #[.string (⟨#[45, 46, 117, 117, 46]⟩ : ByteArray)] rfl (by (try simp only [List.map_toArray, List.map_cons, List.map_nil]); first | done | rfl | (simp only [List.length_drop, List.length_take]; rfl)) ?_; (with_reducible refine (pattern_Letters.calls k (⟨#[45, 46, 117, 117, 46]⟩ : ByteArray) t164 t165 _ A5.out).mono ?_); rintro e w45 ⟨v166, rfl, ho0, hb⟩; refine ⟨_, rfl, ?_⟩; have n0_ := Aside0.mk (Kd.R_below (by (with_reducible repeat (first | apply Kd.R_alloc | apply Kd.R_drewN | apply Kd.R_drew)); exact HO160.out) hb); have n1_ := Aside0.mk (Kd.R_lower ho0 (below_size (by repeat (first | (with_reducible first | exact HB.out | apply below_alloc | apply pw_below_drewN | apply below_drew1) | exact HB.out)))); have n2_ := Aside0.mk (below_step (by repeat (first | (with_reducible first | exact HB.out | apply below_alloc | apply pw_below_drewN | apply below_drew1) | exact HB.out)) hb); clear HO160; clear HB; have HO160 := n0_; have HO167 := n1_; have HB := n2_; clear n0_ n1_ n2_; (try clear hb); (try clear hb2); (try clear hk); (try clear hi); (try clear ho0)) | ((with_reducible refine gate_callee (f := 19) rfl ?_); refine goesL_ (some 33) rfl rfl Tryd.func19 (by kernel_rfl) rfl #[.string (⟨#[120, 45]⟩ : ByteArray), .string (⟨#[117, 120]⟩ : ByteArray)] rfl (by (try simp only [List.map_toArray, List.map_cons, List.map_nil]); first | done | rfl | (simp only [List.length_drop, List.length_take]; rfl)) ?_; (with_reducible refine (pattern_Match.calls k (⟨#[120, 45]⟩ : ByteArray) (⟨#[117, 120]⟩ : ByteArray) true _ A6.out).mono ?_); rintro e w46 ⟨rfl, hb⟩; refine ⟨_, rfl, ?_⟩; have n0_ := Aside0.mk (Kd.R_below (by (with_reducible repeat (first | apply Kd.R_alloc | apply Kd.R_drewN | apply Kd.R_drew)); exact HO160.out) hb); have n1_ := Aside0.mk (Kd.R_below (by (with_reducible repeat (first | apply Kd.R_alloc | apply Kd.R_drewN | apply Kd.R_drew)); exact HO167.out) hb); have n2_ := Aside0.mk (below_step (by repeat (first | (with_reducible first | exact HB.out | apply below_alloc | apply pw_below_drewN | apply below_drew1) | exact HB.out)) hb); clear HO160; clear HO167; clear HB; have HO160 := n0_; have HO167 := n1_; have HB := n2_; clear n0_ n1_ n2_; (try clear hb); (try clear hb2); (try clear hk); (try clear hi)) | ((with_reducible refine gate_dst (N := 56) rfl ?_); (try (refine gate_guard (by rfl) ?_; dsimp only)); refine Kd.R_lit Kd.string _ 9 ?hg (N := 56) ?hd (xs := ([(⟨#[117, 45, 117]⟩ : ByteArray), (⟨#[117, 45, 45]⟩ : ByteArray), (⟨#[45, 45, 117]⟩ : ByteArray), (⟨#[45, 45, 45]⟩ : ByteArray)] : List ByteArray)) (inner := [.string (⟨#[117, 45, 117]⟩ : ByteArray), .string (⟨#[117, 45, 45]⟩ : ByteArray), .string (⟨#[45, 45, 117]⟩ : ByteArray), .string (⟨#[45, 45, 45]⟩ : ByteArray)]) (ok := fun _ => True) (okp := fun _ => True) ?hr ?hp (fun _ hk => hk) trivial (Below.refl _ _) (Nat.le_refl _) (by simp) ?_; (case hd => rfl); (case hg => rfl); (case hr => first | (go_simp; done) | (go_simp; rfl)); (case hp => exact (Reps.one (show Kd.M Kd.string _ _ _ (⟨#[117, 45, 117]⟩ : ByteArray) [.string (⟨#[117, 45, 117]⟩ : ByteArray)] from rfl) (Reps.one (show Kd.M Kd.string _ _ _ (⟨#[117, 45, 45]⟩ : ByteArray) [.string (⟨#[117, 45, 45]⟩ : ByteArray)] from rfl) (Reps.one (show Kd.M Kd.string _ _ _ (⟨#[45, 45, 117]⟩ : ByteArray) [.string (⟨#[45, 45, 117]⟩ : ByteArray)] from rfl) (Reps.one (show Kd.M Kd.string _ _ _ (⟨#[45, 45, 45]⟩ : ByteArray) [.string (⟨#[45, 45, 45]⟩ : ByteArray)] from rfl) (Reps.none _ _)))))); intro v170 w47 ho48 hb hg_ hnew_; clear hg_ hnew_; (first | rw [← Ny169.out] at ho48 | (simp only [Int.reduceToNat] at ho48; rw [← Ny169.out] at ho48)); have n0_ := Aside0.mk (Kd.R_elder' (by (with_reducible repeat (first | apply Kd.R_alloc | apply Kd.R_drewN | apply Kd.R_drew)); exact HO160.out) (Kd.R_base ho48) hb); have n1_ := Aside0.mk (Kd.R_below (by (with_reducible repeat (first | apply Kd.R_alloc | apply Kd.R_drewN | apply Kd.R_drew)); exact HO167.out) hb); have n2_ := Aside0.mk (Kd.R_lower (Kd.R_new' ho48 (Kd.R_lt (by (with_reducible repeat (first | apply Kd.R_alloc | apply Kd.R_drewN | apply Kd.R_drew)); exact HO160.out))) (below_size (by repeat (first | (with_reducible first | exact HB.out | apply below_alloc | apply pw_below_drewN | apply below_drew1) | exact HB.out)))); have n3_ := Aside0.mk (below_step (by repeat (first | (with_reducible first | exact HB.out | apply below_alloc | apply pw_below_drewN | apply below_drew1) | exact HB.out)) hb); clear HO160; clear HO167; clear HB; have HO160 := n0_; have HO167 := n1_; have HO171 := n2_; have HB := n3_; clear n0_ n1_ n2_ n3_; clear hb ho48; obtain ⟨Ao49, co49, eo49⟩ := Kd.R_slice HO160.out; subst eo49; obtain ⟨Ao50, co50, eo50⟩ := Kd.R_slice HO171.out; subst eo50) | (go_at_call 20; (with_reducible refine (slices_Equal_string_string.calls k _ _ t157 _ _ y169 true _ ?side1 ?side2 ?side3 ?side4 A13.out).mono ?_); (case side1 => repeat (first | exact (Kd.R_reads' HO160.out).2.2 | (with_reducible refine Kd.C_alloc ?_ _) | (with_reducible refine Kd.C_drewN ?_ _) | (with_reducible refine Kd.C_drew ?_))); (case side2 => exact (Kd.R_reads' HO160.out).2.1); (case side3 => repeat (first | exact (Kd.R_reads' HO171.out).2.2 | (with_reducible refine Kd.C_alloc ?_ _) | (with_reducible refine Kd.C_drewN ?_ _) | (with_reducible refine Kd.C_drew ?_))); (case side4 => exact (Kd.R_reads' HO171.out).2.1); rintro e w' ⟨rfl, ⟨nd, rfl⟩⟩))
                      go_ret
                      exact ⟨by first | rfl | (simp [errW_none, errW_some] <;> rfl) | (simp [*, errW_none, errW_some] <;> rfl), by repeat (first | (with_reducible first | exact HB.out | apply below_alloc | apply pw_below_drewN | apply below_drew1) | exact HB.out)⟩
                  · rw [if_neg c16] at H
                    have c16b0 : (t161 == 4) = false := beq_eq_false_iff_ne.mpr c16
                    have c16b1 : (t161 != 4) = true := bne_iff_ne.mpr c16
                    obtain rfl := Option.some.inj H
                    go_enter Tryd.func4, Tryd.ntmps4
                    go_wp2_with (first | ((with_reducible refine gate_callee (f := 15) rfl ?_); refine goesL_ (some 13) rfl rfl Tryd.func15 (by kernel_rfl) rfl #[.string (⟨#[120, 45]⟩ : ByteArray), .string (⟨#[117, 120]⟩ : ByteArray)] rfl (by (try simp only [List.map_toArray, List.map_cons, List.map_nil]); first | done | rfl | (simp only [List.length_drop, List.length_take]; rfl)) ?_; (with_reducible refine (pattern_Meet.calls k (⟨#[120, 45]⟩ : ByteArray) (⟨#[117, 120]⟩ : ByteArray) t153 t154 _ A1.out).mono ?_); rintro e w51 ⟨rfl, hb⟩; refine ⟨_, rfl, ?_⟩; have n0_ := Aside0.mk (below_step (by repeat (first | (with_reducible first | exact HB.out | apply below_alloc | apply pw_below_drewN | apply below_drew1) | exact HB.out)) hb); clear HB; have HB := n0_; clear n0_; (try clear hb); (try clear hb2); (try clear hk); (try clear hi)) | ((with_reducible refine gate_callee (f := 16) rfl ?_); refine goesL_ (some 17) rfl rfl Tryd.func16 (by kernel_rfl) rfl #[.string (⟨#[120, 45]⟩ : ByteArray), .string (⟨#[117, 120]⟩ : ByteArray)] rfl (by (try simp only [List.map_toArray, List.map_cons, List.map_nil]); first | done | rfl | (simp only [List.length_drop, List.length_take]; rfl)) ?_; (with_reducible refine (pattern_Join.calls k (⟨#[120, 45]⟩ : ByteArray) (⟨#[117, 120]⟩ : ByteArray) t155 t156 _ A2.out).mono ?_); rintro e w52 ⟨rfl, hb⟩; refine ⟨_, rfl, ?_⟩; have n0_ := Aside0.mk (below_step (by repeat (first | (with_reducible first | exact HB.out | apply below_alloc | apply pw_below_drewN | apply below_drew1) | exact HB.out)) hb); clear HB; have HB := n0_; clear n0_; (try clear hb); (try clear hb2); (try clear hk); (try clear hi)) | ((with_reducible refine gate_callee (f := 17) rfl ?_); refine goesL_ (some 21) rfl rfl Tryd.func17 (by kernel_rfl) rfl #[.string (⟨#[120, 45, 120]⟩ : ByteArray)] rfl (by (try simp only [List.map_toArray, List.map_cons, List.map_nil]); first | done | rfl | (simp only [List.length_drop, List.length_take]; rfl)) ?_; (with_reducible refine (pattern_Expand.calls k (⟨#[120, 45, 120]⟩ : ByteArray) t157 t158 _ A3.out).mono ?_); rintro e w53 ⟨v159, rfl, ho0, hb⟩; refine ⟨_, rfl, ?_⟩; have n0_ := Aside0.mk (Kd.R_lower ho0 (below_size (by repeat (first | (with_reducible first | exact HB.out | apply below_alloc | apply pw_below_drewN | apply below_drew1) | exact HB.out)))); have n1_ := Aside0.mk (below_step (by repeat (first | (with_reducible first | exact HB.out | apply below_alloc | apply pw_below_drewN | apply below_drew1) | exact HB.out)) hb); clear HB; have HO160 := n0_; have HB := n1_; clear n0_ n1_; (try clear hb); (try clear hb2); (try clear hk); (try clear hi); (try clear ho0)) | ((with_reducible refine gate_callee (f := 18) rfl ?_); refine goesL_ (some 25) rfl rfl Tryd.func18 (by kernel_rfl) rfl #[.string (⟨#[120, 45, 120]⟩ : ByteArray)] rfl (by (try simp only [List.map_toArray, List.map_cons, List.map_nil]); first | done | rfl | (simp only [List.length_drop, List.length_take]; rfl)) ?_; (with_reducible refine (pattern_Morae.calls k (⟨#[120, 45, 120]⟩ : ByteArray) t161 t162 t163 _ A4.out).mono ?_); rintro e w' ⟨rfl, ⟨nd, rfl⟩⟩; refine ⟨_, rfl, ?_⟩) | ((with_reducible refine gate_callee (f := 7) rfl ?_); refine goesL_ (some 30) rfl rfl Tryd.func7 (by kernel_rfl) rfl #[.string (⟨#[45, 46, 117, 117, 46]⟩ : ByteArray)] rfl (by (try simp only [List.map_toArray, List.map_cons, List.map_nil]); first | done | rfl | (simp only [List.length_drop, List.length_take]; rfl)) ?_; (with_reducible refine (pattern_Letters.calls k (⟨#[45, 46, 117, 117, 46]⟩ : ByteArray) t164 t165 _ A5.out).mono ?_); rintro e w54 ⟨v166, rfl, ho0, hb⟩; refine ⟨_, rfl, ?_⟩; have n0_ := Aside0.mk (Kd.R_below (by (with_reducible repeat (first | apply Kd.R_alloc | apply Kd.R_drewN | apply Kd.R_drew)); exact HO160.out) hb); have n1_ := Aside0.mk (Kd.R_lower ho0 (below_size (by repeat (first | (with_reducible first | exact HB.out | apply below_alloc | apply pw_below_drewN | apply below_drew1) | exact HB.out)))); have n2_ := Aside0.mk (below_step (by repeat (first | (with_reducible first | exact HB.out | apply below_alloc | apply pw_below_drewN | apply below_drew1) | exact HB.out)) hb); clear HO160; clear HB; have HO160 := n0_; have HO167 := n1_; have HB := n2_; clear n0_ n1_ n2_; (try clear hb); (try clear hb2); (try clear hk); (try clear hi); (try clear ho0)) | ((with_reducible refine gate_callee (f := 19) rfl ?_); refine goesL_ (some 33) rfl rfl Tryd.func19 (by kernel_rfl) rfl #[.string (⟨#[120, 45]⟩ : ByteArray), .string (⟨#[117, 120]⟩ : ByteArray)] rfl (by (try simp only [List.map_toArray, List.map_cons, List.map_nil]); first | done | rfl | (simp only [List.length_drop, List.length_take]; rfl)) ?_; (with_reducible refine (pattern_Match.calls k (⟨#[120, 45]⟩ : ByteArray) (⟨#[117, 120]⟩ : ByteArray) true _ A6.out).mono ?_); rintro e w55 ⟨rfl, hb⟩; refine ⟨_, rfl, ?_⟩; have n0_ := Aside0.mk (Kd.R_below (by (with_reducible repeat (first | apply Kd.R_alloc | apply Kd.R_drewN | apply Kd.R_drew)); exact HO160.out) hb); have n1_ := Aside0.mk (Kd.R_below (by (with_reducible repeat (first | apply Kd.R_alloc | apply Kd.R_drewN | apply Kd.R_drew)); exact HO167.out) hb); have n2_ := Aside0.mk (below_step (by repeat (first | (with_reducible first | exact HB.out | apply below_alloc | apply pw_below_drewN | apply below_drew1) | exact HB.out)) hb); clear HO160; clear HO167; clear HB; have HO160 := n0_; have HO167 := n1_; have HB := n2_; clear n0_ n1_ n2_; (try clear hb); (try clear hb2); (try clear hk); (try clear hi)) | ((with_reducible refine gate_dst (N := 56) rfl ?_); (try (refine gate_guard (by rfl) ?_; dsimp only)); refine Kd.R_lit Kd.string _ 9 ?hg (N := 56) ?hd (xs := ([(⟨#[117, 45, 117]⟩ : ByteArray), (⟨#[117, 45, 45]⟩ : ByteArray), (⟨#[45, 45, 117]⟩ : ByteArray), (⟨#[45, 45, 45]⟩ : ByteArray)] : List ByteArray)) (inner := [.string (⟨#[117, 45, 117]⟩ : ByteArray), .string (⟨#[117, 45, 45]⟩ : ByteArray), .string (⟨#[45, 45, 117]⟩ : ByteArray), .string (⟨#[45, 45, 45]⟩ : ByteArray)]) (ok := fun _ => True) (okp := fun _ => True) ?hr ?hp (fun _ hk => hk) trivial (Below.refl _ _) (Nat.le_refl _) (by simp) ?_; (case hd => rfl); (case hg => rfl); (case hr => first | (go_simp; done) | (go_simp; rfl)); (case hp => exact (Reps.one (show Kd.M Kd.string _ _ _ (⟨#[117, 45, 117]⟩ : ByteArray) [.string (⟨#[117, 45, 117]⟩ : ByteArray)] from rfl) (Reps.one (show Kd.M Kd.string _ _ _ (⟨#[117, 45, 45]⟩ : ByteArray) [.string (⟨#[117, 45, 45]⟩ : ByteArray)] from rfl) (Reps.one (show Kd.M Kd.string _ _ _ (⟨#[45, 45, 117]⟩ : ByteArray) [.string (⟨#[45, 45, 117]⟩ : ByteArray)] from rfl) (Reps.one (show Kd.M Kd.string _ _ _ (⟨#[45, 45, 45]⟩ : ByteArray) [.string (⟨#[45, 45, 45]⟩ : ByteArray)] from rfl) (Reps.none _ _)))))); intro v170 w56 ho57 hb hg_ hnew_; clear hg_ hnew_; (first | rw [← Ny169.out] at ho57 | (simp only [Int.reduceToNat] at ho57; rw [← Ny169.out] at ho57)); have n0_ := Aside0.mk (Kd.R_elder' (by (with_reducible repeat (first | apply Kd.R_alloc | apply Kd.R_drewN | apply Kd.R_drew)); exact HO160.out) (Kd.R_base ho57) hb); have n1_ := Aside0.mk (Kd.R_below (by (with_reducible repeat (first | apply Kd.R_alloc | apply Kd.R_drewN | apply Kd.R_drew)); exact HO167.out) hb); have n2_ := Aside0.mk (Kd.R_lower (Kd.R_new' ho57 (Kd.R_lt (by (with_reducible repeat (first | apply Kd.R_alloc | apply Kd.R_drewN | apply Kd.R_drew)); exact HO160.out))) (below_size (by repeat (first | (with_reducible first | exact HB.out | apply below_alloc | apply pw_below_drewN | apply below_drew1) | exact HB.out)))); have n3_ := Aside0.mk (below_step (by repeat (first | (with_reducible first | exact HB.out | apply below_alloc | apply pw_below_drewN | apply below_drew1) | exact HB.out)) hb); clear HO160; clear HO167; clear HB; have HO160 := n0_; have HO167 := n1_; have HO171 := n2_; have HB := n3_; clear n0_ n1_ n2_ n3_; clear hb ho57; obtain ⟨Ao58, co58, eo58⟩ := Kd.R_slice HO160.out; subst eo58; obtain ⟨Ao59, co59, eo59⟩ := Kd.R_slice HO171.out; subst eo59) | (go_at_call 20; (with_reducible refine (slices_Equal_string_string.calls k _ _ t157 _ _ y169 true _ ?side1 ?side2 ?side3 ?side4 A13.out).mono ?_); (case side1 => repeat (first | exact (Kd.R_reads' HO160.out).2.2 | (with_reducible refine Kd.C_alloc ?_ _) | (with_reducible refine Kd.C_drewN ?_ _) | (with_reducible refine Kd.C_drew ?_))); (case side2 => exact (Kd.R_reads' HO160.out).2.1); (case side3 => repeat (first | exact (Kd.R_reads' HO171.out).2.2 | (with_reducible refine Kd.C_alloc ?_ _) | (with_reducible refine Kd.C_drewN ?_ _) | (with_reducible refine Kd.C_drew ?_))); (case side4 => exact (Kd.R_reads' HO171.out).2.1); rintro e w' ⟨rfl, ⟨nd, rfl⟩⟩))
                    go_ret
                    exact ⟨by first | rfl | (simp [errW_none, errW_some] <;> rfl) | (simp [*, errW_none, errW_some] <;> rfl), by repeat (first | (with_reducible first | exact HB.out | apply below_alloc | apply pw_below_drewN | apply below_drew1) | exact HB.out)⟩
                · rw [if_neg c15] at H
                  have c15b0 : (t163 == 0) = false := beq_eq_false_iff_ne.mpr c15
                  have c15b1 : (t163 != 0) = true := bne_iff_ne.mpr c15
                  obtain rfl := Option.some.inj H
                  go_enter Tryd.func4, Tryd.ntmps4
                  go_wp2_with (first | ((with_reducible refine gate_callee (f := 15) rfl ?_); refine goesL_ (some 13) rfl rfl Tryd.func15 (by kernel_rfl) rfl #[.string (⟨#[120, 45]⟩ : ByteArray), .string (⟨#[117, 120]⟩ : ByteArray)] rfl (by (try simp only [List.map_toArray, List.map_cons, List.map_nil]); first | done | rfl | (simp only [List.length_drop, List.length_take]; rfl)) ?_; (with_reducible refine (pattern_Meet.calls k (⟨#[120, 45]⟩ : ByteArray) (⟨#[117, 120]⟩ : ByteArray) t153 t154 _ A1.out).mono ?_); rintro e w60 ⟨rfl, hb⟩; refine ⟨_, rfl, ?_⟩; have n0_ := Aside0.mk (below_step (by repeat (first | (with_reducible first | exact HB.out | apply below_alloc | apply pw_below_drewN | apply below_drew1) | exact HB.out)) hb); clear HB; have HB := n0_; clear n0_; (try clear hb); (try clear hb2); (try clear hk); (try clear hi)) | ((with_reducible refine gate_callee (f := 16) rfl ?_); refine goesL_ (some 17) rfl rfl Tryd.func16 (by kernel_rfl) rfl #[.string (⟨#[120, 45]⟩ : ByteArray), .string (⟨#[117, 120]⟩ : ByteArray)] rfl (by (try simp only [List.map_toArray, List.map_cons, List.map_nil]); first | done | rfl | (simp only [List.length_drop, List.length_take]; rfl)) ?_; (with_reducible refine (pattern_Join.calls k (⟨#[120, 45]⟩ : ByteArray) (⟨#[117, 120]⟩ : ByteArray) t155 t156 _ A2.out).mono ?_); rintro e w61 ⟨rfl, hb⟩; refine ⟨_, rfl, ?_⟩; have n0_ := Aside0.mk (below_step (by repeat (first | (with_reducible first | exact HB.out | apply below_alloc | apply pw_below_drewN | apply below_drew1) | exact HB.out)) hb); clear HB; have HB := n0_; clear n0_; (try clear hb); (try clear hb2); (try clear hk); (try clear hi)) | ((with_reducible refine gate_callee (f := 17) rfl ?_); refine goesL_ (some 21) rfl rfl Tryd.func17 (by kernel_rfl) rfl #[.string (⟨#[120, 45, 120]⟩ : ByteArray)] rfl (by (try simp only [List.map_toArray, List.map_cons, List.map_nil]); first | done | rfl | (simp only [List.length_drop, List.length_take]; rfl)) ?_; (with_reducible refine (pattern_Expand.calls k (⟨#[120, 45, 120]⟩ : ByteArray) t157 t158 _ A3.out).mono ?_); rintro e w62 ⟨v159, rfl, ho0, hb⟩; refine ⟨_, rfl, ?_⟩; have n0_ := Aside0.mk (Kd.R_lower ho0 (below_size (by repeat (first | (with_reducible first | exact HB.out | apply below_alloc | apply pw_below_drewN | apply below_drew1) | exact HB.out)))); have n1_ := Aside0.mk (below_step (by repeat (first | (with_reducible first | exact HB.out | apply below_alloc | apply pw_below_drewN | apply below_drew1) | exact HB.out)) hb); clear HB; have HO160 := n0_; have HB := n1_; clear n0_ n1_; (try clear hb); (try clear hb2); (try clear hk); (try clear hi); (try clear ho0)) | ((with_reducible refine gate_callee (f := 18) rfl ?_); refine goesL_ (some 25) rfl rfl Tryd.func18 (by kernel_rfl) rfl #[.string (⟨#[120, 45, 120]⟩ : ByteArray)] rfl (by (try simp only [List.map_toArray, List.map_cons, List.map_nil]); first | done | rfl | (simp only [List.length_drop, List.length_take]; rfl)) ?_; (with_reducible refine (pattern_Morae.calls k (⟨#[120, 45, 120]⟩ : ByteArray) t161 t162 t163 _ A4.out).mono ?_); rintro e w' ⟨rfl, ⟨nd, rfl⟩⟩; refine ⟨_, rfl, ?_⟩) | ((with_reducible refine gate_callee (f := 7) rfl ?_); refine goesL_ (some 30) rfl rfl Tryd.func7 (by kernel_rfl) rfl #[.string (⟨#[45, 46, 117, 117, 46]⟩ : ByteArray)] rfl (by (try simp only [List.map_toArray, List.map_cons, List.map_nil]); first | done | rfl | (simp only [List.length_drop, List.length_take]; rfl)) ?_; (with_reducible refine (pattern_Letters.calls k (⟨#[45, 46, 117, 117, 46]⟩ : ByteArray) t164 t165 _ A5.out).mono ?_); rintro e w63 ⟨v166, rfl, ho0, hb⟩; refine ⟨_, rfl, ?_⟩; have n0_ := Aside0.mk (Kd.R_below (by (with_reducible repeat (first | apply Kd.R_alloc | apply Kd.R_drewN | apply Kd.R_drew)); exact HO160.out) hb); have n1_ := Aside0.mk (Kd.R_lower ho0 (below_size (by repeat (first | (with_reducible first | exact HB.out | apply below_alloc | apply pw_below_drewN | apply below_drew1) | exact HB.out)))); have n2_ := Aside0.mk (below_step (by repeat (first | (with_reducible first | exact HB.out | apply below_alloc | apply pw_below_drewN | apply below_drew1) | exact HB.out)) hb); clear HO160; clear HB; have HO160 := n0_; have HO167 := n1_; have HB := n2_; clear n0_ n1_ n2_; (try clear hb); (try clear hb2); (try clear hk); (try clear hi); (try clear ho0)) | ((with_reducible refine gate_callee (f := 19) rfl ?_); refine goesL_ (some 33) rfl rfl Tryd.func19 (by kernel_rfl) rfl #[.string (⟨#[120, 45]⟩ : ByteArray), .string (⟨#[117, 120]⟩ : ByteArray)] rfl (by (try simp only [List.map_toArray, List.map_cons, List.map_nil]); first | done | rfl | (simp only [List.length_drop, List.length_take]; rfl)) ?_; (with_reducible refine (pattern_Match.calls k (⟨#[120, 45]⟩ : ByteArray) (⟨#[117, 120]⟩ : ByteArray) true _ A6.out).mono ?_); rintro e w64 ⟨rfl, hb⟩; refine ⟨_, rfl, ?_⟩; have n0_ := Aside0.mk (Kd.R_below (by (with_reducible repeat (first | apply Kd.R_alloc | apply Kd.R_drewN | apply Kd.R_drew)); exact HO160.out) hb); have n1_ := Aside0.mk (Kd.R_below (by (with_reducible repeat (first | apply Kd.R_alloc | apply Kd.R_drewN | apply Kd.R_drew)); exact HO167.out) hb); have n2_ := Aside0.mk (below_step (by repeat (first | (with_reducible first | exact HB.out | apply below_alloc | apply pw_below_drewN | apply below_drew1) | exact HB.out)) hb); clear HO160; clear HO167; clear HB; have HO160 := n0_; have HO167 := n1_; have HB := n2_; clear n0_ n1_ n2_; (try clear hb); (try clear hb2); (try clear hk); (try clear hi)) | ((with_reducible refine gate_dst (N := 56) rfl ?_); (try (refine gate_guard (by rfl) ?_; dsimp only)); refine Kd.R_lit Kd.string _ 9 ?hg (N := 56) ?hd (xs := ([(⟨#[117, 45, 117]⟩ : ByteArray), (⟨#[117, 45, 45]⟩ : ByteArray), (⟨#[45, 45, 117]⟩ : ByteArray), (⟨#[45, 45, 45]⟩ : ByteArray)] : List ByteArray)) (inner := [.string (⟨#[117, 45, 117]⟩ : ByteArray), .string (⟨#[117, 45, 45]⟩ : ByteArray), .string (⟨#[45, 45, 117]⟩ : ByteArray), .string (⟨#[45, 45, 45]⟩ : ByteArray)]) (ok := fun _ => True) (okp := fun _ => True) ?hr ?hp (fun _ hk => hk) trivial (Below.refl _ _) (Nat.le_refl _) (by simp) ?_; (case hd => rfl); (case hg => rfl); (case hr => first | (go_simp; done) | (go_simp; rfl)); (case hp => exact (Reps.one (show Kd.M Kd.string _ _ _ (⟨#[117, 45, 117]⟩ : ByteArray) [.string (⟨#[117, 45, 117]⟩ : ByteArray)] from rfl) (Reps.one (show Kd.M Kd.string _ _ _ (⟨#[117, 45, 45]⟩ : ByteArray) [.string (⟨#[117, 45, 45]⟩ : ByteArray)] from rfl) (Reps.one (show Kd.M Kd.string _ _ _ (⟨#[45, 45, 117]⟩ : ByteArray) [.string (⟨#[45, 45, 117]⟩ : ByteArray)] from rfl) (Reps.one (show Kd.M Kd.string _ _ _ (⟨#[45, 45, 45]⟩ : ByteArray) [.string (⟨#[45, 45, 45]⟩ : ByteArray)] from rfl) (Reps.none _ _)))))); intro v170 w65 ho66 hb hg_ hnew_; clear hg_ hnew_; (first | rw [← Ny169.out] at ho66 | (simp only [Int.reduceToNat] at ho66; rw [← Ny169.out] at ho66)); have n0_ := Aside0.mk (Kd.R_elder' (by (with_reducible repeat (first | apply Kd.R_alloc | apply Kd.R_drewN | apply Kd.R_drew)); exact HO160.out) (Kd.R_base ho66) hb); have n1_ := Aside0.mk (Kd.R_below (by (with_reducible repeat (first | apply Kd.R_alloc | apply Kd.R_drewN | apply Kd.R_drew)); exact HO167.out) hb); have n2_ := Aside0.mk (Kd.R_lower (Kd.R_new' ho66 (Kd.R_lt (by (with_reducible repeat (first | apply Kd.R_alloc | apply Kd.R_drewN | apply Kd.R_drew)); exact HO160.out))) (below_size (by repeat (first | (with_reducible first | exact HB.out | apply below_alloc | apply pw_below_drewN | apply below_drew1) | exact HB.out)))); have n3_ := Aside0.mk (below_step (by repeat (first | (with_reducible first | exact HB.out | apply below_alloc | apply pw_below_drewN | apply below_drew1) | exact HB.out)) hb); clear HO160; clear HO167; clear HB; have HO160 := n0_; have HO167 := n1_; have HO171 := n2_; have HB := n3_; clear n0_ n1_ n2_ n3_; clear hb ho66; obtain ⟨Ao67, co67, eo67⟩ := Kd.R_slice HO160.out; subst eo67; obtain ⟨Ao68, co68, eo68⟩ := Kd.R_slice HO171.out; subst eo68) | (go_at_call 20; (with_reducible refine (slices_Equal_string_string.calls k _ _ t157 _ _ y169 true _ ?side1 ?side2 ?side3 ?side4 A13.out).mono ?_); (case side1 => repeat (first | exact (Kd.R_reads' HO160.out).2.2 | (with_reducible refine Kd.C_alloc ?_ _) | (with_reducible refine Kd.C_drewN ?_ _) | (with_reducible refine Kd.C_drew ?_))); (case side2 => exact (Kd.R_reads' HO160.out).2.1); (case side3 => repeat (first | exact (Kd.R_reads' HO171.out).2.2 | (with_reducible refine Kd.C_alloc ?_ _) | (with_reducible refine Kd.C_drewN ?_ _) | (with_reducible refine Kd.C_drew ?_))); (case side4 => exact (Kd.R_reads' HO171.out).2.1); rintro e w' ⟨rfl, ⟨nd, rfl⟩⟩))
                  go_ret
                  exact ⟨by first | rfl | (simp [errW_none, errW_some] <;> rfl) | (simp [*, errW_none, errW_some] <;> rfl), by repeat (first | (with_reducible first | exact HB.out | apply below_alloc | apply pw_below_drewN | apply below_drew1) | exact HB.out)⟩
              · replace c14 := Bool.eq_false_iff.mpr c14
                subst c14
                have H1 : (some false) = some r := by rw [if_neg (show ¬ (false = true) by decide)] at H; exact H
                clear H
                have H := H1
                clear H1
                obtain rfl := Option.some.inj H
                go_enter Tryd.func4, Tryd.ntmps4
                go_wp2_with (first | ((with_reducible refine gate_callee (f := 15) rfl ?_); refine goesL_ (some 13) rfl rfl Tryd.func15 (by kernel_rfl) rfl #[.string (⟨#[120, 45]⟩ : ByteArray), .string (⟨#[117, 120]⟩ : ByteArray)] rfl (by (try simp only [List.map_toArray, List.map_cons, List.map_nil]); first | done | rfl | (simp only [List.length_drop, List.length_take]; rfl)) ?_; (with_reducible refine (pattern_Meet.calls k (⟨#[120, 45]⟩ : ByteArray) (⟨#[117, 120]⟩ : ByteArray) t153 t154 _ A1.out).mono ?_); rintro e w69 ⟨rfl, hb⟩; refine ⟨_, rfl, ?_⟩; have n0_ := Aside0.mk (below_step (by repeat (first | (with_reducible first | exact HB.out | apply below_alloc | apply pw_below_drewN | apply below_drew1) | exact HB.out)) hb); clear HB; have HB := n0_; clear n0_; (try clear hb); (try clear hb2); (try clear hk); (try clear hi)) | ((with_reducible refine gate_callee (f := 16) rfl ?_); refine goesL_ (some 17) rfl rfl Tryd.func16 (by kernel_rfl) rfl #[.string (⟨#[120, 45]⟩ : ByteArray), .string (⟨#[117, 120]⟩ : ByteArray)] rfl (by (try simp only [List.map_toArray, List.map_cons, List.map_nil]); first | done | rfl | (simp only [List.length_drop, List.length_take]; rfl)) ?_; (with_reducible refine (pattern_Join.calls k (⟨#[120, 45]⟩ : ByteArray) (⟨#[117, 120]⟩ : ByteArray) t155 t156 _ A2.out).mono ?_); rintro e w70 ⟨rfl, hb⟩; refine ⟨_, rfl, ?_⟩; have n0_ := Aside0.mk (below_step (by repeat (first | (with_reducible first | exact HB.out | apply below_alloc | apply pw_below_drewN | apply below_drew1) | exact HB.out)) hb); clear HB; have HB := n0_; clear n0_; (try clear hb); (try clear hb2); (try clear hk); (try clear hi)) | ((with_reducible refine gate_callee (f := 17) rfl ?_); refine goesL_ (some 21) rfl rfl Tryd.func17 (by kernel_rfl) rfl #[.string (⟨#[120, 45, 120]⟩ : ByteArray)] rfl (by (try simp only [List.map_toArray, List.map_cons, List.map_nil]); first | done | rfl | (simp only [List.length_drop, List.length_take]; rfl)) ?_; (with_reducible refine (pattern_Expand.calls k (⟨#[120, 45, 120]⟩ : ByteArray) t157 t158 _ A3.out).mono ?_); rintro e w71 ⟨v159, rfl, ho0, hb⟩; refine ⟨_, rfl, ?_⟩; have n0_ := Aside0.mk (Kd.R_lower ho0 (below_size (by repeat (first | (with_reducible first | exact HB.out | apply below_alloc | apply pw_below_drewN | apply below_drew1) | exact HB.out)))); have n1_ := Aside0.mk (below_step (by repeat (first | (with_reducible first | exact HB.out | apply below_alloc | apply pw_below_drewN | apply below_drew1) | exact HB.out)) hb); clear HB; have HO160 := n0_; have HB := n1_; clear n0_ n1_; (try clear hb); (try clear hb2); (try clear hk); (try clear hi); (try clear ho0)) | ((with_reducible refine gate_callee (f := 18) rfl ?_); refine goesL_ (some 25) rfl rfl Tryd.func18 (by kernel_rfl) rfl #[.string (⟨#[120, 45, 120]⟩ : ByteArray)] rfl (by (try simp only [List.map_toArray, List.map_cons, List.map_nil]); first | done | rfl | (simp only [List.length_drop, List.length_take]; rfl)) ?_; (with_reducible refine (pattern_Morae.calls k (⟨#[120, 45, 120]⟩ : ByteArray) t161 t162 t163 _ A4.out).mono ?_); rintro e w' ⟨rfl, ⟨nd, rfl⟩⟩; refine ⟨_, rfl, ?_⟩) | ((with_reducible refine gate_callee (f := 7) rfl ?_); refine goesL_ (some 30) rfl rfl Tryd.func7 (by kernel_rfl) rfl #[.string (⟨#[45, 46, 117, 117, 46]⟩ : ByteArray)] rfl (by (try simp only [List.map_toArray, List.map_cons, List.map_nil]); first | done | rfl | (simp only [List.length_drop, List.length_take]; rfl)) ?_; (with_reducible refine (pattern_Letters.calls k (⟨#[45, 46, 117, 117, 46]⟩ : ByteArray) t164 t165 _ A5.out).mono ?_); rintro e w72 ⟨v166, rfl, ho0, hb⟩; refine ⟨_, rfl, ?_⟩; have n0_ := Aside0.mk (Kd.R_below (by (with_reducible repeat (first | apply Kd.R_alloc | apply Kd.R_drewN | apply Kd.R_drew)); exact HO160.out) hb); have n1_ := Aside0.mk (Kd.R_lower ho0 (below_size (by repeat (first | (with_reducible first | exact HB.out | apply below_alloc | apply pw_below_drewN | apply below_drew1) | exact HB.out)))); have n2_ := Aside0.mk (below_step (by repeat (first | (with_reducible first | exact HB.out | apply below_alloc | apply pw_below_drewN | apply below_drew1) | exact HB.out)) hb); clear HO160; clear HB; have HO160 := n0_; have HO167 := n1_; have HB := n2_; clear n0_ n1_ n2_; (try clear hb); (try clear hb2); (try clear hk); (try clear hi); (try clear ho0)) | ((with_reducible refine gate_callee (f := 19) rfl ?_); refine goesL_ (some 33) rfl rfl Tryd.func19 (by kernel_rfl) rfl #[.string (⟨#[120, 45]⟩ : ByteArray), .string (⟨#[117, 120]⟩ : ByteArray)] rfl (by (try simp only [List.map_toArray, List.map_cons, List.map_nil]); first | done | rfl | (simp only [List.length_drop, List.length_take]; rfl)) ?_; (with_reducible refine (pattern_Match.calls k (⟨#[120, 45]⟩ : ByteArray) (⟨#[117, 120]⟩ : ByteArray) true _ A6.out).mono ?_); rintro e w73 ⟨rfl, hb⟩; refine ⟨_, rfl, ?_⟩; have n0_ := Aside0.mk (Kd.R_below (by (with_reducible repeat (first | apply Kd.R_alloc | apply Kd.R_drewN | apply Kd.R_drew)); exact HO160.out) hb); have n1_ := Aside0.mk (Kd.R_below (by (with_reducible repeat (first | apply Kd.R_alloc | apply Kd.R_drewN | apply Kd.R_drew)); exact HO167.out) hb); have n2_ := Aside0.mk (below_step (by repeat (first | (with_reducible first | exact HB.out | apply below_alloc | apply pw_below_drewN | apply below_drew1) | exact HB.out)) hb); clear HO160; clear HO167; clear HB; have HO160 := n0_; have HO167 := n1_; have HB := n2_; clear n0_ n1_ n2_; (try clear hb); (try clear hb2); (try clear hk); (try clear hi)) | ((with_reducible refine gate_dst (N := 56) rfl ?_); (try (refine gate_guard (by rfl) ?_; dsimp only)); refine Kd.R_lit Kd.string _ 9 ?hg (N := 56) ?hd (xs := ([(⟨#[117, 45, 117]⟩ : ByteArray), (⟨#[117, 45, 45]⟩ : ByteArray), (⟨#[45, 45, 117]⟩ : ByteArray), (⟨#[45, 45, 45]⟩ : ByteArray)] : List ByteArray)) (inner := [.string (⟨#[117, 45, 117]⟩ : ByteArray), .string (⟨#[117, 45, 45]⟩ : ByteArray), .string (⟨#[45, 45, 117]⟩ : ByteArray), .string (⟨#[45, 45, 45]⟩ : ByteArray)]) (ok := fun _ => True) (okp := fun _ => True) ?hr ?hp (fun _ hk => hk) trivial (Below.refl _ _) (Nat.le_refl _) (by simp) ?_; (case hd => rfl); (case hg => rfl); (case hr => first | (go_simp; done) | (go_simp; rfl)); (case hp => exact (Reps.one (show Kd.M Kd.string _ _ _ (⟨#[117, 45, 117]⟩ : ByteArray) [.string (⟨#[117, 45, 117]⟩ : ByteArray)] from rfl) (Reps.one (show Kd.M Kd.string _ _ _ (⟨#[117, 45, 45]⟩ : ByteArray) [.string (⟨#[117, 45, 45]⟩ : ByteArray)] from rfl) (Reps.one (show Kd.M Kd.string _ _ _ (⟨#[45, 45, 117]⟩ : ByteArray) [.string (⟨#[45, 45, 117]⟩ : ByteArray)] from rfl) (Reps.one (show Kd.M Kd.string _ _ _ (⟨#[45, 45, 45]⟩ : ByteArray) [.string (⟨#[45, 45, 45]⟩ : ByteArray)] from rfl) (Reps.none _ _)))))); intro v170 w74 ho75 hb hg_ hnew_; clear hg_ hnew_; (first | rw [← Ny169.out] at ho75 | (simp only [Int.reduceToNat] at ho75; rw [← Ny169.out] at ho75)); have n0_ := Aside0.mk (Kd.R_elder' (by (with_reducible repeat (first | apply Kd.R_alloc | apply Kd.R_drewN | apply Kd.R_drew)); exact HO160.out) (Kd.R_base ho75) hb); have n1_ := Aside0.mk (Kd.R_below (by (with_reducible repeat (first | apply Kd.R_alloc | apply Kd.R_drewN | apply Kd.R_drew)); exact HO167.out) hb); have n2_ := Aside0.mk (Kd.R_lower (Kd.R_new' ho75 (Kd.R_lt (by (with_reducible repeat (first | apply Kd.R_alloc | apply Kd.R_drewN | apply Kd.R_drew)); exact HO160.out))) (below_size (by repeat (first | (with_reducible first | exact HB.out | apply below_alloc | apply pw_below_drewN | apply below_drew1) | exact HB.out)))); have n3_ := Aside0.mk (below_step (by repeat (first | (with_reducible first | exact HB.out | apply below_alloc | apply pw_below_drewN | apply below_drew1) | exact HB.out)) hb); clear HO160; clear HO167; clear HB; have HO160 := n0_; have HO167 := n1_; have HO171 := n2_; have HB := n3_; clear n0_ n1_ n2_ n3_; clear hb ho75; obtain ⟨Ao76, co76, eo76⟩ := Kd.R_slice HO160.out; subst eo76; obtain ⟨Ao77, co77, eo77⟩ := Kd.R_slice HO171.out; subst eo77) | (go_at_call 20; (with_reducible refine (slices_Equal_string_string.calls k _ _ t157 _ _ y169 false _ ?side1 ?side2 ?side3 ?side4 A13.out).mono ?_); (case side1 => repeat (first | exact (Kd.R_reads' HO160.out).2.2 | (with_reducible refine Kd.C_alloc ?_ _) | (with_reducible refine Kd.C_drewN ?_ _) | (with_reducible refine Kd.C_drew ?_))); (case side2 => exact (Kd.R_reads' HO160.out).2.1); (case side3 => repeat (first | exact (Kd.R_reads' HO171.out).2.2 | (with_reducible refine Kd.C_alloc ?_ _) | (with_reducible refine Kd.C_drewN ?_ _) | (with_reducible refine Kd.C_drew ?_))); (case side4 => exact (Kd.R_reads' HO171.out).2.1); rintro e w' ⟨rfl, ⟨nd, rfl⟩⟩))
                go_ret
                exact ⟨by first | rfl | (simp [errW_none, errW_some] <;> rfl) | (simp [*, errW_none, errW_some] <;> rfl), by repeat (first | (with_reducible first | exact HB.out | apply below_alloc | apply pw_below_drewN | apply below_drew1) | exact HB.out)⟩
            · rw [if_neg c12] at H
              have c12b0 : (t158 == 0) = false := beq_eq_false_iff_ne.mpr c12
              have c12b1 : (t158 != 0) = true := bne_iff_ne.mpr c12
              obtain rfl := Option.some.inj H
              go_enter Tryd.func4, Tryd.ntmps4
              go_wp2_with (first | ((with_reducible refine gate_callee (f := 15) rfl ?_); refine goesL_ (some 13) rfl rfl Tryd.func15 (by kernel_rfl) rfl #[.string (⟨#[120, 45]⟩ : ByteArray), .string (⟨#[117, 120]⟩ : ByteArray)] rfl (by (try simp only [List.map_toArray, List.map_cons, List.map_nil]); first | done | rfl | (simp only [List.length_drop, List.length_take]; rfl)) ?_; (with_reducible refine (pattern_Meet.calls k (⟨#[120, 45]⟩ : ByteArray) (⟨#[117, 120]⟩ : ByteArray) t153 t154 _ A1.out).mono ?_); rintro e w78 ⟨rfl, hb⟩; refine ⟨_, rfl, ?_⟩; have n0_ := Aside0.mk (below_step (by repeat (first | (with_reducible first | exact HB.out | apply below_alloc | apply pw_below_drewN | apply below_drew1) | exact HB.out)) hb); clear HB; have HB := n0_; clear n0_; (try clear hb); (try clear hb2); (try clear hk); (try clear hi)) | ((with_reducible refine gate_callee (f := 16) rfl ?_); refine goesL_ (some 17) rfl rfl Tryd.func16 (by kernel_rfl) rfl #[.string (⟨#[120, 45]⟩ : ByteArray), .string (⟨#[117, 120]⟩ : ByteArray)] rfl (by (try simp only [List.map_toArray, List.map_cons, List.map_nil]); first | done | rfl | (simp only [List.length_drop, List.length_take]; rfl)) ?_; (with_reducible refine (pattern_Join.calls k (⟨#[120, 45]⟩ : ByteArray) (⟨#[117, 120]⟩ : ByteArray) t155 t156 _ A2.out).mono ?_); rintro e w79 ⟨rfl, hb⟩; refine ⟨_, rfl, ?_⟩; have n0_ := Aside0.mk (below_step (by repeat (first | (with_reducible first | exact HB.out | apply below_alloc | apply pw_below_drewN | apply below_drew1) | exact HB.out)) hb); clear HB; have HB := n0_; clear n0_; (try clear hb); (try clear hb2); (try clear hk); (try clear hi)) | ((with_reducible refine gate_callee (f := 17) rfl ?_); refine goesL_ (some 21) rfl rfl Tryd.func17 (by kernel_rfl) rfl #[.string (⟨#[120, 45, 120]⟩ : ByteArray)] rfl (by (try simp only [List.map_toArray, List.map_cons, List.map_nil]); first | done | rfl | (simp only [List.length_drop, List.length_take]; rfl)) ?_; (with_reducible refine (pattern_Expand.calls k (⟨#[120, 45, 120]⟩ : ByteArray) t157 t158 _ A3.out).mono ?_); rintro e w80 ⟨v159, rfl, ho0, hb⟩; refine ⟨_, rfl, ?_⟩; have n0_ := Aside0.mk (Kd.R_lower ho0 (below_size (by repeat (first | (with_reducible first | exact HB.out | apply below_alloc | apply pw_below_drewN | apply below_drew1) | exact HB.out)))); have n1_ := Aside0.mk (below_step (by repeat (first | (with_reducible first | exact HB.out | apply below_alloc | apply pw_below_drewN | apply below_drew1) | exact HB.out)) hb); clear HB; have HO160 := n0_; have HB := n1_; clear n0_ n1_; (try clear hb); (try clear hb2); (try clear hk); (try clear hi); (try clear ho0)) | ((with_reducible refine gate_callee (f := 18) rfl ?_); refine goesL_ (some 25) rfl rfl Tryd.func18 (by kernel_rfl) rfl #[.string (⟨#[120, 45, 120]⟩ : ByteArray)] rfl (by (try simp only [List.map_toArray, List.map_cons, List.map_nil]); first | done | rfl | (simp only [List.length_drop, List.length_take]; rfl)) ?_; (with_reducible refine (pattern_Morae.calls k (⟨#[120, 45, 120]⟩ : ByteArray) t161 t162 t163 _ A4.out).mono ?_); rintro e w' ⟨rfl, ⟨nd, rfl⟩⟩; refine ⟨_, rfl, ?_⟩) | ((with_reducible refine gate_callee (f := 7) rfl ?_); refine goesL_ (some 30) rfl rfl Tryd.func7 (by kernel_rfl) rfl #[.string (⟨#[45, 46, 117, 117, 46]⟩ : ByteArray)] rfl (by (try simp only [List.map_toArray, List.map_cons, List.map_nil]); first | done | rfl | (simp only [List.length_drop, List.length_take]; rfl)) ?_; (with_reducible refine (pattern_Letters.calls k (⟨#[45, 46, 117, 117, 46]⟩ : ByteArray) t164 t165 _ A5.out).mono ?_); rintro e w81 ⟨v166, rfl, ho0, hb⟩; refine ⟨_, rfl, ?_⟩; have n0_ := Aside0.mk (Kd.R_below (by (with_reducible repeat (first | apply Kd.R_alloc | apply Kd.R_drewN | apply Kd.R_drew)); exact HO160.out) hb); have n1_ := Aside0.mk (Kd.R_lower ho0 (below_size (by repeat (first | (with_reducible first | exact HB.out | apply below_alloc | apply pw_below_drewN | apply below_drew1) | exact HB.out)))); have n2_ := Aside0.mk (below_step (by repeat (first | (with_reducible first | exact HB.out | apply below_alloc | apply pw_below_drewN | apply below_drew1) | exact HB.out)) hb); clear HO160; clear HB; have HO160 := n0_; have HO167 := n1_; have HB := n2_; clear n0_ n1_ n2_; (try clear hb); (try clear hb2); (try clear hk); (try clear hi); (try clear ho0)) | ((with_reducible refine gate_callee (f := 19) rfl ?_); refine goesL_ (some 33) rfl rfl Tryd.func19 (by kernel_rfl) rfl #[.string (⟨#[120, 45]⟩ : ByteArray), .string (⟨#[117, 120]⟩ : ByteArray)] rfl (by (try simp only [List.map_toArray, List.map_cons, List.map_nil]); first | done | rfl | (simp only [List.length_drop, List.length_take]; rfl)) ?_; (with_reducible refine (pattern_Match.calls k (⟨#[120, 45]⟩ : ByteArray) (⟨#[117, 120]⟩ : ByteArray) true _ A6.out).mono ?_); rintro e w82 ⟨rfl, hb⟩; refine ⟨_, rfl, ?_⟩; have n0_ := Aside0.mk (Kd.R_below (by (with_reducible repeat (first | apply Kd.R_alloc | apply Kd.R_drewN | apply Kd.R_drew)); exact HO160.out) hb); have n1_ := Aside0.mk (Kd.R_below (by (with_reducible repeat (first | apply Kd.R_alloc | apply Kd.R_drewN | apply Kd.R_drew)); exact HO167.out) hb); have n2_ := Aside0.mk (below_step (by repeat (first | (with_reducible first | exact HB.out | apply below_alloc | apply pw_below_drewN | apply below_drew1) | exact HB.out)) hb); clear HO160; clear HO167; clear HB; have HO160 := n0_; have HO167 := n1_; have HB := n2_; clear n0_ n1_ n2_; (try clear hb); (try clear hb2); (try clear hk); (try clear hi)))
              go_ret
              exact ⟨by first | rfl | (simp [errW_none, errW_some] <;> rfl) | (simp [*, errW_none, errW_some] <;> rfl), by repeat (first | (with_reducible first | exact HB.out | apply below_alloc | apply pw_below_drewN | apply below_drew1) | exact HB.out)⟩
          · rw [if_neg c11] at H
            have c11b0 : (t155.toList == ([120, 120] : List UInt8)) = false := beq_eq_false_iff_ne.mpr c11
            have c11b1 : (t155.toList != ([120, 120] : List UInt8)) = true := bne_iff_ne.mpr c11
            obtain rfl := Option.some.inj H
            go_enter Tryd.func4, Tryd.ntmps4
            go_wp2_with (first | ((with_reducible refine gate_callee (f := 15) rfl ?_); refine goesL_ (some 13) rfl rfl Tryd.func15 (by kernel_rfl) rfl #[.string (⟨#[120, 45]⟩ : ByteArray), .string (⟨#[117, 120]⟩ : ByteArray)] rfl (by (try simp only [List.map_toArray, List.map_cons, List.map_nil]); first | done | rfl | (simp only [List.length_drop, List.length_take]; rfl)) ?_; (with_reducible refine (pattern_Meet.calls k (⟨#[120, 45]⟩ : ByteArray) (⟨#[117, 120]⟩ : ByteArray) t153 t154 _ A1.out).mono ?_); rintro e w83 ⟨rfl, hb⟩; refine ⟨_, rfl, ?_⟩; have n0_ := Aside0.mk (below_step (by repeat (first | (with_reducible first | exact HB.out | apply below_alloc | apply pw_below_drewN | apply below_drew1) | exact HB.out)) hb); clear HB; have HB := n0_; clear n0_; (try clear hb); (try clear hb2); (try clear hk); (try clear hi)) | ((with_reducible refine gate_callee (f := 16) rfl ?_); refine goesL_ (some 17) rfl rfl Tryd.func16 (by kernel_rfl) rfl #[.string (⟨#[120, 45]⟩ : ByteArray), .string (⟨#[117, 120]⟩ : ByteArray)] rfl (by (try simp only [List.map_toArray, List.map_cons, List.map_nil]); first | done | rfl | (simp only [List.length_drop, List.length_take]; rfl)) ?_; (with_reducible refine (pattern_Join.calls k (⟨#[120, 45]⟩ : ByteArray) (⟨#[117, 120]⟩ : ByteArray) t155 t156 _ A2.out).mono ?_); rintro e w84 ⟨rfl, hb⟩; refine ⟨_, rfl, ?_⟩; have n0_ := Aside0.mk (below_step (by repeat (first | (with_reducible first | exact HB.out | apply below_alloc | apply pw_below_drewN | apply below_drew1) | exact HB.out)) hb); clear HB; have HB := n0_; clear n0_; (try clear hb); (try clear hb2); (try clear hk); (try clear hi)) | ((with_reducible refine gate_callee (f := 17) rfl ?_); refine goesL_ (some 21) rfl rfl Tryd.func17 (by kernel_rfl) rfl #[.string (⟨#[120, 45, 120]⟩ : ByteArray)] rfl (by (try simp only [List.map_toArray, List.map_cons, List.map_nil]); first | done | rfl | (simp only [List.length_drop, List.length_take]; rfl)) ?_; (with_reducible refine (pattern_Expand.calls k (⟨#[120, 45, 120]⟩ : ByteArray) t157 t158 _ A3.out).mono ?_); rintro e w85 ⟨v159, rfl, ho0, hb⟩; refine ⟨_, rfl, ?_⟩; have n0_ := Aside0.mk (Kd.R_lower ho0 (below_size (by repeat (first | (with_reducible first | exact HB.out | apply below_alloc | apply pw_below_drewN | apply below_drew1) | exact HB.out)))); have n1_ := Aside0.mk (below_step (by repeat (first | (with_reducible first | exact HB.out | apply below_alloc | apply pw_below_drewN | apply below_drew1) | exact HB.out)) hb); clear HB; have HO160 := n0_; have HB := n1_; clear n0_ n1_; (try clear hb); (try clear hb2); (try clear hk); (try clear hi); (try clear ho0)) | ((with_reducible refine gate_callee (f := 18) rfl ?_); refine goesL_ (some 25) rfl rfl Tryd.func18 (by kernel_rfl) rfl #[.string (⟨#[120, 45, 120]⟩ : ByteArray)] rfl (by (try simp only [List.map_toArray, List.map_cons, List.map_nil]); first | done | rfl | (simp only [List.length_drop, List.length_take]; rfl)) ?_; (with_reducible refine (pattern_Morae.calls k (⟨#[120, 45, 120]⟩ : ByteArray) t161 t162 t163 _ A4.out).mono ?_); rintro e w' ⟨rfl, ⟨nd, rfl⟩⟩; refine ⟨_, rfl, ?_⟩) | ((with_reducible refine gate_callee (f := 7) rfl ?_); refine goesL_ (some 30) rfl rfl Tryd.func7 (by kernel_rfl) rfl #[.string (⟨#[45, 46, 117, 117, 46]⟩ : ByteArray)] rfl (by (try simp only [List.map_toArray, List.map_cons, List.map_nil]); first | done | rfl | (simp only [List.length_drop, List.length_take]; rfl)) ?_; (with_reducible refine (pattern_Letters.calls k (⟨#[45, 46, 117, 117, 46]⟩ : ByteArray) t164 t165 _ A5.out).mono ?_); rintro e w86 ⟨v166, rfl, ho0, hb⟩; refine ⟨_, rfl, ?_⟩; have n0_ := Aside0.mk (Kd.R_below (by (with_reducible repeat (first | apply Kd.R_alloc | apply Kd.R_drewN | apply Kd.R_drew)); exact HO160.out) hb); have n1_ := Aside0.mk (Kd.R_lower ho0 (below_size (by repeat (first | (with_reducible first | exact HB.out | apply below_alloc | apply pw_below_drewN | apply below_drew1) | exact HB.out)))); have n2_ := Aside0.mk (below_step (by repeat (first | (with_reducible first | exact HB.out | apply below_alloc | apply pw_below_drewN | apply below_drew1) | exact HB.out)) hb); clear HO160; clear HB; have HO160 := n0_; have HO167 := n1_; have HB := n2_; clear n0_ n1_ n2_; (try clear hb); (try clear hb2); (try clear hk); (try clear hi); (try clear ho0)) | ((with_reducible refine gate_callee (f := 19) rfl ?_); refine goesL_ (some 33) rfl rfl Tryd.func19 (by kernel_rfl) rfl #[.string (⟨#[120, 45]⟩ : ByteArray), .string (⟨#[117, 120]⟩ : ByteArray)] rfl (by (try simp only [List.map_toArray, List.map_cons, List.map_nil]); first | done | rfl | (simp only [List.length_drop, List.length_take]; rfl)) ?_; (with_reducible refine (pattern_Match.calls k (⟨#[120, 45]⟩ : ByteArray) (⟨#[117, 120]⟩ : ByteArray) true _ A6.out).mono ?_); rintro e w87 ⟨rfl, hb⟩; refine ⟨_, rfl, ?_⟩; have n0_ := Aside0.mk (Kd.R_below (by (with_reducible repeat (first | apply Kd.R_alloc | apply Kd.R_drewN | apply Kd.R_drew)); exact HO160.out) hb); have n1_ := Aside0.mk (Kd.R_below (by (with_reducible repeat (first | apply Kd.R_alloc | apply Kd.R_drewN | apply Kd.R_drew)); exact HO167.out) hb); have n2_ := Aside0.mk (below_step (by repeat (first | (with_reducible first | exact HB.out | apply below_alloc | apply pw_below_drewN | apply below_drew1) | exact HB.out)) hb); clear HO160; clear HO167; clear HB; have HO160 := n0_; have HO167 := n1_; have HB := n2_; clear n0_ n1_ n2_; (try clear hb); (try clear hb2); (try clear hk); (try clear hi)))
            go_ret
            exact ⟨by first | rfl | (simp [errW_none, errW_some] <;> rfl) | (simp [*, errW_none, errW_some] <;> rfl), by repeat (first | (with_reducible first | exact HB.out | apply below_alloc | apply pw_below_drewN | apply below_drew1) | exact HB.out)⟩
        · rw [if_neg c10] at H
          have c10b0 : (t156 == 0) = false := beq_eq_false_iff_ne.mpr c10
          have c10b1 : (t156 != 0) = true := bne_iff_ne.mpr c10
          obtain rfl := Option.some.inj H
          go_enter Tryd.func4, Tryd.ntmps4
          go_wp2_with (first | ((with_reducible refine gate_callee (f := 15) rfl ?_); refine goesL_ (some 13) rfl rfl Tryd.func15 (by kernel_rfl) rfl #[.string (⟨#[120, 45]⟩ : ByteArray), .string (⟨#[117, 120]⟩ : ByteArray)] rfl (by (try simp only [List.map_toArray, List.map_cons, List.map_nil]); first | done | rfl | (simp only [List.length_drop, List.length_take]; rfl)) ?_; (with_reducible refine (pattern_Meet.calls k (⟨#[120, 45]⟩ : ByteArray) (⟨#[117, 120]⟩ : ByteArray) t153 t154 _ A1.out).mono ?_); rintro e w88 ⟨rfl, hb⟩; refine ⟨_, rfl, ?_⟩; have n0_ := Aside0.mk (below_step (by repeat (first | (with_reducible first | exact HB.out | apply below_alloc | apply pw_below_drewN | apply below_drew1) | exact HB.out)) hb); clear HB; have HB := n0_; clear n0_; (try clear hb); (try clear hb2); (try clear hk); (try clear hi)) | ((with_reducible refine gate_callee (f := 16) rfl ?_); refine goesL_ (some 17) rfl rfl Tryd.func16 (by kernel_rfl) rfl #[.string (⟨#[120, 45]⟩ : ByteArray), .string (⟨#[117, 120]⟩ : ByteArray)] rfl (by (try simp only [List.map_toArray, List.map_cons, List.map_nil]); first | done | rfl | (simp only [List.length_drop, List.length_take]; rfl)) ?_; (with_reducible refine (pattern_Join.calls k (⟨#[120, 45]⟩ : ByteArray) (⟨#[117, 120]⟩ : ByteArray) t155 t156 _ A2.out).mono ?_); rintro e w89 ⟨rfl, hb⟩; refine ⟨_, rfl, ?_⟩; have n0_ := Aside0.mk (below_step (by repeat (first | (with_reducible first | exact HB.out | apply below_alloc | apply pw_below_drewN | apply below_drew1) | exact HB.out)) hb); clear HB; have HB := n0_; clear n0_; (try clear hb); (try clear hb2); (try clear hk); (try clear hi)) | ((with_reducible refine gate_callee (f := 17) rfl ?_); refine goesL_ (some 21) rfl rfl Tryd.func17 (by kernel_rfl) rfl #[.string (⟨#[120, 45, 120]⟩ : ByteArray)] rfl (by (try simp only [List.map_toArray, List.map_cons, List.map_nil]); first | done | rfl | (simp only [List.length_drop, List.length_take]; rfl)) ?_; (with_reducible refine (pattern_Expand.calls k (⟨#[120, 45, 120]⟩ : ByteArray) t157 t158 _ A3.out).mono ?_); rintro e w90 ⟨v159, rfl, ho0, hb⟩; refine ⟨_, rfl, ?_⟩; have n0_ := Aside0.mk (Kd.R_lower ho0 (below_size (by repeat (first | (with_reducible first | exact HB.out | apply below_alloc | apply pw_below_drewN | apply below_drew1) | exact HB.out)))); have n1_ := Aside0.mk (below_step (by repeat (first | (with_reducible first | exact HB.out | apply below_alloc | apply pw_below_drewN | apply below_drew1) | exact HB.out)) hb); clear HB; have HO160 := n0_; have HB := n1_; clear n0_ n1_; (try clear hb); (try clear hb2); (try clear hk); (try clear hi); (try clear ho0)) | ((with_reducible refine gate_callee (f := 18) rfl ?_); refine goesL_ (some 25) rfl rfl Tryd.func18 (by kernel_rfl) rfl #[.string (⟨#[120, 45, 120]⟩ : ByteArray)] rfl (by (try simp only [List.map_toArray, List.map_cons, List.map_nil]); first | done | rfl | (simp only [List.length_drop, List.length_take]; rfl)) ?_; (with_reducible refine (pattern_Morae.calls k (⟨#[120, 45, 120]⟩ : ByteArray) t161 t162 t163 _ A4.out).mono ?_); rintro e w' ⟨rfl, ⟨nd, rfl⟩⟩; refine ⟨_, rfl, ?_⟩) | ((with_reducible refine gate_callee (f := 7) rfl ?_); refine goesL_ (some 30) rfl rfl Tryd.func7 (by kernel_rfl) rfl #[.string (⟨#[45, 46, 117, 117, 46]⟩ : ByteArray)] rfl (by (try simp only [List.map_toArray, List.map_cons, List.map_nil]); first | done | rfl | (simp only [List.length_drop, List.length_take]; rfl)) ?_; (with_reducible refine (pattern_Letters.calls k (⟨#[45, 46, 117, 117, 46]⟩ : ByteArray) t164 t165 _ A5.out).mono ?_); rintro e w91 ⟨v166, rfl, ho0, hb⟩; refine ⟨_, rfl, ?_⟩; have n0_ := Aside0.mk (Kd.R_below (by (with_reducible repeat (first | apply Kd.R_alloc | apply Kd.R_drewN | apply Kd.R_drew)); exact HO160.out) hb); have n1_ := Aside0.mk (Kd.R_lower ho0 (below_size (by repeat (first | (with_reducible first | exact HB.out | apply below_alloc | apply pw_below_drewN | apply below_drew1) | exact HB.out)))); have n2_ := Aside0.mk (below_step (by repeat (first | (with_reducible first | exact HB.out | apply below_alloc | apply pw_below_drewN | apply below_drew1) | exact HB.out)) hb); clear HO160; clear HB; have HO160 := n0_; have HO167 := n1_; have HB := n2_; clear n0_ n1_ n2_; (try clear hb); (try clear hb2); (try clear hk); (try clear hi); (try clear ho0)) | ((with_reducible refine gate_callee (f := 19) rfl ?_); refine goesL_ (some 33) rfl rfl Tryd.func19 (by kernel_rfl) rfl #[.string (⟨#[120, 45]⟩ : ByteArray), .string (⟨#[117, 120]⟩ : ByteArray)] rfl (by (try simp only [List.map_toArray, List.map_cons, List.map_nil]); first | done | rfl | (simp only [List.length_drop, List.length_take]; rfl)) ?_; (with_reducible refine (pattern_Match.calls k (⟨#[120, 45]⟩ : ByteArray) (⟨#[117, 120]⟩ : ByteArray) true _ A6.out).mono ?_); rintro e w92 ⟨rfl, hb⟩; refine ⟨_, rfl, ?_⟩; have n0_ := Aside0.mk (Kd.R_below (by (with_reducible repeat (first | apply Kd.R_alloc | apply Kd.R_drewN | apply Kd.R_drew)); exact HO160.out) hb); have n1_ := Aside0.mk (Kd.R_below (by (with_reducible repeat (first | apply Kd.R_alloc | apply Kd.R_drewN | apply Kd.R_drew)); exact HO167.out) hb); have n2_ := Aside0.mk (below_step (by repeat (first | (with_reducible first | exact HB.out | apply below_alloc | apply pw_below_drewN | apply below_drew1) | exact HB.out)) hb); clear HO160; clear HO167; clear HB; have HO160 := n0_; have HO167 := n1_; have HB := n2_; clear n0_ n1_ n2_; (try clear hb); (try clear hb2); (try clear hk); (try clear hi)))
          go_ret
          exact ⟨by first | rfl | (simp [errW_none, errW_some] <;> rfl) | (simp [*, errW_none, errW_some] <;> rfl), by repeat (first | (with_reducible first | exact HB.out | apply below_alloc | apply pw_below_drewN | apply below_drew1) | exact HB.out)⟩
      · rw [if_neg c9] at H
        have c9b0 : (t153.toList == ([117, 45] : List UInt8)) = false := beq_eq_false_iff_ne.mpr c9
        have c9b1 : (t153.toList != ([117, 45] : List UInt8)) = true := bne_iff_ne.mpr c9
        obtain rfl := Option.some.inj H
        go_enter Tryd.func4, Tryd.ntmps4
        go_wp2_with (first | ((with_reducible refine gate_callee (f := 15) rfl ?_); refine goesL_ (some 13) rfl rfl Tryd.func15 (by kernel_rfl) rfl #[.string (⟨#[120, 45]⟩ : ByteArray), .string (⟨#[117, 120]⟩ : ByteArray)] rfl (by (try simp only [List.map_toArray, List.map_cons, List.map_nil]); first | done | rfl | (simp only [List.length_drop, List.length_take]; rfl)) ?_; (with_reducible refine (pattern_Meet.calls k (⟨#[120, 45]⟩ : ByteArray) (⟨#[117, 120]⟩ : ByteArray) t153 t154 _ A1.out).mono ?_); rintro e w93 ⟨rfl, hb⟩; refine ⟨_, rfl, ?_⟩; have n0_ := Aside0.mk (below_step (by repeat (first | (with_reducible first | exact HB.out | apply below_alloc | apply pw_below_drewN | apply below_drew1) | exact HB.out)) hb); clear HB; have HB := n0_; clear n0_; (try clear hb); (try clear hb2); (try clear hk); (try clear hi)) | ((with_reducible refine gate_callee (f := 16) rfl ?_); refine goesL_ (some 17) rfl rfl Tryd.func16 (by kernel_rfl) rfl #[.string (⟨#[120, 45]⟩ : ByteArray), .string (⟨#[117, 120]⟩ : ByteArray)] rfl (by (try simp only [List.map_toArray, List.map_cons, List.map_nil]); first | done | rfl | (simp only [List.length_drop, List.length_take]; rfl)) ?_; (with_reducible refine (pattern_Join.calls k (⟨#[120, 45]⟩ : ByteArray) (⟨#[117, 120]⟩ : ByteArray) t155 t156 _ A2.out).mono ?_); rintro e w94 ⟨rfl, hb⟩; refine ⟨_, rfl, ?_⟩; have n0_ := Aside0.mk (below_step (by repeat (first | (with_reducible first | exact HB.out | apply below_alloc | apply pw_below_drewN | apply below_drew1) | exact HB.out)) hb); clear HB; have HB := n0_; clear n0_; (try clear hb); (try clear hb2); (try clear hk); (try clear hi)) | ((with_reducible refine gate_callee (f := 17) rfl ?_); refine goesL_ (some 21) rfl rfl Tryd.func17 (by kernel_rfl) rfl #[.string (⟨#[120, 45, 120]⟩ : ByteArray)] rfl (by (try simp only [List.map_toArray, List.map_cons, List.map_nil]); first | done | rfl | (simp only [List.length_drop, List.length_take]; rfl)) ?_; (with_reducible refine (pattern_Expand.calls k (⟨#[120, 45, 120]⟩ : ByteArray) t157 t158 _ A3.out).mono ?_); rintro e w95 ⟨v159, rfl, ho0, hb⟩; refine ⟨_, rfl, ?_⟩; have n0_ := Aside0.mk (Kd.R_lower ho0 (below_size (by repeat (first | (with_reducible first | exact HB.out | apply below_alloc | apply pw_below_drewN | apply below_drew1) | exact HB.out)))); have n1_ := Aside0.mk (below_step (by repeat (first | (with_reducible first | exact HB.out | apply below_alloc | apply pw_below_drewN | apply below_drew1) | exact HB.out)) hb); clear HB; have HO160 := n0_; have HB := n1_; clear n0_ n1_; (try clear hb); (try clear hb2); (try clear hk); (try clear hi); (try clear ho0)) | ((with_reducible refine gate_callee (f := 18) rfl ?_); refine goesL_ (some 25) rfl rfl Tryd.func18 (by kernel_rfl) rfl #[.string (⟨#[120, 45, 120]⟩ : ByteArray)] rfl (by (try simp only [List.map_toArray, List.map_cons, List.map_nil]); first | done | rfl | (simp only [List.length_drop, List.length_take]; rfl)) ?_; (with_reducible refine (pattern_Morae.calls k (⟨#[120, 45, 120]⟩ : ByteArray) t161 t162 t163 _ A4.out).mono ?_); rintro e w' ⟨rfl, ⟨nd, rfl⟩⟩; refine ⟨_, rfl, ?_⟩) | ((with_reducible refine gate_callee (f := 7) rfl ?_); refine goesL_ (some 30) rfl rfl Tryd.func7 (by kernel_rfl) rfl #[.string (⟨#[45, 46, 117, 117, 46]⟩ : ByteArray)] rfl (by (try simp only [List.map_toArray, List.map_cons, List.map_nil]); first | done | rfl | (simp only [List.length_drop, List.length_take]; rfl)) ?_; (with_reducible refine (pattern_Letters.calls k (⟨#[45, 46, 117, 117, 46]⟩ : ByteArray) t164 t165 _ A5.out).mono ?_); rintro e w96 ⟨v166, rfl, ho0, hb⟩; refine ⟨_, rfl, ?_⟩; have n0_ := Aside0.mk (Kd.R_below (by (with_reducible repeat (first | apply Kd.R_alloc | apply Kd.R_drewN | apply Kd.R_drew)); exact HO160.out) hb); have n1_ := Aside0.mk (Kd.R_lower ho0 (below_size (by repeat (first | (with_reducible first | exact HB.out | apply below_alloc | apply pw_below_drewN | apply below_drew1) | exact HB.out)))); have n2_ := Aside0.mk (below_step (by repeat (first | (with_reducible first | exact HB.out | apply below_alloc | apply pw_below_drewN | apply below_drew1) | exact HB.out)) hb); clear HO160; clear HB; have HO160 := n0_; have HO167 := n1_; have HB := n2_; clear n0_ n1_ n2_; (try clear hb); (try clear hb2); (try clear hk); (try clear hi); (try clear ho0)) | ((with_reducible refine gate_callee (f := 19) rfl ?_); refine goesL_ (some 33) rfl rfl Tryd.func19 (by kernel_rfl) rfl #[.string (⟨#[120, 45]⟩ : ByteArray), .string (⟨#[117, 120]⟩ : ByteArray)] rfl (by (try simp only [List.map_toArray, List.map_cons, List.map_nil]); first | done | rfl | (simp only [List.length_drop, List.length_take]; rfl)) ?_; (with_reducible refine (pattern_Match.calls k (⟨#[120, 45]⟩ : ByteArray) (⟨#[117, 120]⟩ : ByteArray) true _ A6.out).mono ?_); rintro e w97 ⟨rfl, hb⟩; refine ⟨_, rfl, ?_⟩; have n0_ := Aside0.mk (Kd.R_below (by (with_reducible repeat (first | apply Kd.R_alloc | apply Kd.R_drewN | apply Kd.R_drew)); exact HO160.out) hb); have n1_ := Aside0.mk (Kd.R_below (by (with_reducible repeat (first | apply Kd.R_alloc | apply Kd.R_drewN | apply Kd.R_drew)); exact HO167.out) hb); have n2_ := Aside0.mk (below_step (by repeat (first | (with_reducible first | exact HB.out | apply below_alloc | apply pw_below_drewN | apply below_drew1) | exact HB.out)) hb); clear HO160; clear HO167; clear HB; have HO160 := n0_; have HO167 := n1_; have HB := n2_; clear n0_ n1_ n2_; (try clear hb); (try clear hb2); (try clear hk); (try clear hi)))
        go_ret
        exact ⟨by first | rfl | (simp [errW_none, errW_some] <;> rfl) | (simp [*, errW_none, errW_some] <;> rfl), by repeat (first | (with_reducible first | exact HB.out | apply below_alloc | apply pw_below_drewN | apply below_drew1) | exact HB.out)⟩
    · rw [if_neg c8] at H
      have c8b0 : (t154 == 0) = false := beq_eq_false_iff_ne.mpr c8
      have c8b1 : (t154 != 0) = true := bne_iff_ne.mpr c8
      obtain rfl := Option.some.inj H
      go_enter Tryd.func4, Tryd.ntmps4
      go_wp2_with (first | ((with_reducible refine gate_callee (f := 15) rfl ?_); refine goesL_ (some 13) rfl rfl Tryd.func15 (by kernel_rfl) rfl #[.string (⟨#[120, 45]⟩ : ByteArray), .string (⟨#[117, 120]⟩ : ByteArray)] rfl (by (try simp only [List.map_toArray, List.map_cons, List.map_nil]); first | done | rfl | (simp only [List.length_drop, List.length_take]; rfl)) ?_; (with_reducible refine (pattern_Meet.calls k (⟨#[120, 45]⟩ : ByteArray) (⟨#[117, 120]⟩ : ByteArray) t153 t154 _ A1.out).mono ?_); rintro e w98 ⟨rfl, hb⟩; refine ⟨_, rfl, ?_⟩; have n0_ := Aside0.mk (below_step (by repeat (first | (with_reducible first | exact HB.out | apply below_alloc | apply pw_below_drewN | apply below_drew1) | exact HB.out)) hb); clear HB; have HB := n0_; clear n0_; (try clear hb); (try clear hb2); (try clear hk); (try clear hi)) | ((with_reducible refine gate_callee (f := 16) rfl ?_); refine goesL_ (some 17) rfl rfl Tryd.func16 (by kernel_rfl) rfl #[.string (⟨#[120, 45]⟩ : ByteArray), .string (⟨#[117, 120]⟩ : ByteArray)] rfl (by (try simp only [List.map_toArray, List.map_cons, List.map_nil]); first | done | rfl | (simp only [List.length_drop, List.length_take]; rfl)) ?_; (with_reducible refine (pattern_Join.calls k (⟨#[120, 45]⟩ : ByteArray) (⟨#[117, 120]⟩ : ByteArray) t155 t156 _ A2.out).mono ?_); rintro e w99 ⟨rfl, hb⟩; refine ⟨_, rfl, ?_⟩; have n0_ := Aside0.mk (below_step (by repeat (first | (with_reducible first | exact HB.out | apply below_alloc | apply pw_below_drewN | apply below_drew1) | exact HB.out)) hb); clear HB; have HB := n0_; clear n0_; (try clear hb); (try clear hb2); (try clear hk); (try clear hi)) | ((with_reducible refine gate_callee (f := 17) rfl ?_); refine goesL_ (some 21) rfl rfl Tryd.func17 (by kernel_rfl) rfl #[.string (⟨#[120, 45, 120]⟩ : ByteArray)] rfl (by (try simp only [List.map_toArray, List.map_cons, List.map_nil]); first | done | rfl | (simp only [List.length_drop, List.length_take]; rfl)) ?_; (with_reducible refine (pattern_Expand.calls k (⟨#[120, 45, 120]⟩ : ByteArray) t157 t158 _ A3.out).mono ?_); rintro e w100 ⟨v159, rfl, ho0, hb⟩; refine ⟨_, rfl, ?_⟩; have n0_ := Aside0.mk (Kd.R_lower ho0 (below_size (by repeat (first | (with_reducible first | exact HB.out | apply below_alloc | apply pw_below_drewN | apply below_drew1) | exact HB.out)))); have n1_ := Aside0.mk (below_step (by repeat (first | (with_reducible first | exact HB.out | apply below_alloc | apply pw_below_drewN | apply below_drew1) | exact HB.out)) hb); clear HB; have HO160 := n0_; have HB := n1_; clear n0_ n1_; (try clear hb); (try clear hb2); (try clear hk); (try clear hi); (try clear ho0)) | ((with_reducible refine gate_callee (f := 18) rfl ?_); refine goesL_ (some 25) rfl rfl Tryd.func18 (by kernel_rfl) rfl #[.string (⟨#[120, 45, 120]⟩ : ByteArray)] rfl (by (try simp only [List.map_toArray, List.map_cons, List.map_nil]); first | done | rfl | (simp only [List.length_drop, List.length_take]; rfl)) ?_; (with_reducible refine (pattern_Morae.calls k (⟨#[120, 45, 120]⟩ : ByteArray) t161 t162 t163 _ A4.out).mono ?_); rintro e w' ⟨rfl, ⟨nd, rfl⟩⟩; refine ⟨_, rfl, ?_⟩) | ((with_reducible refine gate_callee (f := 7) rfl ?_); refine goesL_ (some 30) rfl rfl Tryd.func7 (by kernel_rfl) rfl #[.string (⟨#[45, 46, 117, 117, 46]⟩ : ByteArray)] rfl (by (try simp only [List.map_toArray, List.map_cons, List.map_nil]); first | done | rfl | (simp only [List.length_drop, List.length_take]; rfl)) ?_; (with_reducible refine (pattern_Letters.calls k (⟨#[45, 46, 117, 117, 46]⟩ : ByteArray) t164 t165 _ A5.out).mono ?_); rintro e w101 ⟨v166, rfl, ho0, hb⟩; refine ⟨_, rfl, ?_⟩; have n0_ := Aside0.mk (Kd.R_below (by (with_reducible repeat (first | apply Kd.R_alloc | apply Kd.R_drewN | apply Kd.R_drew)); exact HO160.out) hb); have n1_ := Aside0.mk (Kd.R_lower ho0 (below_size (by repeat (first | (with_reducible first | exact HB.out | apply below_alloc | apply pw_below_drewN | apply below_drew1) | exact HB.out)))); have n2_ := Aside0.mk (below_step (by repeat (first | (with_reducible first | exact HB.out | apply below_alloc | apply pw_below_drewN | apply below_drew1) | exact HB.out)) hb); clear HO160; clear HB; have HO160 := n0_; have HO167 := n1_; have HB := n2_; clear n0_ n1_ n2_; (try clear hb); (try clear hb2); (try clear hk); (try clear hi); (try clear ho0)) | ((with_reducible refine gate_callee (f := 19) rfl ?_); refine goesL_ (some 33) rfl rfl Tryd.func19 (by kernel_rfl) rfl #[.string (⟨#[120, 45]⟩ : ByteArray), .string (⟨#[117, 120]⟩ : ByteArray)] rfl (by (try simp only [List.map_toArray, List.map_cons, List.map_nil]); first | done | rfl | (simp only [List.length_drop, List.length_take]; rfl)) ?_; (with_reducible refine (pattern_Match.calls k (⟨#[120, 45]⟩ : ByteArray) (⟨#[117, 120]⟩ : ByteArray) true _ A6.out).mono ?_); rintro e w102 ⟨rfl, hb⟩; refine ⟨_, rfl, ?_⟩; have n0_ := Aside0.mk (Kd.R_below (by (with_reducible repeat (first | apply Kd.R_alloc | apply Kd.R_drewN | apply Kd.R_drew)); exact HO160.out) hb); have n1_ := Aside0.mk (Kd.R_below (by (with_reducible repeat (first | apply Kd.R_alloc | apply Kd.R_drewN | apply Kd.R_drew)); exact HO167.out) hb); have n2_ := Aside0.mk (below_step (by repeat (first | (with_reducible first | exact HB.out | apply below_alloc | apply pw_below_drewN | apply below_drew1) | exact HB.out)) hb); clear HO160; clear HO167; clear HB; have HO160 := n0_; have HO167 := n1_; have HB := n2_; clear n0_ n1_ n2_; (try clear hb); (try clear hb2); (try clear hk); (try clear hi)))
      go_ret
      exact ⟨by first | rfl | (simp [errW_none, errW_some] <;> rfl) | (simp [*, errW_none, errW_some] <;> rfl), by repeat (first | (with_reducible first | exact HB.out | apply below_alloc | apply pw_below_drewN | apply below_drew1) | exact HB.out)⟩
  · replace c7 := Bool.eq_false_iff.mpr c7
    subst c7
    have H1 : (some false) = some r := by rw [if_neg (show ¬ (false = true) by decide)] at H; exact H
    clear H
    have H := H1
    clear H1
    obtain rfl := Option.some.inj H
    go_enter Tryd.func4, Tryd.ntmps4
    go_wp2_with (first | ((with_reducible refine gate_callee (f := 15) rfl ?_); refine goesL_ (some 13) rfl rfl Tryd.func15 (by kernel_rfl) rfl #[.string (⟨#[120, 45]⟩ : ByteArray), .string (⟨#[117, 120]⟩ : ByteArray)] rfl (by (try simp only [List.map_toArray, List.map_cons, List.map_nil]); first | done | rfl | (simp only [List.length_drop, List.length_take]; rfl)) ?_; (with_reducible refine (pattern_Meet.calls k (⟨#[120, 45]⟩ : ByteArray) (⟨#[117, 120]⟩ : ByteArray) t153 t154 _ A1.out).mono ?_); rintro e w103 ⟨rfl, hb⟩; refine ⟨_, rfl, ?_⟩; have n0_ := Aside0.mk (below_step (by repeat (first | (with_reducible first | exact HB.out | apply below_alloc | apply pw_below_drewN | apply below_drew1) | exact HB.out)) hb); clear HB; have HB := n0_; clear n0_; (try clear hb); (try clear hb2); (try clear hk); (try clear hi)) | ((with_reducible refine gate_callee (f := 16) rfl ?_); refine goesL_ (some 17) rfl rfl Tryd.func16 (by kernel_rfl) rfl #[.string (⟨#[120, 45]⟩ : ByteArray), .string (⟨#[117, 120]⟩ : ByteArray)] rfl (by (try simp only [List.map_toArray, List.map_cons, List.map_nil]); first | done | rfl | (simp only [List.length_drop, List.length_take]; rfl)) ?_; (with_reducible refine (pattern_Join.calls k (⟨#[120, 45]⟩ : ByteArray) (⟨#[117, 120]⟩ : ByteArray) t155 t156 _ A2.out).mono ?_); rintro e w104 ⟨rfl, hb⟩; refine ⟨_, rfl, ?_⟩; have n0_ := Aside0.mk (below_step (by repeat (first | (with_reducible first | exact HB.out | apply below_alloc | apply pw_below_drewN | apply below_drew1) | exact HB.out)) hb); clear HB; have HB := n0_; clear n0_; (try clear hb); (try clear hb2); (try clear hk); (try clear hi)) | ((with_reducible refine gate_callee (f := 17) rfl ?_); refine goesL_ (some 21) rfl rfl Tryd.func17 (by kernel_rfl) rfl #[.string (⟨#[120, 45, 120]⟩ : ByteArray)] rfl (by (try simp only [List.map_toArray, List.map_cons, List.map_nil]); first | done | rfl | (simp only [List.length_drop, List.length_take]; rfl)) ?_; (with_reducible refine (pattern_Expand.calls k (⟨#[120, 45, 120]⟩ : ByteArray) t157 t158 _ A3.out).mono ?_); rintro e w105 ⟨v159, rfl, ho0, hb⟩; refine ⟨_, rfl, ?_⟩; have n0_ := Aside0.mk (Kd.R_lower ho0 (below_size (by repeat (first | (with_reducible first | exact HB.out | apply below_alloc | apply pw_below_drewN | apply below_drew1) | exact HB.out)))); have n1_ := Aside0.mk (below_step (by repeat (first | (with_reducible first | exact HB.out | apply below_alloc | apply pw_below_drewN | apply below_drew1) | exact HB.out)) hb); clear HB; have HO160 := n0_; have HB := n1_; clear n0_ n1_; (try clear hb); (try clear hb2); (try clear hk); (try clear hi); (try clear ho0)) | ((with_reducible refine gate_callee (f := 18) rfl ?_); refine goesL_ (some 25) rfl rfl Tryd.func18 (by kernel_rfl) rfl #[.string (⟨#[120, 45, 120]⟩ : ByteArray)] rfl (by (try simp only [List.map_toArray, List.map_cons, List.map_nil]); first | done | rfl | (simp only [List.length_drop, List.length_take]; rfl)) ?_; (with_reducible refine (pattern_Morae.calls k (⟨#[120, 45, 120]⟩ : ByteArray) t161 t162 t163 _ A4.out).mono ?_); rintro e w' ⟨rfl, ⟨nd, rfl⟩⟩; refine ⟨_, rfl, ?_⟩) | ((with_reducible refine gate_callee (f := 7) rfl ?_); refine goesL_ (some 30) rfl rfl Tryd.func7 (by kernel_rfl) rfl #[.string (⟨#[45, 46, 117, 117, 46]⟩ : ByteArray)] rfl (by (try simp only [List.map_toArray, List.map_cons, List.map_nil]); first | done | rfl | (simp only [List.length_drop, List.length_take]; rfl)) ?_; (with_reducible refine (pattern_Letters.calls k (⟨#[45, 46, 117, 117, 46]⟩ : ByteArray) t164 t165 _ A5.out).mono ?_); rintro e w106 ⟨v166, rfl, ho0, hb⟩; refine ⟨_, rfl, ?_⟩; have n0_ := Aside0.mk (Kd.R_below (by (with_reducible repeat (first | apply Kd.R_alloc | apply Kd.R_drewN | apply Kd.R_drew)); exact HO160.out) hb); have n1_ := Aside0.mk (Kd.R_lower ho0 (below_size (by repeat (first | (with_reducible first | exact HB.out | apply below_alloc | apply pw_below_drewN | apply below_drew1) | exact HB.out)))); have n2_ := Aside0.mk (below_step (by repeat (first | (with_reducible first | exact HB.out | apply below_alloc | apply pw_below_drewN | apply below_drew1) | exact HB.out)) hb); clear HO160; clear HB; have HO160 := n0_; have HO167 := n1_; have HB := n2_; clear n0_ n1_ n2_; (try clear hb); (try clear hb2); (try clear hk); (try clear hi); (try clear ho0)) | ((with_reducible refine gate_callee (f := 19) rfl ?_); refine goesL_ (some 33) rfl rfl Tryd.func19 (by kernel_rfl) rfl #[.string (⟨#[120, 45]⟩ : ByteArray), .string (⟨#[117, 120]⟩ : ByteArray)] rfl (by (try simp only [List.map_toArray, List.map_cons, List.map_nil]); first | done | rfl | (simp only [List.length_drop, List.length_take]; rfl)) ?_; (with_reducible refine (pattern_Match.calls k (⟨#[120, 45]⟩ : ByteArray) (⟨#[117, 120]⟩ : ByteArray) false _ A6.out).mono ?_); rintro e w107 ⟨rfl, hb⟩; refine ⟨_, rfl, ?_⟩; have n0_ := Aside0.mk (Kd.R_below (by (with_reducible repeat (first | apply Kd.R_alloc | apply Kd.R_drewN | apply Kd.R_drew)); exact HO160.out) hb); have n1_ := Aside0.mk (Kd.R_below (by (with_reducible repeat (first | apply Kd.R_alloc | apply Kd.R_drewN | apply Kd.R_drew)); exact HO167.out) hb); have n2_ := Aside0.mk (below_step (by repeat (first | (with_reducible first | exact HB.out | apply below_alloc | apply pw_below_drewN | apply below_drew1) | exact HB.out)) hb); clear HO160; clear HO167; clear HB; have HO160 := n0_; have HO167 := n1_; have HB := n2_; clear n0_ n1_ n2_; (try clear hb); (try clear hb2); (try clear hk); (try clear hi)))
    go_ret
    exact ⟨by first | rfl | (simp [errW_none, errW_some] <;> rfl) | (simp [*, errW_none, errW_some] <;> rfl), by repeat (first | (with_reducible first | exact HB.out | apply below_alloc | apply pw_below_drewN | apply below_drew1) | exact HB.out)⟩

end Go.Proofs.YtbecdafbkdchkaaDoor.X
