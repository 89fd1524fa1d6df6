-- printed by this session's xprint.py: out of the translation, by the kit's print with additions; Lean checks it
import Derived.Test.YtbecdafbkdchkaaWN
import Derived.Test.YtbecdafbkdchkaaWShare
import Derived.Test.YtbecdafbkdchkaaWRepsOne
import Derived.Test.YtbecdafbkdchkaaX0
import Derived.Test.YtbecdafbkdchkaaX1
namespace Go.Proofs.Ytbecdafbkdchkaa.X
open Go.RowKit Go.Proofs.YtbecdafbkdchkaaW.PrintWords Go.Proofs.YtbecdafbkdchkaaW.PrintLast Go.Proofs.YtbecdafbkdchkaaW.PrintMore
attribute [local go_sem] max2_int min2_int max_two min_two max_three min_three max_four min_four isSome_setCell   -- for this text's walks alone
set_option linter.unusedVariables false
set_option linter.unusedSimpArgs false

/-! ### strings_Count: function 33 -/
def strings_Count.f (a0 : ByteArray) (a1 : ByteArray) : Option (Int) := if a1.size = 1 then some ((Lib.countByte a0.data.toList (a1.data.toList.getD 0 0) : Int)) else none
theorem strings_Count.calls (a0 : ByteArray) (a1 : ByteArray) (r : Int) (w : World) (h : strings_Count.f a0 a1 = some r) :
    Calls Try.prog 33 #[.string a0, .string a1] w fun e w' => e = .returned (.int .i64 r) ∧ Drawn0 w w' := by
  unfold strings_Count.f at h
  split at h
  · rename_i hg
    obtain rfl := Option.some.inj h
    obtain ⟨c, rfl⟩ : ∃ c : UInt8, a1 = ⟨#[c]⟩ := by
      obtain ⟨⟨l⟩⟩ := a1
      match l, hg with
      | [c], _ => exact ⟨c, rfl⟩
    exact (Try.strings_Count_one a0 c w).mono fun e w' ⟨he, hw⟩ => ⟨he, hw ▸ Drawn0.refl _⟩
  · cases h

/-! ### pattern_Morae: function 17 -/
def pattern_Morae.f (k : Nat) (a0 : ByteArray) : Option (Int × Int × Int) := (pattern_Valid.f k a0).bind fun t126 => (if t126 = 0 then ((strings_Count.f a0 (⟨#[45]⟩ : ByteArray)).bind fun t127 => ((strings_Count.f a0 (⟨#[120]⟩ : ByteArray)).bind fun t128 => (some (wrap64 ((a0.size : Int) + t127), wrap64 ((wrap64 ((a0.size : Int) + t127)) + t128), 0)))) else (some (0, 0, t126)))
theorem pattern_Morae.mono : ∀ a0 k, LeO (pattern_Morae.f k a0) (pattern_Morae.f (k + 1) a0) := by
  intro a0 k
  unfold pattern_Morae.f
  repeat' first
      | (with_reducible exact pattern_Valid.mono _ _)
      | (with_reducible exact LeO.refl _)
      | (with_reducible exact LeO.none _)
      | (with_reducible refine LeO.ite ?_ ?_)
      | (with_reducible refine LeO.bind ?_ (fun _ => ?_))
      | exact pattern_Valid.mono _ _
      | exact LeO.none _
      | refine LeO.ite ?_ ?_
      | refine LeO.bind ?_ (fun _ => ?_)
set_option maxHeartbeats 8000000 in
set_option maxRecDepth 100000 in
theorem pattern_Morae.calls (k : Nat) (a0 : ByteArray) (r1 : Int) (r2 : Int) (r3 : Int) (w : World) (h : pattern_Morae.f k a0 = some (r1, r2, r3)) :
    Calls Try.prog 17 #[.string a0] w fun e w' => e = .returned (.tuple #[.int .i64 r1, .int .i64 r2, .int .i64 r3]) ∧ Drawn0 w w' := by
  have H : ((pattern_Valid.f k a0).bind fun t126 => (if t126 = 0 then ((strings_Count.f a0 (⟨#[45]⟩ : ByteArray)).bind fun t127 => ((strings_Count.f a0 (⟨#[120]⟩ : ByteArray)).bind fun t128 => (some (wrap64 ((a0.size : Int) + t127), wrap64 ((wrap64 ((a0.size : Int) + t127)) + t128), 0)))) else (some (0, 0, t126)))) = some (r1, r2, r3) := h
  clear h
  replace H := Option.bind_eq_some_iff.mp H
  obtain ⟨t126, A20, H⟩ := H
  replace H : (if t126 = 0 then ((strings_Count.f a0 (⟨#[45]⟩ : ByteArray)).bind fun t127 => ((strings_Count.f a0 (⟨#[120]⟩ : ByteArray)).bind fun t128 => (some (wrap64 ((a0.size : Int) + t127), wrap64 ((wrap64 ((a0.size : Int) + t127)) + t128), 0)))) else (some (0, 0, t126))) = some (r1, r2, r3) := H
  have A2 := Aside0.mk A20
  clear A20
  by_cases c3 : t126 = 0
  · rw [if_pos c3] at H
    have c3b0 : (t126 == 0) = true := beq_iff_eq.mpr c3
    have c3b1 : (t126 != 0) = false := bne_eq_false_iff_eq.mpr c3
    clear c3
    replace H := Option.bind_eq_some_iff.mp H
    obtain ⟨t127, A40, H⟩ := H
    replace H : ((strings_Count.f a0 (⟨#[120]⟩ : ByteArray)).bind fun t128 => (some (wrap64 ((a0.size : Int) + t127), wrap64 ((wrap64 ((a0.size : Int) + t127)) + t128), 0))) = some (r1, r2, r3) := H
    have A4 := Aside0.mk A40
    clear A40
    replace H := Option.bind_eq_some_iff.mp H
    obtain ⟨t128, A50, H⟩ := H
    replace H : (some (wrap64 ((a0.size : Int) + t127), wrap64 ((wrap64 ((a0.size : Int) + t127)) + t128), 0)) = some (r1, r2, r3) := H
    have A5 := Aside0.mk A50
    clear A50
    simp only [Option.some.injEq, Prod.mk.injEq] at H
    obtain ⟨rfl, rfl, rfl⟩ := H
    go_enter Try.func17, Try.ntmps17
    go_wp2_with (first | ((with_reducible refine gate_callee (f := 32) rfl ?_); refine goesL_ (some 9) rfl rfl Try.func32 (by kernel_rfl) rfl #[.string a0] rfl (by (try simp only [List.map_toArray, List.map_cons, List.map_nil]); first | done | rfl | (simp only [List.length_drop, List.length_take]; rfl)) ?_; (with_reducible refine (pattern_Valid.calls k a0 t126 _ A2.out).mono ?_); rintro e w' ⟨rfl, ⟨nd, rfl⟩⟩; refine ⟨_, rfl, ?_⟩) | ((with_reducible refine gate_callee (f := 33) rfl ?_); refine goesL_ (some 14) rfl rfl Try.func33 (by kernel_rfl) rfl #[.string a0, .string (⟨#[45]⟩ : ByteArray)] rfl (by (try simp only [List.map_toArray, List.map_cons, List.map_nil]); first | done | rfl | (simp only [List.length_drop, List.length_take]; rfl)) ?_; (with_reducible refine (strings_Count.calls a0 (⟨#[45]⟩ : ByteArray) t127 _ A4.out).mono ?_); rintro e w' ⟨rfl, ⟨nd, rfl⟩⟩; refine ⟨_, rfl, ?_⟩) | ((with_reducible refine gate_callee (f := 33) rfl ?_); refine goesL_ (some 16) rfl rfl Try.func33 (by kernel_rfl) rfl #[.string a0, .string (⟨#[120]⟩ : ByteArray)] rfl (by (try simp only [List.map_toArray, List.map_cons, List.map_nil]); first | done | rfl | (simp only [List.length_drop, List.length_take]; rfl)) ?_; (with_reducible refine (strings_Count.calls a0 (⟨#[120]⟩ : ByteArray) t128 _ A5.out).mono ?_); rintro e w' ⟨rfl, ⟨nd, rfl⟩⟩; refine ⟨_, rfl, ?_⟩))
    go_ret3
    exact ⟨by first | rfl | (simp; done) | (simp [*]; done), by repeat (first | exact Drawn0.refl _ | apply Drawn0.step)⟩
  · rw [if_neg c3] at H
    have c3b0 : (t126 == 0) = false := beq_eq_false_iff_ne.mpr c3
    have c3b1 : (t126 != 0) = true := bne_iff_ne.mpr c3
    simp only [Option.some.injEq, Prod.mk.injEq] at H
    obtain ⟨rfl, rfl, rfl⟩ := H
    go_enter Try.func17, Try.ntmps17
    go_wp2_with (first | ((with_reducible refine gate_callee (f := 32) rfl ?_); refine goesL_ (some 9) rfl rfl Try.func32 (by kernel_rfl) rfl #[.string a0] rfl (by (try simp only [List.map_toArray, List.map_cons, List.map_nil]); first | done | rfl | (simp only [List.length_drop, List.length_take]; rfl)) ?_; (with_reducible refine (pattern_Valid.calls k a0 t126 _ A2.out).mono ?_); rintro e w' ⟨rfl, ⟨nd, rfl⟩⟩; refine ⟨_, rfl, ?_⟩))
    go_ret3
    exact ⟨by first | rfl | (simp; done) | (simp [*]; done), by repeat (first | exact Drawn0.refl _ | apply Drawn0.step)⟩

/-! ### pattern_Expand: function 19 -/
mutual
def pattern_Expand.l0 : Nat → ByteArray → Int → List ByteArray → Int → Int → Option (List ByteArray × Int)
  | 0, _, _, _, _, _ => none
  | k + 1, x0, x5, x6, x21, x22 => if x22 < x21 then (if x0.size ≤ 140737488355328 then ((some (bytesOf x0 : List Int)).bind fun y131 => (pattern_Expand.l1 k x0 x5 x6 x22 x5 x21 x22 y131 (y131.length : Int) 0)) else (none)) else (some (x6, 0))
def pattern_Expand.l1 : Nat → ByteArray → Int → List ByteArray → Int → Int → Int → Int → List Int → Int → Int → Option (List ByteArray × Int)
  | 0, _, _, _, _, _, _, _, _, _, _ => none
  | k + 1, x0, x5, x6, x7, x9, x21, x22, x26, x29, x30 => if x30 < x29 then (if 0 ≤ x30 then (if x30 < (x26.length : Int) then (if (rd x26 x30) = 120 then (if 0 ≤ (wrap64 (x9 - 1)) then (if 0 ≤ (Go.bits .and .i64 (shr .i64 x7 (wrap64 (x9 - 1))) 1) then (if (Go.bits .and .i64 (shr .i64 x7 (wrap64 (x9 - 1))) 1) < 3 then (pattern_Expand.l1 k x0 x5 x6 x7 (wrap64 (x9 - 1)) x21 x22 (x26.set (x30 : Int).toNat (bt (⟨#[117, 45, 120]⟩ : ByteArray) (Go.bits .and .i64 (shr .i64 x7 (wrap64 (x9 - 1))) 1))) x29 (wrap64 (x30 + 1))) else (none)) else (none)) else (none)) else (pattern_Expand.l1 k x0 x5 x6 x7 x9 x21 x22 x26 x29 (wrap64 (x30 + 1)))) else (none)) else (none)) else (if x6.length < 8796093022208 then (pattern_Expand.l0 k x0 x5 (x6 ++ [strOfNums x26]) x21 (wrap64 (x22 + 1))) else (none))
end
def pattern_Expand.f (k : Nat) (a0 : ByteArray) : Option (List ByteArray × Int) := (pattern_Valid.f k a0).bind fun t129 => (if t129 = 0 then ((strings_Count.f a0 (⟨#[120]⟩ : ByteArray)).bind fun t130 => (if t130 > 10 then (some (([] : List ByteArray), 3)) else (if 0 ≤ t130 then (pattern_Expand.l0 k a0 t130 ([] : List ByteArray) (shl .i64 1 t130) 0) else (none)))) else (some (([] : List ByteArray), t129)))
theorem pattern_Expand.mono_l : ∀ k, (∀ y0 y1 y2 y3 y4, LeO (pattern_Expand.l0 k y0 y1 y2 y3 y4) (pattern_Expand.l0 (k + 1) y0 y1 y2 y3 y4)) ∧ (∀ y0 y1 y2 y3 y4 y5 y6 y7 y8 y9, LeO (pattern_Expand.l1 k y0 y1 y2 y3 y4 y5 y6 y7 y8 y9) (pattern_Expand.l1 (k + 1) y0 y1 y2 y3 y4 y5 y6 y7 y8 y9))
  | 0 => ⟨fun _ _ _ _ _ r h => by simp [pattern_Expand.l0] at h, fun _ _ _ _ _ _ _ _ _ _ r h => by simp [pattern_Expand.l1] at h⟩
  | k + 1 => by
    obtain ⟨ih0, ih1⟩ := pattern_Expand.mono_l k
    refine ⟨?_, ?_⟩
    · intro y0 y1 y2 y3 y4
      unfold pattern_Expand.l0
      repeat' first
      | (with_reducible exact ih0 _ _ _ _ _)
      | (with_reducible exact ih1 _ _ _ _ _ _ _ _ _ _)
      | (with_reducible exact pattern_Valid.mono _ _)
      | (with_reducible exact LeO.refl _)
      | (with_reducible exact LeO.none _)
      | (with_reducible refine LeO.ite ?_ ?_)
      | (with_reducible refine LeO.bind ?_ (fun _ => ?_))
      | exact ih0 _ _ _ _ _
      | exact ih1 _ _ _ _ _ _ _ _ _ _
      | exact pattern_Valid.mono _ _
      | exact LeO.none _
      | refine LeO.ite ?_ ?_
      | refine LeO.bind ?_ (fun _ => ?_)
    · intro y0 y1 y2 y3 y4 y5 y6 y7 y8 y9
      unfold pattern_Expand.l1
      repeat' first
      | (with_reducible exact ih0 _ _ _ _ _)
      | (with_reducible exact ih1 _ _ _ _ _ _ _ _ _ _)
      | (with_reducible exact pattern_Valid.mono _ _)
      | (with_reducible exact LeO.refl _)
      | (with_reducible exact LeO.none _)
      | (with_reducible refine LeO.ite ?_ ?_)
      | (with_reducible refine LeO.bind ?_ (fun _ => ?_))
      | exact ih0 _ _ _ _ _
      | exact ih1 _ _ _ _ _ _ _ _ _ _
      | exact pattern_Valid.mono _ _
      | exact LeO.none _
      | refine LeO.ite ?_ ?_
      | refine LeO.bind ?_ (fun _ => ?_)
theorem pattern_Expand.mono : ∀ a0 k, LeO (pattern_Expand.f k a0) (pattern_Expand.f (k + 1) a0) := by
  intro a0 k
  obtain ⟨ih0, ih1⟩ := pattern_Expand.mono_l k
  unfold pattern_Expand.f
  repeat' first
      | (with_reducible exact ih0 _ _ _ _ _)
      | (with_reducible exact ih1 _ _ _ _ _ _ _ _ _ _)
      | (with_reducible exact pattern_Valid.mono _ _)
      | (with_reducible exact LeO.refl _)
      | (with_reducible exact LeO.none _)
      | (with_reducible refine LeO.ite ?_ ?_)
      | (with_reducible refine LeO.bind ?_ (fun _ => ?_))
      | exact ih0 _ _ _ _ _
      | exact ih1 _ _ _ _ _ _ _ _ _ _
      | exact pattern_Valid.mono _ _
      | exact LeO.none _
      | refine LeO.ite ?_ ?_
      | refine LeO.bind ?_ (fun _ => ?_)
set_option maxHeartbeats 8000000 in
set_option maxRecDepth 100000 in
theorem pattern_Expand.calls (k : Nat) (a0 : ByteArray) (r1 : List ByteArray) (r2 : Int) (w : World) (h : pattern_Expand.f k a0 = some (r1, r2)) :
    Calls Try.prog 19 #[.string a0] w fun e w' => ∃ v0_ : Value, e = .returned (.tuple #[v0_, .int .i64 r2]) ∧ Kd.R Kd.string 9 w' w.heap.size (fun _ => True) v0_ r1 ∧ Below w.heap.size w w' := by
  have HB := Aside0.mk (Below.refl w.heap.size w)
  have H : ((pattern_Valid.f k a0).bind fun t129 => (if t129 = 0 then ((strings_Count.f a0 (⟨#[120]⟩ : ByteArray)).bind fun t130 => (if t130 > 10 then (some (([] : List ByteArray), 3)) else (if 0 ≤ t130 then (pattern_Expand.l0 k a0 t130 ([] : List ByteArray) (shl .i64 1 t130) 0) else (none)))) else (some (([] : List ByteArray), t129)))) = some (r1, r2) := h
  clear h
  replace H := Option.bind_eq_some_iff.mp H
  obtain ⟨t129, A20, H⟩ := H
  replace H : (if t129 = 0 then ((strings_Count.f a0 (⟨#[120]⟩ : ByteArray)).bind fun t130 => (if t130 > 10 then (some (([] : List ByteArray), 3)) else (if 0 ≤ t130 then (pattern_Expand.l0 k a0 t130 ([] : List ByteArray) (shl .i64 1 t130) 0) else (none)))) else (some (([] : List ByteArray), t129))) = some (r1, r2) := H
  have A2 := Aside0.mk A20
  clear A20
  by_cases c3 : t129 = 0
  · rw [if_pos c3] at H
    have c3b0 : (t129 == 0) = true := beq_iff_eq.mpr c3
    have c3b1 : (t129 != 0) = false := bne_eq_false_iff_eq.mpr c3
    clear c3
    replace H := Option.bind_eq_some_iff.mp H
    obtain ⟨t130, A40, H⟩ := H
    replace H : (if t130 > 10 then (some (([] : List ByteArray), 3)) else (if 0 ≤ t130 then (pattern_Expand.l0 k a0 t130 ([] : List ByteArray) (shl .i64 1 t130) 0) else (none))) = some (r1, r2) := H
    have A4 := Aside0.mk A40
    clear A40
    by_cases c5 : t130 > 10
    · rw [if_pos c5] at H
      have c5b0 : decide (10 < t130) = true := decide_eq_true c5
      clear c5
      simp only [Option.some.injEq, Prod.mk.injEq] at H
      obtain ⟨rfl, rfl⟩ := H
      go_enter Try.func19, Try.ntmps19
      go_wp2_with (first | ((with_reducible refine gate_callee (f := 32) rfl ?_); refine goesL_ (some 12) rfl rfl Try.func32 (by kernel_rfl) rfl #[.string a0] rfl (by (try simp only [List.map_toArray, List.map_cons, List.map_nil]); first | done | rfl | (simp only [List.length_drop, List.length_take]; rfl)) ?_; (with_reducible refine (pattern_Valid.calls k a0 t129 _ A2.out).mono ?_); rintro e w' ⟨rfl, ⟨nd, rfl⟩⟩; refine ⟨_, rfl, ?_⟩) | ((with_reducible refine gate_callee (f := 33) rfl ?_); refine goesL_ (some 17) rfl rfl Try.func33 (by kernel_rfl) rfl #[.string a0, .string (⟨#[120]⟩ : ByteArray)] rfl (by (try simp only [List.map_toArray, List.map_cons, List.map_nil]); first | done | rfl | (simp only [List.length_drop, List.length_take]; rfl)) ?_; (with_reducible refine (strings_Count.calls a0 (⟨#[120]⟩ : ByteArray) t130 _ A4.out).mono ?_); rintro e w' ⟨rfl, ⟨nd, rfl⟩⟩; refine ⟨_, rfl, ?_⟩))
      go_ret2
      exact ⟨_, by first | rfl | (simp [errW_none, errW_some] <;> rfl) | (simp [*, errW_none, errW_some] <;> rfl), by first | exact Kd.R_nil _ _ _ _ _ | exact Kd.N_nil _ _ _ _ _ | exact Kd.V_nil _ _ _ _ _ | exact Kd.Q_nil _ _ _ _ _ | exact Kd.S_nil _ _ _ _ _, by repeat (first | (with_reducible first | exact HB.out | apply below_alloc | apply pw_below_drewN | apply below_drew1) | exact HB.out)⟩
    · rw [if_neg c5] at H
      have c5b0 : decide (10 < t130) = false := decide_eq_false c5
      clear c5
      by_cases c6 : 0 ≤ t130
      · rw [if_pos c6] at H
        have c6b0 := eq_true c6
        have c6b1 : decide (0 ≤ t130) = true := decide_eq_true c6
        clear c6
        obtain ⟨ji7, hji7⟩ : ∃ j_ : Int, (shl .i64 1 t130) = j_ := ⟨_, rfl⟩
        replace H : (pattern_Expand.l0 k a0 t130 ([] : List ByteArray) ji7 0) = some (r1, r2) := by first | (rw [hji7] at H; exact H) | (simp only [hji7] at H ⊢; exact H)
        (try rw [hji7] at A2)
        (try rw [hji7] at A4)
        have hji7_ : (IntKind.i64.wrap (1 * 2 ^ min t130.toNat 64)) = ji7 := hji7
        have hji7z : t130 ≤ 64 → (IntKind.i64.wrap (1 * 2 ^ t130.toNat)) = ji7 := shl_small hji7
        have hji7u : (IntKind.i64.wrap (2 ^ min t130.toNat 64)) = ji7 := by have h_ := hji7_; rw [Int.one_mul] at h_; exact h_
        have hji7v : t130 ≤ 64 → (IntKind.i64.wrap (2 ^ t130.toNat)) = ji7 := fun hle_ => by have h_ := hji7z hle_; rw [Int.one_mul] at h_; exact h_
        have hji7y : (wrap64 (1 * 2 ^ min t130.toNat 64)) = ji7 := (i64_w _).symm.trans hji7_
        have hji7x : t130 ≤ 64 → (wrap64 (1 * 2 ^ t130.toNat)) = ji7 := fun h_ => (i64_w _).symm.trans (hji7z h_)
        have H' := Aside0.mk H
        clear H
        go_enter Try.func19, Try.ntmps19
        go_wp2_with (first | ((with_reducible refine gate_callee (f := 32) rfl ?_); refine goesL_ (some 12) rfl rfl Try.func32 (by kernel_rfl) rfl #[.string a0] rfl (by (try simp only [List.map_toArray, List.map_cons, List.map_nil]); first | done | rfl | (simp only [List.length_drop, List.length_take]; rfl)) ?_; (with_reducible refine (pattern_Valid.calls k a0 t129 _ A2.out).mono ?_); rintro e w' ⟨rfl, ⟨nd, rfl⟩⟩; refine ⟨_, rfl, ?_⟩) | ((with_reducible refine gate_callee (f := 33) rfl ?_); refine goesL_ (some 17) rfl rfl Try.func33 (by kernel_rfl) rfl #[.string a0, .string (⟨#[120]⟩ : ByteArray)] rfl (by (try simp only [List.map_toArray, List.map_cons, List.map_nil]); first | done | rfl | (simp only [List.length_drop, List.length_take]; rfl)) ?_; (with_reducible refine (strings_Count.calls a0 (⟨#[120]⟩ : ByteArray) t130 _ A4.out).mono ?_); rintro e w' ⟨rfl, ⟨nd, rfl⟩⟩; refine ⟨_, rfl, ?_⟩))
        go_loopg [6, 22] k (fun kq v6 v22 w' => ∃ (x6_1 : List ByteArray) (x22_1 : Int), v22 = .int .i64 x22_1 ∧ Aside0 (pattern_Expand.l0 kq a0 t130 x6_1 ji7 x22_1 = some (r1, r2)) ∧ Aside0 (kq ≤ k) ∧ Aside0 (Kd.R Kd.string 9 w' w.heap.size (fun _ => True) v6 x6_1) ∧ Aside0 (Below w.heap.size w w'))
        case atStart => exact ⟨(([] : List ByteArray)), (0), (by first | rfl | (simp; done) | (simp [*]; done)), H', ⟨Nat.le_refl _⟩, ⟨by first | exact Kd.R_nil _ _ _ _ _ | exact Kd.N_nil _ _ _ _ _ | exact Kd.V_nil _ _ _ _ _ | exact Kd.Q_nil _ _ _ _ _ | exact Kd.S_nil _ _ _ _ _⟩, ⟨by repeat (first | (with_reducible first | exact HB.out | apply below_alloc | apply pw_below_drewN | apply below_drew1) | exact HB.out)⟩⟩
        case round =>
          clear H'
          try clear c1
          try clear p2
          try clear c3
          try clear c3b0
          try clear c3b1
          try clear c5
          try clear c5b0
          try clear c6
          try clear c6b0
          try clear c6b1
          try clear p6
          obtain ⟨x6_1, x22_1, rfl, HA, HK1, HO_6, HB⟩ := hrel
          cases gk with
          | zero => exact absurd HA.out (by simp [pattern_Expand.l0])
          | succ k1 =>
            have H := HA.out
            clear HA
            simp only [pattern_Expand.l0] at H
            by_cases c8 : x22_1 < ji7
            · rw [if_pos c8] at H
              have c8b0 : decide (x22_1 < ji7) = true := decide_eq_true c8
              clear c8
              by_cases c9 : a0.size ≤ 140737488355328
              · rw [if_pos c9] at H
                have c9b0 := eq_true c9
                have c9b1 : decide (a0.size ≤ 140737488355328) = true := decide_eq_true c9
                clear c9
                obtain ⟨y131, hy131⟩ : ∃ y_ : List Int, y_ = (bytesOf a0) := ⟨_, rfl⟩
                replace H : (pattern_Expand.l1 k1 a0 t130 x6_1 x22_1 t130 ji7 x22_1 y131 (y131.length : Int) 0) = some (r1, r2) := by first | (rw [hy131]; with_reducible exact H) | (have H2_ := (Option.bind_some _ _).symm.trans H; rw [hy131]; with_reducible exact H2_) | (have H2_ := (Option.bind_some _ _).symm.trans H; with_reducible exact H2_) | with_reducible exact H | (rw [hy131]; exact H) | exact H
                have Ny131 := Aside0.mk hy131
                clear hy131
                have H' := Aside0.mk H
                clear H
                go_wp2_with (first | ((with_reducible refine gate_dst (N := 26) rfl ?_); refine Kd.B_conv _ 5 rfl (N := 26) rfl 9 45 _ rfl a0 rfl Try.underlying9 Try.underlying45 Try.underlying5 (ok := fun _ => True) trivial (Nat.le_trans (of_decide_eq_true (by first | (with_reducible assumption) | assumption) : a0.size ≤ 140737488355328) (by decide)) (Below.refl _ _) (Nat.le_refl _) ?_; intro v132 w10 ho11 hb hg_ hnew_; clear hg_ hnew_; (first | rw [← Ny131.out] at ho11 | (simp only [Int.reduceToNat] at ho11; rw [← Ny131.out] at ho11)); have n0_ := Aside0.mk (Kd.R_below (by (with_reducible repeat (first | apply Kd.R_alloc | apply Kd.R_drewN | apply Kd.R_drew)); exact HO_6.out) hb); have n1_ := Aside0.mk (Kd.B_lower ho11 (below_size (by repeat (first | (with_reducible first | exact HB.out | apply below_alloc | apply pw_below_drewN | apply below_drew1) | exact HB.out)))); have n2_ := Aside0.mk (below_step (by repeat (first | (with_reducible first | exact HB.out | apply below_alloc | apply pw_below_drewN | apply below_drew1) | exact HB.out)) hb); clear HO_6; clear HB; have HO_6 := n0_; have HO133 := n1_; have HB := n2_; clear n0_ n1_ n2_; clear hb ho11; obtain ⟨Ao12, co12, eo12⟩ := Kd.B_slice HO133.out; subst eo12))
                go_loopg [9, 30] k1 (fun kq v9 v30 w' => ∃ (x9_2 : Int) (x26_2 : List Int) (x30_2 : Int), v9 = .int .i64 x9_2 ∧ v30 = .int .i64 x30_2 ∧ Aside0 (pattern_Expand.l1 kq a0 t130 x6_1 x22_1 x9_2 ji7 x22_1 x26_2 (y131.length : Int) x30_2 = some (r1, r2)) ∧ Aside0 (kq ≤ k1) ∧ Aside0 (Kd.R Kd.string 9 w' w.heap.size (fun _ => True) u6 x6_1) ∧ Aside0 (Kd.B (Kd.int .u8) 5 w' w.heap.size (fun _ => True) (.slice Ao12 y131.length co12) x26_2) ∧ Aside0 (Below w.heap.size w w'))
                case atStart => exact ⟨(t130), (y131), (0), (by first | rfl | (simp; done) | (simp [*]; done)), (by first | rfl | (simp; done) | (simp [*]; done)), H', ⟨Nat.le_refl _⟩, ⟨by (with_reducible repeat (first | apply Kd.R_alloc | apply Kd.R_drewN | apply Kd.R_drew)); exact HO_6.out⟩, ⟨by (with_reducible repeat (first | apply Kd.B_alloc | apply Kd.B_drewN | apply Kd.B_drew)); exact HO133.out⟩, ⟨by repeat (first | (with_reducible first | exact HB.out | apply below_alloc | apply pw_below_drewN | apply below_drew1) | exact HB.out)⟩⟩
                case round =>
                  clear H'
                  try clear c1
                  try clear p2
                  try clear c3
                  try clear c3b0
                  try clear c3b1
                  try clear c5
                  try clear c5b0
                  try clear c6
                  try clear c6b0
                  try clear c6b1
                  try clear p6
                  try clear c8
                  try clear c8b0
                  try clear c9
                  try clear c9b0
                  try clear c9b1
                  try clear p2
                  try clear p6
                  obtain ⟨x9_2, x26_2, x30_2, rfl, rfl, HA, HK2, HO_6, HO_26, HB⟩ := hrel
                  have hl26_2 := (Kd.B_reads' HO_26.out).1
                  rw [hl26_2] at HO_26
                  (try simp only [hl26_2])
                  (try simp only [hl26_2] at HO_6)
                  cases gk with
                  | zero => exact absurd HA.out (by simp [pattern_Expand.l1])
                  | succ k2 =>
                    have H := HA.out
                    clear HA
                    simp only [pattern_Expand.l1] at H
                    by_cases c13 : x30_2 < (y131.length : Int)
                    · rw [if_pos c13] at H
                      have c13b0 : decide (x30_2 < (y131.length : Int)) = true := decide_eq_true c13
                      (try simp only [hl26_2] at c13b0)
                      clear c13
                      by_cases c14 : 0 ≤ x30_2
                      · rw [if_pos c14] at H
                        have c14b0 : decide (0 ≤ x30_2) = true := decide_eq_true c14
                        clear c14
                        by_cases c15 : x30_2 < (x26_2.length : Int)
                        · rw [if_pos c15] at H
                          have c15b0 : decide (x30_2 < (x26_2.length : Int)) = true := decide_eq_true c15
                          (try simp only [hl26_2] at c15b0)
                          clear c15
                          by_cases c16 : (rd x26_2 x30_2) = 120
                          · rw [if_pos c16] at H
                            have c16b0 : ((rd x26_2 x30_2) == 120) = true := beq_iff_eq.mpr c16
                            have c16b1 : ((rd x26_2 x30_2) != 120) = false := bne_eq_false_iff_eq.mpr c16
                            clear c16
                            obtain ⟨ji17, hji17⟩ : ∃ j_ : Int, (wrap64 (x9_2 - 1)) = j_ := ⟨_, rfl⟩
                            replace H : (if 0 ≤ (ji17) then (if 0 ≤ (Go.bits .and .i64 (shr .i64 x22_1 (ji17)) 1) then (if (Go.bits .and .i64 (shr .i64 x22_1 (ji17)) 1) < 3 then (pattern_Expand.l1 k2 a0 t130 x6_1 x22_1 ji17 ji7 x22_1 (x26_2.set (x30_2 : Int).toNat (bt (⟨#[117, 45, 120]⟩ : ByteArray) (Go.bits .and .i64 (shr .i64 x22_1 (ji17)) 1))) (y131.length : Int) (wrap64 (x30_2 + 1))) else (none)) else (none)) else (none)) = some (r1, r2) := by first | (rw [hji17] at H; exact H) | (simp only [hji17] at H ⊢; exact H)
                            have hji17w : (IntKind.i64.wrap (x9_2 - 1)) = ji17 := (i64_w _).trans hji17
                            by_cases c18 : 0 ≤ (ji17)
                            · rw [if_pos c18] at H
                              have c18b0 := eq_true c18
                              have c18b1 : decide (0 ≤ (ji17)) = true := decide_eq_true c18
                              clear c18
                              obtain ⟨ji19, hji19⟩ : ∃ j_ : Int, (shr .i64 x22_1 (ji17)) = j_ := ⟨_, rfl⟩
                              replace H : (if 0 ≤ (Go.bits .and .i64 (ji19) 1) then (if (Go.bits .and .i64 (ji19) 1) < 3 then (pattern_Expand.l1 k2 a0 t130 x6_1 x22_1 ji17 ji7 x22_1 (x26_2.set (x30_2 : Int).toNat (bt (⟨#[117, 45, 120]⟩ : ByteArray) (Go.bits .and .i64 (ji19) 1))) (y131.length : Int) (wrap64 (x30_2 + 1))) else (none)) else (none)) = some (r1, r2) := by first | (rw [hji19] at H; exact H) | (simp only [hji19] at H ⊢; exact H)
                              have hji19_ : (x22_1 / 2 ^ min (ji17).toNat 64) = ji19 := hji19
                              have hji19z : (ji17) ≤ 64 → (x22_1 / 2 ^ (ji17).toNat) = ji19 := shr_small hji19
                              by_cases c20 : 0 ≤ (Go.bits .and .i64 (ji19) 1)
                              · rw [if_pos c20] at H
                                have c20b0 : decide (0 ≤ (Go.bits .and .i64 (ji19) 1)) = true := decide_eq_true c20
                                clear c20
                                by_cases c21 : (Go.bits .and .i64 (ji19) 1) < 3
                                · rw [if_pos c21] at H
                                  have c21b0 : decide ((Go.bits .and .i64 (ji19) 1) < 3) = true := decide_eq_true c21
                                  clear c21
                                  obtain ⟨y135, hy135⟩ : ∃ y_ : List Int, y_ = (x26_2.set (x30_2 : Int).toNat (bt (⟨#[117, 45, 120]⟩ : ByteArray) (Go.bits .and .i64 (ji19) 1))) := ⟨_, rfl⟩
                                  replace H : (pattern_Expand.l1 k2 a0 t130 x6_1 x22_1 ji17 ji7 x22_1 y135 (y131.length : Int) (wrap64 (x30_2 + 1))) = some (r1, r2) := by first | (rw [hy135]; with_reducible exact H) | (have H2_ := (Option.bind_some _ _).symm.trans H; rw [hy135]; with_reducible exact H2_) | (have H2_ := (Option.bind_some _ _).symm.trans H; with_reducible exact H2_) | with_reducible exact H | (rw [hy135]; exact H) | exact H
                                  have Ny135 := Aside0.mk hy135
                                  clear hy135
                                  have H' := Aside0.mk H
                                  clear H
                                  have p134 : 0 ≤ (x30_2 : Int) := of_decide_eq_true (by first | (with_reducible assumption) | assumption)
                                  have q134 : x30_2 < (x26_2.length : Int) := of_decide_eq_true (by first | (with_reducible assumption) | assumption)
                                  obtain ⟨ad134, e134, hx134_0⟩ := Kd.at_int (Kd.B_reads' HO_26.out).2.2 x30_2 p134 q134
                                  cases e134
                                  replace p134 := eq_true p134
                                  replace q134 := eq_true q134
                                  have p22 : 0 ≤ ((Go.bits .and .i64 (ji19) 1) : Int) := of_decide_eq_true (by first | (with_reducible assumption) | assumption)
                                  have q22 : (Go.bits .and .i64 (ji19) 1) < (3 : Int) := of_decide_eq_true (by first | (with_reducible assumption) | assumption)
                                  have hx22 := bt_at (⟨#[117, 45, 120]⟩ : ByteArray) (Go.bits .and .i64 (ji19) 1)
                                  replace p22 := eq_true p22
                                  replace q22 := eq_true q22
                                  have p23 : 0 ≤ (x30_2 : Int) := of_decide_eq_true (by first | (with_reducible assumption) | assumption)
                                  have q23 : (x30_2 : Int) < ((x26_2.length : Int) : Int) := of_decide_eq_true (by first | (with_reducible assumption) | assumption)
                                  obtain ⟨go23, co23, eo23, gb23, gl23, cl23, HG23⟩ := Kd.B_form HO_26.out (by omega)
                                  (first | cases eo23 | (injection eo23 with ea_ en_ ec_; (first | subst ea_ | (injection ea_ with ea_; subst ea_)); subst ec_; clear en_))
                                  have GB23 := Aside0.mk gb23
                                  have GG23 := Aside0.mk HG23
                                  clear gb23 gl23 HG23
                                  (first | simp only [add_plain] at hx134_0 | skip)
                                  obtain ⟨hx23_0, hf23_0⟩ := Kd.B_celln 0 HO_26.out (x30_2 : Int) p23 q23
                                  replace p23 := eq_true p23
                                  replace q23 := eq_true q23
                                  have HP24 := Kd.B_putg HO_26.out (x30_2 : Int) (bt (⟨#[117, 45, 120]⟩ : ByteArray) (Go.bits .and .i64 (ji19) 1))
                                  go_wp2_with (first | ((with_reducible refine gate_store (t := 5) (p := 47) rfl ?_); refine store_event (t := 5) (p := 47) (v := ?vo_w25) (w1 := (wr.setCell ⟨go23, (x30_2 : Int).toNat, none⟩ (.int .u8 (bt (⟨#[117, 45, 120]⟩ : ByteArray) (Go.bits .and .i64 (ji19) 1))))) ?hg ?ho ?hn ?hr ?_; (case ho => rfl); (case hg => rfl); (case hn => rfl); (case hr => first | (go_simp; done) | (go_simp; rfl)); intro w25 hw; have hg : wr.grownBy w25 (some go23) := (by rw [hw]; exact HP24.2); have hp_ : Kd.B (Kd.int .u8) 5 w25 w.heap.size (fun _ => True) (.slice (some ⟨go23, 0, none⟩) x26_2.length co12) y135 := (by rw [hw, Ny135.out]; exact HP24.1); clear HP24; have n0_ := Aside0.mk (Kd.R_overB (v := (.slice (some ⟨go23, 0, none⟩) x26_2.length co12)) (by (with_reducible repeat (first | apply Kd.R_alloc | apply Kd.R_drewN | apply Kd.R_drew)); exact HO_6.out) (Kd.B_typed HO_26.out) hg); have n1_ := Aside0.mk (hp_); have n2_ := Aside0.mk ((by rw [hw]; exact below_set (HB.out) GB23.out : Below w.heap.size w w25)); clear HO_6; clear HO_26; clear HB; have HO_6 := n0_; have HO_26 := n1_; have HB := n2_; clear n0_ n1_ n2_; clear hg hw hp_))
                                  (try simp only [← hl26_2])
                                  go_roundg k2
                                  case measure => have := HK1.out; have := HK2.out; omega
                                  case rel => exact ⟨(ji17), (y135), (wrap64 (x30_2 + 1)), (by first | rfl | (simp; done) | (simp only [← hji17] <;> (first | rfl | simp)) | (simp [*]; done)), (by first | rfl | (simp; done) | (simp [*]; done)), H', ⟨by have := HK1.out; have := HK2.out; omega⟩, ⟨by (try simp only [hl26_2]); (with_reducible repeat (first | apply Kd.R_alloc | apply Kd.R_drewN | apply Kd.R_drew)); exact HO_6.out⟩, ⟨by (try simp only [hl26_2]); (with_reducible repeat (first | apply Kd.B_alloc | apply Kd.B_drewN | apply Kd.B_drew)); exact HO_26.out⟩, ⟨by repeat (first | (with_reducible first | exact HB.out | apply below_alloc | apply pw_below_drewN | apply below_drew1) | exact HB.out)⟩⟩
                                · rw [if_neg c21] at H
                                  exact absurd H (by simp)
                              · rw [if_neg c20] at H
                                exact absurd H (by simp)
                            · rw [if_neg c18] at H
                              exact absurd H (by simp)
                          · rw [if_neg c16] at H
                            have c16b0 : ((rd x26_2 x30_2) == 120) = false := beq_eq_false_iff_ne.mpr c16
                            have c16b1 : ((rd x26_2 x30_2) != 120) = true := bne_iff_ne.mpr c16
                            have H' := Aside0.mk H
                            clear H
                            have p134 : 0 ≤ (x30_2 : Int) := of_decide_eq_true (by first | (with_reducible assumption) | assumption)
                            have q134 : x30_2 < (x26_2.length : Int) := of_decide_eq_true (by first | (with_reducible assumption) | assumption)
                            obtain ⟨ad134, e134, hx134_0⟩ := Kd.at_int (Kd.B_reads' HO_26.out).2.2 x30_2 p134 q134
                            cases e134
                            replace p134 := eq_true p134
                            replace q134 := eq_true q134
                            go_wp2
                            (try simp only [← hl26_2])
                            go_roundg k2
                            case measure => have := HK1.out; have := HK2.out; omega
                            case rel => exact ⟨(x9_2), (x26_2), (wrap64 (x30_2 + 1)), (by first | rfl | (simp; done) | (simp [*]; done)), (by first | rfl | (simp; done) | (simp [*]; done)), H', ⟨by have := HK1.out; have := HK2.out; omega⟩, ⟨by (try simp only [hl26_2]); (with_reducible repeat (first | apply Kd.R_alloc | apply Kd.R_drewN | apply Kd.R_drew)); exact HO_6.out⟩, ⟨by (try simp only [hl26_2]); (with_reducible repeat (first | apply Kd.B_alloc | apply Kd.B_drewN | apply Kd.B_drew)); exact HO_26.out⟩, ⟨by repeat (first | (with_reducible first | exact HB.out | apply below_alloc | apply pw_below_drewN | apply below_drew1) | exact HB.out)⟩⟩
                        · rw [if_neg c15] at H
                          exact absurd H (by simp)
                      · rw [if_neg c14] at H
                        exact absurd H (by simp)
                    · rw [if_neg c13] at H
                      have c13b0 : decide (x30_2 < (y131.length : Int)) = false := decide_eq_false c13
                      (try simp only [hl26_2] at c13b0)
                      clear c13
                      by_cases c26 : x6_1.length < 8796093022208
                      · rw [if_pos c26] at H
                        have LMc26 := Aside0.mk c26
                        clear c26
                        obtain ⟨y136, hy136⟩ : ∃ y_ : List ByteArray, y_ = (x6_1 ++ [strOfNums x26_2]) := ⟨_, rfl⟩
                        replace H : (pattern_Expand.l0 k2 a0 t130 y136 ji7 (wrap64 (x22_1 + 1))) = some (r1, r2) := by first | (rw [hy136]; with_reducible exact H) | (have H2_ := (Option.bind_some _ _).symm.trans H; rw [hy136]; with_reducible exact H2_) | (have H2_ := (Option.bind_some _ _).symm.trans H; with_reducible exact H2_) | with_reducible exact H | (rw [hy136]; exact H) | exact H
                        have Ny136 := Aside0.mk hy136
                        clear hy136
                        have H' := Aside0.mk H
                        clear H
                        have hcv27 := Kd.B_string (P := Try.prog) Try.underlying45 Try.underlying5 Try.underlying9 HO_26.out
                        go_wp2_with (first | ((with_reducible refine gate_builtin (b := .append) (xs := #[.tmp 49, .tmp 52]) rfl ?_); at_builtin; refine Kd.R_append Kd.string (w0 := w) w.heap.size rfl (.tmp 49) (.tmp 52) 29 9 (.string ⟨#[]⟩) 16 rfl Try.underlying29 info9 rfl (by decide) (by omega) u6 x6_1 (strOfNums x26_2) [.string (strOfNums x26_2)] (fun _ => True) (fun _ => False) rfl rfl ?aP (fun _ hk => hk.elim) ?aF ?aO ?aB ?aS ?aL ?_; (case aP => exact rfl); (case aB => exact (by repeat (first | (with_reducible first | exact HB.out | apply below_alloc | apply pw_below_drewN | apply below_drew1) | exact HB.out))); (case aF => exact (fun _ _ => trivial)); (case aO => exact (by (with_reducible repeat (first | apply Kd.R_alloc | apply Kd.R_drewN | apply Kd.R_drew)); exact HO_6.out)); (case aS => exact (below_size (by repeat (first | (with_reducible first | exact HB.out | apply below_alloc | apply pw_below_drewN | apply below_drew1) | exact HB.out)))); (case aL => have := LMc26.out; omega); intro v137 w28 ho hb hg hat; rw [← Ny136.out] at ho; have n0_ := Aside0.mk (Kd.B_over' (by (with_reducible repeat (first | apply Kd.B_alloc | apply Kd.B_drewN | apply Kd.B_drew)); exact HO_26.out) (Kd.R_typed (by (with_reducible repeat (first | apply Kd.R_alloc | apply Kd.R_drewN | apply Kd.R_drew)); exact HO_6.out)) (by decide) hg); have n1_ := Aside0.mk (hb); have n2_ := Aside0.mk (ho); clear HO_26; clear HB; clear HO_6; have HO_26 := n0_; have HB := n1_; have HO138 := n2_; clear n0_ n1_ n2_; clear ho hb hg hat))
                        (try simp only [← hl26_2])
                        go_roundg k2
                        case measure => have := HK1.out; have := HK2.out; omega
                        case rel => exact ⟨(y136), (wrap64 (x22_1 + 1)), (by first | rfl | (simp; done) | (simp [*]; done)), H', ⟨by have := HK1.out; have := HK2.out; omega⟩, ⟨by (try simp only [hl26_2]); (with_reducible repeat (first | apply Kd.R_alloc | apply Kd.R_drewN | apply Kd.R_drew)); exact HO138.out⟩, ⟨by repeat (first | (with_reducible first | exact HB.out | apply below_alloc | apply pw_below_drewN | apply below_drew1) | exact HB.out)⟩⟩
                      · rw [if_neg c26] at H
                        exact absurd H (by simp)
              · rw [if_neg c9] at H
                exact absurd H (by simp)
            · rw [if_neg c8] at H
              have c8b0 : decide (x22_1 < ji7) = false := decide_eq_false c8
              clear c8
              simp only [Option.some.injEq, Prod.mk.injEq] at H
              obtain ⟨rfl, rfl⟩ := H
              go_wp2
              go_ret2
              exact ⟨_, by first | rfl | (simp [errW_none, errW_some] <;> rfl) | (simp only [← hji7]; first | rfl | (simp [errW_none, errW_some] <;> rfl)) | (simp [*, errW_none, errW_some] <;> rfl), by (with_reducible repeat (first | apply Kd.R_alloc | apply Kd.R_drewN | apply Kd.R_drew)); exact HO_6.out, by repeat (first | (with_reducible first | exact HB.out | apply below_alloc | apply pw_below_drewN | apply below_drew1) | exact HB.out)⟩
      · rw [if_neg c6] at H
        exact absurd H (by simp)
  · rw [if_neg c3] at H
    have c3b0 : (t129 == 0) = false := beq_eq_false_iff_ne.mpr c3
    have c3b1 : (t129 != 0) = true := bne_iff_ne.mpr c3
    simp only [Option.some.injEq, Prod.mk.injEq] at H
    obtain ⟨rfl, rfl⟩ := H
    go_enter Try.func19, Try.ntmps19
    go_wp2_with (first | ((with_reducible refine gate_callee (f := 32) rfl ?_); refine goesL_ (some 12) rfl rfl Try.func32 (by kernel_rfl) rfl #[.string a0] rfl (by (try simp only [List.map_toArray, List.map_cons, List.map_nil]); first | done | rfl | (simp only [List.length_drop, List.length_take]; rfl)) ?_; (with_reducible refine (pattern_Valid.calls k a0 t129 _ A2.out).mono ?_); rintro e w' ⟨rfl, ⟨nd, rfl⟩⟩; refine ⟨_, rfl, ?_⟩))
    go_ret2
    exact ⟨_, by first | rfl | (simp [errW_none, errW_some] <;> rfl) | (simp [*, errW_none, errW_some] <;> rfl), by first | exact Kd.R_nil _ _ _ _ _ | exact Kd.N_nil _ _ _ _ _ | exact Kd.V_nil _ _ _ _ _ | exact Kd.Q_nil _ _ _ _ _ | exact Kd.S_nil _ _ _ _ _, by repeat (first | (with_reducible first | exact HB.out | apply below_alloc | apply pw_below_drewN | apply below_drew1) | exact HB.out)⟩

/-! ### slices_Equal_string_string: function 22 -/
def slices_Equal_string_string.l0 : Nat → List ByteArray → List ByteArray → Int → Int → Option (Bool)
  | 0, _, _, _, _ => none
  | k + 1, x0, x1, x12, x13 => if x13 < x12 then (if 0 ≤ x13 then (if x13 < (x0.length : Int) then (if x13 < (x1.length : Int) then (if (rdOf ByteArray.empty x0 x13).toList = (rdOf ByteArray.empty x1 x13).toList then (slices_Equal_string_string.l0 k x0 x1 x12 (wrap64 (x13 + 1))) else (some false)) else (none)) else (none)) else (none)) else (some true)
def slices_Equal_string_string.f (k : Nat) (l0 : List ByteArray) (l1 : List ByteArray) : Option (Bool) := if (l0.length : Int) = (l1.length : Int) then (slices_Equal_string_string.l0 k l0 l1 (l0.length : Int) 0) else (some false)
theorem slices_Equal_string_string.mono_l : ∀ k, (∀ y0 y1 y2 y3, LeO (slices_Equal_string_string.l0 k y0 y1 y2 y3) (slices_Equal_string_string.l0 (k + 1) y0 y1 y2 y3))
  | 0 => fun _ _ _ _ r h => by simp [slices_Equal_string_string.l0] at h
  | k + 1 => by
    have ih0 := slices_Equal_string_string.mono_l k
    · intro y0 y1 y2 y3
      unfold slices_Equal_string_string.l0
      repeat' first
      | (with_reducible exact ih0 _ _ _ _)
      | (with_reducible exact LeO.refl _)
      | (with_reducible exact LeO.none _)
      | (with_reducible refine LeO.ite ?_ ?_)
      | (with_reducible refine LeO.bind ?_ (fun _ => ?_))
      | exact ih0 _ _ _ _
      | exact LeO.none _
      | refine LeO.ite ?_ ?_
      | refine LeO.bind ?_ (fun _ => ?_)
theorem slices_Equal_string_string.mono : ∀ a0 a1 k, LeO (slices_Equal_string_string.f k a0 a1) (slices_Equal_string_string.f (k + 1) a0 a1) := by
  intro a0 a1 k
  have ih0 := slices_Equal_string_string.mono_l k
  unfold slices_Equal_string_string.f
  repeat' first
      | (with_reducible exact ih0 _ _ _ _)
      | (with_reducible exact LeO.refl _)
      | (with_reducible exact LeO.none _)
      | (with_reducible refine LeO.ite ?_ ?_)
      | (with_reducible refine LeO.bind ?_ (fun _ => ?_))
      | exact ih0 _ _ _ _
      | exact LeO.none _
      | refine LeO.ite ?_ ?_
      | refine LeO.bind ?_ (fun _ => ?_)
set_option maxHeartbeats 8000000 in
set_option maxRecDepth 100000 in
theorem slices_Equal_string_string.calls (k : Nat) (A0 : Option Addr) (c0 : Nat) (l0 : List ByteArray) (A1 : Option Addr) (c1 : Nat) (l1 : List ByteArray) (r : Bool) (w : World) (hr0 : Kd.C Kd.string w A0 l0.length l0) (hc0 : l0.length ≤ c0) (hr1 : Kd.C Kd.string w A1 l1.length l1) (hc1 : l1.length ≤ c1) (h : slices_Equal_string_string.f k l0 l1 = some r) :
    Calls Try.prog 22 #[.slice A0 l0.length c0, .slice A1 l1.length c1] w fun e w' => e = .returned (.bool r) ∧ Drawn0 w w' := by
  have HR0 := Aside0.mk hr0
  have HC0 := Aside0.mk hc0
  clear hr0 hc0
  have HR1 := Aside0.mk hr1
  have HC1 := Aside0.mk hc1
  clear hr1 hc1
  have H : (if (l0.length : Int) = (l1.length : Int) then (slices_Equal_string_string.l0 k l0 l1 (l0.length : Int) 0) else (some false)) = some r := h
  clear h
  by_cases c3 : (l0.length : Int) = (l1.length : Int)
  · rw [if_pos c3] at H
    have c3b0 : ((l0.length : Int) == (l1.length : Int)) = true := beq_iff_eq.mpr c3
    have c3b1 : ((l0.length : Int) != (l1.length : Int)) = false := bne_eq_false_iff_eq.mpr c3
    have c3b2 : (l0.length == l1.length) = true := by first | simpa using c3 | (simp at c3 ⊢; omega)
    clear c3
    have H' := Aside0.mk H
    clear H
    go_enter Try.func22, Try.ntmps22
    go_wp2
    repeat (go_quiet (fail); try go_wp2)
    go_loopg [13] k (fun kq v13 w' => ∃ (x13_1 : Int), v13 = .int .i64 x13_1 ∧ Aside0 (slices_Equal_string_string.l0 kq l0 l1 (l0.length : Int) x13_1 = some r) ∧ Aside0 (kq ≤ k) ∧ Drawn0 w w')
    case atStart => exact ⟨(0), (by first | rfl | (simp; done) | (simp [*]; done)), H', ⟨Nat.le_refl _⟩, by repeat (first | exact Drawn0.refl _ | apply Drawn0.step)⟩
    case round =>
      clear H'
      try clear c1
      try clear c2
      try clear p2
      try clear c3
      try clear c3b0
      try clear c3b1
      try clear c3b2
      obtain ⟨x13_1, rfl, HA, HK1, ⟨m1, rfl⟩⟩ := hrel
      cases gk with
      | zero => exact absurd HA.out (by simp [slices_Equal_string_string.l0])
      | succ k1 =>
        have H := HA.out
        clear HA
        simp only [slices_Equal_string_string.l0] at H
        by_cases c4 : x13_1 < (l0.length : Int)
        · rw [if_pos c4] at H
          have c4b0 : decide (x13_1 < (l0.length : Int)) = true := decide_eq_true c4
          clear c4
          by_cases c5 : 0 ≤ x13_1
          · rw [if_pos c5] at H
            have c5b0 : decide (0 ≤ x13_1) = true := decide_eq_true c5
            clear c5
            by_cases c6 : x13_1 < (l0.length : Int)
            · rw [if_pos c6] at H
              have c6b0 : decide (x13_1 < (l0.length : Int)) = true := decide_eq_true c6
              clear c6
              by_cases c7 : x13_1 < (l1.length : Int)
              · rw [if_pos c7] at H
                have c7b0 : decide (x13_1 < (l1.length : Int)) = true := decide_eq_true c7
                clear c7
                by_cases c8 : (rdOf ByteArray.empty l0 x13_1).toList = (rdOf ByteArray.empty l1 x13_1).toList
                · rw [if_pos c8] at H
                  have c8b0 : ((rdOf ByteArray.empty l0 x13_1).toList == (rdOf ByteArray.empty l1 x13_1).toList) = true := beq_iff_eq.mpr c8
                  have c8b1 : ((rdOf ByteArray.empty l0 x13_1).toList != (rdOf ByteArray.empty l1 x13_1).toList) = false := bne_eq_false_iff_eq.mpr c8
                  clear c8
                  have H' := Aside0.mk H
                  clear H
                  have p139 : 0 ≤ (x13_1 : Int) := of_decide_eq_true (by first | (with_reducible assumption) | assumption)
                  have q139 : x13_1 < (l0.length : Int) := of_decide_eq_true (by first | (with_reducible assumption) | assumption)
                  obtain ⟨ad139, e139, hx139_0⟩ := Kd.at_string HR0.out x13_1 p139 q139
                  cases e139
                  replace p139 := eq_true p139
                  replace q139 := eq_true q139
                  have p140 : 0 ≤ (x13_1 : Int) := of_decide_eq_true (by first | (with_reducible assumption) | assumption)
                  have q140 : x13_1 < (l1.length : Int) := of_decide_eq_true (by first | (with_reducible assumption) | assumption)
                  obtain ⟨ad140, e140, hx140_0⟩ := Kd.at_string HR1.out x13_1 p140 q140
                  cases e140
                  replace p140 := eq_true p140
                  replace q140 := eq_true q140
                  go_wp2
                  repeat (go_quiet (fail); try go_wp2)
                  go_roundg k1
                  case measure => have := HK1.out; omega
                  case rel => exact ⟨(wrap64 (x13_1 + 1)), (by first | rfl | (simp; done) | (simp [*]; done)), H', ⟨by have := HK1.out; omega⟩, by repeat (first | exact Drawn0.refl _ | apply Drawn0.step)⟩
                · rw [if_neg c8] at H
                  have c8b0 : ((rdOf ByteArray.empty l0 x13_1).toList == (rdOf ByteArray.empty l1 x13_1).toList) = false := beq_eq_false_iff_ne.mpr c8
                  have c8b1 : ((rdOf ByteArray.empty l0 x13_1).toList != (rdOf ByteArray.empty l1 x13_1).toList) = true := bne_iff_ne.mpr c8
                  obtain rfl := Option.some.inj H
                  have p139 : 0 ≤ (x13_1 : Int) := of_decide_eq_true (by first | (with_reducible assumption) | assumption)
                  have q139 : x13_1 < (l0.length : Int) := of_decide_eq_true (by first | (with_reducible assumption) | assumption)
                  obtain ⟨ad139, e139, hx139_0⟩ := Kd.at_string HR0.out x13_1 p139 q139
                  cases e139
                  replace p139 := eq_true p139
                  replace q139 := eq_true q139
                  have p140 : 0 ≤ (x13_1 : Int) := of_decide_eq_true (by first | (with_reducible assumption) | assumption)
                  have q140 : x13_1 < (l1.length : Int) := of_decide_eq_true (by first | (with_reducible assumption) | assumption)
                  obtain ⟨ad140, e140, hx140_0⟩ := Kd.at_string HR1.out x13_1 p140 q140
                  cases e140
                  replace p140 := eq_true p140
                  replace q140 := eq_true q140
                  go_wp2
                  repeat (go_quiet (fail); try go_wp2)
                  go_ret
                  exact ⟨by first | rfl | (simp; done) | (simp [*]; done), by repeat (first | exact Drawn0.refl _ | apply Drawn0.step)⟩
              · rw [if_neg c7] at H
                exact absurd H (by simp)
            · rw [if_neg c6] at H
              exact absurd H (by simp)
          · rw [if_neg c5] at H
            exact absurd H (by simp)
        · rw [if_neg c4] at H
          have c4b0 : decide (x13_1 < (l0.length : Int)) = false := decide_eq_false c4
          clear c4
          obtain rfl := Option.some.inj H
          go_wp2
          repeat (go_quiet (fail); try go_wp2)
          go_ret
          exact ⟨by first | rfl | (simp; done) | (simp [*]; done), by repeat (first | exact Drawn0.refl _ | apply Drawn0.step)⟩
  · rw [if_neg c3] at H
    have c3b0 : ((l0.length : Int) == (l1.length : Int)) = false := beq_eq_false_iff_ne.mpr c3
    have c3b1 : ((l0.length : Int) != (l1.length : Int)) = true := bne_iff_ne.mpr c3
    have c3b2 : (l0.length == l1.length) = false := by first | simpa using c3 | (simp at c3 ⊢; omega)
    obtain rfl := Option.some.inj H
    go_enter Try.func22, Try.ntmps22
    go_wp2
    repeat (go_quiet (fail); try go_wp2)
    go_ret
    exact ⟨by first | rfl | (simp; done) | (simp [*]; done), by repeat (first | exact Drawn0.refl _ | apply Drawn0.step)⟩

/-! ### pattern_Marked: function 40 -/
def pattern_Marked.l0 : Nat → ByteArray → Int → Int → Int → Option (Int)
  | 0, _, _, _, _ => none
  | k + 1, x0, x3, x9, x10 => if x10 < x9 then (if 0 ≤ x10 then (if x10 < (x0.size : Int) then ((pattern_isSign.f (bt x0 x10)).bind fun t141 => (if t141 = true then (pattern_Marked.l0 k x0 (wrap64 (x3 + 1)) x9 (wrap64 (x10 + 1))) else (if (bt x0 x10) = 46 then (if x10 = 0 then (some 2) else (if 0 ≤ (wrap64 (x10 - 1)) then (if (wrap64 (x10 - 1)) < (x0.size : Int) then ((pattern_isSign.f (bt x0 (wrap64 (x10 - 1)))).bind fun t142 => (if t142 = true then (pattern_Marked.l0 k x0 x3 x9 (wrap64 (x10 + 1))) else (some 2))) else (none)) else (none))) else (some 2)))) else (none)) else (none)) else (if x3 > 60 then (some 3) else (some 0))
def pattern_Marked.f (k : Nat) (a0 : ByteArray) : Option (Int) := if (a0.size : Int) > 120 then (some 3) else (pattern_Marked.l0 k a0 0 (a0.size : Int) 0)
theorem pattern_Marked.mono_l : ∀ k, (∀ y0 y1 y2 y3, LeO (pattern_Marked.l0 k y0 y1 y2 y3) (pattern_Marked.l0 (k + 1) y0 y1 y2 y3))
  | 0 => fun _ _ _ _ r h => by simp [pattern_Marked.l0] at h
  | k + 1 => by
    have ih0 := pattern_Marked.mono_l k
    · intro y0 y1 y2 y3
      unfold pattern_Marked.l0
      repeat' first
      | (with_reducible exact ih0 _ _ _ _)
      | (with_reducible exact LeO.refl _)
      | (with_reducible exact LeO.none _)
      | (with_reducible refine LeO.ite ?_ ?_)
      | (with_reducible refine LeO.bind ?_ (fun _ => ?_))
      | exact ih0 _ _ _ _
      | exact LeO.none _
      | refine LeO.ite ?_ ?_
      | refine LeO.bind ?_ (fun _ => ?_)
theorem pattern_Marked.mono : ∀ a0 k, LeO (pattern_Marked.f k a0) (pattern_Marked.f (k + 1) a0) := by
  intro a0 k
  have ih0 := pattern_Marked.mono_l k
  unfold pattern_Marked.f
  repeat' first
      | (with_reducible exact ih0 _ _ _ _)
      | (with_reducible exact LeO.refl _)
      | (with_reducible exact LeO.none _)
      | (with_reducible refine LeO.ite ?_ ?_)
      | (with_reducible refine LeO.bind ?_ (fun _ => ?_))
      | exact ih0 _ _ _ _
      | exact LeO.none _
      | refine LeO.ite ?_ ?_
      | refine LeO.bind ?_ (fun _ => ?_)
set_option maxHeartbeats 8000000 in
set_option maxRecDepth 100000 in
theorem pattern_Marked.calls (k : Nat) (a0 : ByteArray) (r : Int) (w : World) (h : pattern_Marked.f k a0 = some r) :
    Calls Try.prog 40 #[.string a0] w fun e w' => e = .returned (.int .i64 r) ∧ Drawn0 w w' := by
  have H : (if (a0.size : Int) > 120 then (some 3) else (pattern_Marked.l0 k a0 0 (a0.size : Int) 0)) = some r := h
  clear h
  by_cases c2 : (a0.size : Int) > 120
  · rw [if_pos c2] at H
    have c2b0 : decide (120 < (a0.size : Int)) = true := decide_eq_true c2
    have c2b1 : decide (120 < a0.size) = true := decide_eq_true (by omega)
    clear c2
    obtain rfl := Option.some.inj H
    go_enter Try.func40, Try.ntmps40
    go_wp2
    go_ret
    exact ⟨by first | rfl | (simp; done) | (simp [*]; done), by repeat (first | exact Drawn0.refl _ | apply Drawn0.step)⟩
  · rw [if_neg c2] at H
    have c2b0 : decide (120 < (a0.size : Int)) = false := decide_eq_false c2
    have c2b1 : decide (120 < a0.size) = false := decide_eq_false (by omega)
    clear c2
    have H' := Aside0.mk H
    clear H
    go_enter Try.func40, Try.ntmps40
    go_wp2
    go_loopg [3, 10] k (fun kq v3 v10 w' => ∃ (x3_1 : Int) (x10_1 : Int), v3 = .int .i64 x3_1 ∧ v10 = .int .i64 x10_1 ∧ Aside0 (pattern_Marked.l0 kq a0 x3_1 (a0.size : Int) x10_1 = some r) ∧ Aside0 (kq ≤ k) ∧ Drawn0 w w')
    case atStart => exact ⟨(0), (0), (by first | rfl | (simp; done) | (simp [*]; done)), (by first | rfl | (simp; done) | (simp [*]; done)), H', ⟨Nat.le_refl _⟩, by repeat (first | exact Drawn0.refl _ | apply Drawn0.step)⟩
    case round =>
      clear H'
      try clear c2
      try clear c2b0
      try clear c2b1
      try clear p2
      obtain ⟨x3_1, x10_1, rfl, rfl, HA, HK1, ⟨m1, rfl⟩⟩ := hrel
      cases gk with
      | zero => exact absurd HA.out (by simp [pattern_Marked.l0])
      | succ k1 =>
        have H := HA.out
        clear HA
        simp only [pattern_Marked.l0] at H
        by_cases c3 : x10_1 < (a0.size : Int)
        · rw [if_pos c3] at H
          have c3b0 : decide (x10_1 < (a0.size : Int)) = true := decide_eq_true c3
          clear c3
          by_cases c4 : 0 ≤ x10_1
          · rw [if_pos c4] at H
            have c4b0 : decide (0 ≤ x10_1) = true := decide_eq_true c4
            clear c4
            by_cases c5 : x10_1 < (a0.size : Int)
            · rw [if_pos c5] at H
              have c5b0 : decide (x10_1 < (a0.size : Int)) = true := decide_eq_true c5
              clear c5
              replace H := Option.bind_eq_some_iff.mp H
              obtain ⟨t141, A70, H⟩ := H
              replace H : (if t141 = true then (pattern_Marked.l0 k1 a0 (wrap64 (x3_1 + 1)) (a0.size : Int) (wrap64 (x10_1 + 1))) else (if (bt a0 x10_1) = 46 then (if x10_1 = 0 then (some 2) else (if 0 ≤ (wrap64 (x10_1 - 1)) then (if (wrap64 (x10_1 - 1)) < (a0.size : Int) then ((pattern_isSign.f (bt a0 (wrap64 (x10_1 - 1)))).bind fun t142 => (if t142 = true then (pattern_Marked.l0 k1 a0 x3_1 (a0.size : Int) (wrap64 (x10_1 + 1))) else (some 2))) else (none)) else (none))) else (some 2))) = some r := H
              have A7 := Aside0.mk A70
              clear A70
              by_cases c8 : t141 = true
              · subst c8
                have H1 : (pattern_Marked.l0 k1 a0 (wrap64 (x3_1 + 1)) (a0.size : Int) (wrap64 (x10_1 + 1))) = some r := by rw [if_pos rfl] at H; exact H
                clear H
                have H := H1
                clear H1
                have H' := Aside0.mk H
                clear H
                have p6 : 0 ≤ (x10_1 : Int) := of_decide_eq_true (by first | (with_reducible assumption) | assumption)
                have q6 : x10_1 < (a0.size : Int) := of_decide_eq_true (by first | (with_reducible assumption) | assumption)
                have hx6 := bt_at a0 x10_1
                replace p6 := eq_true p6
                replace q6 := eq_true q6
                go_wp2_with (first | ((with_reducible refine gate_callee (f := 43) rfl ?_); refine goesL_ (some 17) rfl rfl Try.func43 (by kernel_rfl) rfl #[.int .u8 (bt a0 x10_1)] rfl (by (try simp only [List.map_toArray, List.map_cons, List.map_nil]); first | done | rfl | (simp only [List.length_drop, List.length_take]; rfl)) ?_; (with_reducible refine (pattern_isSign.calls (bt a0 x10_1) true _ A7.out).mono ?_); rintro e w' ⟨rfl, ⟨nd, rfl⟩⟩; refine ⟨_, rfl, ?_⟩))
                go_roundg k1
                case measure => have := HK1.out; omega
                case rel => exact ⟨(wrap64 (x3_1 + 1)), (wrap64 (x10_1 + 1)), (by first | rfl | (simp; done) | (simp [*]; done)), (by first | rfl | (simp; done) | (simp [*]; done)), H', ⟨by have := HK1.out; omega⟩, by repeat (first | exact Drawn0.refl _ | apply Drawn0.step)⟩
              · replace c8 := Bool.eq_false_iff.mpr c8
                subst c8
                have H1 : (if (bt a0 x10_1) = 46 then (if x10_1 = 0 then (some 2) else (if 0 ≤ (wrap64 (x10_1 - 1)) then (if (wrap64 (x10_1 - 1)) < (a0.size : Int) then ((pattern_isSign.f (bt a0 (wrap64 (x10_1 - 1)))).bind fun t142 => (if t142 = true then (pattern_Marked.l0 k1 a0 x3_1 (a0.size : Int) (wrap64 (x10_1 + 1))) else (some 2))) else (none)) else (none))) else (some 2)) = some r := by rw [if_neg (show ¬ (false = true) by decide)] at H; exact H
                clear H
                have H := H1
                clear H1
                by_cases c10 : (bt a0 x10_1) = 46
                · rw [if_pos c10] at H
                  have c10b0 : ((bt a0 x10_1) == 46) = true := beq_iff_eq.mpr c10
                  have c10b1 : ((bt a0 x10_1) != 46) = false := bne_eq_false_iff_eq.mpr c10
                  clear c10
                  by_cases c11 : x10_1 = 0
                  · rw [if_pos c11] at H
                    have c11b0 : (x10_1 == 0) = true := beq_iff_eq.mpr c11
                    have c11b1 : (x10_1 != 0) = false := bne_eq_false_iff_eq.mpr c11
                    clear c11
                    obtain rfl := Option.some.inj H
                    have p6 : 0 ≤ (x10_1 : Int) := of_decide_eq_true (by first | (with_reducible assumption) | assumption)
                    have q6 : x10_1 < (a0.size : Int) := of_decide_eq_true (by first | (with_reducible assumption) | assumption)
                    have hx6 := bt_at a0 x10_1
                    replace p6 := eq_true p6
                    replace q6 := eq_true q6
                    go_wp2_with (first | ((with_reducible refine gate_callee (f := 43) rfl ?_); refine goesL_ (some 17) rfl rfl Try.func43 (by kernel_rfl) rfl #[.int .u8 (bt a0 x10_1)] rfl (by (try simp only [List.map_toArray, List.map_cons, List.map_nil]); first | done | rfl | (simp only [List.length_drop, List.length_take]; rfl)) ?_; (with_reducible refine (pattern_isSign.calls (bt a0 x10_1) false _ A7.out).mono ?_); rintro e w' ⟨rfl, ⟨nd, rfl⟩⟩; refine ⟨_, rfl, ?_⟩; have p9 : 0 ≤ (x10_1 : Int) := of_decide_eq_true (by first | (with_reducible assumption) | assumption); have q9 : x10_1 < (a0.size : Int) := of_decide_eq_true (by first | (with_reducible assumption) | assumption); have hx9 := bt_at a0 x10_1; replace p9 := eq_true p9; replace q9 := eq_true q9))
                    go_ret
                    exact ⟨by first | rfl | (simp; done) | (simp [*]; done), by repeat (first | exact Drawn0.refl _ | apply Drawn0.step)⟩
                  · rw [if_neg c11] at H
                    have c11b0 : (x10_1 == 0) = false := beq_eq_false_iff_ne.mpr c11
                    have c11b1 : (x10_1 != 0) = true := bne_iff_ne.mpr c11
                    obtain ⟨ji12, hji12⟩ : ∃ j_ : Int, (wrap64 (x10_1 - 1)) = j_ := ⟨_, rfl⟩
                    replace H : (if 0 ≤ (ji12) then (if (ji12) < (a0.size : Int) then ((pattern_isSign.f (bt a0 (ji12))).bind fun t142 => (if t142 = true then (pattern_Marked.l0 k1 a0 x3_1 (a0.size : Int) (wrap64 (x10_1 + 1))) else (some 2))) else (none)) else (none)) = some r := by first | (rw [hji12] at H; exact H) | (simp only [hji12] at H ⊢; exact H)
                    (try rw [hji12] at A7)
                    have hji12w : (IntKind.i64.wrap (x10_1 - 1)) = ji12 := (i64_w _).trans hji12
                    by_cases c13 : 0 ≤ (ji12)
                    · rw [if_pos c13] at H
                      have c13b0 : decide (0 ≤ (ji12)) = true := decide_eq_true c13
                      clear c13
                      by_cases c14 : (ji12) < (a0.size : Int)
                      · rw [if_pos c14] at H
                        have c14b0 : decide ((ji12) < (a0.size : Int)) = true := decide_eq_true c14
                        clear c14
                        replace H := Option.bind_eq_some_iff.mp H
                        obtain ⟨t142, A160, H⟩ := H
                        replace H : (if t142 = true then (pattern_Marked.l0 k1 a0 x3_1 (a0.size : Int) (wrap64 (x10_1 + 1))) else (some 2)) = some r := H
                        have A16 := Aside0.mk A160
                        clear A160
                        by_cases c17 : t142 = true
                        · subst c17
                          have H1 : (pattern_Marked.l0 k1 a0 x3_1 (a0.size : Int) (wrap64 (x10_1 + 1))) = some r := by rw [if_pos rfl] at H; exact H
                          clear H
                          have H := H1
                          clear H1
                          have H' := Aside0.mk H
                          clear H
                          have p6 : 0 ≤ (x10_1 : Int) := of_decide_eq_true (by first | (with_reducible assumption) | assumption)
                          have q6 : x10_1 < (a0.size : Int) := of_decide_eq_true (by first | (with_reducible assumption) | assumption)
                          have hx6 := bt_at a0 x10_1
                          replace p6 := eq_true p6
                          replace q6 := eq_true q6
                          go_wp2_with (first | ((with_reducible refine gate_callee (f := 43) rfl ?_); refine goesL_ (some 17) rfl rfl Try.func43 (by kernel_rfl) rfl #[.int .u8 (bt a0 x10_1)] rfl (by (try simp only [List.map_toArray, List.map_cons, List.map_nil]); first | done | rfl | (simp only [List.length_drop, List.length_take]; rfl)) ?_; (with_reducible refine (pattern_isSign.calls (bt a0 x10_1) false _ A7.out).mono ?_); rintro e w' ⟨rfl, ⟨nd, rfl⟩⟩; refine ⟨_, rfl, ?_⟩; have p9 : 0 ≤ (x10_1 : Int) := of_decide_eq_true (by first | (with_reducible assumption) | assumption); have q9 : x10_1 < (a0.size : Int) := of_decide_eq_true (by first | (with_reducible assumption) | assumption); have hx9 := bt_at a0 x10_1; replace p9 := eq_true p9; replace q9 := eq_true q9; have p15 : 0 ≤ ((ji12) : Int) := of_decide_eq_true (by first | (with_reducible assumption) | assumption); have q15 : (ji12) < (a0.size : Int) := of_decide_eq_true (by first | (with_reducible assumption) | assumption); have hx15 := bt_at a0 (ji12); replace p15 := eq_true p15; replace q15 := eq_true q15) | (go_at_call 43; (with_reducible refine (pattern_isSign.calls (bt a0 (ji12)) true _ A16.out).mono ?_); rintro e w' ⟨rfl, ⟨nd, rfl⟩⟩))
                          go_roundg k1
                          case measure => have := HK1.out; omega
                          case rel => exact ⟨(x3_1), (wrap64 (x10_1 + 1)), (by first | rfl | (simp; done) | (simp [*]; done)), (by first | rfl | (simp; done) | (simp [*]; done)), H', ⟨by have := HK1.out; omega⟩, by repeat (first | exact Drawn0.refl _ | apply Drawn0.step)⟩
                        · replace c17 := Bool.eq_false_iff.mpr c17
                          subst c17
                          have H1 : (some 2) = some r := by rw [if_neg (show ¬ (false = true) by decide)] at H; exact H
                          clear H
                          have H := H1
                          clear H1
                          obtain rfl := Option.some.inj H
                          have p6 : 0 ≤ (x10_1 : Int) := of_decide_eq_true (by first | (with_reducible assumption) | assumption)
                          have q6 : x10_1 < (a0.size : Int) := of_decide_eq_true (by first | (with_reducible assumption) | assumption)
                          have hx6 := bt_at a0 x10_1
                          replace p6 := eq_true p6
                          replace q6 := eq_true q6
                          go_wp2_with (first | ((with_reducible refine gate_callee (f := 43) rfl ?_); refine goesL_ (some 17) rfl rfl Try.func43 (by kernel_rfl) rfl #[.int .u8 (bt a0 x10_1)] rfl (by (try simp only [List.map_toArray, List.map_cons, List.map_nil]); first | done | rfl | (simp only [List.length_drop, List.length_take]; rfl)) ?_; (with_reducible refine (pattern_isSign.calls (bt a0 x10_1) false _ A7.out).mono ?_); rintro e w' ⟨rfl, ⟨nd, rfl⟩⟩; refine ⟨_, rfl, ?_⟩; have p9 : 0 ≤ (x10_1 : Int) := of_decide_eq_true (by first | (with_reducible assumption) | assumption); have q9 : x10_1 < (a0.size : Int) := of_decide_eq_true (by first | (with_reducible assumption) | assumption); have hx9 := bt_at a0 x10_1; replace p9 := eq_true p9; replace q9 := eq_true q9; have p15 : 0 ≤ ((ji12) : Int) := of_decide_eq_true (by first | (with_reducible assumption) | assumption); have q15 : (ji12) < (a0.size : Int) := of_decide_eq_true (by first | (with_reducible assumption) | assumption); have hx15 := bt_at a0 (ji12); replace p15 := eq_true p15; replace q15 := eq_true q15) | (go_at_call 43; (with_reducible refine (pattern_isSign.calls (bt a0 (ji12)) false _ A16.out).mono ?_); rintro e w' ⟨rfl, ⟨nd, rfl⟩⟩))
                          go_ret
                          exact ⟨by first | rfl | (simp; done) | (simp only [← hji12] <;> (first | rfl | simp)) | (simp [*]; done), by repeat (first | exact Drawn0.refl _ | apply Drawn0.step)⟩
                      · rw [if_neg c14] at H
                        exact absurd H (by simp)
                    · rw [if_neg c13] at H
                      exact absurd H (by simp)
                · rw [if_neg c10] at H
                  have c10b0 : ((bt a0 x10_1) == 46) = false := beq_eq_false_iff_ne.mpr c10
                  have c10b1 : ((bt a0 x10_1) != 46) = true := bne_iff_ne.mpr c10
                  obtain rfl := Option.some.inj H
                  have p6 : 0 ≤ (x10_1 : Int) := of_decide_eq_true (by first | (with_reducible assumption) | assumption)
                  have q6 : x10_1 < (a0.size : Int) := of_decide_eq_true (by first | (with_reducible assumption) | assumption)
                  have hx6 := bt_at a0 x10_1
                  replace p6 := eq_true p6
                  replace q6 := eq_true q6
                  go_wp2_with (first | ((with_reducible refine gate_callee (f := 43) rfl ?_); refine goesL_ (some 17) rfl rfl Try.func43 (by kernel_rfl) rfl #[.int .u8 (bt a0 x10_1)] rfl (by (try simp only [List.map_toArray, List.map_cons, List.map_nil]); first | done | rfl | (simp only [List.length_drop, List.length_take]; rfl)) ?_; (with_reducible refine (pattern_isSign.calls (bt a0 x10_1) false _ A7.out).mono ?_); rintro e w' ⟨rfl, ⟨nd, rfl⟩⟩; refine ⟨_, rfl, ?_⟩; have p9 : 0 ≤ (x10_1 : Int) := of_decide_eq_true (by first | (with_reducible assumption) | assumption); have q9 : x10_1 < (a0.size : Int) := of_decide_eq_true (by first | (with_reducible assumption) | assumption); have hx9 := bt_at a0 x10_1; replace p9 := eq_true p9; replace q9 := eq_true q9))
                  go_ret
                  exact ⟨by first | rfl | (simp; done) | (simp [*]; done), by repeat (first | exact Drawn0.refl _ | apply Drawn0.step)⟩
            · rw [if_neg c5] at H
              exact absurd H (by simp)
          · rw [if_neg c4] at H
            exact absurd H (by simp)
        · rw [if_neg c3] at H
          have c3b0 : decide (x10_1 < (a0.size : Int)) = false := decide_eq_false c3
          clear c3
          by_cases c18 : x3_1 > 60
          · rw [if_pos c18] at H
            have c18b0 : decide (60 < x3_1) = true := decide_eq_true c18
            clear c18
            obtain rfl := Option.some.inj H
            go_wp2
            go_ret
            exact ⟨by first | rfl | (simp; done) | (simp [*]; done), by repeat (first | exact Drawn0.refl _ | apply Drawn0.step)⟩
          · rw [if_neg c18] at H
            have c18b0 : decide (60 < x3_1) = false := decide_eq_false c18
            clear c18
            obtain rfl := Option.some.inj H
            go_wp2
            go_ret
            exact ⟨by first | rfl | (simp; done) | (simp [*]; done), by repeat (first | exact Drawn0.refl _ | apply Drawn0.step)⟩

end Go.Proofs.Ytbecdafbkdchkaa.X
