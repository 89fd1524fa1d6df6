-- printed by this session's xprint.py: out of the translation, by the kit's print with additions; Lean checks it
import Derived.Test.YtbecdafbkdchkaaDoorWN
import Derived.Test.YtbecdafbkdchkaaDoorWShare
import Derived.Test.YtbecdafbkdchkaaDoorWRepsOne
import Derived.Test.YtbecdafbkdchkaaDoorWGuard
import Derived.Test.YtbecdafbkdchkaaDoorWAt
import Derived.Test.YtbecdafbkdchkaaDoorX0
import Derived.Test.YtbecdafbkdchkaaDoorX1
namespace Go.Proofs.YtbecdafbkdchkaaDoor.X
open Go.RowKit Go.Proofs.YtbecdafbkdchkaaDoorW.PrintWords Go.Proofs.YtbecdafbkdchkaaDoorW.PrintLast Go.Proofs.YtbecdafbkdchkaaDoorW.PrintMore
attribute [local go_sem] max2_int min2_int max_two min_two max_three min_three max_four min_four isSome_setCell binOp_gtr_str binOp_leq_str   -- for this text's walks alone
set_option linter.unusedVariables false
set_option linter.unusedSimpArgs false

/-! ### api_Errno: function 33 -/
def api_Errno.l0 : Nat → Int → List Int → Int → Int → Option (Int)
  | 0, _, _, _, _ => none
  | k + 1, x3, x6, x7, x8 => if x8 < x7 then (if 0 ≤ x8 then (if x8 < (x6.length : Int) then (if (rd x6 x8) = x3 then (api_Errno.l0 k x3 x6 x7 (wrap64 (x8 + 1))) else (some (rd x6 x8))) else (none)) else (none)) else (some x3)
def api_Errno.f (k : Nat) (l0 : List Int) : Option (Int) := api_Errno.l0 k 0 l0 (l0.length : Int) 0
theorem api_Errno.mono_l : ∀ k, (∀ y0 y1 y2 y3, LeO (api_Errno.l0 k y0 y1 y2 y3) (api_Errno.l0 (k + 1) y0 y1 y2 y3))
  | 0 => fun _ _ _ _ r h => by simp [api_Errno.l0] at h
  | k + 1 => by
    have ih0 := api_Errno.mono_l k
    · intro y0 y1 y2 y3
      unfold api_Errno.l0
      repeat' first
      | (with_reducible exact ih0 _ _ _ _)
      | (with_reducible exact LeO.refl _)
      | (with_reducible exact LeO.none _)
      | (with_reducible refine LeO.ite ?_ ?_)
      | (with_reducible refine LeO.bind ?_ (fun _ => ?_))
      | exact ih0 _ _ _ _
      | exact LeO.none _
      | refine LeO.ite ?_ ?_
      | refine LeO.bind ?_ (fun _ => ?_)
theorem api_Errno.mono : ∀ a0 k, LeO (api_Errno.f k a0) (api_Errno.f (k + 1) a0) := by
  intro a0 k
  have ih0 := api_Errno.mono_l k
  unfold api_Errno.f
  repeat' first
      | (with_reducible exact ih0 _ _ _ _)
      | (with_reducible exact LeO.refl _)
      | (with_reducible exact LeO.none _)
      | (with_reducible refine LeO.ite ?_ ?_)
      | (with_reducible refine LeO.bind ?_ (fun _ => ?_))
      | exact ih0 _ _ _ _
      | exact LeO.none _
      | refine LeO.ite ?_ ?_
      | refine LeO.bind ?_ (fun _ => ?_)
set_option maxHeartbeats 8000000 in
set_option maxRecDepth 100000 in
theorem api_Errno.calls (k : Nat) (A0 : Option Addr) (c0 : Nat) (l0 : List Int) (r : Int) (w : World) (hr0 : Kd.C (Kd.int .i64) w A0 l0.length l0) (hc0 : l0.length ≤ c0) (h : api_Errno.f k l0 = some r) :
    Calls Tryd.prog 33 #[.slice A0 l0.length c0] w fun e w' => e = .returned (.int .i64 r) ∧ Drawn0 w w' := by
  have HR0 := Aside0.mk hr0
  have HC0 := Aside0.mk hc0
  clear hr0 hc0
  have H : (api_Errno.l0 k 0 l0 (l0.length : Int) 0) = some r := h
  clear h
  have H' := Aside0.mk H
  clear H
  go_enter Tryd.func33, Tryd.ntmps33
  go_wp2
  go_loopg [8] k (fun kq v8 w' => ∃ (x8_1 : Int), v8 = .int .i64 x8_1 ∧ Aside0 (api_Errno.l0 kq 0 l0 (l0.length : Int) x8_1 = some r) ∧ Aside0 (kq ≤ k) ∧ Drawn0 w w')
  case atStart => exact ⟨(0), (by first | rfl | (simp; done) | (simp [*]; done)), H', ⟨Nat.le_refl _⟩, by repeat (first | exact Drawn0.refl _ | apply Drawn0.step)⟩
  case round =>
    clear H'
    obtain ⟨x8_1, rfl, HA, HK1, ⟨m1, rfl⟩⟩ := hrel
    cases gk with
    | zero => exact absurd HA.out (by simp [api_Errno.l0])
    | succ k1 =>
      have H := HA.out
      clear HA
      simp only [api_Errno.l0] at H
      by_cases c2 : x8_1 < (l0.length : Int)
      · rw [if_pos c2] at H
        have c2b0 : decide (x8_1 < (l0.length : Int)) = true := decide_eq_true c2
        clear c2
        by_cases c3 : 0 ≤ x8_1
        · rw [if_pos c3] at H
          have c3b0 : decide (0 ≤ x8_1) = true := decide_eq_true c3
          clear c3
          by_cases c4 : x8_1 < (l0.length : Int)
          · rw [if_pos c4] at H
            have c4b0 : decide (x8_1 < (l0.length : Int)) = true := decide_eq_true c4
            clear c4
            by_cases c5 : (rd l0 x8_1) = 0
            · rw [if_pos c5] at H
              have c5b0 : ((rd l0 x8_1) == 0) = true := beq_iff_eq.mpr c5
              have c5b1 : ((rd l0 x8_1) != 0) = false := bne_eq_false_iff_eq.mpr c5
              clear c5
              have H' := Aside0.mk H
              clear H
              have p116 : 0 ≤ (x8_1 : Int) := of_decide_eq_true (by first | (with_reducible assumption) | assumption)
              have q116 : x8_1 < (l0.length : Int) := of_decide_eq_true (by first | (with_reducible assumption) | assumption)
              obtain ⟨ad116, e116, hx116_0⟩ := Kd.at_int HR0.out x8_1 p116 q116
              cases e116
              replace p116 := eq_true p116
              replace q116 := eq_true q116
              go_wp2
              go_roundg k1
              case measure => have := HK1.out; omega
              case rel => exact ⟨(wrap64 (x8_1 + 1)), (by first | rfl | (simp; done) | (simp [*]; done)), H', ⟨by have := HK1.out; omega⟩, by repeat (first | exact Drawn0.refl _ | apply Drawn0.step)⟩
            · rw [if_neg c5] at H
              have c5b0 : ((rd l0 x8_1) == 0) = false := beq_eq_false_iff_ne.mpr c5
              have c5b1 : ((rd l0 x8_1) != 0) = true := bne_iff_ne.mpr c5
              obtain rfl := Option.some.inj H
              have p116 : 0 ≤ (x8_1 : Int) := of_decide_eq_true (by first | (with_reducible assumption) | assumption)
              have q116 : x8_1 < (l0.length : Int) := of_decide_eq_true (by first | (with_reducible assumption) | assumption)
              obtain ⟨ad116, e116, hx116_0⟩ := Kd.at_int HR0.out x8_1 p116 q116
              cases e116
              replace p116 := eq_true p116
              replace q116 := eq_true q116
              go_wp2
              go_ret
              exact ⟨by first | rfl | (simp; done) | (simp [*]; done), by repeat (first | exact Drawn0.refl _ | apply Drawn0.step)⟩
          · rw [if_neg c4] at H
            exact absurd H (by simp)
        · rw [if_neg c3] at H
          exact absurd H (by simp)
      · rw [if_neg c2] at H
        have c2b0 : decide (x8_1 < (l0.length : Int)) = false := decide_eq_false c2
        clear c2
        obtain rfl := Option.some.inj H
        go_wp2
        go_ret
        exact ⟨by first | rfl | (simp; done) | (simp [*]; done), by repeat (first | exact Drawn0.refl _ | apply Drawn0.step)⟩

/-! ### pattern_both: function 28 -/
def pattern_both.f (k : Nat) (a0 : ByteArray) (a1 : ByteArray) : Option (Int) := (pattern_Valid.f k a0).bind fun t117 => ((pattern_Valid.f k a1).bind fun t118 => ((api_Errno.f k (([t117, t118] : List Int))).bind fun t122 => (if t122 = 0 then (if (a0.size : Int) = (a1.size : Int) then (some t122) else (some 6)) else (some t122))))
theorem pattern_both.mono : ∀ a0 a1 k, LeO (pattern_both.f k a0 a1) (pattern_both.f (k + 1) a0 a1) := by
  intro a0 a1 k
  unfold pattern_both.f
  repeat' first
      | (with_reducible exact api_Errno.mono _ _)
      | (with_reducible exact pattern_Valid.mono _ _)
      | (with_reducible exact LeO.refl _)
      | (with_reducible exact LeO.none _)
      | (with_reducible refine LeO.ite ?_ ?_)
      | (with_reducible refine LeO.bind ?_ (fun _ => ?_))
      | exact api_Errno.mono _ _
      | exact pattern_Valid.mono _ _
      | exact LeO.none _
      | refine LeO.ite ?_ ?_
      | refine LeO.bind ?_ (fun _ => ?_)
set_option maxHeartbeats 8000000 in
set_option maxRecDepth 100000 in
theorem pattern_both.calls (k : Nat) (a0 : ByteArray) (a1 : ByteArray) (r : Int) (w : World) (h : pattern_both.f k a0 a1 = some r) :
    Calls Tryd.prog 28 #[.string a0, .string a1] w fun e w' => e = .returned (.int .i64 r) ∧ Below w.heap.size w w' := by
  have HB := Aside0.mk (Below.refl w.heap.size w)
  have H : ((pattern_Valid.f k a0).bind fun t117 => ((pattern_Valid.f k a1).bind fun t118 => ((api_Errno.f k (([t117, t118] : List Int))).bind fun t122 => (if t122 = 0 then (if (a0.size : Int) = (a1.size : Int) then (some t122) else (some 6)) else (some t122))))) = some r := h
  clear h
  replace H := Option.bind_eq_some_iff.mp H
  obtain ⟨t117, A30, H⟩ := H
  replace H : ((pattern_Valid.f k a1).bind fun t118 => ((api_Errno.f k (([t117, t118] : List Int))).bind fun t122 => (if t122 = 0 then (if (a0.size : Int) = (a1.size : Int) then (some t122) else (some 6)) else (some t122)))) = some r := H
  have A3 := Aside0.mk A30
  clear A30
  replace H := Option.bind_eq_some_iff.mp H
  obtain ⟨t118, A40, H⟩ := H
  replace H : ((api_Errno.f k (([t117, t118] : List Int))).bind fun t122 => (if t122 = 0 then (if (a0.size : Int) = (a1.size : Int) then (some t122) else (some 6)) else (some t122))) = some r := H
  have A4 := Aside0.mk A40
  clear A40
  obtain ⟨y119, hy119⟩ : ∃ y_ : List Int, y_ = (([t117, t118] : List Int)) := ⟨_, rfl⟩
  replace H : ((api_Errno.f k y119).bind fun t122 => (if t122 = 0 then (if (a0.size : Int) = (a1.size : Int) then (some t122) else (some 6)) else (some t122))) = some r := by first | (rw [hy119]; with_reducible exact H) | (have H2_ := (Option.bind_some _ _).symm.trans H; rw [hy119]; with_reducible exact H2_) | (have H2_ := (Option.bind_some _ _).symm.trans H; with_reducible exact H2_) | with_reducible exact H | (rw [hy119]; exact H) | exact H
  have Ny119 := Aside0.mk hy119
  clear hy119
  replace H := Option.bind_eq_some_iff.mp H
  obtain ⟨t122, A50, H⟩ := H
  replace H : (if t122 = 0 then (if (a0.size : Int) = (a1.size : Int) then (some t122) else (some 6)) else (some t122)) = some r := H
  have A5 := Aside0.mk A50
  clear A50
  by_cases c6 : t122 = 0
  · rw [if_pos c6] at H
    have c6b0 : (t122 == 0) = true := beq_iff_eq.mpr c6
    have c6b1 : (t122 != 0) = false := bne_eq_false_iff_eq.mpr c6
    clear c6
    by_cases c7 : (a0.size : Int) = (a1.size : Int)
    · rw [if_pos c7] at H
      have c7b0 : ((a0.size : Int) == (a1.size : Int)) = true := beq_iff_eq.mpr c7
      have c7b1 : ((a0.size : Int) != (a1.size : Int)) = false := bne_eq_false_iff_eq.mpr c7
      have c7b2 : (a0.size == a1.size) = true := by first | simpa using c7 | (simp at c7 ⊢; omega)
      clear c7
      obtain rfl := Option.some.inj H
      go_enter Tryd.func28, Tryd.ntmps28
      go_wp2_with (first | ((with_reducible refine gate_callee (f := 9) rfl ?_); refine goesL_ (some 7) rfl rfl Tryd.func9 (by kernel_rfl) rfl #[.string a0] rfl (by (try simp only [List.map_toArray, List.map_cons, List.map_nil]); first | done | rfl | (simp only [List.length_drop, List.length_take]; rfl)) ?_; (with_reducible refine (pattern_Valid.calls k a0 t117 _ A3.out).mono ?_); rintro e w' ⟨rfl, ⟨nd, rfl⟩⟩; refine ⟨_, rfl, ?_⟩) | ((with_reducible refine gate_callee (f := 9) rfl ?_); refine goesL_ (some 9) rfl rfl Tryd.func9 (by kernel_rfl) rfl #[.string a1] rfl (by (try simp only [List.map_toArray, List.map_cons, List.map_nil]); first | done | rfl | (simp only [List.length_drop, List.length_take]; rfl)) ?_; (with_reducible refine (pattern_Valid.calls k a1 t118 _ A4.out).mono ?_); rintro e w' ⟨rfl, ⟨nd, rfl⟩⟩; refine ⟨_, rfl, ?_⟩) | ((with_reducible refine gate_dst (N := 10) rfl ?_); (try (refine gate_guard (by rfl) ?_; dsimp only)); refine Kd.R_lit (Kd.int .i64) _ 23 ?hg (N := 10) ?hd (xs := ([t117, t118] : List Int)) (inner := [.int .i64 t117, .int .i64 t118]) (ok := fun _ => True) (okp := fun _ => True) ?hr ?hp (fun _ hk => hk) trivial (Below.refl _ _) (Nat.le_refl _) (by simp) ?_; (case hd => rfl); (case hg => rfl); (case hr => first | (go_simp; done) | (go_simp; rfl)); (case hp => exact (Reps.one (show Kd.M (Kd.int .i64) _ _ _ t117 [.int .i64 t117] from rfl) (Reps.one (show Kd.M (Kd.int .i64) _ _ _ t118 [.int .i64 t118] from rfl) (Reps.none _ _)))); intro v120 w8 ho9 hb hg_ hnew_; clear hg_ hnew_; (first | rw [← Ny119.out] at ho9 | (simp only [Int.reduceToNat] at ho9; rw [← Ny119.out] at ho9)); have n0_ := Aside0.mk (Kd.R_lower ho9 (below_size (by repeat (first | (with_reducible first | exact HB.out | apply below_alloc | apply pw_below_drewN | apply below_drew1) | exact HB.out)))); have n1_ := Aside0.mk (below_step (by repeat (first | (with_reducible first | exact HB.out | apply below_alloc | apply pw_below_drewN | apply below_drew1) | exact HB.out)) hb); clear HB; have HO121 := n0_; have HB := n1_; clear n0_ n1_; clear hb ho9; obtain ⟨Ao10, co10, eo10⟩ := Kd.R_slice HO121.out; subst eo10) | ((with_reducible refine gate_callee (f := 33) rfl ?_); refine goesL_ (some 11) rfl rfl Tryd.func33 (by kernel_rfl) rfl #[.slice Ao10 y119.length co10] rfl (by (try simp only [List.map_toArray, List.map_cons, List.map_nil]); first | done | rfl | (simp only [List.length_drop, List.length_take]; rfl)) ?_; (with_reducible refine (api_Errno.calls k _ _ y119 t122 _ ?side1 ?side2 A5.out).mono ?_); (case side1 => repeat (first | exact (Kd.R_reads' HO121.out).2.2 | (with_reducible refine Kd.C_alloc ?_ _) | (with_reducible refine Kd.C_drewN ?_ _) | (with_reducible refine Kd.C_drew ?_))); (case side2 => exact (Kd.R_reads' HO121.out).2.1); rintro e w' ⟨rfl, ⟨nd, rfl⟩⟩; refine ⟨_, rfl, ?_⟩))
      go_ret
      exact ⟨by first | rfl | (simp [errW_none, errW_some] <;> rfl) | (simp [*, errW_none, errW_some] <;> rfl), by repeat (first | (with_reducible first | exact HB.out | apply below_alloc | apply pw_below_drewN | apply below_drew1) | exact HB.out)⟩
    · rw [if_neg c7] at H
      have c7b0 : ((a0.size : Int) == (a1.size : Int)) = false := beq_eq_false_iff_ne.mpr c7
      have c7b1 : ((a0.size : Int) != (a1.size : Int)) = true := bne_iff_ne.mpr c7
      have c7b2 : (a0.size == a1.size) = false := by first | simpa using c7 | (simp at c7 ⊢; omega)
      obtain rfl := Option.some.inj H
      go_enter Tryd.func28, Tryd.ntmps28
      go_wp2_with (first | ((with_reducible refine gate_callee (f := 9) rfl ?_); refine goesL_ (some 7) rfl rfl Tryd.func9 (by kernel_rfl) rfl #[.string a0] rfl (by (try simp only [List.map_toArray, List.map_cons, List.map_nil]); first | done | rfl | (simp only [List.length_drop, List.length_take]; rfl)) ?_; (with_reducible refine (pattern_Valid.calls k a0 t117 _ A3.out).mono ?_); rintro e w' ⟨rfl, ⟨nd, rfl⟩⟩; refine ⟨_, rfl, ?_⟩) | ((with_reducible refine gate_callee (f := 9) rfl ?_); refine goesL_ (some 9) rfl rfl Tryd.func9 (by kernel_rfl) rfl #[.string a1] rfl (by (try simp only [List.map_toArray, List.map_cons, List.map_nil]); first | done | rfl | (simp only [List.length_drop, List.length_take]; rfl)) ?_; (with_reducible refine (pattern_Valid.calls k a1 t118 _ A4.out).mono ?_); rintro e w' ⟨rfl, ⟨nd, rfl⟩⟩; refine ⟨_, rfl, ?_⟩) | ((with_reducible refine gate_dst (N := 10) rfl ?_); (try (refine gate_guard (by rfl) ?_; dsimp only)); refine Kd.R_lit (Kd.int .i64) _ 23 ?hg (N := 10) ?hd (xs := ([t117, t118] : List Int)) (inner := [.int .i64 t117, .int .i64 t118]) (ok := fun _ => True) (okp := fun _ => True) ?hr ?hp (fun _ hk => hk) trivial (Below.refl _ _) (Nat.le_refl _) (by simp) ?_; (case hd => rfl); (case hg => rfl); (case hr => first | (go_simp; done) | (go_simp; rfl)); (case hp => exact (Reps.one (show Kd.M (Kd.int .i64) _ _ _ t117 [.int .i64 t117] from rfl) (Reps.one (show Kd.M (Kd.int .i64) _ _ _ t118 [.int .i64 t118] from rfl) (Reps.none _ _)))); intro v120 w11 ho12 hb hg_ hnew_; clear hg_ hnew_; (first | rw [← Ny119.out] at ho12 | (simp only [Int.reduceToNat] at ho12; rw [← Ny119.out] at ho12)); have n0_ := Aside0.mk (Kd.R_lower ho12 (below_size (by repeat (first | (with_reducible first | exact HB.out | apply below_alloc | apply pw_below_drewN | apply below_drew1) | exact HB.out)))); have n1_ := Aside0.mk (below_step (by repeat (first | (with_reducible first | exact HB.out | apply below_alloc | apply pw_below_drewN | apply below_drew1) | exact HB.out)) hb); clear HB; have HO121 := n0_; have HB := n1_; clear n0_ n1_; clear hb ho12; obtain ⟨Ao13, co13, eo13⟩ := Kd.R_slice HO121.out; subst eo13) | ((with_reducible refine gate_callee (f := 33) rfl ?_); refine goesL_ (some 11) rfl rfl Tryd.func33 (by kernel_rfl) rfl #[.slice Ao13 y119.length co13] rfl (by (try simp only [List.map_toArray, List.map_cons, List.map_nil]); first | done | rfl | (simp only [List.length_drop, List.length_take]; rfl)) ?_; (with_reducible refine (api_Errno.calls k _ _ y119 t122 _ ?side1 ?side2 A5.out).mono ?_); (case side1 => repeat (first | exact (Kd.R_reads' HO121.out).2.2 | (with_reducible refine Kd.C_alloc ?_ _) | (with_reducible refine Kd.C_drewN ?_ _) | (with_reducible refine Kd.C_drew ?_))); (case side2 => exact (Kd.R_reads' HO121.out).2.1); rintro e w' ⟨rfl, ⟨nd, rfl⟩⟩; refine ⟨_, rfl, ?_⟩))
      go_ret
      exact ⟨by first | rfl | (simp [errW_none, errW_some] <;> rfl) | (simp [*, errW_none, errW_some] <;> rfl), by repeat (first | (with_reducible first | exact HB.out | apply below_alloc | apply pw_below_drewN | apply below_drew1) | exact HB.out)⟩
  · rw [if_neg c6] at H
    have c6b0 : (t122 == 0) = false := beq_eq_false_iff_ne.mpr c6
    have c6b1 : (t122 != 0) = true := bne_iff_ne.mpr c6
    obtain rfl := Option.some.inj H
    go_enter Tryd.func28, Tryd.ntmps28
    go_wp2_with (first | ((with_reducible refine gate_callee (f := 9) rfl ?_); refine goesL_ (some 7) rfl rfl Tryd.func9 (by kernel_rfl) rfl #[.string a0] rfl (by (try simp only [List.map_toArray, List.map_cons, List.map_nil]); first | done | rfl | (simp only [List.length_drop, List.length_take]; rfl)) ?_; (with_reducible refine (pattern_Valid.calls k a0 t117 _ A3.out).mono ?_); rintro e w' ⟨rfl, ⟨nd, rfl⟩⟩; refine ⟨_, rfl, ?_⟩) | ((with_reducible refine gate_callee (f := 9) rfl ?_); refine goesL_ (some 9) rfl rfl Tryd.func9 (by kernel_rfl) rfl #[.string a1] rfl (by (try simp only [List.map_toArray, List.map_cons, List.map_nil]); first | done | rfl | (simp only [List.length_drop, List.length_take]; rfl)) ?_; (with_reducible refine (pattern_Valid.calls k a1 t118 _ A4.out).mono ?_); rintro e w' ⟨rfl, ⟨nd, rfl⟩⟩; refine ⟨_, rfl, ?_⟩) | ((with_reducible refine gate_dst (N := 10) rfl ?_); (try (refine gate_guard (by rfl) ?_; dsimp only)); refine Kd.R_lit (Kd.int .i64) _ 23 ?hg (N := 10) ?hd (xs := ([t117, t118] : List Int)) (inner := [.int .i64 t117, .int .i64 t118]) (ok := fun _ => True) (okp := fun _ => True) ?hr ?hp (fun _ hk => hk) trivial (Below.refl _ _) (Nat.le_refl _) (by simp) ?_; (case hd => rfl); (case hg => rfl); (case hr => first | (go_simp; done) | (go_simp; rfl)); (case hp => exact (Reps.one (show Kd.M (Kd.int .i64) _ _ _ t117 [.int .i64 t117] from rfl) (Reps.one (show Kd.M (Kd.int .i64) _ _ _ t118 [.int .i64 t118] from rfl) (Reps.none _ _)))); intro v120 w14 ho15 hb hg_ hnew_; clear hg_ hnew_; (first | rw [← Ny119.out] at ho15 | (simp only [Int.reduceToNat] at ho15; rw [← Ny119.out] at ho15)); have n0_ := Aside0.mk (Kd.R_lower ho15 (below_size (by repeat (first | (with_reducible first | exact HB.out | apply below_alloc | apply pw_below_drewN | apply below_drew1) | exact HB.out)))); have n1_ := Aside0.mk (below_step (by repeat (first | (with_reducible first | exact HB.out | apply below_alloc | apply pw_below_drewN | apply below_drew1) | exact HB.out)) hb); clear HB; have HO121 := n0_; have HB := n1_; clear n0_ n1_; clear hb ho15; obtain ⟨Ao16, co16, eo16⟩ := Kd.R_slice HO121.out; subst eo16) | ((with_reducible refine gate_callee (f := 33) rfl ?_); refine goesL_ (some 11) rfl rfl Tryd.func33 (by kernel_rfl) rfl #[.slice Ao16 y119.length co16] rfl (by (try simp only [List.map_toArray, List.map_cons, List.map_nil]); first | done | rfl | (simp only [List.length_drop, List.length_take]; rfl)) ?_; (with_reducible refine (api_Errno.calls k _ _ y119 t122 _ ?side1 ?side2 A5.out).mono ?_); (case side1 => repeat (first | exact (Kd.R_reads' HO121.out).2.2 | (with_reducible refine Kd.C_alloc ?_ _) | (with_reducible refine Kd.C_drewN ?_ _) | (with_reducible refine Kd.C_drew ?_))); (case side2 => exact (Kd.R_reads' HO121.out).2.1); rintro e w' ⟨rfl, ⟨nd, rfl⟩⟩; refine ⟨_, rfl, ?_⟩))
    go_ret
    exact ⟨by first | rfl | (simp [errW_none, errW_some] <;> rfl) | (simp [*, errW_none, errW_some] <;> rfl), by repeat (first | (with_reducible first | exact HB.out | apply below_alloc | apply pw_below_drewN | apply below_drew1) | exact HB.out)⟩

/-! ### pattern_Meet: function 15 -/
def pattern_Meet.l0 : Nat → ByteArray → List Int → Int → Int → Option (ByteArray × Int)
  | 0, _, _, _, _ => none
  | k + 1, x1, x16, x18, x19 => if x19 < x18 then (if 0 ≤ x19 then (if x19 < (x16.length : Int) then (if (rd x16 x19) = 120 then (if x19 < (x1.size : Int) then (pattern_Meet.l0 k x1 (x16.set (x19 : Int).toNat (bt x1 x19)) x18 (wrap64 (x19 + 1))) else (none)) else (if x19 < (x1.size : Int) then (if (bt x1 x19) = 120 then (pattern_Meet.l0 k x1 x16 x18 (wrap64 (x19 + 1))) else (if (bt x1 x19) = (rd x16 x19) then (pattern_Meet.l0 k x1 x16 x18 (wrap64 (x19 + 1))) else (some ((⟨#[]⟩ : ByteArray), 12)))) else (none))) else (none)) else (none)) else (some (strOfNums x16, 0))
def pattern_Meet.f (k : Nat) (a0 : ByteArray) (a1 : ByteArray) : Option (ByteArray × Int) := (pattern_both.f k a0 a1).bind fun t123 => (if t123 = 0 then (if a0.size ≤ 140737488355328 then ((some (bytesOf a0 : List Int)).bind fun y124 => (pattern_Meet.l0 k a1 y124 (y124.length : Int) 0)) else (none)) else (some ((⟨#[]⟩ : ByteArray), t123)))
theorem pattern_Meet.mono_l : ∀ k, (∀ y0 y1 y2 y3, LeO (pattern_Meet.l0 k y0 y1 y2 y3) (pattern_Meet.l0 (k + 1) y0 y1 y2 y3))
  | 0 => fun _ _ _ _ r h => by simp [pattern_Meet.l0] at h
  | k + 1 => by
    have ih0 := pattern_Meet.mono_l k
    · intro y0 y1 y2 y3
      unfold pattern_Meet.l0
      repeat' first
      | (with_reducible exact ih0 _ _ _ _)
      | (with_reducible exact pattern_both.mono _ _ _)
      | (with_reducible exact LeO.refl _)
      | (with_reducible exact LeO.none _)
      | (with_reducible refine LeO.ite ?_ ?_)
      | (with_reducible refine LeO.bind ?_ (fun _ => ?_))
      | exact ih0 _ _ _ _
      | exact pattern_both.mono _ _ _
      | exact LeO.none _
      | refine LeO.ite ?_ ?_
      | refine LeO.bind ?_ (fun _ => ?_)
theorem pattern_Meet.mono : ∀ a0 a1 k, LeO (pattern_Meet.f k a0 a1) (pattern_Meet.f (k + 1) a0 a1) := by
  intro a0 a1 k
  have ih0 := pattern_Meet.mono_l k
  unfold pattern_Meet.f
  repeat' first
      | (with_reducible exact ih0 _ _ _ _)
      | (with_reducible exact pattern_both.mono _ _ _)
      | (with_reducible exact LeO.refl _)
      | (with_reducible exact LeO.none _)
      | (with_reducible refine LeO.ite ?_ ?_)
      | (with_reducible refine LeO.bind ?_ (fun _ => ?_))
      | exact ih0 _ _ _ _
      | exact pattern_both.mono _ _ _
      | exact LeO.none _
      | refine LeO.ite ?_ ?_
      | refine LeO.bind ?_ (fun _ => ?_)
set_option maxHeartbeats 8000000 in
set_option maxRecDepth 100000 in
theorem pattern_Meet.calls (k : Nat) (a0 : ByteArray) (a1 : ByteArray) (r1 : ByteArray) (r2 : Int) (w : World) (h : pattern_Meet.f k a0 a1 = some (r1, r2)) :
    Calls Tryd.prog 15 #[.string a0, .string a1] w fun e w' => e = .returned (.tuple #[.string r1, .int .i64 r2]) ∧ Below w.heap.size w w' := by
  have HB := Aside0.mk (Below.refl w.heap.size w)
  have H : ((pattern_both.f k a0 a1).bind fun t123 => (if t123 = 0 then (if a0.size ≤ 140737488355328 then ((some (bytesOf a0 : List Int)).bind fun y124 => (pattern_Meet.l0 k a1 y124 (y124.length : Int) 0)) else (none)) else (some ((⟨#[]⟩ : ByteArray), t123)))) = some (r1, r2) := h
  clear h
  replace H := Option.bind_eq_some_iff.mp H
  obtain ⟨t123, A30, H⟩ := H
  replace H : (if t123 = 0 then (if a0.size ≤ 140737488355328 then ((some (bytesOf a0 : List Int)).bind fun y124 => (pattern_Meet.l0 k a1 y124 (y124.length : Int) 0)) else (none)) else (some ((⟨#[]⟩ : ByteArray), t123))) = some (r1, r2) := H
  have A3 := Aside0.mk A30
  clear A30
  by_cases c4 : t123 = 0
  · rw [if_pos c4] at H
    have c4b0 : (t123 == 0) = true := beq_iff_eq.mpr c4
    have c4b1 : (t123 != 0) = false := bne_eq_false_iff_eq.mpr c4
    clear c4
    by_cases c5 : a0.size ≤ 140737488355328
    · rw [if_pos c5] at H
      have c5b0 := eq_true c5
      have c5b1 : decide (a0.size ≤ 140737488355328) = true := decide_eq_true c5
      clear c5
      obtain ⟨y124, hy124⟩ : ∃ y_ : List Int, y_ = (bytesOf a0) := ⟨_, rfl⟩
      replace H : (pattern_Meet.l0 k a1 y124 (y124.length : Int) 0) = some (r1, r2) := by first | (rw [hy124]; with_reducible exact H) | (have H2_ := (Option.bind_some _ _).symm.trans H; rw [hy124]; with_reducible exact H2_) | (have H2_ := (Option.bind_some _ _).symm.trans H; with_reducible exact H2_) | with_reducible exact H | (rw [hy124]; exact H) | exact H
      have Ny124 := Aside0.mk hy124
      clear hy124
      have H' := Aside0.mk H
      clear H
      go_enter Tryd.func15, Tryd.ntmps15
      go_wp2_with (first | (go_at_call 28; (with_reducible refine (pattern_both.calls k a0 a1 t123 _ A3.out).mono ?_); rintro e w6 ⟨rfl, hb⟩; have n0_ := Aside0.mk (below_step (by repeat (first | (with_reducible first | exact HB.out | apply below_alloc | apply pw_below_drewN | apply below_drew1) | exact HB.out)) hb); clear HB; have HB := n0_; clear n0_; (try clear hb); (try clear hb2); (try clear hk); (try clear hi)) | ((with_reducible refine gate_dst (N := 16) rfl ?_); refine Kd.B_conv _ 5 rfl (N := 16) rfl 9 46 _ rfl a0 rfl Tryd.underlying9 Tryd.underlying46 Tryd.underlying5 (ok := fun _ => True) trivial (Nat.le_trans (of_decide_eq_true (by first | (with_reducible assumption) | assumption) : a0.size ≤ 140737488355328) (by decide)) (Below.refl _ _) (Nat.le_refl _) ?_; intro v125 w7 ho8 hb hg_ hnew_; clear hg_ hnew_; (first | rw [← Ny124.out] at ho8 | (simp only [Int.reduceToNat] at ho8; rw [← Ny124.out] at ho8)); have n0_ := Aside0.mk (Kd.B_lower ho8 (below_size (by repeat (first | (with_reducible first | exact HB.out | apply below_alloc | apply pw_below_drewN | apply below_drew1) | exact HB.out)))); have n1_ := Aside0.mk (below_step (by repeat (first | (with_reducible first | exact HB.out | apply below_alloc | apply pw_below_drewN | apply below_drew1) | exact HB.out)) hb); clear HB; have HO126 := n0_; have HB := n1_; clear n0_ n1_; clear hb ho8; obtain ⟨Ao9, co9, eo9⟩ := Kd.B_slice HO126.out; subst eo9))
      repeat (go_quiet (first | (go_at_call 28; (with_reducible refine (pattern_both.calls k a0 a1 t123 _ A3.out).mono ?_); (try clear A3); rintro e w6 ⟨rfl, hb⟩; have n0_ := Aside0.mk (below_step (by repeat (first | (with_reducible first | exact HB.out | apply below_alloc | apply pw_below_drewN | apply below_drew1) | exact HB.out)) hb); clear HB; have HB := n0_; clear n0_; (try clear hb); (try clear hb2); (try clear hk); (try clear hi)) | ((with_reducible refine gate_dst (N := 16) rfl ?_); refine Kd.B_conv _ 5 rfl (N := 16) rfl 9 46 _ rfl a0 rfl Tryd.underlying9 Tryd.underlying46 Tryd.underlying5 (ok := fun _ => True) trivial (Nat.le_trans (of_decide_eq_true (by first | (with_reducible assumption) | assumption) : a0.size ≤ 140737488355328) (by decide)) (Below.refl _ _) (Nat.le_refl _) ?_; intro v125 w7 ho8 hb hg_ hnew_; clear hg_ hnew_; (first | rw [← Ny124.out] at ho8 | (simp only [Int.reduceToNat] at ho8; rw [← Ny124.out] at ho8)); have n0_ := Aside0.mk (Kd.B_lower ho8 (below_size (by repeat (first | (with_reducible first | exact HB.out | apply below_alloc | apply pw_below_drewN | apply below_drew1) | exact HB.out)))); have n1_ := Aside0.mk (below_step (by repeat (first | (with_reducible first | exact HB.out | apply below_alloc | apply pw_below_drewN | apply below_drew1) | exact HB.out)) hb); clear HB; have HO126 := n0_; have HB := n1_; clear n0_ n1_; clear hb ho8; obtain ⟨Ao9, co9, eo9⟩ := Kd.B_slice HO126.out; subst eo9)); try go_wp2_with (first | (go_at_call 28; (with_reducible refine (pattern_both.calls k a0 a1 t123 _ A3.out).mono ?_); (try clear A3); rintro e w6 ⟨rfl, hb⟩; have n0_ := Aside0.mk (below_step (by repeat (first | (with_reducible first | exact HB.out | apply below_alloc | apply pw_below_drewN | apply below_drew1) | exact HB.out)) hb); clear HB; have HB := n0_; clear n0_; (try clear hb); (try clear hb2); (try clear hk); (try clear hi)) | ((with_reducible refine gate_dst (N := 16) rfl ?_); refine Kd.B_conv _ 5 rfl (N := 16) rfl 9 46 _ rfl a0 rfl Tryd.underlying9 Tryd.underlying46 Tryd.underlying5 (ok := fun _ => True) trivial (Nat.le_trans (of_decide_eq_true (by first | (with_reducible assumption) | assumption) : a0.size ≤ 140737488355328) (by decide)) (Below.refl _ _) (Nat.le_refl _) ?_; intro v125 w7 ho8 hb hg_ hnew_; clear hg_ hnew_; (first | rw [← Ny124.out] at ho8 | (simp only [Int.reduceToNat] at ho8; rw [← Ny124.out] at ho8)); have n0_ := Aside0.mk (Kd.B_lower ho8 (below_size (by repeat (first | (with_reducible first | exact HB.out | apply below_alloc | apply pw_below_drewN | apply below_drew1) | exact HB.out)))); have n1_ := Aside0.mk (below_step (by repeat (first | (with_reducible first | exact HB.out | apply below_alloc | apply pw_below_drewN | apply below_drew1) | exact HB.out)) hb); clear HB; have HO126 := n0_; have HB := n1_; clear n0_ n1_; clear hb ho8; obtain ⟨Ao9, co9, eo9⟩ := Kd.B_slice HO126.out; subst eo9)))
      go_loopg [19] k (fun kq v19 w' => ∃ (x16_1 : List Int) (x19_1 : Int), v19 = .int .i64 x19_1 ∧ Aside0 (pattern_Meet.l0 kq a1 x16_1 (y124.length : Int) x19_1 = some (r1, r2)) ∧ Aside0 (kq ≤ k) ∧ Aside0 (Kd.B (Kd.int .u8) 5 w' w.heap.size (fun _ => True) (.slice Ao9 y124.length co9) x16_1) ∧ Aside0 (Below w.heap.size w w'))
      case atStart => exact ⟨(y124), (0), (by first | rfl | (simp; done) | (simp [*]; done)), H', ⟨Nat.le_refl _⟩, ⟨by (with_reducible repeat (first | apply Kd.B_alloc | apply Kd.B_drewN | apply Kd.B_drew)); exact HO126.out⟩, ⟨by repeat (first | (with_reducible first | exact HB.out | apply below_alloc | apply pw_below_drewN | apply below_drew1) | exact HB.out)⟩⟩
      case round =>
        clear H'
        try clear c1
        try clear p2
        try clear c4
        try clear c4b0
        try clear c4b1
        try clear c5
        try clear c5b0
        try clear c5b1
        obtain ⟨x16_1, x19_1, rfl, HA, HK1, HO_16, HB⟩ := hrel
        have hl16_1 := (Kd.B_reads' HO_16.out).1
        rw [hl16_1] at HO_16
        (try simp only [hl16_1])
        cases gk with
        | zero => exact absurd HA.out (by simp [pattern_Meet.l0])
        | succ k1 =>
          have H := HA.out
          clear HA
          simp only [pattern_Meet.l0] at H
          by_cases c10 : x19_1 < (y124.length : Int)
          · rw [if_pos c10] at H
            have c10b0 : decide (x19_1 < (y124.length : Int)) = true := decide_eq_true c10
            (try simp only [hl16_1] at c10b0)
            clear c10
            by_cases c11 : 0 ≤ x19_1
            · rw [if_pos c11] at H
              have c11b0 : decide (0 ≤ x19_1) = true := decide_eq_true c11
              clear c11
              by_cases c12 : x19_1 < (x16_1.length : Int)
              · rw [if_pos c12] at H
                have c12b0 : decide (x19_1 < (x16_1.length : Int)) = true := decide_eq_true c12
                (try simp only [hl16_1] at c12b0)
                clear c12
                by_cases c13 : (rd x16_1 x19_1) = 120
                · rw [if_pos c13] at H
                  have c13b0 : ((rd x16_1 x19_1) == 120) = true := beq_iff_eq.mpr c13
                  have c13b1 : ((rd x16_1 x19_1) != 120) = false := bne_eq_false_iff_eq.mpr c13
                  clear c13
                  by_cases c14 : x19_1 < (a1.size : Int)
                  · rw [if_pos c14] at H
                    have c14b0 : decide (x19_1 < (a1.size : Int)) = true := decide_eq_true c14
                    clear c14
                    obtain ⟨y128, hy128⟩ : ∃ y_ : List Int, y_ = (x16_1.set (x19_1 : Int).toNat (bt a1 x19_1)) := ⟨_, rfl⟩
                    replace H : (pattern_Meet.l0 k1 a1 y128 (y124.length : Int) (wrap64 (x19_1 + 1))) = some (r1, r2) := by first | (rw [hy128]; with_reducible exact H) | (have H2_ := (Option.bind_some _ _).symm.trans H; rw [hy128]; with_reducible exact H2_) | (have H2_ := (Option.bind_some _ _).symm.trans H; with_reducible exact H2_) | with_reducible exact H | (rw [hy128]; exact H) | exact H
                    have Ny128 := Aside0.mk hy128
                    clear hy128
                    have H' := Aside0.mk H
                    clear H
                    have p127 : 0 ≤ (x19_1 : Int) := of_decide_eq_true (by first | (with_reducible assumption) | assumption)
                    have q127 : x19_1 < (x16_1.length : Int) := of_decide_eq_true (by first | (with_reducible assumption) | assumption)
                    obtain ⟨ad127, e127, hx127_0⟩ := Kd.at_int (Kd.B_reads' HO_16.out).2.2 x19_1 p127 q127
                    cases e127
                    replace p127 := eq_true p127
                    replace q127 := eq_true q127
                    have p15 : 0 ≤ (x19_1 : Int) := of_decide_eq_true (by first | (with_reducible assumption) | assumption)
                    have q15 : x19_1 < (a1.size : Int) := of_decide_eq_true (by first | (with_reducible assumption) | assumption)
                    have hx15 := bt_at a1 x19_1
                    replace p15 := eq_true p15
                    replace q15 := eq_true q15
                    have p16 : 0 ≤ (x19_1 : Int) := of_decide_eq_true (by first | (with_reducible assumption) | assumption)
                    have q16 : (x19_1 : Int) < ((x16_1.length : Int) : Int) := of_decide_eq_true (by first | (with_reducible assumption) | assumption)
                    obtain ⟨go16, co16, eo16, gb16, gl16, cl16, HG16⟩ := Kd.B_form HO_16.out (by omega)
                    (first | cases eo16 | (injection eo16 with ea_ en_ ec_; (first | subst ea_ | (injection ea_ with ea_; subst ea_)); subst ec_; clear en_))
                    have GB16 := Aside0.mk gb16
                    have GG16 := Aside0.mk HG16
                    clear gb16 gl16 HG16
                    (first | simp only [add_plain] at hx127_0 | skip)
                    obtain ⟨hx16_0, hf16_0⟩ := Kd.B_celln 0 HO_16.out (x19_1 : Int) p16 q16
                    replace p16 := eq_true p16
                    replace q16 := eq_true q16
                    have HP17 := Kd.B_putg HO_16.out (x19_1 : Int) (bt a1 x19_1)
                    (try (obtain ⟨hx16_0, hf16_0⟩ := Kd.B_celln 0 HO_16.out (x19_1 : Int) (by first | omega | exact of_eq_true p16) (by first | omega | exact of_eq_true q16)))
                    go_wp2_with (first | ((with_reducible refine gate_store (t := 5) (p := 33) rfl ?_); (try (rw [drewN_self wr]; generalize hq_ : World.drewN wr _ = wr; have n0_ := Aside0.mk (Kd.B_at hq_ HO_16.out); have n1_ := Aside0.mk (below_at hq_ HB.out); clear hq_ HO_16 HB; have HO_16 := n0_; have HB := n1_; clear n0_ n1_; (try (have HP17 := Kd.B_putg HO_16.out (x19_1 : Int) (bt a1 x19_1))); (try (try (obtain ⟨hx16_0, hf16_0⟩ := Kd.B_celln 0 HO_16.out (x19_1 : Int) (by first | omega | exact of_eq_true p16) (by first | omega | exact of_eq_true q16)))))); refine store_event (t := 5) (p := 33) (v := ?vo_w18) (w1 := (wr.setCell ⟨go16, (x19_1 : Int).toNat, none⟩ (.int .u8 (bt a1 x19_1)))) ?hg ?ho ?hn ?hr ?_; (case ho => rfl); (case hg => rfl); (case hn => rfl); (case hr => first | (go_simp; done) | (go_simp; rfl)); intro w18 hw; have hg : wr.grownBy w18 (some go16) := (by rw [hw]; exact HP17.2); have hp_ : Kd.B (Kd.int .u8) 5 w18 w.heap.size (fun _ => True) (.slice (some ⟨go16, 0, none⟩) x16_1.length co9) y128 := (by rw [hw, Ny128.out]; exact HP17.1); clear HP17; have n0_ := Aside0.mk (hp_); have n1_ := Aside0.mk ((by rw [hw]; exact below_set (HB.out) GB16.out : Below w.heap.size w w18)); clear HO_16; clear HB; have HO_16 := n0_; have HB := n1_; clear n0_ n1_; clear hg hw hp_))
                    repeat (go_quiet (first | ((with_reducible refine gate_store (t := 5) (p := 33) rfl ?_); (try (rw [drewN_self wr]; generalize hq_ : World.drewN wr _ = wr; have n0_ := Aside0.mk (Kd.B_at hq_ HO_16.out); have n1_ := Aside0.mk (below_at hq_ HB.out); clear hq_ HO_16 HB; have HO_16 := n0_; have HB := n1_; clear n0_ n1_; (try (have HP17 := Kd.B_putg HO_16.out (x19_1 : Int) (bt a1 x19_1))); (try (try (obtain ⟨hx16_0, hf16_0⟩ := Kd.B_celln 0 HO_16.out (x19_1 : Int) (by first | omega | exact of_eq_true p16) (by first | omega | exact of_eq_true q16)))))); refine store_event (t := 5) (p := 33) (v := ?vo_w18) (w1 := (wr.setCell ⟨go16, (x19_1 : Int).toNat, none⟩ (.int .u8 (bt a1 x19_1)))) ?hg ?ho ?hn ?hr ?_; (case ho => rfl); (case hg => rfl); (case hn => rfl); (case hr => first | (go_simp; done) | (go_simp; rfl)); intro w18 hw; have hg : wr.grownBy w18 (some go16) := (by rw [hw]; exact HP17.2); have hp_ : Kd.B (Kd.int .u8) 5 w18 w.heap.size (fun _ => True) (.slice (some ⟨go16, 0, none⟩) x16_1.length co9) y128 := (by rw [hw, Ny128.out]; exact HP17.1); clear HP17; have n0_ := Aside0.mk (hp_); have n1_ := Aside0.mk ((by rw [hw]; exact below_set (HB.out) GB16.out : Below w.heap.size w w18)); clear HO_16; clear HB; have HO_16 := n0_; have HB := n1_; clear n0_ n1_; clear hg hw hp_)); try go_wp2_with (first | ((with_reducible refine gate_store (t := 5) (p := 33) rfl ?_); (try (rw [drewN_self wr]; generalize hq_ : World.drewN wr _ = wr; have n0_ := Aside0.mk (Kd.B_at hq_ HO_16.out); have n1_ := Aside0.mk (below_at hq_ HB.out); clear hq_ HO_16 HB; have HO_16 := n0_; have HB := n1_; clear n0_ n1_; (try (have HP17 := Kd.B_putg HO_16.out (x19_1 : Int) (bt a1 x19_1))); (try (try (obtain ⟨hx16_0, hf16_0⟩ := Kd.B_celln 0 HO_16.out (x19_1 : Int) (by first | omega | exact of_eq_true p16) (by first | omega | exact of_eq_true q16)))))); refine store_event (t := 5) (p := 33) (v := ?vo_w18) (w1 := (wr.setCell ⟨go16, (x19_1 : Int).toNat, none⟩ (.int .u8 (bt a1 x19_1)))) ?hg ?ho ?hn ?hr ?_; (case ho => rfl); (case hg => rfl); (case hn => rfl); (case hr => first | (go_simp; done) | (go_simp; rfl)); intro w18 hw; have hg : wr.grownBy w18 (some go16) := (by rw [hw]; exact HP17.2); have hp_ : Kd.B (Kd.int .u8) 5 w18 w.heap.size (fun _ => True) (.slice (some ⟨go16, 0, none⟩) x16_1.length co9) y128 := (by rw [hw, Ny128.out]; exact HP17.1); clear HP17; have n0_ := Aside0.mk (hp_); have n1_ := Aside0.mk ((by rw [hw]; exact below_set (HB.out) GB16.out : Below w.heap.size w w18)); clear HO_16; clear HB; have HO_16 := n0_; have HB := n1_; clear n0_ n1_; clear hg hw hp_)))
                    (try simp only [← hl16_1])
                    go_roundg k1
                    case measure => have := HK1.out; omega
                    case rel => exact ⟨(y128), (wrap64 (x19_1 + 1)), (by first | rfl | (simp; done) | (simp [*]; done)), H', ⟨by have := HK1.out; omega⟩, ⟨by (try simp only [hl16_1]); (with_reducible repeat (first | apply Kd.B_alloc | apply Kd.B_drewN | apply Kd.B_drew)); exact HO_16.out⟩, ⟨by repeat (first | (with_reducible first | exact HB.out | apply below_alloc | apply pw_below_drewN | apply below_drew1) | exact HB.out)⟩⟩
                  · rw [if_neg c14] at H
                    exact absurd H (by simp)
                · rw [if_neg c13] at H
                  have c13b0 : ((rd x16_1 x19_1) == 120) = false := beq_eq_false_iff_ne.mpr c13
                  have c13b1 : ((rd x16_1 x19_1) != 120) = true := bne_iff_ne.mpr c13
                  by_cases c19 : x19_1 < (a1.size : Int)
                  · rw [if_pos c19] at H
                    have c19b0 : decide (x19_1 < (a1.size : Int)) = true := decide_eq_true c19
                    clear c19
                    by_cases c21 : (bt a1 x19_1) = 120
                    · rw [if_pos c21] at H
                      have c21b0 : ((bt a1 x19_1) == 120) = true := beq_iff_eq.mpr c21
                      have c21b1 : ((bt a1 x19_1) != 120) = false := bne_eq_false_iff_eq.mpr c21
                      clear c21
                      have H' := Aside0.mk H
                      clear H
                      have p127 : 0 ≤ (x19_1 : Int) := of_decide_eq_true (by first | (with_reducible assumption) | assumption)
                      have q127 : x19_1 < (x16_1.length : Int) := of_decide_eq_true (by first | (with_reducible assumption) | assumption)
                      obtain ⟨ad127, e127, hx127_0⟩ := Kd.at_int (Kd.B_reads' HO_16.out).2.2 x19_1 p127 q127
                      cases e127
                      replace p127 := eq_true p127
                      replace q127 := eq_true q127
                      have p20 : 0 ≤ (x19_1 : Int) := of_decide_eq_true (by first | (with_reducible assumption) | assumption)
                      have q20 : x19_1 < (a1.size : Int) := of_decide_eq_true (by first | (with_reducible assumption) | assumption)
                      have hx20 := bt_at a1 x19_1
                      replace p20 := eq_true p20
                      replace q20 := eq_true q20
                      go_wp2
                      repeat (go_quiet (fail); try go_wp2)
                      (try simp only [← hl16_1])
                      go_roundg k1
                      case measure => have := HK1.out; omega
                      case rel => exact ⟨(x16_1), (wrap64 (x19_1 + 1)), (by first | rfl | (simp; done) | (simp [*]; done)), H', ⟨by have := HK1.out; omega⟩, ⟨by (try simp only [hl16_1]); (with_reducible repeat (first | apply Kd.B_alloc | apply Kd.B_drewN | apply Kd.B_drew)); exact HO_16.out⟩, ⟨by repeat (first | (with_reducible first | exact HB.out | apply below_alloc | apply pw_below_drewN | apply below_drew1) | exact HB.out)⟩⟩
                    · rw [if_neg c21] at H
                      have c21b0 : ((bt a1 x19_1) == 120) = false := beq_eq_false_iff_ne.mpr c21
                      have c21b1 : ((bt a1 x19_1) != 120) = true := bne_iff_ne.mpr c21
                      by_cases c23 : (bt a1 x19_1) = (rd x16_1 x19_1)
                      · rw [if_pos c23] at H
                        have c23b0 : ((bt a1 x19_1) == (rd x16_1 x19_1)) = true := beq_iff_eq.mpr c23
                        have c23b1 : ((bt a1 x19_1) != (rd x16_1 x19_1)) = false := bne_eq_false_iff_eq.mpr c23
                        clear c23
                        have H' := Aside0.mk H
                        clear H
                        have p127 : 0 ≤ (x19_1 : Int) := of_decide_eq_true (by first | (with_reducible assumption) | assumption)
                        have q127 : x19_1 < (x16_1.length : Int) := of_decide_eq_true (by first | (with_reducible assumption) | assumption)
                        obtain ⟨ad127, e127, hx127_0⟩ := Kd.at_int (Kd.B_reads' HO_16.out).2.2 x19_1 p127 q127
                        cases e127
                        replace p127 := eq_true p127
                        replace q127 := eq_true q127
                        have p20 : 0 ≤ (x19_1 : Int) := of_decide_eq_true (by first | (with_reducible assumption) | assumption)
                        have q20 : x19_1 < (a1.size : Int) := of_decide_eq_true (by first | (with_reducible assumption) | assumption)
                        have hx20 := bt_at a1 x19_1
                        replace p20 := eq_true p20
                        replace q20 := eq_true q20
                        have p22 : 0 ≤ (x19_1 : Int) := of_decide_eq_true (by first | (with_reducible assumption) | assumption)
                        have q22 : x19_1 < (a1.size : Int) := of_decide_eq_true (by first | (with_reducible assumption) | assumption)
                        have hx22 := bt_at a1 x19_1
                        replace p22 := eq_true p22
                        replace q22 := eq_true q22
                        have p129 : 0 ≤ (x19_1 : Int) := of_decide_eq_true (by first | (with_reducible assumption) | assumption)
                        have q129 : x19_1 < (x16_1.length : Int) := of_decide_eq_true (by first | (with_reducible assumption) | assumption)
                        obtain ⟨ad129, e129, hx129_0⟩ := Kd.at_int (Kd.B_reads' HO_16.out).2.2 x19_1 p129 q129
                        obtain rfl : ad127 = ad129 := (by injection e129)
                        replace p129 := eq_true p129
                        replace q129 := eq_true q129
                        go_wp2
                        repeat (go_quiet (fail); try go_wp2)
                        (try simp only [← hl16_1])
                        go_roundg k1
                        case measure => have := HK1.out; omega
                        case rel => exact ⟨(x16_1), (wrap64 (x19_1 + 1)), (by first | rfl | (simp; done) | (simp [*]; done)), H', ⟨by have := HK1.out; omega⟩, ⟨by (try simp only [hl16_1]); (with_reducible repeat (first | apply Kd.B_alloc | apply Kd.B_drewN | apply Kd.B_drew)); exact HO_16.out⟩, ⟨by repeat (first | (with_reducible first | exact HB.out | apply below_alloc | apply pw_below_drewN | apply below_drew1) | exact HB.out)⟩⟩
                      · rw [if_neg c23] at H
                        have c23b0 : ((bt a1 x19_1) == (rd x16_1 x19_1)) = false := beq_eq_false_iff_ne.mpr c23
                        have c23b1 : ((bt a1 x19_1) != (rd x16_1 x19_1)) = true := bne_iff_ne.mpr c23
                        simp only [Option.some.injEq, Prod.mk.injEq] at H
                        obtain ⟨rfl, rfl⟩ := H
                        have p127 : 0 ≤ (x19_1 : Int) := of_decide_eq_true (by first | (with_reducible assumption) | assumption)
                        have q127 : x19_1 < (x16_1.length : Int) := of_decide_eq_true (by first | (with_reducible assumption) | assumption)
                        obtain ⟨ad127, e127, hx127_0⟩ := Kd.at_int (Kd.B_reads' HO_16.out).2.2 x19_1 p127 q127
                        cases e127
                        replace p127 := eq_true p127
                        replace q127 := eq_true q127
                        have p20 : 0 ≤ (x19_1 : Int) := of_decide_eq_true (by first | (with_reducible assumption) | assumption)
                        have q20 : x19_1 < (a1.size : Int) := of_decide_eq_true (by first | (with_reducible assumption) | assumption)
                        have hx20 := bt_at a1 x19_1
                        replace p20 := eq_true p20
                        replace q20 := eq_true q20
                        have p22 : 0 ≤ (x19_1 : Int) := of_decide_eq_true (by first | (with_reducible assumption) | assumption)
                        have q22 : x19_1 < (a1.size : Int) := of_decide_eq_true (by first | (with_reducible assumption) | assumption)
                        have hx22 := bt_at a1 x19_1
                        replace p22 := eq_true p22
                        replace q22 := eq_true q22
                        have p129 : 0 ≤ (x19_1 : Int) := of_decide_eq_true (by first | (with_reducible assumption) | assumption)
                        have q129 : x19_1 < (x16_1.length : Int) := of_decide_eq_true (by first | (with_reducible assumption) | assumption)
                        obtain ⟨ad129, e129, hx129_0⟩ := Kd.at_int (Kd.B_reads' HO_16.out).2.2 x19_1 p129 q129
                        obtain rfl : ad127 = ad129 := (by injection e129)
                        replace p129 := eq_true p129
                        replace q129 := eq_true q129
                        go_wp2
                        repeat (go_quiet (fail); try go_wp2)
                        go_ret2
                        exact ⟨by first | rfl | (simp [errW_none, errW_some] <;> rfl) | (simp [*, errW_none, errW_some] <;> rfl), by repeat (first | (with_reducible first | exact HB.out | apply below_alloc | apply pw_below_drewN | apply below_drew1) | exact HB.out)⟩
                  · rw [if_neg c19] at H
                    exact absurd H (by simp)
              · rw [if_neg c12] at H
                exact absurd H (by simp)
            · rw [if_neg c11] at H
              exact absurd H (by simp)
          · rw [if_neg c10] at H
            have c10b0 : decide (x19_1 < (y124.length : Int)) = false := decide_eq_false c10
            (try simp only [hl16_1] at c10b0)
            clear c10
            simp only [Option.some.injEq, Prod.mk.injEq] at H
            obtain ⟨rfl, rfl⟩ := H
            have hcv24 := Kd.B_string (P := Tryd.prog) Tryd.underlying46 Tryd.underlying5 Tryd.underlying9 HO_16.out
            go_wp2
            repeat (go_quiet (fail); try go_wp2)
            go_ret2
            exact ⟨by first | rfl | (simp [errW_none, errW_some] <;> rfl) | (simp [*, errW_none, errW_some] <;> rfl), by repeat (first | (with_reducible first | exact HB.out | apply below_alloc | apply pw_below_drewN | apply below_drew1) | exact HB.out)⟩
    · rw [if_neg c5] at H
      exact absurd H (by simp)
  · rw [if_neg c4] at H
    have c4b0 : (t123 == 0) = false := beq_eq_false_iff_ne.mpr c4
    have c4b1 : (t123 != 0) = true := bne_iff_ne.mpr c4
    simp only [Option.some.injEq, Prod.mk.injEq] at H
    obtain ⟨rfl, rfl⟩ := H
    go_enter Tryd.func15, Tryd.ntmps15
    go_wp2_with (first | (go_at_call 28; (with_reducible refine (pattern_both.calls k a0 a1 t123 _ A3.out).mono ?_); rintro e w25 ⟨rfl, hb⟩; have n0_ := Aside0.mk (below_step (by repeat (first | (with_reducible first | exact HB.out | apply below_alloc | apply pw_below_drewN | apply below_drew1) | exact HB.out)) hb); clear HB; have HB := n0_; clear n0_; (try clear hb); (try clear hb2); (try clear hk); (try clear hi)))
    repeat (go_quiet (first | (go_at_call 28; (with_reducible refine (pattern_both.calls k a0 a1 t123 _ A3.out).mono ?_); (try clear A3); rintro e w25 ⟨rfl, hb⟩; have n0_ := Aside0.mk (below_step (by repeat (first | (with_reducible first | exact HB.out | apply below_alloc | apply pw_below_drewN | apply below_drew1) | exact HB.out)) hb); clear HB; have HB := n0_; clear n0_; (try clear hb); (try clear hb2); (try clear hk); (try clear hi))); try go_wp2_with (first | (go_at_call 28; (with_reducible refine (pattern_both.calls k a0 a1 t123 _ A3.out).mono ?_); (try clear A3); rintro e w25 ⟨rfl, hb⟩; have n0_ := Aside0.mk (below_step (by repeat (first | (with_reducible first | exact HB.out | apply below_alloc | apply pw_below_drewN | apply below_drew1) | exact HB.out)) hb); clear HB; have HB := n0_; clear n0_; (try clear hb); (try clear hb2); (try clear hk); (try clear hi))))
    go_ret2
    exact ⟨by first | rfl | (simp [errW_none, errW_some] <;> rfl) | (simp [*, errW_none, errW_some] <;> rfl), by repeat (first | (with_reducible first | exact HB.out | apply below_alloc | apply pw_below_drewN | apply below_drew1) | exact HB.out)⟩

/-! ### pattern_Join: function 16 -/
def pattern_Join.l0 : Nat → ByteArray → List Int → Int → Int → Option (ByteArray × Int)
  | 0, _, _, _, _ => none
  | k + 1, x1, x16, x18, x19 => if x19 < x18 then (if 0 ≤ x19 then (if x19 < (x16.length : Int) then (if x19 < (x1.size : Int) then (if (rd x16 x19) = (bt x1 x19) then (pattern_Join.l0 k x1 x16 x18 (wrap64 (x19 + 1))) else (pattern_Join.l0 k x1 (x16.set (x19 : Int).toNat 120) x18 (wrap64 (x19 + 1)))) else (none)) else (none)) else (none)) else (some (strOfNums x16, 0))
def pattern_Join.f (k : Nat) (a0 : ByteArray) (a1 : ByteArray) : Option (ByteArray × Int) := (pattern_both.f k a0 a1).bind fun t130 => (if t130 = 0 then (if a0.size ≤ 140737488355328 then ((some (bytesOf a0 : List Int)).bind fun y131 => (pattern_Join.l0 k a1 y131 (y131.length : Int) 0)) else (none)) else (some ((⟨#[]⟩ : ByteArray), t130)))
theorem pattern_Join.mono_l : ∀ k, (∀ y0 y1 y2 y3, LeO (pattern_Join.l0 k y0 y1 y2 y3) (pattern_Join.l0 (k + 1) y0 y1 y2 y3))
  | 0 => fun _ _ _ _ r h => by simp [pattern_Join.l0] at h
  | k + 1 => by
    have ih0 := pattern_Join.mono_l k
    · intro y0 y1 y2 y3
      unfold pattern_Join.l0
      repeat' first
      | (with_reducible exact ih0 _ _ _ _)
      | (with_reducible exact pattern_both.mono _ _ _)
      | (with_reducible exact LeO.refl _)
      | (with_reducible exact LeO.none _)
      | (with_reducible refine LeO.ite ?_ ?_)
      | (with_reducible refine LeO.bind ?_ (fun _ => ?_))
      | exact ih0 _ _ _ _
      | exact pattern_both.mono _ _ _
      | exact LeO.none _
      | refine LeO.ite ?_ ?_
      | refine LeO.bind ?_ (fun _ => ?_)
theorem pattern_Join.mono : ∀ a0 a1 k, LeO (pattern_Join.f k a0 a1) (pattern_Join.f (k + 1) a0 a1) := by
  intro a0 a1 k
  have ih0 := pattern_Join.mono_l k
  unfold pattern_Join.f
  repeat' first
      | (with_reducible exact ih0 _ _ _ _)
      | (with_reducible exact pattern_both.mono _ _ _)
      | (with_reducible exact LeO.refl _)
      | (with_reducible exact LeO.none _)
      | (with_reducible refine LeO.ite ?_ ?_)
      | (with_reducible refine LeO.bind ?_ (fun _ => ?_))
      | exact ih0 _ _ _ _
      | exact pattern_both.mono _ _ _
      | exact LeO.none _
      | refine LeO.ite ?_ ?_
      | refine LeO.bind ?_ (fun _ => ?_)
set_option maxHeartbeats 8000000 in
set_option maxRecDepth 100000 in
theorem pattern_Join.calls (k : Nat) (a0 : ByteArray) (a1 : ByteArray) (r1 : ByteArray) (r2 : Int) (w : World) (h : pattern_Join.f k a0 a1 = some (r1, r2)) :
    Calls Tryd.prog 16 #[.string a0, .string a1] w fun e w' => e = .returned (.tuple #[.string r1, .int .i64 r2]) ∧ Below w.heap.size w w' := by
  have HB := Aside0.mk (Below.refl w.heap.size w)
  have H : ((pattern_both.f k a0 a1).bind fun t130 => (if t130 = 0 then (if a0.size ≤ 140737488355328 then ((some (bytesOf a0 : List Int)).bind fun y131 => (pattern_Join.l0 k a1 y131 (y131.length : Int) 0)) else (none)) else (some ((⟨#[]⟩ : ByteArray), t130)))) = some (r1, r2) := h
  clear h
  replace H := Option.bind_eq_some_iff.mp H
  obtain ⟨t130, A30, H⟩ := H
  replace H : (if t130 = 0 then (if a0.size ≤ 140737488355328 then ((some (bytesOf a0 : List Int)).bind fun y131 => (pattern_Join.l0 k a1 y131 (y131.length : Int) 0)) else (none)) else (some ((⟨#[]⟩ : ByteArray), t130))) = some (r1, r2) := H
  have A3 := Aside0.mk A30
  clear A30
  by_cases c4 : t130 = 0
  · rw [if_pos c4] at H
    have c4b0 : (t130 == 0) = true := beq_iff_eq.mpr c4
    have c4b1 : (t130 != 0) = false := bne_eq_false_iff_eq.mpr c4
    clear c4
    by_cases c5 : a0.size ≤ 140737488355328
    · rw [if_pos c5] at H
      have c5b0 := eq_true c5
      have c5b1 : decide (a0.size ≤ 140737488355328) = true := decide_eq_true c5
      clear c5
      obtain ⟨y131, hy131⟩ : ∃ y_ : List Int, y_ = (bytesOf a0) := ⟨_, rfl⟩
      replace H : (pattern_Join.l0 k a1 y131 (y131.length : Int) 0) = some (r1, r2) := by first | (rw [hy131]; with_reducible exact H) | (have H2_ := (Option.bind_some _ _).symm.trans H; rw [hy131]; with_reducible exact H2_) | (have H2_ := (Option.bind_some _ _).symm.trans H; with_reducible exact H2_) | with_reducible exact H | (rw [hy131]; exact H) | exact H
      have Ny131 := Aside0.mk hy131
      clear hy131
      have H' := Aside0.mk H
      clear H
      go_enter Tryd.func16, Tryd.ntmps16
      go_wp2_with (first | (go_at_call 28; (with_reducible refine (pattern_both.calls k a0 a1 t130 _ A3.out).mono ?_); rintro e w6 ⟨rfl, hb⟩; have n0_ := Aside0.mk (below_step (by repeat (first | (with_reducible first | exact HB.out | apply below_alloc | apply pw_below_drewN | apply below_drew1) | exact HB.out)) hb); clear HB; have HB := n0_; clear n0_; (try clear hb); (try clear hb2); (try clear hk); (try clear hi)) | ((with_reducible refine gate_dst (N := 16) rfl ?_); refine Kd.B_conv _ 5 rfl (N := 16) rfl 9 46 _ rfl a0 rfl Tryd.underlying9 Tryd.underlying46 Tryd.underlying5 (ok := fun _ => True) trivial (Nat.le_trans (of_decide_eq_true (by first | (with_reducible assumption) | assumption) : a0.size ≤ 140737488355328) (by decide)) (Below.refl _ _) (Nat.le_refl _) ?_; intro v132 w7 ho8 hb hg_ hnew_; clear hg_ hnew_; (first | rw [← Ny131.out] at ho8 | (simp only [Int.reduceToNat] at ho8; rw [← Ny131.out] at ho8)); have n0_ := Aside0.mk (Kd.B_lower ho8 (below_size (by repeat (first | (with_reducible first | exact HB.out | apply below_alloc | apply pw_below_drewN | apply below_drew1) | exact HB.out)))); have n1_ := Aside0.mk (below_step (by repeat (first | (with_reducible first | exact HB.out | apply below_alloc | apply pw_below_drewN | apply below_drew1) | exact HB.out)) hb); clear HB; have HO133 := n0_; have HB := n1_; clear n0_ n1_; clear hb ho8; obtain ⟨Ao9, co9, eo9⟩ := Kd.B_slice HO133.out; subst eo9))
      repeat (go_quiet (first | (go_at_call 28; (with_reducible refine (pattern_both.calls k a0 a1 t130 _ A3.out).mono ?_); (try clear A3); rintro e w6 ⟨rfl, hb⟩; have n0_ := Aside0.mk (below_step (by repeat (first | (with_reducible first | exact HB.out | apply below_alloc | apply pw_below_drewN | apply below_drew1) | exact HB.out)) hb); clear HB; have HB := n0_; clear n0_; (try clear hb); (try clear hb2); (try clear hk); (try clear hi)) | ((with_reducible refine gate_dst (N := 16) rfl ?_); refine Kd.B_conv _ 5 rfl (N := 16) rfl 9 46 _ rfl a0 rfl Tryd.underlying9 Tryd.underlying46 Tryd.underlying5 (ok := fun _ => True) trivial (Nat.le_trans (of_decide_eq_true (by first | (with_reducible assumption) | assumption) : a0.size ≤ 140737488355328) (by decide)) (Below.refl _ _) (Nat.le_refl _) ?_; intro v132 w7 ho8 hb hg_ hnew_; clear hg_ hnew_; (first | rw [← Ny131.out] at ho8 | (simp only [Int.reduceToNat] at ho8; rw [← Ny131.out] at ho8)); have n0_ := Aside0.mk (Kd.B_lower ho8 (below_size (by repeat (first | (with_reducible first | exact HB.out | apply below_alloc | apply pw_below_drewN | apply below_drew1) | exact HB.out)))); have n1_ := Aside0.mk (below_step (by repeat (first | (with_reducible first | exact HB.out | apply below_alloc | apply pw_below_drewN | apply below_drew1) | exact HB.out)) hb); clear HB; have HO133 := n0_; have HB := n1_; clear n0_ n1_; clear hb ho8; obtain ⟨Ao9, co9, eo9⟩ := Kd.B_slice HO133.out; subst eo9)); try go_wp2_with (first | (go_at_call 28; (with_reducible refine (pattern_both.calls k a0 a1 t130 _ A3.out).mono ?_); (try clear A3); rintro e w6 ⟨rfl, hb⟩; have n0_ := Aside0.mk (below_step (by repeat (first | (with_reducible first | exact HB.out | apply below_alloc | apply pw_below_drewN | apply below_drew1) | exact HB.out)) hb); clear HB; have HB := n0_; clear n0_; (try clear hb); (try clear hb2); (try clear hk); (try clear hi)) | ((with_reducible refine gate_dst (N := 16) rfl ?_); refine Kd.B_conv _ 5 rfl (N := 16) rfl 9 46 _ rfl a0 rfl Tryd.underlying9 Tryd.underlying46 Tryd.underlying5 (ok := fun _ => True) trivial (Nat.le_trans (of_decide_eq_true (by first | (with_reducible assumption) | assumption) : a0.size ≤ 140737488355328) (by decide)) (Below.refl _ _) (Nat.le_refl _) ?_; intro v132 w7 ho8 hb hg_ hnew_; clear hg_ hnew_; (first | rw [← Ny131.out] at ho8 | (simp only [Int.reduceToNat] at ho8; rw [← Ny131.out] at ho8)); have n0_ := Aside0.mk (Kd.B_lower ho8 (below_size (by repeat (first | (with_reducible first | exact HB.out | apply below_alloc | apply pw_below_drewN | apply below_drew1) | exact HB.out)))); have n1_ := Aside0.mk (below_step (by repeat (first | (with_reducible first | exact HB.out | apply below_alloc | apply pw_below_drewN | apply below_drew1) | exact HB.out)) hb); clear HB; have HO133 := n0_; have HB := n1_; clear n0_ n1_; clear hb ho8; obtain ⟨Ao9, co9, eo9⟩ := Kd.B_slice HO133.out; subst eo9)))
      go_loopg [19] k (fun kq v19 w' => ∃ (x16_1 : List Int) (x19_1 : Int), v19 = .int .i64 x19_1 ∧ Aside0 (pattern_Join.l0 kq a1 x16_1 (y131.length : Int) x19_1 = some (r1, r2)) ∧ Aside0 (kq ≤ k) ∧ Aside0 (Kd.B (Kd.int .u8) 5 w' w.heap.size (fun _ => True) (.slice Ao9 y131.length co9) x16_1) ∧ Aside0 (Below w.heap.size w w'))
      case atStart => exact ⟨(y131), (0), (by first | rfl | (simp; done) | (simp [*]; done)), H', ⟨Nat.le_refl _⟩, ⟨by (with_reducible repeat (first | apply Kd.B_alloc | apply Kd.B_drewN | apply Kd.B_drew)); exact HO133.out⟩, ⟨by repeat (first | (with_reducible first | exact HB.out | apply below_alloc | apply pw_below_drewN | apply below_drew1) | exact HB.out)⟩⟩
      case round =>
        clear H'
        try clear c1
        try clear p2
        try clear c4
        try clear c4b0
        try clear c4b1
        try clear c5
        try clear c5b0
        try clear c5b1
        obtain ⟨x16_1, x19_1, rfl, HA, HK1, HO_16, HB⟩ := hrel
        have hl16_1 := (Kd.B_reads' HO_16.out).1
        rw [hl16_1] at HO_16
        (try simp only [hl16_1])
        cases gk with
        | zero => exact absurd HA.out (by simp [pattern_Join.l0])
        | succ k1 =>
          have H := HA.out
          clear HA
          simp only [pattern_Join.l0] at H
          by_cases c10 : x19_1 < (y131.length : Int)
          · rw [if_pos c10] at H
            have c10b0 : decide (x19_1 < (y131.length : Int)) = true := decide_eq_true c10
            (try simp only [hl16_1] at c10b0)
            clear c10
            by_cases c11 : 0 ≤ x19_1
            · rw [if_pos c11] at H
              have c11b0 : decide (0 ≤ x19_1) = true := decide_eq_true c11
              clear c11
              by_cases c12 : x19_1 < (x16_1.length : Int)
              · rw [if_pos c12] at H
                have c12b0 : decide (x19_1 < (x16_1.length : Int)) = true := decide_eq_true c12
                (try simp only [hl16_1] at c12b0)
                clear c12
                by_cases c13 : x19_1 < (a1.size : Int)
                · rw [if_pos c13] at H
                  have c13b0 : decide (x19_1 < (a1.size : Int)) = true := decide_eq_true c13
                  clear c13
                  by_cases c15 : (rd x16_1 x19_1) = (bt a1 x19_1)
                  · rw [if_pos c15] at H
                    have c15b0 : ((rd x16_1 x19_1) == (bt a1 x19_1)) = true := beq_iff_eq.mpr c15
                    have c15b1 : ((rd x16_1 x19_1) != (bt a1 x19_1)) = false := bne_eq_false_iff_eq.mpr c15
                    clear c15
                    have H' := Aside0.mk H
                    clear H
                    have p134 : 0 ≤ (x19_1 : Int) := of_decide_eq_true (by first | (with_reducible assumption) | assumption)
                    have q134 : x19_1 < (x16_1.length : Int) := of_decide_eq_true (by first | (with_reducible assumption) | assumption)
                    obtain ⟨ad134, e134, hx134_0⟩ := Kd.at_int (Kd.B_reads' HO_16.out).2.2 x19_1 p134 q134
                    cases e134
                    replace p134 := eq_true p134
                    replace q134 := eq_true q134
                    have p14 : 0 ≤ (x19_1 : Int) := of_decide_eq_true (by first | (with_reducible assumption) | assumption)
                    have q14 : x19_1 < (a1.size : Int) := of_decide_eq_true (by first | (with_reducible assumption) | assumption)
                    have hx14 := bt_at a1 x19_1
                    replace p14 := eq_true p14
                    replace q14 := eq_true q14
                    go_wp2
                    repeat (go_quiet (fail); try go_wp2)
                    (try simp only [← hl16_1])
                    go_roundg k1
                    case measure => have := HK1.out; omega
                    case rel => exact ⟨(x16_1), (wrap64 (x19_1 + 1)), (by first | rfl | (simp; done) | (simp [*]; done)), H', ⟨by have := HK1.out; omega⟩, ⟨by (try simp only [hl16_1]); (with_reducible repeat (first | apply Kd.B_alloc | apply Kd.B_drewN | apply Kd.B_drew)); exact HO_16.out⟩, ⟨by repeat (first | (with_reducible first | exact HB.out | apply below_alloc | apply pw_below_drewN | apply below_drew1) | exact HB.out)⟩⟩
                  · rw [if_neg c15] at H
                    have c15b0 : ((rd x16_1 x19_1) == (bt a1 x19_1)) = false := beq_eq_false_iff_ne.mpr c15
                    have c15b1 : ((rd x16_1 x19_1) != (bt a1 x19_1)) = true := bne_iff_ne.mpr c15
                    obtain ⟨y135, hy135⟩ : ∃ y_ : List Int, y_ = (x16_1.set (x19_1 : Int).toNat 120) := ⟨_, rfl⟩
                    replace H : (pattern_Join.l0 k1 a1 y135 (y131.length : Int) (wrap64 (x19_1 + 1))) = some (r1, r2) := by first | (rw [hy135]; with_reducible exact H) | (have H2_ := (Option.bind_some _ _).symm.trans H; rw [hy135]; with_reducible exact H2_) | (have H2_ := (Option.bind_some _ _).symm.trans H; with_reducible exact H2_) | with_reducible exact H | (rw [hy135]; exact H) | exact H
                    have Ny135 := Aside0.mk hy135
                    clear hy135
                    have H' := Aside0.mk H
                    clear H
                    have p134 : 0 ≤ (x19_1 : Int) := of_decide_eq_true (by first | (with_reducible assumption) | assumption)
                    have q134 : x19_1 < (x16_1.length : Int) := of_decide_eq_true (by first | (with_reducible assumption) | assumption)
                    obtain ⟨ad134, e134, hx134_0⟩ := Kd.at_int (Kd.B_reads' HO_16.out).2.2 x19_1 p134 q134
                    cases e134
                    replace p134 := eq_true p134
                    replace q134 := eq_true q134
                    have p14 : 0 ≤ (x19_1 : Int) := of_decide_eq_true (by first | (with_reducible assumption) | assumption)
                    have q14 : x19_1 < (a1.size : Int) := of_decide_eq_true (by first | (with_reducible assumption) | assumption)
                    have hx14 := bt_at a1 x19_1
                    replace p14 := eq_true p14
                    replace q14 := eq_true q14
                    have p16 : 0 ≤ (x19_1 : Int) := of_decide_eq_true (by first | (with_reducible assumption) | assumption)
                    have q16 : (x19_1 : Int) < ((x16_1.length : Int) : Int) := of_decide_eq_true (by first | (with_reducible assumption) | assumption)
                    obtain ⟨go16, co16, eo16, gb16, gl16, cl16, HG16⟩ := Kd.B_form HO_16.out (by omega)
                    (first | cases eo16 | (injection eo16 with ea_ en_ ec_; (first | subst ea_ | (injection ea_ with ea_; subst ea_)); subst ec_; clear en_))
                    have GB16 := Aside0.mk gb16
                    have GG16 := Aside0.mk HG16
                    clear gb16 gl16 HG16
                    (first | simp only [add_plain] at hx134_0 | skip)
                    obtain ⟨hx16_0, hf16_0⟩ := Kd.B_celln 0 HO_16.out (x19_1 : Int) p16 q16
                    replace p16 := eq_true p16
                    replace q16 := eq_true q16
                    have HP17 := Kd.B_putg HO_16.out (x19_1 : Int) 120
                    (try (obtain ⟨hx16_0, hf16_0⟩ := Kd.B_celln 0 HO_16.out (x19_1 : Int) (by first | omega | exact of_eq_true p16) (by first | omega | exact of_eq_true q16)))
                    go_wp2_with (first | ((with_reducible refine gate_store (t := 5) (p := 32) rfl ?_); (try (rw [drewN_self wr]; generalize hq_ : World.drewN wr _ = wr; have n0_ := Aside0.mk (Kd.B_at hq_ HO_16.out); have n1_ := Aside0.mk (below_at hq_ HB.out); clear hq_ HO_16 HB; have HO_16 := n0_; have HB := n1_; clear n0_ n1_; (try (have HP17 := Kd.B_putg HO_16.out (x19_1 : Int) 120)); (try (try (obtain ⟨hx16_0, hf16_0⟩ := Kd.B_celln 0 HO_16.out (x19_1 : Int) (by first | omega | exact of_eq_true p16) (by first | omega | exact of_eq_true q16)))))); refine store_event (t := 5) (p := 32) (v := ?vo_w18) (w1 := (wr.setCell ⟨go16, (x19_1 : Int).toNat, none⟩ (.int .u8 120))) ?hg ?ho ?hn ?hr ?_; (case ho => rfl); (case hg => rfl); (case hn => rfl); (case hr => first | (go_simp; done) | (go_simp; rfl)); intro w18 hw; have hg : wr.grownBy w18 (some go16) := (by rw [hw]; exact HP17.2); have hp_ : Kd.B (Kd.int .u8) 5 w18 w.heap.size (fun _ => True) (.slice (some ⟨go16, 0, none⟩) x16_1.length co9) y135 := (by rw [hw, Ny135.out]; exact HP17.1); clear HP17; have n0_ := Aside0.mk (hp_); have n1_ := Aside0.mk ((by rw [hw]; exact below_set (HB.out) GB16.out : Below w.heap.size w w18)); clear HO_16; clear HB; have HO_16 := n0_; have HB := n1_; clear n0_ n1_; clear hg hw hp_))
                    repeat (go_quiet (first | ((with_reducible refine gate_store (t := 5) (p := 32) rfl ?_); (try (rw [drewN_self wr]; generalize hq_ : World.drewN wr _ = wr; have n0_ := Aside0.mk (Kd.B_at hq_ HO_16.out); have n1_ := Aside0.mk (below_at hq_ HB.out); clear hq_ HO_16 HB; have HO_16 := n0_; have HB := n1_; clear n0_ n1_; (try (have HP17 := Kd.B_putg HO_16.out (x19_1 : Int) 120)); (try (try (obtain ⟨hx16_0, hf16_0⟩ := Kd.B_celln 0 HO_16.out (x19_1 : Int) (by first | omega | exact of_eq_true p16) (by first | omega | exact of_eq_true q16)))))); refine store_event (t := 5) (p := 32) (v := ?vo_w18) (w1 := (wr.setCell ⟨go16, (x19_1 : Int).toNat, none⟩ (.int .u8 120))) ?hg ?ho ?hn ?hr ?_; (case ho => rfl); (case hg => rfl); (case hn => rfl); (case hr => first | (go_simp; done) | (go_simp; rfl)); intro w18 hw; have hg : wr.grownBy w18 (some go16) := (by rw [hw]; exact HP17.2); have hp_ : Kd.B (Kd.int .u8) 5 w18 w.heap.size (fun _ => True) (.slice (some ⟨go16, 0, none⟩) x16_1.length co9) y135 := (by rw [hw, Ny135.out]; exact HP17.1); clear HP17; have n0_ := Aside0.mk (hp_); have n1_ := Aside0.mk ((by rw [hw]; exact below_set (HB.out) GB16.out : Below w.heap.size w w18)); clear HO_16; clear HB; have HO_16 := n0_; have HB := n1_; clear n0_ n1_; clear hg hw hp_)); try go_wp2_with (first | ((with_reducible refine gate_store (t := 5) (p := 32) rfl ?_); (try (rw [drewN_self wr]; generalize hq_ : World.drewN wr _ = wr; have n0_ := Aside0.mk (Kd.B_at hq_ HO_16.out); have n1_ := Aside0.mk (below_at hq_ HB.out); clear hq_ HO_16 HB; have HO_16 := n0_; have HB := n1_; clear n0_ n1_; (try (have HP17 := Kd.B_putg HO_16.out (x19_1 : Int) 120)); (try (try (obtain ⟨hx16_0, hf16_0⟩ := Kd.B_celln 0 HO_16.out (x19_1 : Int) (by first | omega | exact of_eq_true p16) (by first | omega | exact of_eq_true q16)))))); refine store_event (t := 5) (p := 32) (v := ?vo_w18) (w1 := (wr.setCell ⟨go16, (x19_1 : Int).toNat, none⟩ (.int .u8 120))) ?hg ?ho ?hn ?hr ?_; (case ho => rfl); (case hg => rfl); (case hn => rfl); (case hr => first | (go_simp; done) | (go_simp; rfl)); intro w18 hw; have hg : wr.grownBy w18 (some go16) := (by rw [hw]; exact HP17.2); have hp_ : Kd.B (Kd.int .u8) 5 w18 w.heap.size (fun _ => True) (.slice (some ⟨go16, 0, none⟩) x16_1.length co9) y135 := (by rw [hw, Ny135.out]; exact HP17.1); clear HP17; have n0_ := Aside0.mk (hp_); have n1_ := Aside0.mk ((by rw [hw]; exact below_set (HB.out) GB16.out : Below w.heap.size w w18)); clear HO_16; clear HB; have HO_16 := n0_; have HB := n1_; clear n0_ n1_; clear hg hw hp_)))
                    (try simp only [← hl16_1])
                    go_roundg k1
                    case measure => have := HK1.out; omega
                    case rel => exact ⟨(y135), (wrap64 (x19_1 + 1)), (by first | rfl | (simp; done) | (simp [*]; done)), H', ⟨by have := HK1.out; omega⟩, ⟨by (try simp only [hl16_1]); (with_reducible repeat (first | apply Kd.B_alloc | apply Kd.B_drewN | apply Kd.B_drew)); exact HO_16.out⟩, ⟨by repeat (first | (with_reducible first | exact HB.out | apply below_alloc | apply pw_below_drewN | apply below_drew1) | exact HB.out)⟩⟩
                · rw [if_neg c13] at H
                  exact absurd H (by simp)
              · rw [if_neg c12] at H
                exact absurd H (by simp)
            · rw [if_neg c11] at H
              exact absurd H (by simp)
          · rw [if_neg c10] at H
            have c10b0 : decide (x19_1 < (y131.length : Int)) = false := decide_eq_false c10
            (try simp only [hl16_1] at c10b0)
            clear c10
            simp only [Option.some.injEq, Prod.mk.injEq] at H
            obtain ⟨rfl, rfl⟩ := H
            have hcv19 := Kd.B_string (P := Tryd.prog) Tryd.underlying46 Tryd.underlying5 Tryd.underlying9 HO_16.out
            go_wp2
            repeat (go_quiet (fail); try go_wp2)
            go_ret2
            exact ⟨by first | rfl | (simp [errW_none, errW_some] <;> rfl) | (simp [*, errW_none, errW_some] <;> rfl), by repeat (first | (with_reducible first | exact HB.out | apply below_alloc | apply pw_below_drewN | apply below_drew1) | exact HB.out)⟩
    · rw [if_neg c5] at H
      exact absurd H (by simp)
  · rw [if_neg c4] at H
    have c4b0 : (t130 == 0) = false := beq_eq_false_iff_ne.mpr c4
    have c4b1 : (t130 != 0) = true := bne_iff_ne.mpr c4
    simp only [Option.some.injEq, Prod.mk.injEq] at H
    obtain ⟨rfl, rfl⟩ := H
    go_enter Tryd.func16, Tryd.ntmps16
    go_wp2_with (first | (go_at_call 28; (with_reducible refine (pattern_both.calls k a0 a1 t130 _ A3.out).mono ?_); rintro e w20 ⟨rfl, hb⟩; have n0_ := Aside0.mk (below_step (by repeat (first | (with_reducible first | exact HB.out | apply below_alloc | apply pw_below_drewN | apply below_drew1) | exact HB.out)) hb); clear HB; have HB := n0_; clear n0_; (try clear hb); (try clear hb2); (try clear hk); (try clear hi)))
    repeat (go_quiet (first | (go_at_call 28; (with_reducible refine (pattern_both.calls k a0 a1 t130 _ A3.out).mono ?_); (try clear A3); rintro e w20 ⟨rfl, hb⟩; have n0_ := Aside0.mk (below_step (by repeat (first | (with_reducible first | exact HB.out | apply below_alloc | apply pw_below_drewN | apply below_drew1) | exact HB.out)) hb); clear HB; have HB := n0_; clear n0_; (try clear hb); (try clear hb2); (try clear hk); (try clear hi))); try go_wp2_with (first | (go_at_call 28; (with_reducible refine (pattern_both.calls k a0 a1 t130 _ A3.out).mono ?_); (try clear A3); rintro e w20 ⟨rfl, hb⟩; have n0_ := Aside0.mk (below_step (by repeat (first | (with_reducible first | exact HB.out | apply below_alloc | apply pw_below_drewN | apply below_drew1) | exact HB.out)) hb); clear HB; have HB := n0_; clear n0_; (try clear hb); (try clear hb2); (try clear hk); (try clear hi))))
    go_ret2
    exact ⟨by first | rfl | (simp [errW_none, errW_some] <;> rfl) | (simp [*, errW_none, errW_some] <;> rfl), by repeat (first | (with_reducible first | exact HB.out | apply below_alloc | apply pw_below_drewN | apply below_drew1) | exact HB.out)⟩

/-! ### strings_Count: function 29 -/
def strings_Count.f (a0 : ByteArray) (a1 : ByteArray) : Option (Int) := if a1.size = 1 then some ((Lib.countByte a0.data.toList (a1.data.toList.getD 0 0) : Int)) else none
theorem strings_Count.calls (a0 : ByteArray) (a1 : ByteArray) (r : Int) (w : World) (h : strings_Count.f a0 a1 = some r) :
    Calls Tryd.prog 29 #[.string a0, .string a1] w fun e w' => e = .returned (.int .i64 r) ∧ Drawn0 w w' := by
  unfold strings_Count.f at h
  split at h
  · rename_i hg
    obtain rfl := Option.some.inj h
    obtain ⟨c, rfl⟩ : ∃ c : UInt8, a1 = ⟨#[c]⟩ := by
      obtain ⟨⟨l⟩⟩ := a1
      match l, hg with
      | [c], _ => exact ⟨c, rfl⟩
    exact (Tryd.strings_Count_one a0 c w).mono fun e w' ⟨he, hw⟩ => ⟨he, hw ▸ Drawn0.refl _⟩
  · cases h

end Go.Proofs.YtbecdafbkdchkaaDoor.X
