-- halved indents
-- printed by this session's xprint.py: out of the translation, by the kit's print with additions; Lean checks it
import Derived.Test.YtnnonjjmlbemfaaWN
import Derived.Test.YtnnonjjmlbemfaaWShare
import Derived.Test.YtnnonjjmlbemfaaWRepsOne
import Derived.Test.YtnnonjjmlbemfaaWGuard
import Derived.Test.YtnnonjjmlbemfaaWAt
import Derived.Test.YtnnonjjmlbemfaaX0
import Derived.Test.YtnnonjjmlbemfaaX3
namespace Go.Proofs.Ytnnonjjmlbemfaa.X
open Go.RowKit Go.Proofs.YtnnonjjmlbemfaaW.PrintWords Go.Proofs.YtnnonjjmlbemfaaW.PrintLast Go.Proofs.YtnnonjjmlbemfaaW.PrintMore
attribute [local go_sem] max2_int min2_int max_two min_two max_three min_three max_four min_four isSome_setCell binOp_gtr_str binOp_leq_str   -- for this text's walks alone
set_option linter.unusedVariables false
set_option linter.unusedSimpArgs false

/-! ### align_grid: function 53 -/
mutual
def align_grid.l0 : Nat → ByteArray → ByteArray → List (List Int) → Int → Int → Option ((List (List Int)))
 | 0, _, _, _, _, _ => none
 | k + 1, x0, x1, x17, x19, x20 => if x20 < x19 then (if 0 ≤ (wrap64 ((x1.size : Int) + 1)) then (if (wrap64 ((x1.size : Int) + 1) : Int).toNat ≤ 35184372088832 then (if 0 ≤ x20 then (if x20 < (x17.length : Int) then (align_grid.l0 k x0 x1 (x17.set (x20 : Int).toNat (List.replicate (wrap64 ((x1.size : Int) + 1) : Int).toNat 0)) x19 (wrap64 (x20 + 1))) else (none)) else (none)) else (none)) else (none)) else (align_grid.l1 k x0 x1 (x0.size : Int) x17)
def align_grid.l1 : Nat → ByteArray → ByteArray → Int → List (List Int) → Option ((List (List Int)))
 | 0, _, _, _, _ => none
 | k + 1, x0, x1, x7, x17 => if x7 ≥ 0 then (align_grid.l2 k x0 x1 x7 (x1.size : Int) x17) else (some x17)
def align_grid.l2 : Nat → ByteArray → ByteArray → Int → Int → List (List Int) → Option ((List (List Int)))
 | 0, _, _, _, _, _ => none
 | k + 1, x0, x1, x7, x8, x17 => if x8 ≥ 0 then (if x7 = (x0.size : Int) then (align_grid.j3 k x0 x1 x17 x7 x8 (x8 == (x1.size : Int))) else (align_grid.j3 k x0 x1 x17 x7 x8 false)) else (align_grid.l1 k x0 x1 (wrap64 (x7 - 1)) x17)
def align_grid.j3 : Nat → ByteArray → ByteArray → List (List Int) → Int → Int → Bool → Option ((List (List Int)))
 | 0, _, _, _, _, _, _ => none
 | k + 1, x0, x1, x5, x7, x8, x52 => if x52 = true then (align_grid.l2 k x0 x1 x7 (wrap64 (x8 - 1)) x5) else (align_grid.l3 k x0 x1 x5 x7 x8 (-1) 0)
def align_grid.l3 : Nat → ByteArray → ByteArray → List (List Int) → Int → Int → Int → Int → Option ((List (List Int)))
 | 0, _, _, _, _, _, _, _ => none
 | k + 1, x0, x1, x5, x7, x8, x9, x53 => if x53 < 5 then ((align_step.f k x0 x1 x7 x8 x53).bind fun bt123 => (if bt123.2.2.2 = true then (if x9 < 0 then (if 0 ≤ bt123.1 then (if bt123.1 < (x5.length : Int) then (if 0 ≤ bt123.2.1 then (if bt123.2.1 < ((rd_L2 x5 bt123.1).length : Int) then (align_grid.l3 k x0 x1 x5 x7 x8 (wrap64 (bt123.2.2.1 + (rd (rd_L2 x5 bt123.1) bt123.2.1))) (wrap64 (x53 + 1))) else (none)) else (none)) else (none)) else (none)) else (if 0 ≤ bt123.1 then (if bt123.1 < (x5.length : Int) then (if 0 ≤ bt123.2.1 then (if bt123.2.1 < ((rd_L2 x5 bt123.1).length : Int) then (if (wrap64 (bt123.2.2.1 + (rd (rd_L2 x5 bt123.1) bt123.2.1))) < x9 then (align_grid.l3 k x0 x1 x5 x7 x8 (wrap64 (bt123.2.2.1 + (rd (rd_L2 x5 bt123.1) bt123.2.1))) (wrap64 (x53 + 1))) else (align_grid.l3 k x0 x1 x5 x7 x8 x9 (wrap64 (x53 + 1)))) else (none)) else (none)) else (none)) else (none))) else (align_grid.l3 k x0 x1 x5 x7 x8 x9 (wrap64 (x53 + 1))))) else (if 0 ≤ x7 then (if x7 < (x5.length : Int) then (if 0 ≤ x8 then (if x8 < ((rd_L2 x5 x7).length : Int) then (align_grid.l2 k x0 x1 x7 (wrap64 (x8 - 1)) (x5.set (x7 : Int).toNat ((rd_L2 x5 x7).set (x8 : Int).toNat x9))) else (none)) else (none)) else (none)) else (none))
end
def align_grid.f (k : Nat) (a0 : ByteArray) (a1 : ByteArray) : Option ((List (List Int))) := if 0 ≤ (wrap64 ((a0.size : Int) + 1)) then (if (wrap64 ((a0.size : Int) + 1) : Int).toNat ≤ 11728124029610 then ((some (List.replicate (wrap64 ((a0.size : Int) + 1) : Int).toNat [] : List (List Int))).bind fun y116 => (align_grid.l0 k a0 a1 y116 (y116.length : Int) 0)) else (none)) else (none)
theorem align_grid.mono_l : ∀ k, (∀ y0 y1 y2 y3 y4, LeO (align_grid.l0 k y0 y1 y2 y3 y4) (align_grid.l0 (k + 1) y0 y1 y2 y3 y4)) ∧ (∀ y0 y1 y2 y3, LeO (align_grid.l1 k y0 y1 y2 y3) (align_grid.l1 (k + 1) y0 y1 y2 y3)) ∧ (∀ y0 y1 y2 y3 y4, LeO (align_grid.l2 k y0 y1 y2 y3 y4) (align_grid.l2 (k + 1) y0 y1 y2 y3 y4)) ∧ (∀ y0 y1 y2 y3 y4 y5, LeO (align_grid.j3 k y0 y1 y2 y3 y4 y5) (align_grid.j3 (k + 1) y0 y1 y2 y3 y4 y5)) ∧ (∀ y0 y1 y2 y3 y4 y5 y6, LeO (align_grid.l3 k y0 y1 y2 y3 y4 y5 y6) (align_grid.l3 (k + 1) y0 y1 y2 y3 y4 y5 y6))
 | 0 => ⟨fun _ _ _ _ _ r h => by simp [align_grid.l0] at h, fun _ _ _ _ r h => by simp [align_grid.l1] at h, fun _ _ _ _ _ r h => by simp [align_grid.l2] at h, fun _ _ _ _ _ _ r h => by simp [align_grid.j3] at h, fun _ _ _ _ _ _ _ r h => by simp [align_grid.l3] at h⟩
 | k + 1 => by
  obtain ⟨ih0, ih1, ih2, ih3, ih4⟩ := align_grid.mono_l k
  refine ⟨?_, ?_, ?_, ?_, ?_⟩
  ·intro y0 y1 y2 y3 y4
   unfold align_grid.l0
   repeat' first
   | (with_reducible exact ih0 _ _ _ _ _)
   | (with_reducible exact ih1 _ _ _ _)
   | (with_reducible exact ih2 _ _ _ _ _)
   | (with_reducible exact ih3 _ _ _ _ _ _)
   | (with_reducible exact ih4 _ _ _ _ _ _ _)
   | (with_reducible exact align_step.mono _ _ _ _ _ _)
   | (with_reducible exact LeO.refl _)
   | (with_reducible exact LeO.none _)
   | (with_reducible refine LeO.ite ?_ ?_)
   | (with_reducible refine LeO.bind ?_ (fun _ => ?_))
   | exact ih0 _ _ _ _ _
   | exact ih1 _ _ _ _
   | exact ih2 _ _ _ _ _
   | exact ih3 _ _ _ _ _ _
   | exact ih4 _ _ _ _ _ _ _
   | exact align_step.mono _ _ _ _ _ _
   | exact LeO.none _
   | refine LeO.ite ?_ ?_
   | refine LeO.bind ?_ (fun _ => ?_)
  ·intro y0 y1 y2 y3
   unfold align_grid.l1
   repeat' first
   | (with_reducible exact ih0 _ _ _ _ _)
   | (with_reducible exact ih1 _ _ _ _)
   | (with_reducible exact ih2 _ _ _ _ _)
   | (with_reducible exact ih3 _ _ _ _ _ _)
   | (with_reducible exact ih4 _ _ _ _ _ _ _)
   | (with_reducible exact align_step.mono _ _ _ _ _ _)
   | (with_reducible exact LeO.refl _)
   | (with_reducible exact LeO.none _)
   | (with_reducible refine LeO.ite ?_ ?_)
   | (with_reducible refine LeO.bind ?_ (fun _ => ?_))
   | exact ih0 _ _ _ _ _
   | exact ih1 _ _ _ _
   | exact ih2 _ _ _ _ _
   | exact ih3 _ _ _ _ _ _
   | exact ih4 _ _ _ _ _ _ _
   | exact align_step.mono _ _ _ _ _ _
   | exact LeO.none _
   | refine LeO.ite ?_ ?_
   | refine LeO.bind ?_ (fun _ => ?_)
  ·intro y0 y1 y2 y3 y4
   unfold align_grid.l2
   repeat' first
   | (with_reducible exact ih0 _ _ _ _ _)
   | (with_reducible exact ih1 _ _ _ _)
   | (with_reducible exact ih2 _ _ _ _ _)
   | (with_reducible exact ih3 _ _ _ _ _ _)
   | (with_reducible exact ih4 _ _ _ _ _ _ _)
   | (with_reducible exact align_step.mono _ _ _ _ _ _)
   | (with_reducible exact LeO.refl _)
   | (with_reducible exact LeO.none _)
   | (with_reducible refine LeO.ite ?_ ?_)
   | (with_reducible refine LeO.bind ?_ (fun _ => ?_))
   | exact ih0 _ _ _ _ _
   | exact ih1 _ _ _ _
   | exact ih2 _ _ _ _ _
   | exact ih3 _ _ _ _ _ _
   | exact ih4 _ _ _ _ _ _ _
   | exact align_step.mono _ _ _ _ _ _
   | exact LeO.none _
   | refine LeO.ite ?_ ?_
   | refine LeO.bind ?_ (fun _ => ?_)
  ·intro y0 y1 y2 y3 y4 y5
   unfold align_grid.j3
   repeat' first
   | (with_reducible exact ih0 _ _ _ _ _)
   | (with_reducible exact ih1 _ _ _ _)
   | (with_reducible exact ih2 _ _ _ _ _)
   | (with_reducible exact ih3 _ _ _ _ _ _)
   | (with_reducible exact ih4 _ _ _ _ _ _ _)
   | (with_reducible exact align_step.mono _ _ _ _ _ _)
   | (with_reducible exact LeO.refl _)
   | (with_reducible exact LeO.none _)
   | (with_reducible refine LeO.ite ?_ ?_)
   | (with_reducible refine LeO.bind ?_ (fun _ => ?_))
   | exact ih0 _ _ _ _ _
   | exact ih1 _ _ _ _
   | exact ih2 _ _ _ _ _
   | exact ih3 _ _ _ _ _ _
   | exact ih4 _ _ _ _ _ _ _
   | exact align_step.mono _ _ _ _ _ _
   | exact LeO.none _
   | refine LeO.ite ?_ ?_
   | refine LeO.bind ?_ (fun _ => ?_)
  ·intro y0 y1 y2 y3 y4 y5 y6
   unfold align_grid.l3
   repeat' first
   | (with_reducible exact ih0 _ _ _ _ _)
   | (with_reducible exact ih1 _ _ _ _)
   | (with_reducible exact ih2 _ _ _ _ _)
   | (with_reducible exact ih3 _ _ _ _ _ _)
   | (with_reducible exact ih4 _ _ _ _ _ _ _)
   | (with_reducible exact align_step.mono _ _ _ _ _ _)
   | (with_reducible exact LeO.refl _)
   | (with_reducible exact LeO.none _)
   | (with_reducible refine LeO.ite ?_ ?_)
   | (with_reducible refine LeO.bind ?_ (fun _ => ?_))
   | exact ih0 _ _ _ _ _
   | exact ih1 _ _ _ _
   | exact ih2 _ _ _ _ _
   | exact ih3 _ _ _ _ _ _
   | exact ih4 _ _ _ _ _ _ _
   | exact align_step.mono _ _ _ _ _ _
   | exact LeO.none _
   | refine LeO.ite ?_ ?_
   | refine LeO.bind ?_ (fun _ => ?_)
theorem align_grid.mono : ∀ a0 a1 k, LeO (align_grid.f k a0 a1) (align_grid.f (k + 1) a0 a1) := by
 intro a0 a1 k
 obtain ⟨ih0, ih1, ih2, ih3, ih4⟩ := align_grid.mono_l k
 unfold align_grid.f
 repeat' first
   | (with_reducible exact ih0 _ _ _ _ _)
   | (with_reducible exact ih1 _ _ _ _)
   | (with_reducible exact ih2 _ _ _ _ _)
   | (with_reducible exact ih3 _ _ _ _ _ _)
   | (with_reducible exact ih4 _ _ _ _ _ _ _)
   | (with_reducible exact align_step.mono _ _ _ _ _ _)
   | (with_reducible exact LeO.refl _)
   | (with_reducible exact LeO.none _)
   | (with_reducible refine LeO.ite ?_ ?_)
   | (with_reducible refine LeO.bind ?_ (fun _ => ?_))
   | exact ih0 _ _ _ _ _
   | exact ih1 _ _ _ _
   | exact ih2 _ _ _ _ _
   | exact ih3 _ _ _ _ _ _
   | exact ih4 _ _ _ _ _ _ _
   | exact align_step.mono _ _ _ _ _ _
   | exact LeO.none _
   | refine LeO.ite ?_ ?_
   | refine LeO.bind ?_ (fun _ => ?_)
set_option maxHeartbeats 8000000 in
set_option maxRecDepth 100000 in
theorem align_grid.calls (k : Nat) (a0 : ByteArray) (a1 : ByteArray) (r : List (List Int)) (w : World) (h : align_grid.f k a0 a1 = some r) :
  Calls Try.prog 53 #[.string a0, .string a1] w fun e w' => ∃ v0_ : Value, e = .returned (v0_) ∧ Kd.S (Kd.slice 3 (Kd.int .i64)) 31 w' w.heap.size (fun _ => True) v0_ r ∧ Below w.heap.size w w' := by
 have hu60 := Try.underlying60
 have HB := Aside0.mk (Below.refl w.heap.size w)
 have H : (if 0 ≤ (wrap64 ((a0.size : Int) + 1)) then (if (wrap64 ((a0.size : Int) + 1) : Int).toNat ≤ 11728124029610 then ((some (List.replicate (wrap64 ((a0.size : Int) + 1) : Int).toNat [] : List (List Int))).bind fun y116 => (align_grid.l0 k a0 a1 y116 (y116.length : Int) 0)) else (none)) else (none)) = some r := h
 clear h
 obtain ⟨ji3, hji3⟩ : ∃ j_ : Int, (wrap64 ((a0.size : Int) + 1)) = j_ := ⟨_, rfl⟩
 replace H : (if 0 ≤ (ji3) then (if (ji3 : Int).toNat ≤ 11728124029610 then ((some (List.replicate (ji3 : Int).toNat [] : List (List Int))).bind fun y116 => (align_grid.l0 k a0 a1 y116 (y116.length : Int) 0)) else (none)) else (none)) = some r := by first | (rw [hji3] at H; exact H) | (simp only [hji3] at H ⊢; exact H)
 have hji3w : (IntKind.i64.wrap ((a0.size : Int) + 1)) = ji3 := (i64_w _).trans hji3
 by_cases c4 : 0 ≤ (ji3)
 ·rw [if_pos c4] at H
  have c4b0 := eq_true c4
  have c4b1 : decide (0 ≤ (ji3)) = true := decide_eq_true c4
  clear c4
  by_cases c5 : (ji3 : Int).toNat ≤ 11728124029610
  ·rw [if_pos c5] at H
   have c5b0 := eq_true c5
   have c5b1 : decide ((ji3 : Int).toNat ≤ 11728124029610) = true := decide_eq_true c5
   clear c5
   obtain ⟨y116, hy116⟩ : ∃ y_ : List (List Int), y_ = (List.replicate (ji3 : Int).toNat []) := ⟨_, rfl⟩
   replace H : (align_grid.l0 k a0 a1 y116 (y116.length : Int) 0) = some r := by first | (rw [hy116]; with_reducible exact H) | (have H2_ := (Option.bind_some _ _).symm.trans H; rw [hy116]; with_reducible exact H2_) | (have H2_ := (Option.bind_some _ _).symm.trans H; with_reducible exact H2_) | with_reducible exact H | (rw [hy116]; exact H) | exact H
   have Ny116 := Aside0.mk hy116
   clear hy116
   have H' := Aside0.mk H
   clear H
   go_enter Try.func53, Try.ntmps53
   go_wp2_with (first | ((with_reducible refine gate_dst (N := 17) rfl ?_); (try (refine gate_guard (by rfl) ?_; dsimp only)); refine Kd.S_make (Kd.slice 3 (Kd.int .i64)) _ 31 rfl (N := 17) rfl 32 _ _ rfl ji3 rfl rfl Try.underlying32 (.slice none 0 0) 24 info31 rfl (by decide) (by omega) [] (ok := fun _ => True) (okp := fun _ => True) ⟨_, rfl, Kd.R_nil _ _ _ _ _⟩ (fun _ hk => hk) trivial (of_decide_eq_true (by first | (with_reducible assumption) | assumption)) (Nat.le_trans (Nat.mul_le_mul_right _ (of_decide_eq_true (by first | (with_reducible assumption) | assumption) : ji3.toNat ≤ 11728124029610)) (by omega)) (Below.refl _ _) (Nat.le_refl _) ?_; intro v117 w6 ho7 hb hg_ hnew_; clear hg_ hnew_; (first | rw [← Ny116.out] at ho7 | (simp only [Int.reduceToNat] at ho7; rw [← Ny116.out] at ho7)); have n0_ := Aside0.mk (Kd.S_lower ho7 (below_size (by repeat (first | (with_reducible first | exact HB.out | apply below_alloc | apply pw_below_drewN | apply below_drew1) | exact HB.out)))); have n1_ := Aside0.mk (below_step (by repeat (first | (with_reducible first | exact HB.out | apply below_alloc | apply pw_below_drewN | apply below_drew1) | exact HB.out)) hb); clear HB; have HO118 := n0_; have HB := n1_; clear n0_ n1_; clear hb ho7; obtain ⟨Ao8, co8, eo8⟩ := Kd.S_slice HO118.out; subst eo8))
   repeat (go_quiet (first | ((with_reducible refine gate_dst (N := 17) rfl ?_); (try (refine gate_guard (by rfl) ?_; dsimp only)); refine Kd.S_make (Kd.slice 3 (Kd.int .i64)) _ 31 rfl (N := 17) rfl 32 _ _ rfl ji3 rfl rfl Try.underlying32 (.slice none 0 0) 24 info31 rfl (by decide) (by omega) [] (ok := fun _ => True) (okp := fun _ => True) ⟨_, rfl, Kd.R_nil _ _ _ _ _⟩ (fun _ hk => hk) trivial (of_decide_eq_true (by first | (with_reducible assumption) | assumption)) (Nat.le_trans (Nat.mul_le_mul_right _ (of_decide_eq_true (by first | (with_reducible assumption) | assumption) : ji3.toNat ≤ 11728124029610)) (by omega)) (Below.refl _ _) (Nat.le_refl _) ?_; intro v117 w6 ho7 hb hg_ hnew_; clear hg_ hnew_; (first | rw [← Ny116.out] at ho7 | (simp only [Int.reduceToNat] at ho7; rw [← Ny116.out] at ho7)); have n0_ := Aside0.mk (Kd.S_lower ho7 (below_size (by repeat (first | (with_reducible first | exact HB.out | apply below_alloc | apply pw_below_drewN | apply below_drew1) | exact HB.out)))); have n1_ := Aside0.mk (below_step (by repeat (first | (with_reducible first | exact HB.out | apply below_alloc | apply pw_below_drewN | apply below_drew1) | exact HB.out)) hb); clear HB; have HO118 := n0_; have HB := n1_; clear n0_ n1_; clear hb ho7; obtain ⟨Ao8, co8, eo8⟩ := Kd.S_slice HO118.out; subst eo8)); try go_wp2_with (first | ((with_reducible refine gate_dst (N := 17) rfl ?_); (try (refine gate_guard (by rfl) ?_; dsimp only)); refine Kd.S_make (Kd.slice 3 (Kd.int .i64)) _ 31 rfl (N := 17) rfl 32 _ _ rfl ji3 rfl rfl Try.underlying32 (.slice none 0 0) 24 info31 rfl (by decide) (by omega) [] (ok := fun _ => True) (okp := fun _ => True) ⟨_, rfl, Kd.R_nil _ _ _ _ _⟩ (fun _ hk => hk) trivial (of_decide_eq_true (by first | (with_reducible assumption) | assumption)) (Nat.le_trans (Nat.mul_le_mul_right _ (of_decide_eq_true (by first | (with_reducible assumption) | assumption) : ji3.toNat ≤ 11728124029610)) (by omega)) (Below.refl _ _) (Nat.le_refl _) ?_; intro v117 w6 ho7 hb hg_ hnew_; clear hg_ hnew_; (first | rw [← Ny116.out] at ho7 | (simp only [Int.reduceToNat] at ho7; rw [← Ny116.out] at ho7)); have n0_ := Aside0.mk (Kd.S_lower ho7 (below_size (by repeat (first | (with_reducible first | exact HB.out | apply below_alloc | apply pw_below_drewN | apply below_drew1) | exact HB.out)))); have n1_ := Aside0.mk (below_step (by repeat (first | (with_reducible first | exact HB.out | apply below_alloc | apply pw_below_drewN | apply below_drew1) | exact HB.out)) hb); clear HB; have HO118 := n0_; have HB := n1_; clear n0_ n1_; clear hb ho7; obtain ⟨Ao8, co8, eo8⟩ := Kd.S_slice HO118.out; subst eo8)))
   go_loopg [20] k (fun kq v20 w' => ∃ (x17_1 : List (List Int)) (x20_1 : Int), v20 = .int .i64 x20_1 ∧ Aside0 (align_grid.l0 kq a0 a1 x17_1 (y116.length : Int) x20_1 = some r) ∧ Aside0 (kq ≤ k) ∧ Aside0 (Kd.S (Kd.slice 3 (Kd.int .i64)) 31 w' w.heap.size (fun _ => True) (.slice Ao8 y116.length co8) x17_1) ∧ Aside0 (Below w.heap.size w w'))
   case atStart => exact ⟨(y116), (0), (by first | rfl | (simp; done) | (simp [*]; done)), H', ⟨Nat.le_refl _⟩, ⟨by (with_reducible repeat (first | apply Kd.S_alloc | apply Kd.S_drewN | apply Kd.S_drew)); exact HO118.out⟩, ⟨by repeat (first | (with_reducible first | exact HB.out | apply below_alloc | apply pw_below_drewN | apply below_drew1) | exact HB.out)⟩⟩
   case round =>
    clear H'
    try clear p2
    try clear c4
    try clear c4b0
    try clear c4b1
    try clear c5
    try clear c5b0
    try clear c5b1
    try clear p6
    obtain ⟨x17_1, x20_1, rfl, HA, HK1, HO_17, HB⟩ := hrel
    have hl17_1 := (Kd.S_reads' HO_17.out).1
    rw [hl17_1] at HO_17
    (try simp only [hl17_1])
    cases gk with
    | zero => exact absurd HA.out (by simp [align_grid.l0])
    | succ k1 =>
     have H := HA.out
     clear HA
     simp only [align_grid.l0] at H
     by_cases c9 : x20_1 < (y116.length : Int)
     ·rw [if_pos c9] at H
      have c9b0 : decide (x20_1 < (y116.length : Int)) = true := decide_eq_true c9
      (try simp only [hl17_1] at c9b0)
      clear c9
      obtain ⟨ji10, hji10⟩ : ∃ j_ : Int, (wrap64 ((a1.size : Int) + 1)) = j_ := ⟨_, rfl⟩
      replace H : (if 0 ≤ (ji10) then (if (ji10 : Int).toNat ≤ 35184372088832 then (if 0 ≤ x20_1 then (if x20_1 < (x17_1.length : Int) then (align_grid.l0 k1 a0 a1 (x17_1.set (x20_1 : Int).toNat (List.replicate (ji10 : Int).toNat 0)) (y116.length : Int) (wrap64 (x20_1 + 1))) else (none)) else (none)) else (none)) else (none)) = some r := by first | (rw [hji10] at H; exact H) | (simp only [hji10] at H ⊢; exact H)
      have hji10w : (IntKind.i64.wrap ((a1.size : Int) + 1)) = ji10 := (i64_w _).trans hji10
      by_cases c11 : 0 ≤ (ji10)
      ·rw [if_pos c11] at H
       have c11b0 := eq_true c11
       have c11b1 : decide (0 ≤ (ji10)) = true := decide_eq_true c11
       clear c11
       by_cases c12 : (ji10 : Int).toNat ≤ 35184372088832
       ·rw [if_pos c12] at H
        have c12b0 := eq_true c12
        have c12b1 : decide ((ji10 : Int).toNat ≤ 35184372088832) = true := decide_eq_true c12
        clear c12
        obtain ⟨y119, hy119⟩ : ∃ y_ : List Int, y_ = (List.replicate (ji10 : Int).toNat 0) := ⟨_, rfl⟩
        replace H : (if 0 ≤ x20_1 then (if x20_1 < (x17_1.length : Int) then (align_grid.l0 k1 a0 a1 (x17_1.set (x20_1 : Int).toNat y119) (y116.length : Int) (wrap64 (x20_1 + 1))) else (none)) else (none)) = some r := by first | (rw [hy119]; with_reducible exact H) | (have H2_ := (Option.bind_some _ _).symm.trans H; rw [hy119]; with_reducible exact H2_) | (have H2_ := (Option.bind_some _ _).symm.trans H; with_reducible exact H2_) | with_reducible exact H | (rw [hy119]; exact H) | exact H
        have Ny119 := Aside0.mk hy119
        clear hy119
        by_cases c13 : 0 ≤ x20_1
        ·rw [if_pos c13] at H
         have c13b0 : decide (0 ≤ x20_1) = true := decide_eq_true c13
         clear c13
         by_cases c14 : x20_1 < (x17_1.length : Int)
         ·rw [if_pos c14] at H
          have c14b0 : decide (x20_1 < (x17_1.length : Int)) = true := decide_eq_true c14
          (try simp only [hl17_1] at c14b0)
          clear c14
          obtain ⟨y122, hy122⟩ : ∃ y_ : List (List Int), y_ = (x17_1.set (x20_1 : Int).toNat y119) := ⟨_, rfl⟩
          replace H : (align_grid.l0 k1 a0 a1 y122 (y116.length : Int) (wrap64 (x20_1 + 1))) = some r := by first | (rw [hy122]; with_reducible exact H) | (have H2_ := (Option.bind_some _ _).symm.trans H; rw [hy122]; with_reducible exact H2_) | (have H2_ := (Option.bind_some _ _).symm.trans H; with_reducible exact H2_) | with_reducible exact H | (rw [hy122]; exact H) | exact H
          have Ny122 := Aside0.mk hy122
          clear hy122
          have H' := Aside0.mk H
          clear H
          go_wp2_with (first | ((with_reducible refine gate_dst (N := 28) rfl ?_); (try (refine gate_guard (by rfl) ?_; dsimp only)); refine Kd.R_make (Kd.int .i64) _ 3 rfl (N := 28) rfl 31 _ _ rfl ji10 rfl rfl Try.underlying31 (.int .i64 0) 8 info3 rfl (by decide) (by omega) 0 (ok := fun _ => True) (okp := fun _ => True) rfl (fun _ hk => hk) trivial (of_decide_eq_true (by first | (with_reducible assumption) | assumption)) (Nat.le_trans (Nat.mul_le_mul_right _ (of_decide_eq_true (by first | (with_reducible assumption) | assumption) : ji10.toNat ≤ 35184372088832)) (by omega)) (Below.refl _ _) (Nat.le_refl _) ?_; intro v120 w16 ho17 hb hg_ hnew_; clear hg_ hnew_; (first | rw [← Ny119.out] at ho17 | (simp only [Int.reduceToNat] at ho17; rw [← Ny119.out] at ho17)); have n0_ := Aside0.mk (Kd.S_elder' (by (with_reducible repeat (first | apply Kd.S_alloc | apply Kd.S_drewN | apply Kd.S_drew)); exact HO_17.out) (Kd.R_base ho17) hb); have n1_ := Aside0.mk (Kd.R_lower ho17 (below_size (by repeat (first | (with_reducible first | exact HB.out | apply below_alloc | apply pw_below_drewN | apply below_drew1) | exact HB.out)))); have n2_ := Aside0.mk (below_step (by repeat (first | (with_reducible first | exact HB.out | apply below_alloc | apply pw_below_drewN | apply below_drew1) | exact HB.out)) hb); clear HO_17; clear HB; have HO_17 := n0_; have HO121 := n1_; have HB := n2_; clear n0_ n1_ n2_; clear hb ho17; have p15 : 0 ≤ (x20_1 : Int) := of_decide_eq_true (by first | (with_reducible assumption) | assumption); have q15 : (x20_1 : Int) < ((x17_1.length : Int) : Int) := of_decide_eq_true (by first | (with_reducible assumption) | assumption); obtain ⟨go15, co15, eo15, gb15, gl15, cl15, HG15⟩ := Kd.S_form HO_17.out (by omega); (first | cases eo15 | (injection eo15 with ea_ en_ ec_; (first | subst ea_ | (injection ea_ with ea_; subst ea_)); subst ec_; clear en_)); have GB15 := Aside0.mk gb15; have GG15 := Aside0.mk HG15; clear gb15 gl15 HG15; obtain ⟨_, ce15, hcl15, hM15, hcc15, hfr15, _, _⟩ := Kd.S_elem HO_17.out [] (x20_1 : Int) p15 q15; obtain ⟨ve15_0, rfl, ge15_0⟩ := hM15; have hx15_0 := hcc15 0 _ rfl; have hf15_0 := hfr15 0; (try simp only [show ((Kd.slice 3 (Kd.int .i64))).sz = 1 from rfl, Nat.mul_one, Nat.add_zero] at hx15_0); (try simp only [show ((Kd.slice 3 (Kd.int .i64))).sz = 1 from rfl, Nat.mul_one, Nat.add_zero] at hf15_0); (try clear hM15); clear hcl15 hcc15 hfr15; replace p15 := eq_true p15; replace q15 := eq_true q15; have n_ := Aside0.mk (Kd.S_mono (ok' := (fun k_ => some k_ ≠ (v120 : Value).ownBlock)) HO_17.out (fun k_ hk => hk.2)); clear HO_17; have HO_17 := n_; clear n_; have HX18 := Aside0.mk (show Kd.S (Kd.slice 3 (Kd.int .i64)) 31 w16 w.heap.size (fun k_ => ((fun _ => True)) k_ ∧ ¬ ((fun k_ => some k_ = (v120 : Value).ownBlock)) k_) (.slice (some ⟨go15, 0, none⟩) x17_1.length co8) x17_1 from (by (with_reducible repeat (first | apply Kd.S_alloc | apply Kd.S_drewN | apply Kd.S_drew)); exact Kd.S_mono HO_17.out (fun k_ hk => ⟨trivial, fun e_ => hk e_⟩))); obtain ⟨oki18, ce18, hcl18, hM18, hcc18, hfr18, hoki18, hH18⟩ := Kd.S_elem HX18.out [] (x20_1 : Int) (of_decide_eq_true (by first | (with_reducible assumption) | assumption)) (by have h_ : (x20_1 : Int) < ((x17_1.length : Int) : Int) := of_decide_eq_true (by first | (with_reducible assumption) | assumption); first | exact h_ | (have e_ := (Kd.S_reads' HO_17.out).1; omega) | simpa using h_); obtain ⟨ve18_0, rfl, ge18_0⟩ := hM18; have HP18 := Kd.S_seg hH18 (of_decide_eq_true (by first | (with_reducible assumption) | assumption)) (by have h_ : (x20_1 : Int) < ((x17_1.length : Int) : Int) := of_decide_eq_true (by first | (with_reducible assumption) | assumption); first | exact h_ | (have e_ := (Kd.S_reads' HO_17.out).1; omega) | simpa using h_) (seg := [v120]) (j := 0) (show 1 ≤ 1 from by decide) (x' := y119) (Kd.M_row (Kd.R_mono (Kd.R_tight rfl (Kd.R_mono (ok' := fun k_ => ((fun _ => True)) k_ ∧ k_ ≠ go15) (Kd.R_apart' (HO121.out) (Kd.S_typed HO_17.out) (by decide)) (fun k_ hk => ⟨trivial, fun e_ => (hk.2) (by rw [e_]; rfl)⟩))) (fun _ h_ => Or.inr (h_)))) (fun _ hk => hk) (fun k_ hk_ => ((Kd.R_mono (ok' := fun k_ => ((fun _ => True)) k_ ∧ k_ ≠ go15) (Kd.R_apart' (HO121.out) (Kd.S_typed HO_17.out) (by decide)) (fun k_ hk => ⟨trivial, fun e_ => (hk.2) (by rw [e_]; rfl)⟩))).1 k_ hk_.symm); have hx18_0 := hcc18 0 _ rfl; (try simp only [show ((Kd.slice 3 (Kd.int .i64))).sz = 1 from rfl, Nat.mul_one, Nat.add_zero] at hx18_0); have hf18_0 := hfr18 0; (try simp only [show ((Kd.slice 3 (Kd.int .i64))).sz = 1 from rfl, Nat.mul_one, Nat.add_zero] at hf18_0); (try clear hM18); clear hcl18 hcc18 hfr18 hoki18 hH18; (try simp only [show ((Kd.slice 3 (Kd.int .i64))).sz = 1 from rfl, Nat.mul_one, Nat.add_zero] at HP18)) | ((with_reducible refine gate_store (t := 31) (p := 29) rfl ?_); (try (rw [drewN_self w16]; generalize hq_ : World.drewN w16 _ = w16; have n0_ := Aside0.mk (Kd.S_at hq_ HO_17.out); have n1_ := Aside0.mk (below_at hq_ HB.out); clear hq_ HO_17 HB; have HO_17 := n0_; have HB := n1_; clear n0_ n1_; (try (have n_ := Aside0.mk (Kd.S_mono (ok' := (fun k_ => some k_ ≠ (v120 : Value).ownBlock)) HO_17.out (fun k_ hk => hk.2)); clear HO_17; have HO_17 := n_; clear n_)); (try (have HX18 := Aside0.mk (show Kd.S (Kd.slice 3 (Kd.int .i64)) 31 w16 w.heap.size (fun k_ => ((fun _ => True)) k_ ∧ ¬ ((fun k_ => some k_ = (v120 : Value).ownBlock)) k_) (.slice (some ⟨go15, 0, none⟩) x17_1.length co8) x17_1 from (by (with_reducible repeat (first | apply Kd.S_alloc | apply Kd.S_drewN | apply Kd.S_drew)); exact Kd.S_mono HO_17.out (fun k_ hk => ⟨trivial, fun e_ => hk e_⟩))))); (try (obtain ⟨oki18, ce18, hcl18, hM18, hcc18, hfr18, hoki18, hH18⟩ := Kd.S_elem HX18.out [] (x20_1 : Int) (of_decide_eq_true (by first | (with_reducible assumption) | assumption)) (by have h_ : (x20_1 : Int) < ((x17_1.length : Int) : Int) := of_decide_eq_true (by first | (with_reducible assumption) | assumption); first | exact h_ | (have e_ := (Kd.S_reads' HO_17.out).1; omega) | simpa using h_))); (try (obtain ⟨ve18_0, rfl, ge18_0⟩ := hM18)); (try (have HP18 := Kd.S_seg hH18 (of_decide_eq_true (by first | (with_reducible assumption) | assumption)) (by have h_ : (x20_1 : Int) < ((x17_1.length : Int) : Int) := of_decide_eq_true (by first | (with_reducible assumption) | assumption); first | exact h_ | (have e_ := (Kd.S_reads' HO_17.out).1; omega) | simpa using h_) (seg := [v120]) (j := 0) (show 1 ≤ 1 from by decide) (x' := y119) (Kd.M_row (Kd.R_mono (Kd.R_tight rfl (Kd.R_mono (ok' := fun k_ => ((fun _ => True)) k_ ∧ k_ ≠ go15) (Kd.R_apart' (HO121.out) (Kd.S_typed HO_17.out) (by decide)) (fun k_ hk => ⟨trivial, fun e_ => (hk.2) (by rw [e_]; rfl)⟩))) (fun _ h_ => Or.inr (h_)))) (fun _ hk => hk) (fun k_ hk_ => ((Kd.R_mono (ok' := fun k_ => ((fun _ => True)) k_ ∧ k_ ≠ go15) (Kd.R_apart' (HO121.out) (Kd.S_typed HO_17.out) (by decide)) (fun k_ hk => ⟨trivial, fun e_ => (hk.2) (by rw [e_]; rfl)⟩))).1 k_ hk_.symm))); (try (have hx18_0 := hcc18 0 _ rfl)); (try (try simp only [show ((Kd.slice 3 (Kd.int .i64))).sz = 1 from rfl, Nat.mul_one, Nat.add_zero] at hx18_0)); (try (have hf18_0 := hfr18 0)); (try (try simp only [show ((Kd.slice 3 (Kd.int .i64))).sz = 1 from rfl, Nat.mul_one, Nat.add_zero] at hf18_0)); (try ((try clear hM18); clear hcl18 hcc18 hfr18 hoki18 hH18)); (try (try simp only [show ((Kd.slice 3 (Kd.int .i64))).sz = 1 from rfl, Nat.mul_one, Nat.add_zero] at HP18)))); refine store_event (t := 31) (p := 29) (v := ?vo_w19) (w1 := (w16.setCell ⟨go15, (x20_1 : Int).toNat, none⟩ (v120))) ?hg ?ho ?hn ?hr ?_; (case ho => rfl); (case hg => rfl); (case hn => rfl); (case hr => first | (go_simp; done) | (go_simp; rfl) | (obtain ⟨a_, c_, e_⟩ := Kd.R_slice HO121.out; subst e_; first | (go_simp; done) | (go_simp; rfl))); intro w19 hw; have hg : w16.grownBy w19 (some go15) := (by rw [hw]; exact HP18.2); have hp_ : Kd.S (Kd.slice 3 (Kd.int .i64)) 31 w19 w.heap.size (fun _ => True) (.slice (some ⟨go15, 0, none⟩) x17_1.length co8) y122 := (by rw [hw, Ny122.out]; exact HP18.1); clear HP18; have n0_ := Aside0.mk (hp_); have n1_ := Aside0.mk ((by rw [hw]; exact below_set (HB.out) GB15.out : Below w.heap.size w w19)); clear HO_17; clear HB; clear HO121; have HO_17 := n0_; have HB := n1_; clear n0_ n1_; clear hg hw hp_))
          repeat (go_quiet (first | ((with_reducible refine gate_dst (N := 28) rfl ?_); (try (refine gate_guard (by rfl) ?_; dsimp only)); refine Kd.R_make (Kd.int .i64) _ 3 rfl (N := 28) rfl 31 _ _ rfl ji10 rfl rfl Try.underlying31 (.int .i64 0) 8 info3 rfl (by decide) (by omega) 0 (ok := fun _ => True) (okp := fun _ => True) rfl (fun _ hk => hk) trivial (of_decide_eq_true (by first | (with_reducible assumption) | assumption)) (Nat.le_trans (Nat.mul_le_mul_right _ (of_decide_eq_true (by first | (with_reducible assumption) | assumption) : ji10.toNat ≤ 35184372088832)) (by omega)) (Below.refl _ _) (Nat.le_refl _) ?_; intro v120 w16 ho17 hb hg_ hnew_; clear hg_ hnew_; (first | rw [← Ny119.out] at ho17 | (simp only [Int.reduceToNat] at ho17; rw [← Ny119.out] at ho17)); have n0_ := Aside0.mk (Kd.S_elder' (by (with_reducible repeat (first | apply Kd.S_alloc | apply Kd.S_drewN | apply Kd.S_drew)); exact HO_17.out) (Kd.R_base ho17) hb); have n1_ := Aside0.mk (Kd.R_lower ho17 (below_size (by repeat (first | (with_reducible first | exact HB.out | apply below_alloc | apply pw_below_drewN | apply below_drew1) | exact HB.out)))); have n2_ := Aside0.mk (below_step (by repeat (first | (with_reducible first | exact HB.out | apply below_alloc | apply pw_below_drewN | apply below_drew1) | exact HB.out)) hb); clear HO_17; clear HB; have HO_17 := n0_; have HO121 := n1_; have HB := n2_; clear n0_ n1_ n2_; clear hb ho17; have p15 : 0 ≤ (x20_1 : Int) := of_decide_eq_true (by first | (with_reducible assumption) | assumption); have q15 : (x20_1 : Int) < ((x17_1.length : Int) : Int) := of_decide_eq_true (by first | (with_reducible assumption) | assumption); obtain ⟨go15, co15, eo15, gb15, gl15, cl15, HG15⟩ := Kd.S_form HO_17.out (by omega); (first | cases eo15 | (injection eo15 with ea_ en_ ec_; (first | subst ea_ | (injection ea_ with ea_; subst ea_)); subst ec_; clear en_)); have GB15 := Aside0.mk gb15; have GG15 := Aside0.mk HG15; clear gb15 gl15 HG15; obtain ⟨_, ce15, hcl15, hM15, hcc15, hfr15, _, _⟩ := Kd.S_elem HO_17.out [] (x20_1 : Int) p15 q15; obtain ⟨ve15_0, rfl, ge15_0⟩ := hM15; have hx15_0 := hcc15 0 _ rfl; have hf15_0 := hfr15 0; (try simp only [show ((Kd.slice 3 (Kd.int .i64))).sz = 1 from rfl, Nat.mul_one, Nat.add_zero] at hx15_0); (try simp only [show ((Kd.slice 3 (Kd.int .i64))).sz = 1 from rfl, Nat.mul_one, Nat.add_zero] at hf15_0); (try clear hM15); clear hcl15 hcc15 hfr15; replace p15 := eq_true p15; replace q15 := eq_true q15; have n_ := Aside0.mk (Kd.S_mono (ok' := (fun k_ => some k_ ≠ (v120 : Value).ownBlock)) HO_17.out (fun k_ hk => hk.2)); clear HO_17; have HO_17 := n_; clear n_; have HX18 := Aside0.mk (show Kd.S (Kd.slice 3 (Kd.int .i64)) 31 w16 w.heap.size (fun k_ => ((fun _ => True)) k_ ∧ ¬ ((fun k_ => some k_ = (v120 : Value).ownBlock)) k_) (.slice (some ⟨go15, 0, none⟩) x17_1.length co8) x17_1 from (by (with_reducible repeat (first | apply Kd.S_alloc | apply Kd.S_drewN | apply Kd.S_drew)); exact Kd.S_mono HO_17.out (fun k_ hk => ⟨trivial, fun e_ => hk e_⟩))); obtain ⟨oki18, ce18, hcl18, hM18, hcc18, hfr18, hoki18, hH18⟩ := Kd.S_elem HX18.out [] (x20_1 : Int) (of_decide_eq_true (by first | (with_reducible assumption) | assumption)) (by have h_ : (x20_1 : Int) < ((x17_1.length : Int) : Int) := of_decide_eq_true (by first | (with_reducible assumption) | assumption); first | exact h_ | (have e_ := (Kd.S_reads' HO_17.out).1; omega) | simpa using h_); obtain ⟨ve18_0, rfl, ge18_0⟩ := hM18; have HP18 := Kd.S_seg hH18 (of_decide_eq_true (by first | (with_reducible assumption) | assumption)) (by have h_ : (x20_1 : Int) < ((x17_1.length : Int) : Int) := of_decide_eq_true (by first | (with_reducible assumption) | assumption); first | exact h_ | (have e_ := (Kd.S_reads' HO_17.out).1; omega) | simpa using h_) (seg := [v120]) (j := 0) (show 1 ≤ 1 from by decide) (x' := y119) (Kd.M_row (Kd.R_mono (Kd.R_tight rfl (Kd.R_mono (ok' := fun k_ => ((fun _ => True)) k_ ∧ k_ ≠ go15) (Kd.R_apart' (HO121.out) (Kd.S_typed HO_17.out) (by decide)) (fun k_ hk => ⟨trivial, fun e_ => (hk.2) (by rw [e_]; rfl)⟩))) (fun _ h_ => Or.inr (h_)))) (fun _ hk => hk) (fun k_ hk_ => ((Kd.R_mono (ok' := fun k_ => ((fun _ => True)) k_ ∧ k_ ≠ go15) (Kd.R_apart' (HO121.out) (Kd.S_typed HO_17.out) (by decide)) (fun k_ hk => ⟨trivial, fun e_ => (hk.2) (by rw [e_]; rfl)⟩))).1 k_ hk_.symm); have hx18_0 := hcc18 0 _ rfl; (try simp only [show ((Kd.slice 3 (Kd.int .i64))).sz = 1 from rfl, Nat.mul_one, Nat.add_zero] at hx18_0); have hf18_0 := hfr18 0; (try simp only [show ((Kd.slice 3 (Kd.int .i64))).sz = 1 from rfl, Nat.mul_one, Nat.add_zero] at hf18_0); (try clear hM18); clear hcl18 hcc18 hfr18 hoki18 hH18; (try simp only [show ((Kd.slice 3 (Kd.int .i64))).sz = 1 from rfl, Nat.mul_one, Nat.add_zero] at HP18)) | ((with_reducible refine gate_store (t := 31) (p := 29) rfl ?_); (try (rw [drewN_self w16]; generalize hq_ : World.drewN w16 _ = w16; have n0_ := Aside0.mk (Kd.S_at hq_ HO_17.out); have n1_ := Aside0.mk (below_at hq_ HB.out); clear hq_ HO_17 HB; have HO_17 := n0_; have HB := n1_; clear n0_ n1_; (try (have n_ := Aside0.mk (Kd.S_mono (ok' := (fun k_ => some k_ ≠ (v120 : Value).ownBlock)) HO_17.out (fun k_ hk => hk.2)); clear HO_17; have HO_17 := n_; clear n_)); (try (have HX18 := Aside0.mk (show Kd.S (Kd.slice 3 (Kd.int .i64)) 31 w16 w.heap.size (fun k_ => ((fun _ => True)) k_ ∧ ¬ ((fun k_ => some k_ = (v120 : Value).ownBlock)) k_) (.slice (some ⟨go15, 0, none⟩) x17_1.length co8) x17_1 from (by (with_reducible repeat (first | apply Kd.S_alloc | apply Kd.S_drewN | apply Kd.S_drew)); exact Kd.S_mono HO_17.out (fun k_ hk => ⟨trivial, fun e_ => hk e_⟩))))); (try (obtain ⟨oki18, ce18, hcl18, hM18, hcc18, hfr18, hoki18, hH18⟩ := Kd.S_elem HX18.out [] (x20_1 : Int) (of_decide_eq_true (by first | (with_reducible assumption) | assumption)) (by have h_ : (x20_1 : Int) < ((x17_1.length : Int) : Int) := of_decide_eq_true (by first | (with_reducible assumption) | assumption); first | exact h_ | (have e_ := (Kd.S_reads' HO_17.out).1; omega) | simpa using h_))); (try (obtain ⟨ve18_0, rfl, ge18_0⟩ := hM18)); (try (have HP18 := Kd.S_seg hH18 (of_decide_eq_true (by first | (with_reducible assumption) | assumption)) (by have h_ : (x20_1 : Int) < ((x17_1.length : Int) : Int) := of_decide_eq_true (by first | (with_reducible assumption) | assumption); first | exact h_ | (have e_ := (Kd.S_reads' HO_17.out).1; omega) | simpa using h_) (seg := [v120]) (j := 0) (show 1 ≤ 1 from by decide) (x' := y119) (Kd.M_row (Kd.R_mono (Kd.R_tight rfl (Kd.R_mono (ok' := fun k_ => ((fun _ => True)) k_ ∧ k_ ≠ go15) (Kd.R_apart' (HO121.out) (Kd.S_typed HO_17.out) (by decide)) (fun k_ hk => ⟨trivial, fun e_ => (hk.2) (by rw [e_]; rfl)⟩))) (fun _ h_ => Or.inr (h_)))) (fun _ hk => hk) (fun k_ hk_ => ((Kd.R_mono (ok' := fun k_ => ((fun _ => True)) k_ ∧ k_ ≠ go15) (Kd.R_apart' (HO121.out) (Kd.S_typed HO_17.out) (by decide)) (fun k_ hk => ⟨trivial, fun e_ => (hk.2) (by rw [e_]; rfl)⟩))).1 k_ hk_.symm))); (try (have hx18_0 := hcc18 0 _ rfl)); (try (try simp only [show ((Kd.slice 3 (Kd.int .i64))).sz = 1 from rfl, Nat.mul_one, Nat.add_zero] at hx18_0)); (try (have hf18_0 := hfr18 0)); (try (try simp only [show ((Kd.slice 3 (Kd.int .i64))).sz = 1 from rfl, Nat.mul_one, Nat.add_zero] at hf18_0)); (try ((try clear hM18); clear hcl18 hcc18 hfr18 hoki18 hH18)); (try (try simp only [show ((Kd.slice 3 (Kd.int .i64))).sz = 1 from rfl, Nat.mul_one, Nat.add_zero] at HP18)))); refine store_event (t := 31) (p := 29) (v := ?vo_w19) (w1 := (w16.setCell ⟨go15, (x20_1 : Int).toNat, none⟩ (v120))) ?hg ?ho ?hn ?hr ?_; (case ho => rfl); (case hg => rfl); (case hn => rfl); (case hr => first | (go_simp; done) | (go_simp; rfl) | (obtain ⟨a_, c_, e_⟩ := Kd.R_slice HO121.out; subst e_; first | (go_simp; done) | (go_simp; rfl))); intro w19 hw; have hg : w16.grownBy w19 (some go15) := (by rw [hw]; exact HP18.2); have hp_ : Kd.S (Kd.slice 3 (Kd.int .i64)) 31 w19 w.heap.size (fun _ => True) (.slice (some ⟨go15, 0, none⟩) x17_1.length co8) y122 := (by rw [hw, Ny122.out]; exact HP18.1); clear HP18; have n0_ := Aside0.mk (hp_); have n1_ := Aside0.mk ((by rw [hw]; exact below_set (HB.out) GB15.out : Below w.heap.size w w19)); clear HO_17; clear HB; clear HO121; have HO_17 := n0_; have HB := n1_; clear n0_ n1_; clear hg hw hp_)); try go_wp2_with (first | ((with_reducible refine gate_dst (N := 28) rfl ?_); (try (refine gate_guard (by rfl) ?_; dsimp only)); refine Kd.R_make (Kd.int .i64) _ 3 rfl (N := 28) rfl 31 _ _ rfl ji10 rfl rfl Try.underlying31 (.int .i64 0) 8 info3 rfl (by decide) (by omega) 0 (ok := fun _ => True) (okp := fun _ => True) rfl (fun _ hk => hk) trivial (of_decide_eq_true (by first | (with_reducible assumption) | assumption)) (Nat.le_trans (Nat.mul_le_mul_right _ (of_decide_eq_true (by first | (with_reducible assumption) | assumption) : ji10.toNat ≤ 35184372088832)) (by omega)) (Below.refl _ _) (Nat.le_refl _) ?_; intro v120 w16 ho17 hb hg_ hnew_; clear hg_ hnew_; (first | rw [← Ny119.out] at ho17 | (simp only [Int.reduceToNat] at ho17; rw [← Ny119.out] at ho17)); have n0_ := Aside0.mk (Kd.S_elder' (by (with_reducible repeat (first | apply Kd.S_alloc | apply Kd.S_drewN | apply Kd.S_drew)); exact HO_17.out) (Kd.R_base ho17) hb); have n1_ := Aside0.mk (Kd.R_lower ho17 (below_size (by repeat (first | (with_reducible first | exact HB.out | apply below_alloc | apply pw_below_drewN | apply below_drew1) | exact HB.out)))); have n2_ := Aside0.mk (below_step (by repeat (first | (with_reducible first | exact HB.out | apply below_alloc | apply pw_below_drewN | apply below_drew1) | exact HB.out)) hb); clear HO_17; clear HB; have HO_17 := n0_; have HO121 := n1_; have HB := n2_; clear n0_ n1_ n2_; clear hb ho17; have p15 : 0 ≤ (x20_1 : Int) := of_decide_eq_true (by first | (with_reducible assumption) | assumption); have q15 : (x20_1 : Int) < ((x17_1.length : Int) : Int) := of_decide_eq_true (by first | (with_reducible assumption) | assumption); obtain ⟨go15, co15, eo15, gb15, gl15, cl15, HG15⟩ := Kd.S_form HO_17.out (by omega); (first | cases eo15 | (injection eo15 with ea_ en_ ec_; (first | subst ea_ | (injection ea_ with ea_; subst ea_)); subst ec_; clear en_)); have GB15 := Aside0.mk gb15; have GG15 := Aside0.mk HG15; clear gb15 gl15 HG15; obtain ⟨_, ce15, hcl15, hM15, hcc15, hfr15, _, _⟩ := Kd.S_elem HO_17.out [] (x20_1 : Int) p15 q15; obtain ⟨ve15_0, rfl, ge15_0⟩ := hM15; have hx15_0 := hcc15 0 _ rfl; have hf15_0 := hfr15 0; (try simp only [show ((Kd.slice 3 (Kd.int .i64))).sz = 1 from rfl, Nat.mul_one, Nat.add_zero] at hx15_0); (try simp only [show ((Kd.slice 3 (Kd.int .i64))).sz = 1 from rfl, Nat.mul_one, Nat.add_zero] at hf15_0); (try clear hM15); clear hcl15 hcc15 hfr15; replace p15 := eq_true p15; replace q15 := eq_true q15; have n_ := Aside0.mk (Kd.S_mono (ok' := (fun k_ => some k_ ≠ (v120 : Value).ownBlock)) HO_17.out (fun k_ hk => hk.2)); clear HO_17; have HO_17 := n_; clear n_; have HX18 := Aside0.mk (show Kd.S (Kd.slice 3 (Kd.int .i64)) 31 w16 w.heap.size (fun k_ => ((fun _ => True)) k_ ∧ ¬ ((fun k_ => some k_ = (v120 : Value).ownBlock)) k_) (.slice (some ⟨go15, 0, none⟩) x17_1.length co8) x17_1 from (by (with_reducible repeat (first | apply Kd.S_alloc | apply Kd.S_drewN | apply Kd.S_drew)); exact Kd.S_mono HO_17.out (fun k_ hk => ⟨trivial, fun e_ => hk e_⟩))); obtain ⟨oki18, ce18, hcl18, hM18, hcc18, hfr18, hoki18, hH18⟩ := Kd.S_elem HX18.out [] (x20_1 : Int) (of_decide_eq_true (by first | (with_reducible assumption) | assumption)) (by have h_ : (x20_1 : Int) < ((x17_1.length : Int) : Int) := of_decide_eq_true (by first | (with_reducible assumption) | assumption); first | exact h_ | (have e_ := (Kd.S_reads' HO_17.out).1; omega) | simpa using h_); obtain ⟨ve18_0, rfl, ge18_0⟩ := hM18; have HP18 := Kd.S_seg hH18 (of_decide_eq_true (by first | (with_reducible assumption) | assumption)) (by have h_ : (x20_1 : Int) < ((x17_1.length : Int) : Int) := of_decide_eq_true (by first | (with_reducible assumption) | assumption); first | exact h_ | (have e_ := (Kd.S_reads' HO_17.out).1; omega) | simpa using h_) (seg := [v120]) (j := 0) (show 1 ≤ 1 from by decide) (x' := y119) (Kd.M_row (Kd.R_mono (Kd.R_tight rfl (Kd.R_mono (ok' := fun k_ => ((fun _ => True)) k_ ∧ k_ ≠ go15) (Kd.R_apart' (HO121.out) (Kd.S_typed HO_17.out) (by decide)) (fun k_ hk => ⟨trivial, fun e_ => (hk.2) (by rw [e_]; rfl)⟩))) (fun _ h_ => Or.inr (h_)))) (fun _ hk => hk) (fun k_ hk_ => ((Kd.R_mono (ok' := fun k_ => ((fun _ => True)) k_ ∧ k_ ≠ go15) (Kd.R_apart' (HO121.out) (Kd.S_typed HO_17.out) (by decide)) (fun k_ hk => ⟨trivial, fun e_ => (hk.2) (by rw [e_]; rfl)⟩))).1 k_ hk_.symm); have hx18_0 := hcc18 0 _ rfl; (try simp only [show ((Kd.slice 3 (Kd.int .i64))).sz = 1 from rfl, Nat.mul_one, Nat.add_zero] at hx18_0); have hf18_0 := hfr18 0; (try simp only [show ((Kd.slice 3 (Kd.int .i64))).sz = 1 from rfl, Nat.mul_one, Nat.add_zero] at hf18_0); (try clear hM18); clear hcl18 hcc18 hfr18 hoki18 hH18; (try simp only [show ((Kd.slice 3 (Kd.int .i64))).sz = 1 from rfl, Nat.mul_one, Nat.add_zero] at HP18)) | ((with_reducible refine gate_store (t := 31) (p := 29) rfl ?_); (try (rw [drewN_self w16]; generalize hq_ : World.drewN w16 _ = w16; have n0_ := Aside0.mk (Kd.S_at hq_ HO_17.out); have n1_ := Aside0.mk (below_at hq_ HB.out); clear hq_ HO_17 HB; have HO_17 := n0_; have HB := n1_; clear n0_ n1_; (try (have n_ := Aside0.mk (Kd.S_mono (ok' := (fun k_ => some k_ ≠ (v120 : Value).ownBlock)) HO_17.out (fun k_ hk => hk.2)); clear HO_17; have HO_17 := n_; clear n_)); (try (have HX18 := Aside0.mk (show Kd.S (Kd.slice 3 (Kd.int .i64)) 31 w16 w.heap.size (fun k_ => ((fun _ => True)) k_ ∧ ¬ ((fun k_ => some k_ = (v120 : Value).ownBlock)) k_) (.slice (some ⟨go15, 0, none⟩) x17_1.length co8) x17_1 from (by (with_reducible repeat (first | apply Kd.S_alloc | apply Kd.S_drewN | apply Kd.S_drew)); exact Kd.S_mono HO_17.out (fun k_ hk => ⟨trivial, fun e_ => hk e_⟩))))); (try (obtain ⟨oki18, ce18, hcl18, hM18, hcc18, hfr18, hoki18, hH18⟩ := Kd.S_elem HX18.out [] (x20_1 : Int) (of_decide_eq_true (by first | (with_reducible assumption) | assumption)) (by have h_ : (x20_1 : Int) < ((x17_1.length : Int) : Int) := of_decide_eq_true (by first | (with_reducible assumption) | assumption); first | exact h_ | (have e_ := (Kd.S_reads' HO_17.out).1; omega) | simpa using h_))); (try (obtain ⟨ve18_0, rfl, ge18_0⟩ := hM18)); (try (have HP18 := Kd.S_seg hH18 (of_decide_eq_true (by first | (with_reducible assumption) | assumption)) (by have h_ : (x20_1 : Int) < ((x17_1.length : Int) : Int) := of_decide_eq_true (by first | (with_reducible assumption) | assumption); first | exact h_ | (have e_ := (Kd.S_reads' HO_17.out).1; omega) | simpa using h_) (seg := [v120]) (j := 0) (show 1 ≤ 1 from by decide) (x' := y119) (Kd.M_row (Kd.R_mono (Kd.R_tight rfl (Kd.R_mono (ok' := fun k_ => ((fun _ => True)) k_ ∧ k_ ≠ go15) (Kd.R_apart' (HO121.out) (Kd.S_typed HO_17.out) (by decide)) (fun k_ hk => ⟨trivial, fun e_ => (hk.2) (by rw [e_]; rfl)⟩))) (fun _ h_ => Or.inr (h_)))) (fun _ hk => hk) (fun k_ hk_ => ((Kd.R_mono (ok' := fun k_ => ((fun _ => True)) k_ ∧ k_ ≠ go15) (Kd.R_apart' (HO121.out) (Kd.S_typed HO_17.out) (by decide)) (fun k_ hk => ⟨trivial, fun e_ => (hk.2) (by rw [e_]; rfl)⟩))).1 k_ hk_.symm))); (try (have hx18_0 := hcc18 0 _ rfl)); (try (try simp only [show ((Kd.slice 3 (Kd.int .i64))).sz = 1 from rfl, Nat.mul_one, Nat.add_zero] at hx18_0)); (try (have hf18_0 := hfr18 0)); (try (try simp only [show ((Kd.slice 3 (Kd.int .i64))).sz = 1 from rfl, Nat.mul_one, Nat.add_zero] at hf18_0)); (try ((try clear hM18); clear hcl18 hcc18 hfr18 hoki18 hH18)); (try (try simp only [show ((Kd.slice 3 (Kd.int .i64))).sz = 1 from rfl, Nat.mul_one, Nat.add_zero] at HP18)))); refine store_event (t := 31) (p := 29) (v := ?vo_w19) (w1 := (w16.setCell ⟨go15, (x20_1 : Int).toNat, none⟩ (v120))) ?hg ?ho ?hn ?hr ?_; (case ho => rfl); (case hg => rfl); (case hn => rfl); (case hr => first | (go_simp; done) | (go_simp; rfl) | (obtain ⟨a_, c_, e_⟩ := Kd.R_slice HO121.out; subst e_; first | (go_simp; done) | (go_simp; rfl))); intro w19 hw; have hg : w16.grownBy w19 (some go15) := (by rw [hw]; exact HP18.2); have hp_ : Kd.S (Kd.slice 3 (Kd.int .i64)) 31 w19 w.heap.size (fun _ => True) (.slice (some ⟨go15, 0, none⟩) x17_1.length co8) y122 := (by rw [hw, Ny122.out]; exact HP18.1); clear HP18; have n0_ := Aside0.mk (hp_); have n1_ := Aside0.mk ((by rw [hw]; exact below_set (HB.out) GB15.out : Below w.heap.size w w19)); clear HO_17; clear HB; clear HO121; have HO_17 := n0_; have HB := n1_; clear n0_ n1_; clear hg hw hp_)))
          (try simp only [← hl17_1])
          go_roundg k1
          case measure => have := HK1.out; omega
          case rel => exact ⟨(y122), (wrap64 (x20_1 + 1)), (by first | rfl | (simp; done) | (simp [*]; done)), H', ⟨by have := HK1.out; omega⟩, ⟨by (try simp only [hl17_1]); (with_reducible repeat (first | apply Kd.S_alloc | apply Kd.S_drewN | apply Kd.S_drew)); exact HO_17.out⟩, ⟨by repeat (first | (with_reducible first | exact HB.out | apply below_alloc | apply pw_below_drewN | apply below_drew1) | exact HB.out)⟩⟩
         ·rw [if_neg c14] at H
          exact absurd H (by simp)
        ·rw [if_neg c13] at H
         exact absurd H (by simp)
       ·rw [if_neg c12] at H
        exact absurd H (by simp)
      ·rw [if_neg c11] at H
       exact absurd H (by simp)
     ·rw [if_neg c9] at H
      have c9b0 : decide (x20_1 < (y116.length : Int)) = false := decide_eq_false c9
      (try simp only [hl17_1] at c9b0)
      clear c9
      have H' := Aside0.mk H
      clear H
      go_wp2
      repeat (go_quiet (fail); try go_wp2)
      go_loopg [7] k1 (fun kq v7 w' => ∃ (x7_2 : Int) (x17_2 : List (List Int)), v7 = .int .i64 x7_2 ∧ Aside0 (align_grid.l1 kq a0 a1 x7_2 x17_2 = some r) ∧ Aside0 (kq ≤ k1) ∧ Aside0 (Kd.S (Kd.slice 3 (Kd.int .i64)) 31 w' w.heap.size (fun _ => True) (.slice Ao8 x17_1.length co8) x17_2) ∧ Aside0 (Below w.heap.size w w'))
      case atStart => exact ⟨((a0.size : Int)), (x17_1), (by first | rfl | (simp; done) | (simp [*]; done)), H', ⟨Nat.le_refl _⟩, ⟨by (try simp only [hl17_1]); (with_reducible repeat (first | apply Kd.S_alloc | apply Kd.S_drewN | apply Kd.S_drew)); exact HO_17.out⟩, ⟨by repeat (first | (with_reducible first | exact HB.out | apply below_alloc | apply pw_below_drewN | apply below_drew1) | exact HB.out)⟩⟩
      case round =>
       clear H'
       try clear c1
       try clear p1
       try clear q1
       try clear hx1
       try clear p2
       try clear c4
       try clear c4b0
       try clear c4b1
       try clear c5
       try clear c5b0
       try clear c5b1
       try clear p6
       try clear c9
       try clear c9b0
       try clear c11
       try clear c11b0
       try clear c11b1
       try clear c12
       try clear c12b0
       try clear c12b1
       try clear c13
       try clear c13b0
       try clear c14
       try clear c14b0
       try clear c15
       try clear p15
       try clear q15
       try clear hx15
       try clear hf15
       try clear c18
       try clear hx18
       try clear hf18
       try clear hx15_0
       try clear hx18_0
       try clear p15
       try clear p2
       try clear p6
       try clear q15
       obtain ⟨x7_2, x17_2, rfl, HA, HK2, HO_17, HB⟩ := hrel
       have hl17_2 := (Kd.S_reads' HO_17.out).1
       rw [hl17_2] at HO_17
       (try simp only [hl17_2])
       cases gk with
       | zero => exact absurd HA.out (by simp [align_grid.l1])
       | succ k2 =>
        have H := HA.out
        clear HA
        simp only [align_grid.l1] at H
        by_cases c20 : x7_2 ≥ 0
        ·rw [if_pos c20] at H
         have c20b0 : decide (0 ≤ x7_2) = true := decide_eq_true c20
         clear c20
         have H' := Aside0.mk H
         clear H
         go_wp2
         repeat (go_quiet (fail); try go_wp2)
         go_loopg [8] k2 (fun kq v8 w' => ∃ (x8_3 : Int) (x17_3 : List (List Int)), v8 = .int .i64 x8_3 ∧ Aside0 (align_grid.l2 kq a0 a1 x7_2 x8_3 x17_3 = some r) ∧ Aside0 (kq ≤ k2) ∧ Aside0 (Kd.S (Kd.slice 3 (Kd.int .i64)) 31 w' w.heap.size (fun _ => True) (.slice Ao8 x17_2.length co8) x17_3) ∧ Aside0 (Below w.heap.size w w'))
         case atStart => exact ⟨((a1.size : Int)), (x17_2), (by first | rfl | (simp; done) | (simp [*]; done)), H', ⟨Nat.le_refl _⟩, ⟨by (try simp only [hl17_1]); (try simp only [hl17_2]); (with_reducible repeat (first | apply Kd.S_alloc | apply Kd.S_drewN | apply Kd.S_drew)); exact HO_17.out⟩, ⟨by repeat (first | (with_reducible first | exact HB.out | apply below_alloc | apply pw_below_drewN | apply below_drew1) | exact HB.out)⟩⟩
         case round =>
          clear H'
          try clear c1
          try clear p1
          try clear q1
          try clear hx1
          try clear c2
          try clear p2
          try clear c4
          try clear c4b0
          try clear c4b1
          try clear c5
          try clear c5b0
          try clear c5b1
          try clear p6
          try clear c9
          try clear c9b0
          try clear c11
          try clear c11b0
          try clear c11b1
          try clear c12
          try clear c12b0
          try clear c12b1
          try clear c13
          try clear c13b0
          try clear c14
          try clear c14b0
          try clear c15
          try clear p15
          try clear q15
          try clear hx15
          try clear hf15
          try clear c18
          try clear hx18
          try clear hf18
          try clear c20
          try clear c20b0
          try clear hx15_0
          try clear hx18_0
          try clear p1
          try clear p15
          try clear p2
          try clear p6
          try clear q1
          try clear q15
          obtain ⟨x8_3, x17_3, rfl, HA, HK3, HO_17, HB⟩ := hrel
          have hl17_3 := (Kd.S_reads' HO_17.out).1
          rw [hl17_3] at HO_17
          (try simp only [hl17_3])
          cases gk with
          | zero => exact absurd HA.out (by simp [align_grid.l2])
          | succ k3 =>
           have H := HA.out
           clear HA
           simp only [align_grid.l2] at H
           by_cases c21 : x8_3 ≥ 0
           ·rw [if_pos c21] at H
            have c21b0 : decide (0 ≤ x8_3) = true := decide_eq_true c21
            clear c21
            have HC22 := Aside0.mk H
            clear H
            go_upto_region 13 with (fail)
            repeat (go_quiet (fail); go_upto_region 13 with (fail))
            go_cut [52] (fun v52 wc => ∃ (kq : Nat) (x52_21 : Bool), v52 = .bool x52_21 ∧ Aside0 (align_grid.j3 kq a0 a1 x17_3 x7_2 x8_3 x52_21 = some r) ∧ Aside0 (kq ≤ k3) ∧ Aside0 (Kd.S (Kd.slice 3 (Kd.int .i64)) 31 wc w.heap.size (fun _ => True) (.slice Ao8 x17_3.length co8) x17_3) ∧ Aside0 (Below w.heap.size w wc))
            case first =>
             have H := HC22.out
             clear HC22
             by_cases c23 : x7_2 = (a0.size : Int)
             ·rw [if_pos c23] at H
              have c23b0 : (x7_2 == (a0.size : Int)) = true := beq_iff_eq.mpr c23
              have c23b1 : (x7_2 != (a0.size : Int)) = false := bne_eq_false_iff_eq.mpr c23
              clear c23
              (first | rw [c23b0] | (simp only [i64_w, i32_w]; rw [c23b0]) | skip)
              have H' := Aside0.mk H
              clear H
              go_wp2
              repeat (go_quiet (fail); try go_wp2)
              go_meet
              case rel => exact ⟨_, ((x8_3 == (a1.size : Int))), (by first | rfl | (simp; done) | (simp [*]; done)), H', ⟨by have := HK1.out; have := HK2.out; have := HK3.out; first | omega | exact Nat.le_refl _⟩, ⟨by (try simp only [hl17_1]); (try simp only [hl17_2]); (try simp only [hl17_3]); (with_reducible repeat (first | apply Kd.S_alloc | apply Kd.S_drewN | apply Kd.S_drew)); exact HO_17.out⟩, ⟨by repeat (first | (with_reducible first | exact HB.out | apply below_alloc | apply pw_below_drewN | apply below_drew1) | exact HB.out)⟩⟩
             ·rw [if_neg c23] at H
              have c23b0 : (x7_2 == (a0.size : Int)) = false := beq_eq_false_iff_ne.mpr c23
              have c23b1 : (x7_2 != (a0.size : Int)) = true := bne_iff_ne.mpr c23
              (first | rw [c23b0] | (simp only [i64_w, i32_w]; rw [c23b0]) | skip)
              have H' := Aside0.mk H
              clear H
              go_wp2
              repeat (go_quiet (fail); try go_wp2)
              go_meet
              case rel => exact ⟨_, (false), (by first | rfl | (simp; done) | (simp [*]; done)), H', ⟨by have := HK1.out; have := HK2.out; have := HK3.out; first | omega | exact Nat.le_refl _⟩, ⟨by (try simp only [hl17_1]); (try simp only [hl17_2]); (try simp only [hl17_3]); (with_reducible repeat (first | apply Kd.S_alloc | apply Kd.S_drewN | apply Kd.S_drew)); exact HO_17.out⟩, ⟨by repeat (first | (with_reducible first | exact HB.out | apply below_alloc | apply pw_below_drewN | apply below_drew1) | exact HB.out)⟩⟩
            case rest =>
             clear HC22
             try clear c1
             try clear p1
             try clear q1
             try clear hx1
             try clear c2
             try clear p2
             try clear c4
             try clear c4b0
             try clear c4b1
             try clear c5
             try clear c5b0
             try clear c5b1
             try clear p6
             try clear c9
             try clear c9b0
             try clear c11
             try clear c11b0
             try clear c11b1
             try clear c12
             try clear c12b0
             try clear c12b1
             try clear c13
             try clear c13b0
             try clear c14
             try clear c14b0
             try clear c15
             try clear p15
             try clear q15
             try clear hx15
             try clear hf15
             try clear c18
             try clear hx18
             try clear hf18
             try clear c20
             try clear c20b0
             try clear c21
             try clear c21b0
             try clear c23
             try clear c23b0
             try clear c23b1
             try clear hx15_0
             try clear hx18_0
             try clear p1
             try clear p15
             try clear p2
             try clear p6
             try clear q1
             try clear q15
             obtain ⟨kq, x52_21, rfl, HA, HJ21, HO_5, HB⟩ := hcut
             cases kq with
             | zero => exact absurd HA.out (by simp [align_grid.j3])
             | succ kj21 =>
              have H := HA.out
              clear HA
              simp only [align_grid.j3] at H
              by_cases c24 : x52_21 = true
              ·subst c24
               have H1 : (align_grid.l2 kj21 a0 a1 x7_2 (wrap64 (x8_3 - 1)) x17_3) = some r := by rw [if_pos rfl] at H; exact H
               clear H
               have H := H1
               clear H1
               have H' := Aside0.mk H
               clear H
               go_wp2
               repeat (go_quiet (fail); try go_wp2)
               (try simp only [← hl17_3])
               go_roundg kj21
               case measure => have := HK1.out; have := HK2.out; have := HK3.out; have := HJ21.out; omega
               case rel => exact ⟨(wrap64 (x8_3 - 1)), (x17_3), (by first | rfl | (simp; done) | (simp [*]; done)), H', ⟨by have := HK1.out; have := HK2.out; have := HK3.out; have := HJ21.out; omega⟩, ⟨by (try simp only [hl17_1]); (try simp only [hl17_2]); (try simp only [hl17_3]); (with_reducible repeat (first | apply Kd.S_alloc | apply Kd.S_drewN | apply Kd.S_drew)); exact HO_5.out⟩, ⟨by repeat (first | (with_reducible first | exact HB.out | apply below_alloc | apply pw_below_drewN | apply below_drew1) | exact HB.out)⟩⟩
              ·replace c24 := Bool.eq_false_iff.mpr c24
               subst c24
               have H1 : (align_grid.l3 kj21 a0 a1 x17_3 x7_2 x8_3 (-1) 0) = some r := by rw [if_neg (show ¬ (false = true) by decide)] at H; exact H
               clear H
               have H := H1
               clear H1
               have H' := Aside0.mk H
               clear H
               go_wp2
               repeat (go_quiet (fail); try go_wp2)
               go_loopg [9, 53] kj21 (fun kq v9 v53 w' => ∃ (x9_5 : Int) (x53_5 : Int), v9 = .int .i64 x9_5 ∧ v53 = .int .i64 x53_5 ∧ Aside0 (align_grid.l3 kq a0 a1 x17_3 x7_2 x8_3 x9_5 x53_5 = some r) ∧ Aside0 (kq ≤ kj21) ∧ Aside0 (Kd.S (Kd.slice 3 (Kd.int .i64)) 31 w' w.heap.size (fun _ => True) (.slice Ao8 x17_3.length co8) x17_3) ∧ Aside0 (Below w.heap.size w w'))
               case atStart => exact ⟨((-1)), (0), (by first | rfl | (simp; done) | (simp [*]; done)), (by first | rfl | (simp; done) | (simp [*]; done)), H', ⟨Nat.le_refl _⟩, ⟨by (try simp only [hl17_1]); (try simp only [hl17_2]); (try simp only [hl17_3]); (with_reducible repeat (first | apply Kd.S_alloc | apply Kd.S_drewN | apply Kd.S_drew)); exact HO_5.out⟩, ⟨by repeat (first | (with_reducible first | exact HB.out | apply below_alloc | apply pw_below_drewN | apply below_drew1) | exact HB.out)⟩⟩
               case round =>
                clear H'
                try clear c1
                try clear p1
                try clear q1
                try clear hx1
                try clear c2
                try clear p2
                try clear c4
                try clear c4b0
                try clear c4b1
                try clear c5
                try clear c5b0
                try clear c5b1
                try clear p6
                try clear c9
                try clear c9b0
                try clear c11
                try clear c11b0
                try clear c11b1
                try clear c12
                try clear c12b0
                try clear c12b1
                try clear c13
                try clear c13b0
                try clear c14
                try clear c14b0
                try clear c15
                try clear p15
                try clear q15
                try clear hx15
                try clear hf15
                try clear c18
                try clear hx18
                try clear hf18
                try clear c20
                try clear c20b0
                try clear c21
                try clear c21b0
                try clear c23
                try clear c23b0
                try clear c23b1
                try clear c24
                try clear hx15_0
                try clear hx18_0
                try clear p1
                try clear p15
                try clear p2
                try clear p6
                try clear q1
                try clear q15
                obtain ⟨x9_5, x53_5, rfl, rfl, HA, HK5, HO_5, HB⟩ := hrel
                cases gk with
                | zero => exact absurd HA.out (by simp [align_grid.l3])
                | succ k5 =>
                 have H := HA.out
                 clear HA
                 simp only [align_grid.l3] at H
                 by_cases c25 : x53_5 < 5
                 ·rw [if_pos c25] at H
                  have c25b0 : decide (x53_5 < 5) = true := decide_eq_true c25
                  clear c25
                  replace H := Option.bind_eq_some_iff.mp H
                  obtain ⟨⟨t123, t124, t125, t126⟩, A260, H⟩ := H
                  replace H : (if t126 = true then (if x9_5 < 0 then (if 0 ≤ t123 then (if t123 < (x17_3.length : Int) then (if 0 ≤ t124 then (if t124 < ((rd_L2 x17_3 t123).length : Int) then (align_grid.l3 k5 a0 a1 x17_3 x7_2 x8_3 (wrap64 (t125 + (rd (rd_L2 x17_3 t123) t124))) (wrap64 (x53_5 + 1))) else (none)) else (none)) else (none)) else (none)) else (if 0 ≤ t123 then (if t123 < (x17_3.length : Int) then (if 0 ≤ t124 then (if t124 < ((rd_L2 x17_3 t123).length : Int) then (if (wrap64 (t125 + (rd (rd_L2 x17_3 t123) t124))) < x9_5 then (align_grid.l3 k5 a0 a1 x17_3 x7_2 x8_3 (wrap64 (t125 + (rd (rd_L2 x17_3 t123) t124))) (wrap64 (x53_5 + 1))) else (align_grid.l3 k5 a0 a1 x17_3 x7_2 x8_3 x9_5 (wrap64 (x53_5 + 1)))) else (none)) else (none)) else (none)) else (none))) else (align_grid.l3 k5 a0 a1 x17_3 x7_2 x8_3 x9_5 (wrap64 (x53_5 + 1)))) = some r := H
                  have A26 := Aside0.mk A260
                  clear A260
                  by_cases c27 : t126 = true
                  ·subst c27
                   have H1 : (if x9_5 < 0 then (if 0 ≤ t123 then (if t123 < (x17_3.length : Int) then (if 0 ≤ t124 then (if t124 < ((rd_L2 x17_3 t123).length : Int) then (align_grid.l3 k5 a0 a1 x17_3 x7_2 x8_3 (wrap64 (t125 + (rd (rd_L2 x17_3 t123) t124))) (wrap64 (x53_5 + 1))) else (none)) else (none)) else (none)) else (none)) else (if 0 ≤ t123 then (if t123 < (x17_3.length : Int) then (if 0 ≤ t124 then (if t124 < ((rd_L2 x17_3 t123).length : Int) then (if (wrap64 (t125 + (rd (rd_L2 x17_3 t123) t124))) < x9_5 then (align_grid.l3 k5 a0 a1 x17_3 x7_2 x8_3 (wrap64 (t125 + (rd (rd_L2 x17_3 t123) t124))) (wrap64 (x53_5 + 1))) else (align_grid.l3 k5 a0 a1 x17_3 x7_2 x8_3 x9_5 (wrap64 (x53_5 + 1)))) else (none)) else (none)) else (none)) else (none))) = some r := by rw [if_pos rfl] at H; exact H
                   clear H
                   have H := H1
                   clear H1
                   by_cases c28 : x9_5 < 0
                   ·rw [if_pos c28] at H
                    have c28b0 : decide (x9_5 < 0) = true := decide_eq_true c28
                    clear c28
                    by_cases c29 : 0 ≤ t123
                    ·rw [if_pos c29] at H
                     have c29b0 : decide (0 ≤ t123) = true := decide_eq_true c29
                     clear c29
                     by_cases c30 : t123 < (x17_3.length : Int)
                     ·rw [if_pos c30] at H
                      have c30b0 : decide (t123 < (x17_3.length : Int)) = true := decide_eq_true c30
                      (try simp only [hl17_1, hl17_2, hl17_3] at c30b0)
                      clear c30
                      by_cases c31 : 0 ≤ t124
                      ·rw [if_pos c31] at H
                       have c31b0 : decide (0 ≤ t124) = true := decide_eq_true c31
                       clear c31
                       by_cases c32 : t124 < ((rd_L2 x17_3 t123).length : Int)
                       ·rw [if_pos c32] at H
                        have c32b0 : decide (t124 < ((rd_L2 x17_3 t123).length : Int)) = true := decide_eq_true c32
                        (try simp only [hl17_1, hl17_2, hl17_3] at c32b0)
                        clear c32
                        have H' := Aside0.mk H
                        clear H
                        go_wp2_with (first | (go_at_call 43; (with_reducible refine (align_step.calls k5 a0 a1 x7_2 x8_3 x53_5 t123 t124 t125 true _ A26.out).mono ?_); rintro e w33 ⟨rfl, hb⟩; have n0_ := Aside0.mk (Kd.S_below (by (with_reducible repeat (first | apply Kd.S_alloc | apply Kd.S_drewN | apply Kd.S_drew)); exact HO_5.out) hb); have n1_ := Aside0.mk (below_step (by repeat (first | (with_reducible first | exact HB.out | apply below_alloc | apply pw_below_drewN | apply below_drew1) | exact HB.out)) hb); clear HO_5; clear HB; have HO_5 := n0_; have HB := n1_; clear n0_ n1_; (try clear hb); (try clear hb2); (try clear hk); (try clear hi)) | ((with_reducible refine gate_dst (N := 11) rfl ?_); (try (refine gate_guard (by rfl) ?_; dsimp only)); refine box_event ?hg (N := 11) ?hd (cs := #[.int .i64 0, .int .i64 0]) (t := 60) ?hr ?_; (case hd => rfl); (case hg => rfl); (case hr => first | (go_simp; done) | (go_simp; rfl)); intro gb127 hg w34 hbox hb; have n0_ := Aside0.mk (Kd.S_below (by (with_reducible repeat (first | apply Kd.S_alloc | apply Kd.S_drewN | apply Kd.S_drew)); exact HO_5.out) hb); have n1_ := Aside0.mk (below_step (by repeat (first | (with_reducible first | exact HB.out | apply below_alloc | apply pw_below_drewN | apply below_drew1) | exact HB.out)) hb); have n2_ := Aside0.mk (hbox); have n3_ := Aside0.mk ((by rw [hg]; exact (below_size (by repeat (first | (with_reducible first | exact HB.out | apply below_alloc | apply pw_below_drewN | apply below_drew1) | exact HB.out))) : w.heap.size ≤ gb127)); have n4_ := Aside0.mk ((by rw [hg]; exact (below_size (by repeat (first | (with_reducible first | exact HB.out | apply below_alloc | apply pw_below_drewN | apply below_drew1) | exact HB.out))) : w.heap.size ≤ gb127)); clear HO_5; clear HB; have HO_5 := n0_; have HB := n1_; have BK127 := n2_; have GW127 := n3_; have GE127 := n4_; clear n0_ n1_ n2_ n3_ n4_; clear hb hbox hg; have hcz35_0 : w34.cell? ⟨gb127, 0, none⟩ = some (.int .i64 0) := (blk_cell BK127.out 0).trans rfl; have hcz35_1 : w34.cell? ⟨gb127, 1, none⟩ = some (.int .i64 0) := (blk_cell BK127.out 1).trans rfl; have hfz35_0 := blk_frozen BK127.out 0; have hfz35_1 := blk_frozen BK127.out 1) | ((with_reducible refine gate_store (t := 60) (p := 11) rfl ?_); (try (rw [drewN_self w34]; generalize hq_ : World.drewN w34 _ = w34; have n0_ := Aside0.mk (Kd.S_at hq_ HO_5.out); have n1_ := Aside0.mk (blk_at hq_ BK127.out); have n2_ := Aside0.mk (below_at hq_ HB.out); clear hq_ HO_5 BK127 HB; have HO_5 := n0_; have BK127 := n1_; have HB := n2_; clear n0_ n1_ n2_)); refine store_event (t := 60) (p := 11) (v := ?vo_w36) (w1 := ((w34.setCell ⟨gb127, 0, none⟩ (.int .i64 t123)).setCell ⟨gb127, 1, none⟩ (.int .i64 t124))) ?hg ?ho ?hn ?hr ?_; (case ho => rfl); (case hg => rfl); (case hn => rfl); (case hr => first | (go_simp; done) | (go_simp; rfl)); intro w36 hw; have n0_ : Aside0 (Kd.S (Kd.slice 3 (Kd.int .i64)) 31 w36 w.heap.size (fun _ => True) (.slice Ao8 x17_3.length co8) x17_3) := ⟨(by rw [hw]; exact (by (with_reducible repeat (first | apply Kd.S_alloc | apply Kd.S_drewN | apply Kd.S_drew)); exact Kd.S_mono (Kd.S_far (p := ⟨gb127, 1, none⟩) (Kd.S_far (p := ⟨gb127, 0, none⟩) (Kd.S_types HO_5.out BK127.out (by decide)) (fun _ hk => hk.2) (.int .i64 t123)) (fun _ hk => hk.2) (.int .i64 t124)) (fun _ hk => trivial)))⟩; have n1_ : Aside0 (w36.heap[gb127]? = some (.cells #[.int .i64 t123, .int .i64 t124] 60 (0, 0))) := ⟨(by rw [hw]; exact (by (with_reducible repeat (first | refine blk_drewN ?_ _ | refine blk_drew ?_ | refine blk_alloc ?_ _)); refine blk_put (cs := #[.int .i64 t123, .int .i64 0]) ?_ 1 _ rfl; (with_reducible repeat (first | refine blk_drewN ?_ _ | refine blk_drew ?_ | refine blk_alloc ?_ _)); refine blk_put (cs := #[.int .i64 0, .int .i64 0]) ?_ 0 _ rfl; (with_reducible repeat (first | refine blk_drewN ?_ _ | refine blk_drew ?_ | refine blk_alloc ?_ _)); exact BK127.out))⟩; have n2_ : Aside0 (Below w.heap.size w w36) := ⟨(by rw [hw]; exact (by repeat (first | (with_reducible first | exact HB.out | apply below_alloc | apply pw_below_drewN | apply below_drew1 | refine below_set ?_ GE127.out) | exact HB.out)))⟩; clear hw; clear HO_5; clear BK127; clear HB; have HO_5 := n0_; have BK127 := n1_; have HB := n2_; clear n0_ n1_ n2_; have hcz37_0 : w36.cell? ⟨gb127, 0, none⟩ = some (.int .i64 t123) := (blk_cell BK127.out 0).trans rfl; have hcz37_1 : w36.cell? ⟨gb127, 1, none⟩ = some (.int .i64 t124) := (blk_cell BK127.out 1).trans rfl; have hfz37_0 := blk_frozen BK127.out 0; have hfz37_1 := blk_frozen BK127.out 1; have p128 : 0 ≤ (t123 : Int) := of_decide_eq_true (by first | (with_reducible assumption) | assumption); have q128 : t123 < (x17_3.length : Int) := of_decide_eq_true (by first | (with_reducible assumption) | assumption); obtain ⟨ad128, A128_0, c128_0, e128, hx128_0, hl128_0, hi128_0⟩ := at_L2 (Kd.S_reads' HO_5.out).2.2 t123 p128 q128; cases e128; obtain ⟨ce128, hce128, hMe128, hcc128⟩ := Kd.S_get HO_5.out [] t123 p128 (by first | exact q128 | exact of_decide_eq_true (by first | (with_reducible assumption) | assumption) | (have e_ := (Kd.S_reads' HO_5.out).1; omega)); obtain ⟨ve128_0, rfl, ge128_0⟩ := hMe128; have hv128_0 := hcc128 0 _ rfl; rw [Nat.add_zero, show ((Kd.slice 3 (Kd.int .i64))).sz = 1 from rfl, Nat.mul_one] at hv128_0; replace hv128_0 := Option.some.inj (hv128_0.symm.trans hx128_0); rw [hv128_0] at ge128_0; have HL128_0 := Aside0.mk (show Kd.R (Kd.int .i64) 3 _ _ _ _ (rd_L2 x17_3 t123) from ge128_0); clear hv128_0 ge128_0; have HX128_0 := Aside0.mk hx128_0; clear hcc128 hce128; have HR128_0 := Aside0.mk hi128_0; have HC128_0 := Aside0.mk hl128_0; clear hi128_0 hl128_0; replace p128 := eq_true p128; replace q128 := eq_true q128; have p129 : 0 ≤ (t124 : Int) := of_decide_eq_true (by first | (with_reducible assumption) | assumption); have q129 : t124 < ((rd_L2 x17_3 t123).length : Int) := of_decide_eq_true (by first | (with_reducible assumption) | assumption); obtain ⟨ad129, e129, hx129_0⟩ := Kd.at_int (by repeat (first | (with_reducible exact HR128_0.out) | (with_reducible refine Kd.C_alloc ?_ _) | (with_reducible refine Kd.C_drewN ?_ _) | (with_reducible refine Kd.C_drew ?_) | exact HR128_0.out)) t124 p129 q129; cases e129; replace p129 := eq_true p129; replace q129 := eq_true q129))
                        repeat (go_quiet (first | (go_at_call 43; (with_reducible refine (align_step.calls k5 a0 a1 x7_2 x8_3 x53_5 t123 t124 t125 true _ A26.out).mono ?_); (try clear A26); rintro e w33 ⟨rfl, hb⟩; have n0_ := Aside0.mk (Kd.S_below (by (with_reducible repeat (first | apply Kd.S_alloc | apply Kd.S_drewN | apply Kd.S_drew)); exact HO_5.out) hb); have n1_ := Aside0.mk (below_step (by repeat (first | (with_reducible first | exact HB.out | apply below_alloc | apply pw_below_drewN | apply below_drew1) | exact HB.out)) hb); clear HO_5; clear HB; have HO_5 := n0_; have HB := n1_; clear n0_ n1_; (try clear hb); (try clear hb2); (try clear hk); (try clear hi)) | ((with_reducible refine gate_dst (N := 11) rfl ?_); (try (refine gate_guard (by rfl) ?_; dsimp only)); refine box_event ?hg (N := 11) ?hd (cs := #[.int .i64 0, .int .i64 0]) (t := 60) ?hr ?_; (case hd => rfl); (case hg => rfl); (case hr => first | (go_simp; done) | (go_simp; rfl)); intro gb127 hg w34 hbox hb; have n0_ := Aside0.mk (Kd.S_below (by (with_reducible repeat (first | apply Kd.S_alloc | apply Kd.S_drewN | apply Kd.S_drew)); exact HO_5.out) hb); have n1_ := Aside0.mk (below_step (by repeat (first | (with_reducible first | exact HB.out | apply below_alloc | apply pw_below_drewN | apply below_drew1) | exact HB.out)) hb); have n2_ := Aside0.mk (hbox); have n3_ := Aside0.mk ((by rw [hg]; exact (below_size (by repeat (first | (with_reducible first | exact HB.out | apply below_alloc | apply pw_below_drewN | apply below_drew1) | exact HB.out))) : w.heap.size ≤ gb127)); have n4_ := Aside0.mk ((by rw [hg]; exact (below_size (by repeat (first | (with_reducible first | exact HB.out | apply below_alloc | apply pw_below_drewN | apply below_drew1) | exact HB.out))) : w.heap.size ≤ gb127)); clear HO_5; clear HB; have HO_5 := n0_; have HB := n1_; have BK127 := n2_; have GW127 := n3_; have GE127 := n4_; clear n0_ n1_ n2_ n3_ n4_; clear hb hbox hg; have hcz35_0 : w34.cell? ⟨gb127, 0, none⟩ = some (.int .i64 0) := (blk_cell BK127.out 0).trans rfl; have hcz35_1 : w34.cell? ⟨gb127, 1, none⟩ = some (.int .i64 0) := (blk_cell BK127.out 1).trans rfl; have hfz35_0 := blk_frozen BK127.out 0; have hfz35_1 := blk_frozen BK127.out 1) | ((with_reducible refine gate_store (t := 60) (p := 11) rfl ?_); (try (rw [drewN_self w34]; generalize hq_ : World.drewN w34 _ = w34; have n0_ := Aside0.mk (Kd.S_at hq_ HO_5.out); have n1_ := Aside0.mk (blk_at hq_ BK127.out); have n2_ := Aside0.mk (below_at hq_ HB.out); clear hq_ HO_5 BK127 HB; have HO_5 := n0_; have BK127 := n1_; have HB := n2_; clear n0_ n1_ n2_)); refine store_event (t := 60) (p := 11) (v := ?vo_w36) (w1 := ((w34.setCell ⟨gb127, 0, none⟩ (.int .i64 t123)).setCell ⟨gb127, 1, none⟩ (.int .i64 t124))) ?hg ?ho ?hn ?hr ?_; (case ho => rfl); (case hg => rfl); (case hn => rfl); (case hr => first | (go_simp; done) | (go_simp; rfl)); intro w36 hw; have n0_ : Aside0 (Kd.S (Kd.slice 3 (Kd.int .i64)) 31 w36 w.heap.size (fun _ => True) (.slice Ao8 x17_3.length co8) x17_3) := ⟨(by rw [hw]; exact (by (with_reducible repeat (first | apply Kd.S_alloc | apply Kd.S_drewN | apply Kd.S_drew)); exact Kd.S_mono (Kd.S_far (p := ⟨gb127, 1, none⟩) (Kd.S_far (p := ⟨gb127, 0, none⟩) (Kd.S_types HO_5.out BK127.out (by decide)) (fun _ hk => hk.2) (.int .i64 t123)) (fun _ hk => hk.2) (.int .i64 t124)) (fun _ hk => trivial)))⟩; have n1_ : Aside0 (w36.heap[gb127]? = some (.cells #[.int .i64 t123, .int .i64 t124] 60 (0, 0))) := ⟨(by rw [hw]; exact (by (with_reducible repeat (first | refine blk_drewN ?_ _ | refine blk_drew ?_ | refine blk_alloc ?_ _)); refine blk_put (cs := #[.int .i64 t123, .int .i64 0]) ?_ 1 _ rfl; (with_reducible repeat (first | refine blk_drewN ?_ _ | refine blk_drew ?_ | refine blk_alloc ?_ _)); refine blk_put (cs := #[.int .i64 0, .int .i64 0]) ?_ 0 _ rfl; (with_reducible repeat (first | refine blk_drewN ?_ _ | refine blk_drew ?_ | refine blk_alloc ?_ _)); exact BK127.out))⟩; have n2_ : Aside0 (Below w.heap.size w w36) := ⟨(by rw [hw]; exact (by repeat (first | (with_reducible first | exact HB.out | apply below_alloc | apply pw_below_drewN | apply below_drew1 | refine below_set ?_ GE127.out) | exact HB.out)))⟩; clear hw; clear HO_5; clear BK127; clear HB; have HO_5 := n0_; have BK127 := n1_; have HB := n2_; clear n0_ n1_ n2_; have hcz37_0 : w36.cell? ⟨gb127, 0, none⟩ = some (.int .i64 t123) := (blk_cell BK127.out 0).trans rfl; have hcz37_1 : w36.cell? ⟨gb127, 1, none⟩ = some (.int .i64 t124) := (blk_cell BK127.out 1).trans rfl; have hfz37_0 := blk_frozen BK127.out 0; have hfz37_1 := blk_frozen BK127.out 1; have p128 : 0 ≤ (t123 : Int) := of_decide_eq_true (by first | (with_reducible assumption) | assumption); have q128 : t123 < (x17_3.length : Int) := of_decide_eq_true (by first | (with_reducible assumption) | assumption); obtain ⟨ad128, A128_0, c128_0, e128, hx128_0, hl128_0, hi128_0⟩ := at_L2 (Kd.S_reads' HO_5.out).2.2 t123 p128 q128; cases e128; obtain ⟨ce128, hce128, hMe128, hcc128⟩ := Kd.S_get HO_5.out [] t123 p128 (by first | exact q128 | exact of_decide_eq_true (by first | (with_reducible assumption) | assumption) | (have e_ := (Kd.S_reads' HO_5.out).1; omega)); obtain ⟨ve128_0, rfl, ge128_0⟩ := hMe128; have hv128_0 := hcc128 0 _ rfl; rw [Nat.add_zero, show ((Kd.slice 3 (Kd.int .i64))).sz = 1 from rfl, Nat.mul_one] at hv128_0; replace hv128_0 := Option.some.inj (hv128_0.symm.trans hx128_0); rw [hv128_0] at ge128_0; have HL128_0 := Aside0.mk (show Kd.R (Kd.int .i64) 3 _ _ _ _ (rd_L2 x17_3 t123) from ge128_0); clear hv128_0 ge128_0; have HX128_0 := Aside0.mk hx128_0; clear hcc128 hce128; have HR128_0 := Aside0.mk hi128_0; have HC128_0 := Aside0.mk hl128_0; clear hi128_0 hl128_0; replace p128 := eq_true p128; replace q128 := eq_true q128; have p129 : 0 ≤ (t124 : Int) := of_decide_eq_true (by first | (with_reducible assumption) | assumption); have q129 : t124 < ((rd_L2 x17_3 t123).length : Int) := of_decide_eq_true (by first | (with_reducible assumption) | assumption); obtain ⟨ad129, e129, hx129_0⟩ := Kd.at_int (by repeat (first | (with_reducible exact HR128_0.out) | (with_reducible refine Kd.C_alloc ?_ _) | (with_reducible refine Kd.C_drewN ?_ _) | (with_reducible refine Kd.C_drew ?_) | exact HR128_0.out)) t124 p129 q129; cases e129; replace p129 := eq_true p129; replace q129 := eq_true q129)); try go_wp2_with (first | (go_at_call 43; (with_reducible refine (align_step.calls k5 a0 a1 x7_2 x8_3 x53_5 t123 t124 t125 true _ A26.out).mono ?_); (try clear A26); rintro e w33 ⟨rfl, hb⟩; have n0_ := Aside0.mk (Kd.S_below (by (with_reducible repeat (first | apply Kd.S_alloc | apply Kd.S_drewN | apply Kd.S_drew)); exact HO_5.out) hb); have n1_ := Aside0.mk (below_step (by repeat (first | (with_reducible first | exact HB.out | apply below_alloc | apply pw_below_drewN | apply below_drew1) | exact HB.out)) hb); clear HO_5; clear HB; have HO_5 := n0_; have HB := n1_; clear n0_ n1_; (try clear hb); (try clear hb2); (try clear hk); (try clear hi)) | ((with_reducible refine gate_dst (N := 11) rfl ?_); (try (refine gate_guard (by rfl) ?_; dsimp only)); refine box_event ?hg (N := 11) ?hd (cs := #[.int .i64 0, .int .i64 0]) (t := 60) ?hr ?_; (case hd => rfl); (case hg => rfl); (case hr => first | (go_simp; done) | (go_simp; rfl)); intro gb127 hg w34 hbox hb; have n0_ := Aside0.mk (Kd.S_below (by (with_reducible repeat (first | apply Kd.S_alloc | apply Kd.S_drewN | apply Kd.S_drew)); exact HO_5.out) hb); have n1_ := Aside0.mk (below_step (by repeat (first | (with_reducible first | exact HB.out | apply below_alloc | apply pw_below_drewN | apply below_drew1) | exact HB.out)) hb); have n2_ := Aside0.mk (hbox); have n3_ := Aside0.mk ((by rw [hg]; exact (below_size (by repeat (first | (with_reducible first | exact HB.out | apply below_alloc | apply pw_below_drewN | apply below_drew1) | exact HB.out))) : w.heap.size ≤ gb127)); have n4_ := Aside0.mk ((by rw [hg]; exact (below_size (by repeat (first | (with_reducible first | exact HB.out | apply below_alloc | apply pw_below_drewN | apply below_drew1) | exact HB.out))) : w.heap.size ≤ gb127)); clear HO_5; clear HB; have HO_5 := n0_; have HB := n1_; have BK127 := n2_; have GW127 := n3_; have GE127 := n4_; clear n0_ n1_ n2_ n3_ n4_; clear hb hbox hg; have hcz35_0 : w34.cell? ⟨gb127, 0, none⟩ = some (.int .i64 0) := (blk_cell BK127.out 0).trans rfl; have hcz35_1 : w34.cell? ⟨gb127, 1, none⟩ = some (.int .i64 0) := (blk_cell BK127.out 1).trans rfl; have hfz35_0 := blk_frozen BK127.out 0; have hfz35_1 := blk_frozen BK127.out 1) | ((with_reducible refine gate_store (t := 60) (p := 11) rfl ?_); (try (rw [drewN_self w34]; generalize hq_ : World.drewN w34 _ = w34; have n0_ := Aside0.mk (Kd.S_at hq_ HO_5.out); have n1_ := Aside0.mk (blk_at hq_ BK127.out); have n2_ := Aside0.mk (below_at hq_ HB.out); clear hq_ HO_5 BK127 HB; have HO_5 := n0_; have BK127 := n1_; have HB := n2_; clear n0_ n1_ n2_)); refine store_event (t := 60) (p := 11) (v := ?vo_w36) (w1 := ((w34.setCell ⟨gb127, 0, none⟩ (.int .i64 t123)).setCell ⟨gb127, 1, none⟩ (.int .i64 t124))) ?hg ?ho ?hn ?hr ?_; (case ho => rfl); (case hg => rfl); (case hn => rfl); (case hr => first | (go_simp; done) | (go_simp; rfl)); intro w36 hw; have n0_ : Aside0 (Kd.S (Kd.slice 3 (Kd.int .i64)) 31 w36 w.heap.size (fun _ => True) (.slice Ao8 x17_3.length co8) x17_3) := ⟨(by rw [hw]; exact (by (with_reducible repeat (first | apply Kd.S_alloc | apply Kd.S_drewN | apply Kd.S_drew)); exact Kd.S_mono (Kd.S_far (p := ⟨gb127, 1, none⟩) (Kd.S_far (p := ⟨gb127, 0, none⟩) (Kd.S_types HO_5.out BK127.out (by decide)) (fun _ hk => hk.2) (.int .i64 t123)) (fun _ hk => hk.2) (.int .i64 t124)) (fun _ hk => trivial)))⟩; have n1_ : Aside0 (w36.heap[gb127]? = some (.cells #[.int .i64 t123, .int .i64 t124] 60 (0, 0))) := ⟨(by rw [hw]; exact (by (with_reducible repeat (first | refine blk_drewN ?_ _ | refine blk_drew ?_ | refine blk_alloc ?_ _)); refine blk_put (cs := #[.int .i64 t123, .int .i64 0]) ?_ 1 _ rfl; (with_reducible repeat (first | refine blk_drewN ?_ _ | refine blk_drew ?_ | refine blk_alloc ?_ _)); refine blk_put (cs := #[.int .i64 0, .int .i64 0]) ?_ 0 _ rfl; (with_reducible repeat (first | refine blk_drewN ?_ _ | refine blk_drew ?_ | refine blk_alloc ?_ _)); exact BK127.out))⟩; have n2_ : Aside0 (Below w.heap.size w w36) := ⟨(by rw [hw]; exact (by repeat (first | (with_reducible first | exact HB.out | apply below_alloc | apply pw_below_drewN | apply below_drew1 | refine below_set ?_ GE127.out) | exact HB.out)))⟩; clear hw; clear HO_5; clear BK127; clear HB; have HO_5 := n0_; have BK127 := n1_; have HB := n2_; clear n0_ n1_ n2_; have hcz37_0 : w36.cell? ⟨gb127, 0, none⟩ = some (.int .i64 t123) := (blk_cell BK127.out 0).trans rfl; have hcz37_1 : w36.cell? ⟨gb127, 1, none⟩ = some (.int .i64 t124) := (blk_cell BK127.out 1).trans rfl; have hfz37_0 := blk_frozen BK127.out 0; have hfz37_1 := blk_frozen BK127.out 1; have p128 : 0 ≤ (t123 : Int) := of_decide_eq_true (by first | (with_reducible assumption) | assumption); have q128 : t123 < (x17_3.length : Int) := of_decide_eq_true (by first | (with_reducible assumption) | assumption); obtain ⟨ad128, A128_0, c128_0, e128, hx128_0, hl128_0, hi128_0⟩ := at_L2 (Kd.S_reads' HO_5.out).2.2 t123 p128 q128; cases e128; obtain ⟨ce128, hce128, hMe128, hcc128⟩ := Kd.S_get HO_5.out [] t123 p128 (by first | exact q128 | exact of_decide_eq_true (by first | (with_reducible assumption) | assumption) | (have e_ := (Kd.S_reads' HO_5.out).1; omega)); obtain ⟨ve128_0, rfl, ge128_0⟩ := hMe128; have hv128_0 := hcc128 0 _ rfl; rw [Nat.add_zero, show ((Kd.slice 3 (Kd.int .i64))).sz = 1 from rfl, Nat.mul_one] at hv128_0; replace hv128_0 := Option.some.inj (hv128_0.symm.trans hx128_0); rw [hv128_0] at ge128_0; have HL128_0 := Aside0.mk (show Kd.R (Kd.int .i64) 3 _ _ _ _ (rd_L2 x17_3 t123) from ge128_0); clear hv128_0 ge128_0; have HX128_0 := Aside0.mk hx128_0; clear hcc128 hce128; have HR128_0 := Aside0.mk hi128_0; have HC128_0 := Aside0.mk hl128_0; clear hi128_0 hl128_0; replace p128 := eq_true p128; replace q128 := eq_true q128; have p129 : 0 ≤ (t124 : Int) := of_decide_eq_true (by first | (with_reducible assumption) | assumption); have q129 : t124 < ((rd_L2 x17_3 t123).length : Int) := of_decide_eq_true (by first | (with_reducible assumption) | assumption); obtain ⟨ad129, e129, hx129_0⟩ := Kd.at_int (by repeat (first | (with_reducible exact HR128_0.out) | (with_reducible refine Kd.C_alloc ?_ _) | (with_reducible refine Kd.C_drewN ?_ _) | (with_reducible refine Kd.C_drew ?_) | exact HR128_0.out)) t124 p129 q129; cases e129; replace p129 := eq_true p129; replace q129 := eq_true q129)))
                        go_roundg k5
                        case measure => have := HK1.out; have := HK2.out; have := HK3.out; have := HJ21.out; have := HK5.out; omega
                        case rel => exact ⟨(wrap64 (t125 + (rd (rd_L2 x17_3 t123) t124))), (wrap64 (x53_5 + 1)), (by first | rfl | (simp; done) | (simp [*]; done)), (by first | rfl | (simp; done) | (simp [*]; done)), H', ⟨by have := HK1.out; have := HK2.out; have := HK3.out; have := HJ21.out; have := HK5.out; omega⟩, ⟨by (try simp only [hl17_1]); (try simp only [hl17_2]); (try simp only [hl17_3]); (with_reducible repeat (first | apply Kd.S_alloc | apply Kd.S_drewN | apply Kd.S_drew)); exact HO_5.out⟩, ⟨by repeat (first | (with_reducible first | exact HB.out | apply below_alloc | apply pw_below_drewN | apply below_drew1 | refine below_set ?_ GE127.out) | exact HB.out)⟩⟩
                       ·rw [if_neg c32] at H
                        exact absurd H (by simp)
                      ·rw [if_neg c31] at H
                       exact absurd H (by simp)
                     ·rw [if_neg c30] at H
                      exact absurd H (by simp)
                    ·rw [if_neg c29] at H
                     exact absurd H (by simp)
                   ·rw [if_neg c28] at H
                    have c28b0 : decide (x9_5 < 0) = false := decide_eq_false c28
                    clear c28
                    by_cases c38 : 0 ≤ t123
                    ·rw [if_pos c38] at H
                     have c38b0 : decide (0 ≤ t123) = true := decide_eq_true c38
                     clear c38
                     by_cases c39 : t123 < (x17_3.length : Int)
                     ·rw [if_pos c39] at H
                      have c39b0 : decide (t123 < (x17_3.length : Int)) = true := decide_eq_true c39
                      (try simp only [hl17_1, hl17_2, hl17_3] at c39b0)
                      clear c39
                      by_cases c40 : 0 ≤ t124
                      ·rw [if_pos c40] at H
                       have c40b0 : decide (0 ≤ t124) = true := decide_eq_true c40
                       clear c40
                       by_cases c41 : t124 < ((rd_L2 x17_3 t123).length : Int)
                       ·rw [if_pos c41] at H
                        have c41b0 : decide (t124 < ((rd_L2 x17_3 t123).length : Int)) = true := decide_eq_true c41
                        (try simp only [hl17_1, hl17_2, hl17_3] at c41b0)
                        clear c41
                        by_cases c42 : (wrap64 (t125 + (rd (rd_L2 x17_3 t123) t124))) < x9_5
                        ·rw [if_pos c42] at H
                         have c42b0 : decide ((wrap64 (t125 + (rd (rd_L2 x17_3 t123) t124))) < x9_5) = true := decide_eq_true c42
                         clear c42
                         have H' := Aside0.mk H
                         clear H
                         go_wp2_with (first | (go_at_call 43; (with_reducible refine (align_step.calls k5 a0 a1 x7_2 x8_3 x53_5 t123 t124 t125 true _ A26.out).mono ?_); rintro e w43 ⟨rfl, hb⟩; have n0_ := Aside0.mk (Kd.S_below (by (with_reducible repeat (first | apply Kd.S_alloc | apply Kd.S_drewN | apply Kd.S_drew)); exact HO_5.out) hb); have n1_ := Aside0.mk (below_step (by repeat (first | (with_reducible first | exact HB.out | apply below_alloc | apply pw_below_drewN | apply below_drew1) | exact HB.out)) hb); clear HO_5; clear HB; have HO_5 := n0_; have HB := n1_; clear n0_ n1_; (try clear hb); (try clear hb2); (try clear hk); (try clear hi)) | ((with_reducible refine gate_dst (N := 11) rfl ?_); (try (refine gate_guard (by rfl) ?_; dsimp only)); refine box_event ?hg (N := 11) ?hd (cs := #[.int .i64 0, .int .i64 0]) (t := 60) ?hr ?_; (case hd => rfl); (case hg => rfl); (case hr => first | (go_simp; done) | (go_simp; rfl)); intro gb127 hg w44 hbox hb; have n0_ := Aside0.mk (Kd.S_below (by (with_reducible repeat (first | apply Kd.S_alloc | apply Kd.S_drewN | apply Kd.S_drew)); exact HO_5.out) hb); have n1_ := Aside0.mk (below_step (by repeat (first | (with_reducible first | exact HB.out | apply below_alloc | apply pw_below_drewN | apply below_drew1) | exact HB.out)) hb); have n2_ := Aside0.mk (hbox); have n3_ := Aside0.mk ((by rw [hg]; exact (below_size (by repeat (first | (with_reducible first | exact HB.out | apply below_alloc | apply pw_below_drewN | apply below_drew1) | exact HB.out))) : w.heap.size ≤ gb127)); have n4_ := Aside0.mk ((by rw [hg]; exact (below_size (by repeat (first | (with_reducible first | exact HB.out | apply below_alloc | apply pw_below_drewN | apply below_drew1) | exact HB.out))) : w.heap.size ≤ gb127)); clear HO_5; clear HB; have HO_5 := n0_; have HB := n1_; have BK127 := n2_; have GW127 := n3_; have GE127 := n4_; clear n0_ n1_ n2_ n3_ n4_; clear hb hbox hg; have hcz45_0 : w44.cell? ⟨gb127, 0, none⟩ = some (.int .i64 0) := (blk_cell BK127.out 0).trans rfl; have hcz45_1 : w44.cell? ⟨gb127, 1, none⟩ = some (.int .i64 0) := (blk_cell BK127.out 1).trans rfl; have hfz45_0 := blk_frozen BK127.out 0; have hfz45_1 := blk_frozen BK127.out 1) | ((with_reducible refine gate_store (t := 60) (p := 11) rfl ?_); (try (rw [drewN_self w44]; generalize hq_ : World.drewN w44 _ = w44; have n0_ := Aside0.mk (Kd.S_at hq_ HO_5.out); have n1_ := Aside0.mk (blk_at hq_ BK127.out); have n2_ := Aside0.mk (below_at hq_ HB.out); clear hq_ HO_5 BK127 HB; have HO_5 := n0_; have BK127 := n1_; have HB := n2_; clear n0_ n1_ n2_)); refine store_event (t := 60) (p := 11) (v := ?vo_w46) (w1 := ((w44.setCell ⟨gb127, 0, none⟩ (.int .i64 t123)).setCell ⟨gb127, 1, none⟩ (.int .i64 t124))) ?hg ?ho ?hn ?hr ?_; (case ho => rfl); (case hg => rfl); (case hn => rfl); (case hr => first | (go_simp; done) | (go_simp; rfl)); intro w46 hw; have n0_ : Aside0 (Kd.S (Kd.slice 3 (Kd.int .i64)) 31 w46 w.heap.size (fun _ => True) (.slice Ao8 x17_3.length co8) x17_3) := ⟨(by rw [hw]; exact (by (with_reducible repeat (first | apply Kd.S_alloc | apply Kd.S_drewN | apply Kd.S_drew)); exact Kd.S_mono (Kd.S_far (p := ⟨gb127, 1, none⟩) (Kd.S_far (p := ⟨gb127, 0, none⟩) (Kd.S_types HO_5.out BK127.out (by decide)) (fun _ hk => hk.2) (.int .i64 t123)) (fun _ hk => hk.2) (.int .i64 t124)) (fun _ hk => trivial)))⟩; have n1_ : Aside0 (w46.heap[gb127]? = some (.cells #[.int .i64 t123, .int .i64 t124] 60 (0, 0))) := ⟨(by rw [hw]; exact (by (with_reducible repeat (first | refine blk_drewN ?_ _ | refine blk_drew ?_ | refine blk_alloc ?_ _)); refine blk_put (cs := #[.int .i64 t123, .int .i64 0]) ?_ 1 _ rfl; (with_reducible repeat (first | refine blk_drewN ?_ _ | refine blk_drew ?_ | refine blk_alloc ?_ _)); refine blk_put (cs := #[.int .i64 0, .int .i64 0]) ?_ 0 _ rfl; (with_reducible repeat (first | refine blk_drewN ?_ _ | refine blk_drew ?_ | refine blk_alloc ?_ _)); exact BK127.out))⟩; have n2_ : Aside0 (Below w.heap.size w w46) := ⟨(by rw [hw]; exact (by repeat (first | (with_reducible first | exact HB.out | apply below_alloc | apply pw_below_drewN | apply below_drew1 | refine below_set ?_ GE127.out) | exact HB.out)))⟩; clear hw; clear HO_5; clear BK127; clear HB; have HO_5 := n0_; have BK127 := n1_; have HB := n2_; clear n0_ n1_ n2_; have hcz47_0 : w46.cell? ⟨gb127, 0, none⟩ = some (.int .i64 t123) := (blk_cell BK127.out 0).trans rfl; have hcz47_1 : w46.cell? ⟨gb127, 1, none⟩ = some (.int .i64 t124) := (blk_cell BK127.out 1).trans rfl; have hfz47_0 := blk_frozen BK127.out 0; have hfz47_1 := blk_frozen BK127.out 1; have p130 : 0 ≤ (t123 : Int) := of_decide_eq_true (by first | (with_reducible assumption) | assumption); have q130 : t123 < (x17_3.length : Int) := of_decide_eq_true (by first | (with_reducible assumption) | assumption); obtain ⟨ad130, A130_0, c130_0, e130, hx130_0, hl130_0, hi130_0⟩ := at_L2 (Kd.S_reads' HO_5.out).2.2 t123 p130 q130; cases e130; obtain ⟨ce130, hce130, hMe130, hcc130⟩ := Kd.S_get HO_5.out [] t123 p130 (by first | exact q130 | exact of_decide_eq_true (by first | (with_reducible assumption) | assumption) | (have e_ := (Kd.S_reads' HO_5.out).1; omega)); obtain ⟨ve130_0, rfl, ge130_0⟩ := hMe130; have hv130_0 := hcc130 0 _ rfl; rw [Nat.add_zero, show ((Kd.slice 3 (Kd.int .i64))).sz = 1 from rfl, Nat.mul_one] at hv130_0; replace hv130_0 := Option.some.inj (hv130_0.symm.trans hx130_0); rw [hv130_0] at ge130_0; have HL130_0 := Aside0.mk (show Kd.R (Kd.int .i64) 3 _ _ _ _ (rd_L2 x17_3 t123) from ge130_0); clear hv130_0 ge130_0; have HX130_0 := Aside0.mk hx130_0; clear hcc130 hce130; have HR130_0 := Aside0.mk hi130_0; have HC130_0 := Aside0.mk hl130_0; clear hi130_0 hl130_0; replace p130 := eq_true p130; replace q130 := eq_true q130; have p131 : 0 ≤ (t124 : Int) := of_decide_eq_true (by first | (with_reducible assumption) | assumption); have q131 : t124 < ((rd_L2 x17_3 t123).length : Int) := of_decide_eq_true (by first | (with_reducible assumption) | assumption); obtain ⟨ad131, e131, hx131_0⟩ := Kd.at_int (by repeat (first | (with_reducible exact HR130_0.out) | (with_reducible refine Kd.C_alloc ?_ _) | (with_reducible refine Kd.C_drewN ?_ _) | (with_reducible refine Kd.C_drew ?_) | exact HR130_0.out)) t124 p131 q131; cases e131; replace p131 := eq_true p131; replace q131 := eq_true q131; have p132 : 0 ≤ (t123 : Int) := of_decide_eq_true (by first | (with_reducible assumption) | assumption); have q132 : t123 < (x17_3.length : Int) := of_decide_eq_true (by first | (with_reducible assumption) | assumption); obtain ⟨ad132, A132_0, c132_0, e132, hx132_0, hl132_0, hi132_0⟩ := at_L2 (Kd.S_reads' HO_5.out).2.2 t123 p132 q132; obtain rfl : ad130 = ad132 := (by injection e132); obtain ⟨ce132, hce132, hMe132, hcc132⟩ := Kd.S_get HO_5.out [] t123 p132 (by first | exact q132 | exact of_decide_eq_true (by first | (with_reducible assumption) | assumption) | (have e_ := (Kd.S_reads' HO_5.out).1; omega)); obtain ⟨ve132_0, rfl, ge132_0⟩ := hMe132; have hv132_0 := hcc132 0 _ rfl; rw [Nat.add_zero, show ((Kd.slice 3 (Kd.int .i64))).sz = 1 from rfl, Nat.mul_one] at hv132_0; replace hv132_0 := Option.some.inj (hv132_0.symm.trans hx132_0); rw [hv132_0] at ge132_0; have HL132_0 := Aside0.mk (show Kd.R (Kd.int .i64) 3 _ _ _ _ (rd_L2 x17_3 t123) from ge132_0); clear hv132_0 ge132_0; have HX132_0 := Aside0.mk hx132_0; clear hcc132 hce132; have HR132_0 := Aside0.mk hi132_0; have HC132_0 := Aside0.mk hl132_0; clear hi132_0 hl132_0; replace p132 := eq_true p132; replace q132 := eq_true q132; have ea_ := Option.some.inj (hx130_0.symm.trans hx132_0); injection ea_ with ea_ en_ ec_; subst ea_; subst ec_; clear en_; have p133 : 0 ≤ (t124 : Int) := of_decide_eq_true (by first | (with_reducible assumption) | assumption); have q133 : t124 < ((rd_L2 x17_3 t123).length : Int) := of_decide_eq_true (by first | (with_reducible assumption) | assumption); obtain ⟨ad133, e133, hx133_0⟩ := Kd.at_int (by repeat (first | (with_reducible exact HR132_0.out) | (with_reducible refine Kd.C_alloc ?_ _) | (with_reducible refine Kd.C_drewN ?_ _) | (with_reducible refine Kd.C_drew ?_) | exact HR132_0.out)) t124 p133 q133; cases e133; replace p133 := eq_true p133; replace q133 := eq_true q133))
                         repeat (go_quiet (first | (go_at_call 43; (with_reducible refine (align_step.calls k5 a0 a1 x7_2 x8_3 x53_5 t123 t124 t125 true _ A26.out).mono ?_); (try clear A26); rintro e w43 ⟨rfl, hb⟩; have n0_ := Aside0.mk (Kd.S_below (by (with_reducible repeat (first | apply Kd.S_alloc | apply Kd.S_drewN | apply Kd.S_drew)); exact HO_5.out) hb); have n1_ := Aside0.mk (below_step (by repeat (first | (with_reducible first | exact HB.out | apply below_alloc | apply pw_below_drewN | apply below_drew1) | exact HB.out)) hb); clear HO_5; clear HB; have HO_5 := n0_; have HB := n1_; clear n0_ n1_; (try clear hb); (try clear hb2); (try clear hk); (try clear hi)) | ((with_reducible refine gate_dst (N := 11) rfl ?_); (try (refine gate_guard (by rfl) ?_; dsimp only)); refine box_event ?hg (N := 11) ?hd (cs := #[.int .i64 0, .int .i64 0]) (t := 60) ?hr ?_; (case hd => rfl); (case hg => rfl); (case hr => first | (go_simp; done) | (go_simp; rfl)); intro gb127 hg w44 hbox hb; have n0_ := Aside0.mk (Kd.S_below (by (with_reducible repeat (first | apply Kd.S_alloc | apply Kd.S_drewN | apply Kd.S_drew)); exact HO_5.out) hb); have n1_ := Aside0.mk (below_step (by repeat (first | (with_reducible first | exact HB.out | apply below_alloc | apply pw_below_drewN | apply below_drew1) | exact HB.out)) hb); have n2_ := Aside0.mk (hbox); have n3_ := Aside0.mk ((by rw [hg]; exact (below_size (by repeat (first | (with_reducible first | exact HB.out | apply below_alloc | apply pw_below_drewN | apply below_drew1) | exact HB.out))) : w.heap.size ≤ gb127)); have n4_ := Aside0.mk ((by rw [hg]; exact (below_size (by repeat (first | (with_reducible first | exact HB.out | apply below_alloc | apply pw_below_drewN | apply below_drew1) | exact HB.out))) : w.heap.size ≤ gb127)); clear HO_5; clear HB; have HO_5 := n0_; have HB := n1_; have BK127 := n2_; have GW127 := n3_; have GE127 := n4_; clear n0_ n1_ n2_ n3_ n4_; clear hb hbox hg; have hcz45_0 : w44.cell? ⟨gb127, 0, none⟩ = some (.int .i64 0) := (blk_cell BK127.out 0).trans rfl; have hcz45_1 : w44.cell? ⟨gb127, 1, none⟩ = some (.int .i64 0) := (blk_cell BK127.out 1).trans rfl; have hfz45_0 := blk_frozen BK127.out 0; have hfz45_1 := blk_frozen BK127.out 1) | ((with_reducible refine gate_store (t := 60) (p := 11) rfl ?_); (try (rw [drewN_self w44]; generalize hq_ : World.drewN w44 _ = w44; have n0_ := Aside0.mk (Kd.S_at hq_ HO_5.out); have n1_ := Aside0.mk (blk_at hq_ BK127.out); have n2_ := Aside0.mk (below_at hq_ HB.out); clear hq_ HO_5 BK127 HB; have HO_5 := n0_; have BK127 := n1_; have HB := n2_; clear n0_ n1_ n2_)); refine store_event (t := 60) (p := 11) (v := ?vo_w46) (w1 := ((w44.setCell ⟨gb127, 0, none⟩ (.int .i64 t123)).setCell ⟨gb127, 1, none⟩ (.int .i64 t124))) ?hg ?ho ?hn ?hr ?_; (case ho => rfl); (case hg => rfl); (case hn => rfl); (case hr => first | (go_simp; done) | (go_simp; rfl)); intro w46 hw; have n0_ : Aside0 (Kd.S (Kd.slice 3 (Kd.int .i64)) 31 w46 w.heap.size (fun _ => True) (.slice Ao8 x17_3.length co8) x17_3) := ⟨(by rw [hw]; exact (by (with_reducible repeat (first | apply Kd.S_alloc | apply Kd.S_drewN | apply Kd.S_drew)); exact Kd.S_mono (Kd.S_far (p := ⟨gb127, 1, none⟩) (Kd.S_far (p := ⟨gb127, 0, none⟩) (Kd.S_types HO_5.out BK127.out (by decide)) (fun _ hk => hk.2) (.int .i64 t123)) (fun _ hk => hk.2) (.int .i64 t124)) (fun _ hk => trivial)))⟩; have n1_ : Aside0 (w46.heap[gb127]? = some (.cells #[.int .i64 t123, .int .i64 t124] 60 (0, 0))) := ⟨(by rw [hw]; exact (by (with_reducible repeat (first | refine blk_drewN ?_ _ | refine blk_drew ?_ | refine blk_alloc ?_ _)); refine blk_put (cs := #[.int .i64 t123, .int .i64 0]) ?_ 1 _ rfl; (with_reducible repeat (first | refine blk_drewN ?_ _ | refine blk_drew ?_ | refine blk_alloc ?_ _)); refine blk_put (cs := #[.int .i64 0, .int .i64 0]) ?_ 0 _ rfl; (with_reducible repeat (first | refine blk_drewN ?_ _ | refine blk_drew ?_ | refine blk_alloc ?_ _)); exact BK127.out))⟩; have n2_ : Aside0 (Below w.heap.size w w46) := ⟨(by rw [hw]; exact (by repeat (first | (with_reducible first | exact HB.out | apply below_alloc | apply pw_below_drewN | apply below_drew1 | refine below_set ?_ GE127.out) | exact HB.out)))⟩; clear hw; clear HO_5; clear BK127; clear HB; have HO_5 := n0_; have BK127 := n1_; have HB := n2_; clear n0_ n1_ n2_; have hcz47_0 : w46.cell? ⟨gb127, 0, none⟩ = some (.int .i64 t123) := (blk_cell BK127.out 0).trans rfl; have hcz47_1 : w46.cell? ⟨gb127, 1, none⟩ = some (.int .i64 t124) := (blk_cell BK127.out 1).trans rfl; have hfz47_0 := blk_frozen BK127.out 0; have hfz47_1 := blk_frozen BK127.out 1; have p130 : 0 ≤ (t123 : Int) := of_decide_eq_true (by first | (with_reducible assumption) | assumption); have q130 : t123 < (x17_3.length : Int) := of_decide_eq_true (by first | (with_reducible assumption) | assumption); obtain ⟨ad130, A130_0, c130_0, e130, hx130_0, hl130_0, hi130_0⟩ := at_L2 (Kd.S_reads' HO_5.out).2.2 t123 p130 q130; cases e130; obtain ⟨ce130, hce130, hMe130, hcc130⟩ := Kd.S_get HO_5.out [] t123 p130 (by first | exact q130 | exact of_decide_eq_true (by first | (with_reducible assumption) | assumption) | (have e_ := (Kd.S_reads' HO_5.out).1; omega)); obtain ⟨ve130_0, rfl, ge130_0⟩ := hMe130; have hv130_0 := hcc130 0 _ rfl; rw [Nat.add_zero, show ((Kd.slice 3 (Kd.int .i64))).sz = 1 from rfl, Nat.mul_one] at hv130_0; replace hv130_0 := Option.some.inj (hv130_0.symm.trans hx130_0); rw [hv130_0] at ge130_0; have HL130_0 := Aside0.mk (show Kd.R (Kd.int .i64) 3 _ _ _ _ (rd_L2 x17_3 t123) from ge130_0); clear hv130_0 ge130_0; have HX130_0 := Aside0.mk hx130_0; clear hcc130 hce130; have HR130_0 := Aside0.mk hi130_0; have HC130_0 := Aside0.mk hl130_0; clear hi130_0 hl130_0; replace p130 := eq_true p130; replace q130 := eq_true q130; have p131 : 0 ≤ (t124 : Int) := of_decide_eq_true (by first | (with_reducible assumption) | assumption); have q131 : t124 < ((rd_L2 x17_3 t123).length : Int) := of_decide_eq_true (by first | (with_reducible assumption) | assumption); obtain ⟨ad131, e131, hx131_0⟩ := Kd.at_int (by repeat (first | (with_reducible exact HR130_0.out) | (with_reducible refine Kd.C_alloc ?_ _) | (with_reducible refine Kd.C_drewN ?_ _) | (with_reducible refine Kd.C_drew ?_) | exact HR130_0.out)) t124 p131 q131; cases e131; replace p131 := eq_true p131; replace q131 := eq_true q131; have p132 : 0 ≤ (t123 : Int) := of_decide_eq_true (by first | (with_reducible assumption) | assumption); have q132 : t123 < (x17_3.length : Int) := of_decide_eq_true (by first | (with_reducible assumption) | assumption); obtain ⟨ad132, A132_0, c132_0, e132, hx132_0, hl132_0, hi132_0⟩ := at_L2 (Kd.S_reads' HO_5.out).2.2 t123 p132 q132; obtain rfl : ad130 = ad132 := (by injection e132); obtain ⟨ce132, hce132, hMe132, hcc132⟩ := Kd.S_get HO_5.out [] t123 p132 (by first | exact q132 | exact of_decide_eq_true (by first | (with_reducible assumption) | assumption) | (have e_ := (Kd.S_reads' HO_5.out).1; omega)); obtain ⟨ve132_0, rfl, ge132_0⟩ := hMe132; have hv132_0 := hcc132 0 _ rfl; rw [Nat.add_zero, show ((Kd.slice 3 (Kd.int .i64))).sz = 1 from rfl, Nat.mul_one] at hv132_0; replace hv132_0 := Option.some.inj (hv132_0.symm.trans hx132_0); rw [hv132_0] at ge132_0; have HL132_0 := Aside0.mk (show Kd.R (Kd.int .i64) 3 _ _ _ _ (rd_L2 x17_3 t123) from ge132_0); clear hv132_0 ge132_0; have HX132_0 := Aside0.mk hx132_0; clear hcc132 hce132; have HR132_0 := Aside0.mk hi132_0; have HC132_0 := Aside0.mk hl132_0; clear hi132_0 hl132_0; replace p132 := eq_true p132; replace q132 := eq_true q132; have ea_ := Option.some.inj (hx130_0.symm.trans hx132_0); injection ea_ with ea_ en_ ec_; subst ea_; subst ec_; clear en_; have p133 : 0 ≤ (t124 : Int) := of_decide_eq_true (by first | (with_reducible assumption) | assumption); have q133 : t124 < ((rd_L2 x17_3 t123).length : Int) := of_decide_eq_true (by first | (with_reducible assumption) | assumption); obtain ⟨ad133, e133, hx133_0⟩ := Kd.at_int (by repeat (first | (with_reducible exact HR132_0.out) | (with_reducible refine Kd.C_alloc ?_ _) | (with_reducible refine Kd.C_drewN ?_ _) | (with_reducible refine Kd.C_drew ?_) | exact HR132_0.out)) t124 p133 q133; cases e133; replace p133 := eq_true p133; replace q133 := eq_true q133)); try go_wp2_with (first | (go_at_call 43; (with_reducible refine (align_step.calls k5 a0 a1 x7_2 x8_3 x53_5 t123 t124 t125 true _ A26.out).mono ?_); (try clear A26); rintro e w43 ⟨rfl, hb⟩; have n0_ := Aside0.mk (Kd.S_below (by (with_reducible repeat (first | apply Kd.S_alloc | apply Kd.S_drewN | apply Kd.S_drew)); exact HO_5.out) hb); have n1_ := Aside0.mk (below_step (by repeat (first | (with_reducible first | exact HB.out | apply below_alloc | apply pw_below_drewN | apply below_drew1) | exact HB.out)) hb); clear HO_5; clear HB; have HO_5 := n0_; have HB := n1_; clear n0_ n1_; (try clear hb); (try clear hb2); (try clear hk); (try clear hi)) | ((with_reducible refine gate_dst (N := 11) rfl ?_); (try (refine gate_guard (by rfl) ?_; dsimp only)); refine box_event ?hg (N := 11) ?hd (cs := #[.int .i64 0, .int .i64 0]) (t := 60) ?hr ?_; (case hd => rfl); (case hg => rfl); (case hr => first | (go_simp; done) | (go_simp; rfl)); intro gb127 hg w44 hbox hb; have n0_ := Aside0.mk (Kd.S_below (by (with_reducible repeat (first | apply Kd.S_alloc | apply Kd.S_drewN | apply Kd.S_drew)); exact HO_5.out) hb); have n1_ := Aside0.mk (below_step (by repeat (first | (with_reducible first | exact HB.out | apply below_alloc | apply pw_below_drewN | apply below_drew1) | exact HB.out)) hb); have n2_ := Aside0.mk (hbox); have n3_ := Aside0.mk ((by rw [hg]; exact (below_size (by repeat (first | (with_reducible first | exact HB.out | apply below_alloc | apply pw_below_drewN | apply below_drew1) | exact HB.out))) : w.heap.size ≤ gb127)); have n4_ := Aside0.mk ((by rw [hg]; exact (below_size (by repeat (first | (with_reducible first | exact HB.out | apply below_alloc | apply pw_below_drewN | apply below_drew1) | exact HB.out))) : w.heap.size ≤ gb127)); clear HO_5; clear HB; have HO_5 := n0_; have HB := n1_; have BK127 := n2_; have GW127 := n3_; have GE127 := n4_; clear n0_ n1_ n2_ n3_ n4_; clear hb hbox hg; have hcz45_0 : w44.cell? ⟨gb127, 0, none⟩ = some (.int .i64 0) := (blk_cell BK127.out 0).trans rfl; have hcz45_1 : w44.cell? ⟨gb127, 1, none⟩ = some (.int .i64 0) := (blk_cell BK127.out 1).trans rfl; have hfz45_0 := blk_frozen BK127.out 0; have hfz45_1 := blk_frozen BK127.out 1) | ((with_reducible refine gate_store (t := 60) (p := 11) rfl ?_); (try (rw [drewN_self w44]; generalize hq_ : World.drewN w44 _ = w44; have n0_ := Aside0.mk (Kd.S_at hq_ HO_5.out); have n1_ := Aside0.mk (blk_at hq_ BK127.out); have n2_ := Aside0.mk (below_at hq_ HB.out); clear hq_ HO_5 BK127 HB; have HO_5 := n0_; have BK127 := n1_; have HB := n2_; clear n0_ n1_ n2_)); refine store_event (t := 60) (p := 11) (v := ?vo_w46) (w1 := ((w44.setCell ⟨gb127, 0, none⟩ (.int .i64 t123)).setCell ⟨gb127, 1, none⟩ (.int .i64 t124))) ?hg ?ho ?hn ?hr ?_; (case ho => rfl); (case hg => rfl); (case hn => rfl); (case hr => first | (go_simp; done) | (go_simp; rfl)); intro w46 hw; have n0_ : Aside0 (Kd.S (Kd.slice 3 (Kd.int .i64)) 31 w46 w.heap.size (fun _ => True) (.slice Ao8 x17_3.length co8) x17_3) := ⟨(by rw [hw]; exact (by (with_reducible repeat (first | apply Kd.S_alloc | apply Kd.S_drewN | apply Kd.S_drew)); exact Kd.S_mono (Kd.S_far (p := ⟨gb127, 1, none⟩) (Kd.S_far (p := ⟨gb127, 0, none⟩) (Kd.S_types HO_5.out BK127.out (by decide)) (fun _ hk => hk.2) (.int .i64 t123)) (fun _ hk => hk.2) (.int .i64 t124)) (fun _ hk => trivial)))⟩; have n1_ : Aside0 (w46.heap[gb127]? = some (.cells #[.int .i64 t123, .int .i64 t124] 60 (0, 0))) := ⟨(by rw [hw]; exact (by (with_reducible repeat (first | refine blk_drewN ?_ _ | refine blk_drew ?_ | refine blk_alloc ?_ _)); refine blk_put (cs := #[.int .i64 t123, .int .i64 0]) ?_ 1 _ rfl; (with_reducible repeat (first | refine blk_drewN ?_ _ | refine blk_drew ?_ | refine blk_alloc ?_ _)); refine blk_put (cs := #[.int .i64 0, .int .i64 0]) ?_ 0 _ rfl; (with_reducible repeat (first | refine blk_drewN ?_ _ | refine blk_drew ?_ | refine blk_alloc ?_ _)); exact BK127.out))⟩; have n2_ : Aside0 (Below w.heap.size w w46) := ⟨(by rw [hw]; exact (by repeat (first | (with_reducible first | exact HB.out | apply below_alloc | apply pw_below_drewN | apply below_drew1 | refine below_set ?_ GE127.out) | exact HB.out)))⟩; clear hw; clear HO_5; clear BK127; clear HB; have HO_5 := n0_; have BK127 := n1_; have HB := n2_; clear n0_ n1_ n2_; have hcz47_0 : w46.cell? ⟨gb127, 0, none⟩ = some (.int .i64 t123) := (blk_cell BK127.out 0).trans rfl; have hcz47_1 : w46.cell? ⟨gb127, 1, none⟩ = some (.int .i64 t124) := (blk_cell BK127.out 1).trans rfl; have hfz47_0 := blk_frozen BK127.out 0; have hfz47_1 := blk_frozen BK127.out 1; have p130 : 0 ≤ (t123 : Int) := of_decide_eq_true (by first | (with_reducible assumption) | assumption); have q130 : t123 < (x17_3.length : Int) := of_decide_eq_true (by first | (with_reducible assumption) | assumption); obtain ⟨ad130, A130_0, c130_0, e130, hx130_0, hl130_0, hi130_0⟩ := at_L2 (Kd.S_reads' HO_5.out).2.2 t123 p130 q130; cases e130; obtain ⟨ce130, hce130, hMe130, hcc130⟩ := Kd.S_get HO_5.out [] t123 p130 (by first | exact q130 | exact of_decide_eq_true (by first | (with_reducible assumption) | assumption) | (have e_ := (Kd.S_reads' HO_5.out).1; omega)); obtain ⟨ve130_0, rfl, ge130_0⟩ := hMe130; have hv130_0 := hcc130 0 _ rfl; rw [Nat.add_zero, show ((Kd.slice 3 (Kd.int .i64))).sz = 1 from rfl, Nat.mul_one] at hv130_0; replace hv130_0 := Option.some.inj (hv130_0.symm.trans hx130_0); rw [hv130_0] at ge130_0; have HL130_0 := Aside0.mk (show Kd.R (Kd.int .i64) 3 _ _ _ _ (rd_L2 x17_3 t123) from ge130_0); clear hv130_0 ge130_0; have HX130_0 := Aside0.mk hx130_0; clear hcc130 hce130; have HR130_0 := Aside0.mk hi130_0; have HC130_0 := Aside0.mk hl130_0; clear hi130_0 hl130_0; replace p130 := eq_true p130; replace q130 := eq_true q130; have p131 : 0 ≤ (t124 : Int) := of_decide_eq_true (by first | (with_reducible assumption) | assumption); have q131 : t124 < ((rd_L2 x17_3 t123).length : Int) := of_decide_eq_true (by first | (with_reducible assumption) | assumption); obtain ⟨ad131, e131, hx131_0⟩ := Kd.at_int (by repeat (first | (with_reducible exact HR130_0.out) | (with_reducible refine Kd.C_alloc ?_ _) | (with_reducible refine Kd.C_drewN ?_ _) | (with_reducible refine Kd.C_drew ?_) | exact HR130_0.out)) t124 p131 q131; cases e131; replace p131 := eq_true p131; replace q131 := eq_true q131; have p132 : 0 ≤ (t123 : Int) := of_decide_eq_true (by first | (with_reducible assumption) | assumption); have q132 : t123 < (x17_3.length : Int) := of_decide_eq_true (by first | (with_reducible assumption) | assumption); obtain ⟨ad132, A132_0, c132_0, e132, hx132_0, hl132_0, hi132_0⟩ := at_L2 (Kd.S_reads' HO_5.out).2.2 t123 p132 q132; obtain rfl : ad130 = ad132 := (by injection e132); obtain ⟨ce132, hce132, hMe132, hcc132⟩ := Kd.S_get HO_5.out [] t123 p132 (by first | exact q132 | exact of_decide_eq_true (by first | (with_reducible assumption) | assumption) | (have e_ := (Kd.S_reads' HO_5.out).1; omega)); obtain ⟨ve132_0, rfl, ge132_0⟩ := hMe132; have hv132_0 := hcc132 0 _ rfl; rw [Nat.add_zero, show ((Kd.slice 3 (Kd.int .i64))).sz = 1 from rfl, Nat.mul_one] at hv132_0; replace hv132_0 := Option.some.inj (hv132_0.symm.trans hx132_0); rw [hv132_0] at ge132_0; have HL132_0 := Aside0.mk (show Kd.R (Kd.int .i64) 3 _ _ _ _ (rd_L2 x17_3 t123) from ge132_0); clear hv132_0 ge132_0; have HX132_0 := Aside0.mk hx132_0; clear hcc132 hce132; have HR132_0 := Aside0.mk hi132_0; have HC132_0 := Aside0.mk hl132_0; clear hi132_0 hl132_0; replace p132 := eq_true p132; replace q132 := eq_true q132; have ea_ := Option.some.inj (hx130_0.symm.trans hx132_0); injection ea_ with ea_ en_ ec_; subst ea_; subst ec_; clear en_; have p133 : 0 ≤ (t124 : Int) := of_decide_eq_true (by first | (with_reducible assumption) | assumption); have q133 : t124 < ((rd_L2 x17_3 t123).length : Int) := of_decide_eq_true (by first | (with_reducible assumption) | assumption); obtain ⟨ad133, e133, hx133_0⟩ := Kd.at_int (by repeat (first | (with_reducible exact HR132_0.out) | (with_reducible refine Kd.C_alloc ?_ _) | (with_reducible refine Kd.C_drewN ?_ _) | (with_reducible refine Kd.C_drew ?_) | exact HR132_0.out)) t124 p133 q133; cases e133; replace p133 := eq_true p133; replace q133 := eq_true q133)))
                         go_roundg k5
                         case measure => have := HK1.out; have := HK2.out; have := HK3.out; have := HJ21.out; have := HK5.out; omega
                         case rel => exact ⟨(wrap64 (t125 + (rd (rd_L2 x17_3 t123) t124))), (wrap64 (x53_5 + 1)), (by first | rfl | (simp; done) | (simp [*]; done)), (by first | rfl | (simp; done) | (simp [*]; done)), H', ⟨by have := HK1.out; have := HK2.out; have := HK3.out; have := HJ21.out; have := HK5.out; omega⟩, ⟨by (try simp only [hl17_1]); (try simp only [hl17_2]); (try simp only [hl17_3]); (with_reducible repeat (first | apply Kd.S_alloc | apply Kd.S_drewN | apply Kd.S_drew)); exact HO_5.out⟩, ⟨by repeat (first | (with_reducible first | exact HB.out | apply below_alloc | apply pw_below_drewN | apply below_drew1 | refine below_set ?_ GE127.out) | exact HB.out)⟩⟩
                        ·rw [if_neg c42] at H
                         have c42b0 : decide ((wrap64 (t125 + (rd (rd_L2 x17_3 t123) t124))) < x9_5) = false := decide_eq_false c42
                         clear c42
                         have H' := Aside0.mk H
                         clear H
                         go_wp2_with (first | (go_at_call 43; (with_reducible refine (align_step.calls k5 a0 a1 x7_2 x8_3 x53_5 t123 t124 t125 true _ A26.out).mono ?_); rintro e w48 ⟨rfl, hb⟩; have n0_ := Aside0.mk (Kd.S_below (by (with_reducible repeat (first | apply Kd.S_alloc | apply Kd.S_drewN | apply Kd.S_drew)); exact HO_5.out) hb); have n1_ := Aside0.mk (below_step (by repeat (first | (with_reducible first | exact HB.out | apply below_alloc | apply pw_below_drewN | apply below_drew1) | exact HB.out)) hb); clear HO_5; clear HB; have HO_5 := n0_; have HB := n1_; clear n0_ n1_; (try clear hb); (try clear hb2); (try clear hk); (try clear hi)) | ((with_reducible refine gate_dst (N := 11) rfl ?_); (try (refine gate_guard (by rfl) ?_; dsimp only)); refine box_event ?hg (N := 11) ?hd (cs := #[.int .i64 0, .int .i64 0]) (t := 60) ?hr ?_; (case hd => rfl); (case hg => rfl); (case hr => first | (go_simp; done) | (go_simp; rfl)); intro gb127 hg w49 hbox hb; have n0_ := Aside0.mk (Kd.S_below (by (with_reducible repeat (first | apply Kd.S_alloc | apply Kd.S_drewN | apply Kd.S_drew)); exact HO_5.out) hb); have n1_ := Aside0.mk (below_step (by repeat (first | (with_reducible first | exact HB.out | apply below_alloc | apply pw_below_drewN | apply below_drew1) | exact HB.out)) hb); have n2_ := Aside0.mk (hbox); have n3_ := Aside0.mk ((by rw [hg]; exact (below_size (by repeat (first | (with_reducible first | exact HB.out | apply below_alloc | apply pw_below_drewN | apply below_drew1) | exact HB.out))) : w.heap.size ≤ gb127)); have n4_ := Aside0.mk ((by rw [hg]; exact (below_size (by repeat (first | (with_reducible first | exact HB.out | apply below_alloc | apply pw_below_drewN | apply below_drew1) | exact HB.out))) : w.heap.size ≤ gb127)); clear HO_5; clear HB; have HO_5 := n0_; have HB := n1_; have BK127 := n2_; have GW127 := n3_; have GE127 := n4_; clear n0_ n1_ n2_ n3_ n4_; clear hb hbox hg; have hcz50_0 : w49.cell? ⟨gb127, 0, none⟩ = some (.int .i64 0) := (blk_cell BK127.out 0).trans rfl; have hcz50_1 : w49.cell? ⟨gb127, 1, none⟩ = some (.int .i64 0) := (blk_cell BK127.out 1).trans rfl; have hfz50_0 := blk_frozen BK127.out 0; have hfz50_1 := blk_frozen BK127.out 1) | ((with_reducible refine gate_store (t := 60) (p := 11) rfl ?_); (try (rw [drewN_self w49]; generalize hq_ : World.drewN w49 _ = w49; have n0_ := Aside0.mk (Kd.S_at hq_ HO_5.out); have n1_ := Aside0.mk (blk_at hq_ BK127.out); have n2_ := Aside0.mk (below_at hq_ HB.out); clear hq_ HO_5 BK127 HB; have HO_5 := n0_; have BK127 := n1_; have HB := n2_; clear n0_ n1_ n2_)); refine store_event (t := 60) (p := 11) (v := ?vo_w51) (w1 := ((w49.setCell ⟨gb127, 0, none⟩ (.int .i64 t123)).setCell ⟨gb127, 1, none⟩ (.int .i64 t124))) ?hg ?ho ?hn ?hr ?_; (case ho => rfl); (case hg => rfl); (case hn => rfl); (case hr => first | (go_simp; done) | (go_simp; rfl)); intro w51 hw; have n0_ : Aside0 (Kd.S (Kd.slice 3 (Kd.int .i64)) 31 w51 w.heap.size (fun _ => True) (.slice Ao8 x17_3.length co8) x17_3) := ⟨(by rw [hw]; exact (by (with_reducible repeat (first | apply Kd.S_alloc | apply Kd.S_drewN | apply Kd.S_drew)); exact Kd.S_mono (Kd.S_far (p := ⟨gb127, 1, none⟩) (Kd.S_far (p := ⟨gb127, 0, none⟩) (Kd.S_types HO_5.out BK127.out (by decide)) (fun _ hk => hk.2) (.int .i64 t123)) (fun _ hk => hk.2) (.int .i64 t124)) (fun _ hk => trivial)))⟩; have n1_ : Aside0 (w51.heap[gb127]? = some (.cells #[.int .i64 t123, .int .i64 t124] 60 (0, 0))) := ⟨(by rw [hw]; exact (by (with_reducible repeat (first | refine blk_drewN ?_ _ | refine blk_drew ?_ | refine blk_alloc ?_ _)); refine blk_put (cs := #[.int .i64 t123, .int .i64 0]) ?_ 1 _ rfl; (with_reducible repeat (first | refine blk_drewN ?_ _ | refine blk_drew ?_ | refine blk_alloc ?_ _)); refine blk_put (cs := #[.int .i64 0, .int .i64 0]) ?_ 0 _ rfl; (with_reducible repeat (first | refine blk_drewN ?_ _ | refine blk_drew ?_ | refine blk_alloc ?_ _)); exact BK127.out))⟩; have n2_ : Aside0 (Below w.heap.size w w51) := ⟨(by rw [hw]; exact (by repeat (first | (with_reducible first | exact HB.out | apply below_alloc | apply pw_below_drewN | apply below_drew1 | refine below_set ?_ GE127.out) | exact HB.out)))⟩; clear hw; clear HO_5; clear BK127; clear HB; have HO_5 := n0_; have BK127 := n1_; have HB := n2_; clear n0_ n1_ n2_; have hcz52_0 : w51.cell? ⟨gb127, 0, none⟩ = some (.int .i64 t123) := (blk_cell BK127.out 0).trans rfl; have hcz52_1 : w51.cell? ⟨gb127, 1, none⟩ = some (.int .i64 t124) := (blk_cell BK127.out 1).trans rfl; have hfz52_0 := blk_frozen BK127.out 0; have hfz52_1 := blk_frozen BK127.out 1; have p130 : 0 ≤ (t123 : Int) := of_decide_eq_true (by first | (with_reducible assumption) | assumption); have q130 : t123 < (x17_3.length : Int) := of_decide_eq_true (by first | (with_reducible assumption) | assumption); obtain ⟨ad130, A130_0, c130_0, e130, hx130_0, hl130_0, hi130_0⟩ := at_L2 (Kd.S_reads' HO_5.out).2.2 t123 p130 q130; cases e130; obtain ⟨ce130, hce130, hMe130, hcc130⟩ := Kd.S_get HO_5.out [] t123 p130 (by first | exact q130 | exact of_decide_eq_true (by first | (with_reducible assumption) | assumption) | (have e_ := (Kd.S_reads' HO_5.out).1; omega)); obtain ⟨ve130_0, rfl, ge130_0⟩ := hMe130; have hv130_0 := hcc130 0 _ rfl; rw [Nat.add_zero, show ((Kd.slice 3 (Kd.int .i64))).sz = 1 from rfl, Nat.mul_one] at hv130_0; replace hv130_0 := Option.some.inj (hv130_0.symm.trans hx130_0); rw [hv130_0] at ge130_0; have HL130_0 := Aside0.mk (show Kd.R (Kd.int .i64) 3 _ _ _ _ (rd_L2 x17_3 t123) from ge130_0); clear hv130_0 ge130_0; have HX130_0 := Aside0.mk hx130_0; clear hcc130 hce130; have HR130_0 := Aside0.mk hi130_0; have HC130_0 := Aside0.mk hl130_0; clear hi130_0 hl130_0; replace p130 := eq_true p130; replace q130 := eq_true q130; have p131 : 0 ≤ (t124 : Int) := of_decide_eq_true (by first | (with_reducible assumption) | assumption); have q131 : t124 < ((rd_L2 x17_3 t123).length : Int) := of_decide_eq_true (by first | (with_reducible assumption) | assumption); obtain ⟨ad131, e131, hx131_0⟩ := Kd.at_int (by repeat (first | (with_reducible exact HR130_0.out) | (with_reducible refine Kd.C_alloc ?_ _) | (with_reducible refine Kd.C_drewN ?_ _) | (with_reducible refine Kd.C_drew ?_) | exact HR130_0.out)) t124 p131 q131; cases e131; replace p131 := eq_true p131; replace q131 := eq_true q131))
                         repeat (go_quiet (first | (go_at_call 43; (with_reducible refine (align_step.calls k5 a0 a1 x7_2 x8_3 x53_5 t123 t124 t125 true _ A26.out).mono ?_); (try clear A26); rintro e w48 ⟨rfl, hb⟩; have n0_ := Aside0.mk (Kd.S_below (by (with_reducible repeat (first | apply Kd.S_alloc | apply Kd.S_drewN | apply Kd.S_drew)); exact HO_5.out) hb); have n1_ := Aside0.mk (below_step (by repeat (first | (with_reducible first | exact HB.out | apply below_alloc | apply pw_below_drewN | apply below_drew1) | exact HB.out)) hb); clear HO_5; clear HB; have HO_5 := n0_; have HB := n1_; clear n0_ n1_; (try clear hb); (try clear hb2); (try clear hk); (try clear hi)) | ((with_reducible refine gate_dst (N := 11) rfl ?_); (try (refine gate_guard (by rfl) ?_; dsimp only)); refine box_event ?hg (N := 11) ?hd (cs := #[.int .i64 0, .int .i64 0]) (t := 60) ?hr ?_; (case hd => rfl); (case hg => rfl); (case hr => first | (go_simp; done) | (go_simp; rfl)); intro gb127 hg w49 hbox hb; have n0_ := Aside0.mk (Kd.S_below (by (with_reducible repeat (first | apply Kd.S_alloc | apply Kd.S_drewN | apply Kd.S_drew)); exact HO_5.out) hb); have n1_ := Aside0.mk (below_step (by repeat (first | (with_reducible first | exact HB.out | apply below_alloc | apply pw_below_drewN | apply below_drew1) | exact HB.out)) hb); have n2_ := Aside0.mk (hbox); have n3_ := Aside0.mk ((by rw [hg]; exact (below_size (by repeat (first | (with_reducible first | exact HB.out | apply below_alloc | apply pw_below_drewN | apply below_drew1) | exact HB.out))) : w.heap.size ≤ gb127)); have n4_ := Aside0.mk ((by rw [hg]; exact (below_size (by repeat (first | (with_reducible first | exact HB.out | apply below_alloc | apply pw_below_drewN | apply below_drew1) | exact HB.out))) : w.heap.size ≤ gb127)); clear HO_5; clear HB; have HO_5 := n0_; have HB := n1_; have BK127 := n2_; have GW127 := n3_; have GE127 := n4_; clear n0_ n1_ n2_ n3_ n4_; clear hb hbox hg; have hcz50_0 : w49.cell? ⟨gb127, 0, none⟩ = some (.int .i64 0) := (blk_cell BK127.out 0).trans rfl; have hcz50_1 : w49.cell? ⟨gb127, 1, none⟩ = some (.int .i64 0) := (blk_cell BK127.out 1).trans rfl; have hfz50_0 := blk_frozen BK127.out 0; have hfz50_1 := blk_frozen BK127.out 1) | ((with_reducible refine gate_store (t := 60) (p := 11) rfl ?_); (try (rw [drewN_self w49]; generalize hq_ : World.drewN w49 _ = w49; have n0_ := Aside0.mk (Kd.S_at hq_ HO_5.out); have n1_ := Aside0.mk (blk_at hq_ BK127.out); have n2_ := Aside0.mk (below_at hq_ HB.out); clear hq_ HO_5 BK127 HB; have HO_5 := n0_; have BK127 := n1_; have HB := n2_; clear n0_ n1_ n2_)); refine store_event (t := 60) (p := 11) (v := ?vo_w51) (w1 := ((w49.setCell ⟨gb127, 0, none⟩ (.int .i64 t123)).setCell ⟨gb127, 1, none⟩ (.int .i64 t124))) ?hg ?ho ?hn ?hr ?_; (case ho => rfl); (case hg => rfl); (case hn => rfl); (case hr => first | (go_simp; done) | (go_simp; rfl)); intro w51 hw; have n0_ : Aside0 (Kd.S (Kd.slice 3 (Kd.int .i64)) 31 w51 w.heap.size (fun _ => True) (.slice Ao8 x17_3.length co8) x17_3) := ⟨(by rw [hw]; exact (by (with_reducible repeat (first | apply Kd.S_alloc | apply Kd.S_drewN | apply Kd.S_drew)); exact Kd.S_mono (Kd.S_far (p := ⟨gb127, 1, none⟩) (Kd.S_far (p := ⟨gb127, 0, none⟩) (Kd.S_types HO_5.out BK127.out (by decide)) (fun _ hk => hk.2) (.int .i64 t123)) (fun _ hk => hk.2) (.int .i64 t124)) (fun _ hk => trivial)))⟩; have n1_ : Aside0 (w51.heap[gb127]? = some (.cells #[.int .i64 t123, .int .i64 t124] 60 (0, 0))) := ⟨(by rw [hw]; exact (by (with_reducible repeat (first | refine blk_drewN ?_ _ | refine blk_drew ?_ | refine blk_alloc ?_ _)); refine blk_put (cs := #[.int .i64 t123, .int .i64 0]) ?_ 1 _ rfl; (with_reducible repeat (first | refine blk_drewN ?_ _ | refine blk_drew ?_ | refine blk_alloc ?_ _)); refine blk_put (cs := #[.int .i64 0, .int .i64 0]) ?_ 0 _ rfl; (with_reducible repeat (first | refine blk_drewN ?_ _ | refine blk_drew ?_ | refine blk_alloc ?_ _)); exact BK127.out))⟩; have n2_ : Aside0 (Below w.heap.size w w51) := ⟨(by rw [hw]; exact (by repeat (first | (with_reducible first | exact HB.out | apply below_alloc | apply pw_below_drewN | apply below_drew1 | refine below_set ?_ GE127.out) | exact HB.out)))⟩; clear hw; clear HO_5; clear BK127; clear HB; have HO_5 := n0_; have BK127 := n1_; have HB := n2_; clear n0_ n1_ n2_; have hcz52_0 : w51.cell? ⟨gb127, 0, none⟩ = some (.int .i64 t123) := (blk_cell BK127.out 0).trans rfl; have hcz52_1 : w51.cell? ⟨gb127, 1, none⟩ = some (.int .i64 t124) := (blk_cell BK127.out 1).trans rfl; have hfz52_0 := blk_frozen BK127.out 0; have hfz52_1 := blk_frozen BK127.out 1; have p130 : 0 ≤ (t123 : Int) := of_decide_eq_true (by first | (with_reducible assumption) | assumption); have q130 : t123 < (x17_3.length : Int) := of_decide_eq_true (by first | (with_reducible assumption) | assumption); obtain ⟨ad130, A130_0, c130_0, e130, hx130_0, hl130_0, hi130_0⟩ := at_L2 (Kd.S_reads' HO_5.out).2.2 t123 p130 q130; cases e130; obtain ⟨ce130, hce130, hMe130, hcc130⟩ := Kd.S_get HO_5.out [] t123 p130 (by first | exact q130 | exact of_decide_eq_true (by first | (with_reducible assumption) | assumption) | (have e_ := (Kd.S_reads' HO_5.out).1; omega)); obtain ⟨ve130_0, rfl, ge130_0⟩ := hMe130; have hv130_0 := hcc130 0 _ rfl; rw [Nat.add_zero, show ((Kd.slice 3 (Kd.int .i64))).sz = 1 from rfl, Nat.mul_one] at hv130_0; replace hv130_0 := Option.some.inj (hv130_0.symm.trans hx130_0); rw [hv130_0] at ge130_0; have HL130_0 := Aside0.mk (show Kd.R (Kd.int .i64) 3 _ _ _ _ (rd_L2 x17_3 t123) from ge130_0); clear hv130_0 ge130_0; have HX130_0 := Aside0.mk hx130_0; clear hcc130 hce130; have HR130_0 := Aside0.mk hi130_0; have HC130_0 := Aside0.mk hl130_0; clear hi130_0 hl130_0; replace p130 := eq_true p130; replace q130 := eq_true q130; have p131 : 0 ≤ (t124 : Int) := of_decide_eq_true (by first | (with_reducible assumption) | assumption); have q131 : t124 < ((rd_L2 x17_3 t123).length : Int) := of_decide_eq_true (by first | (with_reducible assumption) | assumption); obtain ⟨ad131, e131, hx131_0⟩ := Kd.at_int (by repeat (first | (with_reducible exact HR130_0.out) | (with_reducible refine Kd.C_alloc ?_ _) | (with_reducible refine Kd.C_drewN ?_ _) | (with_reducible refine Kd.C_drew ?_) | exact HR130_0.out)) t124 p131 q131; cases e131; replace p131 := eq_true p131; replace q131 := eq_true q131)); try go_wp2_with (first | (go_at_call 43; (with_reducible refine (align_step.calls k5 a0 a1 x7_2 x8_3 x53_5 t123 t124 t125 true _ A26.out).mono ?_); (try clear A26); rintro e w48 ⟨rfl, hb⟩; have n0_ := Aside0.mk (Kd.S_below (by (with_reducible repeat (first | apply Kd.S_alloc | apply Kd.S_drewN | apply Kd.S_drew)); exact HO_5.out) hb); have n1_ := Aside0.mk (below_step (by repeat (first | (with_reducible first | exact HB.out | apply below_alloc | apply pw_below_drewN | apply below_drew1) | exact HB.out)) hb); clear HO_5; clear HB; have HO_5 := n0_; have HB := n1_; clear n0_ n1_; (try clear hb); (try clear hb2); (try clear hk); (try clear hi)) | ((with_reducible refine gate_dst (N := 11) rfl ?_); (try (refine gate_guard (by rfl) ?_; dsimp only)); refine box_event ?hg (N := 11) ?hd (cs := #[.int .i64 0, .int .i64 0]) (t := 60) ?hr ?_; (case hd => rfl); (case hg => rfl); (case hr => first | (go_simp; done) | (go_simp; rfl)); intro gb127 hg w49 hbox hb; have n0_ := Aside0.mk (Kd.S_below (by (with_reducible repeat (first | apply Kd.S_alloc | apply Kd.S_drewN | apply Kd.S_drew)); exact HO_5.out) hb); have n1_ := Aside0.mk (below_step (by repeat (first | (with_reducible first | exact HB.out | apply below_alloc | apply pw_below_drewN | apply below_drew1) | exact HB.out)) hb); have n2_ := Aside0.mk (hbox); have n3_ := Aside0.mk ((by rw [hg]; exact (below_size (by repeat (first | (with_reducible first | exact HB.out | apply below_alloc | apply pw_below_drewN | apply below_drew1) | exact HB.out))) : w.heap.size ≤ gb127)); have n4_ := Aside0.mk ((by rw [hg]; exact (below_size (by repeat (first | (with_reducible first | exact HB.out | apply below_alloc | apply pw_below_drewN | apply below_drew1) | exact HB.out))) : w.heap.size ≤ gb127)); clear HO_5; clear HB; have HO_5 := n0_; have HB := n1_; have BK127 := n2_; have GW127 := n3_; have GE127 := n4_; clear n0_ n1_ n2_ n3_ n4_; clear hb hbox hg; have hcz50_0 : w49.cell? ⟨gb127, 0, none⟩ = some (.int .i64 0) := (blk_cell BK127.out 0).trans rfl; have hcz50_1 : w49.cell? ⟨gb127, 1, none⟩ = some (.int .i64 0) := (blk_cell BK127.out 1).trans rfl; have hfz50_0 := blk_frozen BK127.out 0; have hfz50_1 := blk_frozen BK127.out 1) | ((with_reducible refine gate_store (t := 60) (p := 11) rfl ?_); (try (rw [drewN_self w49]; generalize hq_ : World.drewN w49 _ = w49; have n0_ := Aside0.mk (Kd.S_at hq_ HO_5.out); have n1_ := Aside0.mk (blk_at hq_ BK127.out); have n2_ := Aside0.mk (below_at hq_ HB.out); clear hq_ HO_5 BK127 HB; have HO_5 := n0_; have BK127 := n1_; have HB := n2_; clear n0_ n1_ n2_)); refine store_event (t := 60) (p := 11) (v := ?vo_w51) (w1 := ((w49.setCell ⟨gb127, 0, none⟩ (.int .i64 t123)).setCell ⟨gb127, 1, none⟩ (.int .i64 t124))) ?hg ?ho ?hn ?hr ?_; (case ho => rfl); (case hg => rfl); (case hn => rfl); (case hr => first | (go_simp; done) | (go_simp; rfl)); intro w51 hw; have n0_ : Aside0 (Kd.S (Kd.slice 3 (Kd.int .i64)) 31 w51 w.heap.size (fun _ => True) (.slice Ao8 x17_3.length co8) x17_3) := ⟨(by rw [hw]; exact (by (with_reducible repeat (first | apply Kd.S_alloc | apply Kd.S_drewN | apply Kd.S_drew)); exact Kd.S_mono (Kd.S_far (p := ⟨gb127, 1, none⟩) (Kd.S_far (p := ⟨gb127, 0, none⟩) (Kd.S_types HO_5.out BK127.out (by decide)) (fun _ hk => hk.2) (.int .i64 t123)) (fun _ hk => hk.2) (.int .i64 t124)) (fun _ hk => trivial)))⟩; have n1_ : Aside0 (w51.heap[gb127]? = some (.cells #[.int .i64 t123, .int .i64 t124] 60 (0, 0))) := ⟨(by rw [hw]; exact (by (with_reducible repeat (first | refine blk_drewN ?_ _ | refine blk_drew ?_ | refine blk_alloc ?_ _)); refine blk_put (cs := #[.int .i64 t123, .int .i64 0]) ?_ 1 _ rfl; (with_reducible repeat (first | refine blk_drewN ?_ _ | refine blk_drew ?_ | refine blk_alloc ?_ _)); refine blk_put (cs := #[.int .i64 0, .int .i64 0]) ?_ 0 _ rfl; (with_reducible repeat (first | refine blk_drewN ?_ _ | refine blk_drew ?_ | refine blk_alloc ?_ _)); exact BK127.out))⟩; have n2_ : Aside0 (Below w.heap.size w w51) := ⟨(by rw [hw]; exact (by repeat (first | (with_reducible first | exact HB.out | apply below_alloc | apply pw_below_drewN | apply below_drew1 | refine below_set ?_ GE127.out) | exact HB.out)))⟩; clear hw; clear HO_5; clear BK127; clear HB; have HO_5 := n0_; have BK127 := n1_; have HB := n2_; clear n0_ n1_ n2_; have hcz52_0 : w51.cell? ⟨gb127, 0, none⟩ = some (.int .i64 t123) := (blk_cell BK127.out 0).trans rfl; have hcz52_1 : w51.cell? ⟨gb127, 1, none⟩ = some (.int .i64 t124) := (blk_cell BK127.out 1).trans rfl; have hfz52_0 := blk_frozen BK127.out 0; have hfz52_1 := blk_frozen BK127.out 1; have p130 : 0 ≤ (t123 : Int) := of_decide_eq_true (by first | (with_reducible assumption) | assumption); have q130 : t123 < (x17_3.length : Int) := of_decide_eq_true (by first | (with_reducible assumption) | assumption); obtain ⟨ad130, A130_0, c130_0, e130, hx130_0, hl130_0, hi130_0⟩ := at_L2 (Kd.S_reads' HO_5.out).2.2 t123 p130 q130; cases e130; obtain ⟨ce130, hce130, hMe130, hcc130⟩ := Kd.S_get HO_5.out [] t123 p130 (by first | exact q130 | exact of_decide_eq_true (by first | (with_reducible assumption) | assumption) | (have e_ := (Kd.S_reads' HO_5.out).1; omega)); obtain ⟨ve130_0, rfl, ge130_0⟩ := hMe130; have hv130_0 := hcc130 0 _ rfl; rw [Nat.add_zero, show ((Kd.slice 3 (Kd.int .i64))).sz = 1 from rfl, Nat.mul_one] at hv130_0; replace hv130_0 := Option.some.inj (hv130_0.symm.trans hx130_0); rw [hv130_0] at ge130_0; have HL130_0 := Aside0.mk (show Kd.R (Kd.int .i64) 3 _ _ _ _ (rd_L2 x17_3 t123) from ge130_0); clear hv130_0 ge130_0; have HX130_0 := Aside0.mk hx130_0; clear hcc130 hce130; have HR130_0 := Aside0.mk hi130_0; have HC130_0 := Aside0.mk hl130_0; clear hi130_0 hl130_0; replace p130 := eq_true p130; replace q130 := eq_true q130; have p131 : 0 ≤ (t124 : Int) := of_decide_eq_true (by first | (with_reducible assumption) | assumption); have q131 : t124 < ((rd_L2 x17_3 t123).length : Int) := of_decide_eq_true (by first | (with_reducible assumption) | assumption); obtain ⟨ad131, e131, hx131_0⟩ := Kd.at_int (by repeat (first | (with_reducible exact HR130_0.out) | (with_reducible refine Kd.C_alloc ?_ _) | (with_reducible refine Kd.C_drewN ?_ _) | (with_reducible refine Kd.C_drew ?_) | exact HR130_0.out)) t124 p131 q131; cases e131; replace p131 := eq_true p131; replace q131 := eq_true q131)))
                         go_roundg k5
                         case measure => have := HK1.out; have := HK2.out; have := HK3.out; have := HJ21.out; have := HK5.out; omega
                         case rel => exact ⟨(x9_5), (wrap64 (x53_5 + 1)), (by first | rfl | (simp; done) | (simp [*]; done)), (by first | rfl | (simp; done) | (simp [*]; done)), H', ⟨by have := HK1.out; have := HK2.out; have := HK3.out; have := HJ21.out; have := HK5.out; omega⟩, ⟨by (try simp only [hl17_1]); (try simp only [hl17_2]); (try simp only [hl17_3]); (with_reducible repeat (first | apply Kd.S_alloc | apply Kd.S_drewN | apply Kd.S_drew)); exact HO_5.out⟩, ⟨by repeat (first | (with_reducible first | exact HB.out | apply below_alloc | apply pw_below_drewN | apply below_drew1 | refine below_set ?_ GE127.out) | exact HB.out)⟩⟩
                       ·rw [if_neg c41] at H
                        exact absurd H (by simp)
                      ·rw [if_neg c40] at H
                       exact absurd H (by simp)
                     ·rw [if_neg c39] at H
                      exact absurd H (by simp)
                    ·rw [if_neg c38] at H
                     exact absurd H (by simp)
                  ·replace c27 := Bool.eq_false_iff.mpr c27
                   subst c27
                   have H1 : (align_grid.l3 k5 a0 a1 x17_3 x7_2 x8_3 x9_5 (wrap64 (x53_5 + 1))) = some r := by rw [if_neg (show ¬ (false = true) by decide)] at H; exact H
                   clear H
                   have H := H1
                   clear H1
                   have H' := Aside0.mk H
                   clear H
                   go_wp2_with (first | (go_at_call 43; (with_reducible refine (align_step.calls k5 a0 a1 x7_2 x8_3 x53_5 t123 t124 t125 false _ A26.out).mono ?_); rintro e w53 ⟨rfl, hb⟩; have n0_ := Aside0.mk (Kd.S_below (by (with_reducible repeat (first | apply Kd.S_alloc | apply Kd.S_drewN | apply Kd.S_drew)); exact HO_5.out) hb); have n1_ := Aside0.mk (below_step (by repeat (first | (with_reducible first | exact HB.out | apply below_alloc | apply pw_below_drewN | apply below_drew1) | exact HB.out)) hb); clear HO_5; clear HB; have HO_5 := n0_; have HB := n1_; clear n0_ n1_; (try clear hb); (try clear hb2); (try clear hk); (try clear hi)) | ((with_reducible refine gate_dst (N := 11) rfl ?_); (try (refine gate_guard (by rfl) ?_; dsimp only)); refine box_event ?hg (N := 11) ?hd (cs := #[.int .i64 0, .int .i64 0]) (t := 60) ?hr ?_; (case hd => rfl); (case hg => rfl); (case hr => first | (go_simp; done) | (go_simp; rfl)); intro gb127 hg w54 hbox hb; have n0_ := Aside0.mk (Kd.S_below (by (with_reducible repeat (first | apply Kd.S_alloc | apply Kd.S_drewN | apply Kd.S_drew)); exact HO_5.out) hb); have n1_ := Aside0.mk (below_step (by repeat (first | (with_reducible first | exact HB.out | apply below_alloc | apply pw_below_drewN | apply below_drew1) | exact HB.out)) hb); have n2_ := Aside0.mk (hbox); have n3_ := Aside0.mk ((by rw [hg]; exact (below_size (by repeat (first | (with_reducible first | exact HB.out | apply below_alloc | apply pw_below_drewN | apply below_drew1) | exact HB.out))) : w.heap.size ≤ gb127)); have n4_ := Aside0.mk ((by rw [hg]; exact (below_size (by repeat (first | (with_reducible first | exact HB.out | apply below_alloc | apply pw_below_drewN | apply below_drew1) | exact HB.out))) : w.heap.size ≤ gb127)); clear HO_5; clear HB; have HO_5 := n0_; have HB := n1_; have BK127 := n2_; have GW127 := n3_; have GE127 := n4_; clear n0_ n1_ n2_ n3_ n4_; clear hb hbox hg; have hcz55_0 : w54.cell? ⟨gb127, 0, none⟩ = some (.int .i64 0) := (blk_cell BK127.out 0).trans rfl; have hcz55_1 : w54.cell? ⟨gb127, 1, none⟩ = some (.int .i64 0) := (blk_cell BK127.out 1).trans rfl; have hfz55_0 := blk_frozen BK127.out 0; have hfz55_1 := blk_frozen BK127.out 1))
                   repeat (go_quiet (first | (go_at_call 43; (with_reducible refine (align_step.calls k5 a0 a1 x7_2 x8_3 x53_5 t123 t124 t125 false _ A26.out).mono ?_); (try clear A26); rintro e w53 ⟨rfl, hb⟩; have n0_ := Aside0.mk (Kd.S_below (by (with_reducible repeat (first | apply Kd.S_alloc | apply Kd.S_drewN | apply Kd.S_drew)); exact HO_5.out) hb); have n1_ := Aside0.mk (below_step (by repeat (first | (with_reducible first | exact HB.out | apply below_alloc | apply pw_below_drewN | apply below_drew1) | exact HB.out)) hb); clear HO_5; clear HB; have HO_5 := n0_; have HB := n1_; clear n0_ n1_; (try clear hb); (try clear hb2); (try clear hk); (try clear hi)) | ((with_reducible refine gate_dst (N := 11) rfl ?_); (try (refine gate_guard (by rfl) ?_; dsimp only)); refine box_event ?hg (N := 11) ?hd (cs := #[.int .i64 0, .int .i64 0]) (t := 60) ?hr ?_; (case hd => rfl); (case hg => rfl); (case hr => first | (go_simp; done) | (go_simp; rfl)); intro gb127 hg w54 hbox hb; have n0_ := Aside0.mk (Kd.S_below (by (with_reducible repeat (first | apply Kd.S_alloc | apply Kd.S_drewN | apply Kd.S_drew)); exact HO_5.out) hb); have n1_ := Aside0.mk (below_step (by repeat (first | (with_reducible first | exact HB.out | apply below_alloc | apply pw_below_drewN | apply below_drew1) | exact HB.out)) hb); have n2_ := Aside0.mk (hbox); have n3_ := Aside0.mk ((by rw [hg]; exact (below_size (by repeat (first | (with_reducible first | exact HB.out | apply below_alloc | apply pw_below_drewN | apply below_drew1) | exact HB.out))) : w.heap.size ≤ gb127)); have n4_ := Aside0.mk ((by rw [hg]; exact (below_size (by repeat (first | (with_reducible first | exact HB.out | apply below_alloc | apply pw_below_drewN | apply below_drew1) | exact HB.out))) : w.heap.size ≤ gb127)); clear HO_5; clear HB; have HO_5 := n0_; have HB := n1_; have BK127 := n2_; have GW127 := n3_; have GE127 := n4_; clear n0_ n1_ n2_ n3_ n4_; clear hb hbox hg; have hcz55_0 : w54.cell? ⟨gb127, 0, none⟩ = some (.int .i64 0) := (blk_cell BK127.out 0).trans rfl; have hcz55_1 : w54.cell? ⟨gb127, 1, none⟩ = some (.int .i64 0) := (blk_cell BK127.out 1).trans rfl; have hfz55_0 := blk_frozen BK127.out 0; have hfz55_1 := blk_frozen BK127.out 1)); try go_wp2_with (first | (go_at_call 43; (with_reducible refine (align_step.calls k5 a0 a1 x7_2 x8_3 x53_5 t123 t124 t125 false _ A26.out).mono ?_); (try clear A26); rintro e w53 ⟨rfl, hb⟩; have n0_ := Aside0.mk (Kd.S_below (by (with_reducible repeat (first | apply Kd.S_alloc | apply Kd.S_drewN | apply Kd.S_drew)); exact HO_5.out) hb); have n1_ := Aside0.mk (below_step (by repeat (first | (with_reducible first | exact HB.out | apply below_alloc | apply pw_below_drewN | apply below_drew1) | exact HB.out)) hb); clear HO_5; clear HB; have HO_5 := n0_; have HB := n1_; clear n0_ n1_; (try clear hb); (try clear hb2); (try clear hk); (try clear hi)) | ((with_reducible refine gate_dst (N := 11) rfl ?_); (try (refine gate_guard (by rfl) ?_; dsimp only)); refine box_event ?hg (N := 11) ?hd (cs := #[.int .i64 0, .int .i64 0]) (t := 60) ?hr ?_; (case hd => rfl); (case hg => rfl); (case hr => first | (go_simp; done) | (go_simp; rfl)); intro gb127 hg w54 hbox hb; have n0_ := Aside0.mk (Kd.S_below (by (with_reducible repeat (first | apply Kd.S_alloc | apply Kd.S_drewN | apply Kd.S_drew)); exact HO_5.out) hb); have n1_ := Aside0.mk (below_step (by repeat (first | (with_reducible first | exact HB.out | apply below_alloc | apply pw_below_drewN | apply below_drew1) | exact HB.out)) hb); have n2_ := Aside0.mk (hbox); have n3_ := Aside0.mk ((by rw [hg]; exact (below_size (by repeat (first | (with_reducible first | exact HB.out | apply below_alloc | apply pw_below_drewN | apply below_drew1) | exact HB.out))) : w.heap.size ≤ gb127)); have n4_ := Aside0.mk ((by rw [hg]; exact (below_size (by repeat (first | (with_reducible first | exact HB.out | apply below_alloc | apply pw_below_drewN | apply below_drew1) | exact HB.out))) : w.heap.size ≤ gb127)); clear HO_5; clear HB; have HO_5 := n0_; have HB := n1_; have BK127 := n2_; have GW127 := n3_; have GE127 := n4_; clear n0_ n1_ n2_ n3_ n4_; clear hb hbox hg; have hcz55_0 : w54.cell? ⟨gb127, 0, none⟩ = some (.int .i64 0) := (blk_cell BK127.out 0).trans rfl; have hcz55_1 : w54.cell? ⟨gb127, 1, none⟩ = some (.int .i64 0) := (blk_cell BK127.out 1).trans rfl; have hfz55_0 := blk_frozen BK127.out 0; have hfz55_1 := blk_frozen BK127.out 1)))
                   go_roundg k5
                   case measure => have := HK1.out; have := HK2.out; have := HK3.out; have := HJ21.out; have := HK5.out; omega
                   case rel => exact ⟨(x9_5), (wrap64 (x53_5 + 1)), (by first | rfl | (simp; done) | (simp [*]; done)), (by first | rfl | (simp; done) | (simp [*]; done)), H', ⟨by have := HK1.out; have := HK2.out; have := HK3.out; have := HJ21.out; have := HK5.out; omega⟩, ⟨by (try simp only [hl17_1]); (try simp only [hl17_2]); (try simp only [hl17_3]); (with_reducible repeat (first | apply Kd.S_alloc | apply Kd.S_drewN | apply Kd.S_drew)); exact Kd.S_mono (Kd.S_far (p := ⟨gb127, 1, none⟩) (Kd.S_far (p := ⟨gb127, 0, none⟩) (Kd.S_types HO_5.out BK127.out (by decide)) (fun _ hk => hk.2) (.int .i64 t123)) (fun _ hk => hk.2) (.int .i64 t124)) (fun _ hk => trivial)⟩, ⟨by repeat (first | (with_reducible first | exact HB.out | apply below_alloc | apply pw_below_drewN | apply below_drew1 | refine below_set ?_ GE127.out) | exact HB.out)⟩⟩
                 ·rw [if_neg c25] at H
                  have c25b0 : decide (x53_5 < 5) = false := decide_eq_false c25
                  clear c25
                  by_cases c56 : 0 ≤ x7_2
                  ·rw [if_pos c56] at H
                   have c56b0 : decide (0 ≤ x7_2) = true := decide_eq_true c56
                   clear c56
                   by_cases c57 : x7_2 < (x17_3.length : Int)
                   ·rw [if_pos c57] at H
                    have c57b0 : decide (x7_2 < (x17_3.length : Int)) = true := decide_eq_true c57
                    (try simp only [hl17_1, hl17_2, hl17_3] at c57b0)
                    clear c57
                    by_cases c58 : 0 ≤ x8_3
                    ·rw [if_pos c58] at H
                     have c58b0 : decide (0 ≤ x8_3) = true := decide_eq_true c58
                     clear c58
                     by_cases c59 : x8_3 < ((rd_L2 x17_3 x7_2).length : Int)
                     ·rw [if_pos c59] at H
                      have c59b0 : decide (x8_3 < ((rd_L2 x17_3 x7_2).length : Int)) = true := decide_eq_true c59
                      (try simp only [hl17_1, hl17_2, hl17_3] at c59b0)
                      clear c59
                      obtain ⟨y135, hy135⟩ : ∃ y_ : List Int, y_ = ((rd_L2 x17_3 x7_2).set (x8_3 : Int).toNat x9_5) := ⟨_, rfl⟩
                      replace H : (align_grid.l2 k5 a0 a1 x7_2 (wrap64 (x8_3 - 1)) (x17_3.set (x7_2 : Int).toNat y135)) = some r := by first | (rw [hy135]; with_reducible exact H) | (have H2_ := (Option.bind_some _ _).symm.trans H; rw [hy135]; with_reducible exact H2_) | (have H2_ := (Option.bind_some _ _).symm.trans H; with_reducible exact H2_) | with_reducible exact H | (rw [hy135]; exact H) | exact H
                      have Ny135 := Aside0.mk hy135
                      clear hy135
                      obtain ⟨y137, hy137⟩ : ∃ y_ : List (List Int), y_ = (x17_3.set (x7_2 : Int).toNat y135) := ⟨_, rfl⟩
                      replace H : (align_grid.l2 k5 a0 a1 x7_2 (wrap64 (x8_3 - 1)) y137) = some r := by first | (rw [hy137]; with_reducible exact H) | (have H2_ := (Option.bind_some _ _).symm.trans H; rw [hy137]; with_reducible exact H2_) | (have H2_ := (Option.bind_some _ _).symm.trans H; with_reducible exact H2_) | with_reducible exact H | (rw [hy137]; exact H) | exact H
                      have Ny137 := Aside0.mk hy137
                      clear hy137
                      have H' := Aside0.mk H
                      clear H
                      have p134 : 0 ≤ (x7_2 : Int) := of_decide_eq_true (by first | (with_reducible assumption) | assumption)
                      have q134 : x7_2 < (x17_3.length : Int) := of_decide_eq_true (by first | (with_reducible assumption) | assumption)
                      obtain ⟨ad134, A134_0, c134_0, e134, hx134_0, hl134_0, hi134_0⟩ := at_L2 (Kd.S_reads' HO_5.out).2.2 x7_2 p134 q134
                      cases e134
                      obtain ⟨ce134, hce134, hMe134, hcc134⟩ := Kd.S_get HO_5.out [] x7_2 p134 (by first | exact q134 | exact of_decide_eq_true (by first | (with_reducible assumption) | assumption) | (have e_ := (Kd.S_reads' HO_5.out).1; omega))
                      obtain ⟨ve134_0, rfl, ge134_0⟩ := hMe134
                      have hv134_0 := hcc134 0 _ rfl
                      rw [Nat.add_zero, show ((Kd.slice 3 (Kd.int .i64))).sz = 1 from rfl, Nat.mul_one] at hv134_0
                      replace hv134_0 := Option.some.inj (hv134_0.symm.trans hx134_0)
                      rw [hv134_0] at ge134_0
                      have HL134_0 := Aside0.mk (show Kd.R (Kd.int .i64) 3 _ _ _ _ (rd_L2 x17_3 x7_2) from ge134_0)
                      clear hv134_0 ge134_0
                      have HX134_0 := Aside0.mk hx134_0
                      clear hcc134 hce134
                      have HR134_0 := Aside0.mk hi134_0
                      have HC134_0 := Aside0.mk hl134_0
                      clear hi134_0 hl134_0
                      replace p134 := eq_true p134
                      replace q134 := eq_true q134
                      have p60 : 0 ≤ (x8_3 : Int) := of_decide_eq_true (by first | (with_reducible assumption) | assumption)
                      have q60 : (x8_3 : Int) < (((rd_L2 x17_3 x7_2).length : Int) : Int) := of_decide_eq_true (by first | (with_reducible assumption) | assumption)
                      obtain ⟨go60, co60, eo60, gb60, gl60, cl60, HG60⟩ := Kd.R_form HL134_0.out (by omega)
                      (first | cases eo60 | (injection eo60 with ea_ en_ ec_; (first | subst ea_ | (injection ea_ with ea_; subst ea_)); subst ec_; clear en_))
                      have GB60 := Aside0.mk gb60
                      have GG60 := Aside0.mk HG60
                      clear gb60 gl60 HG60
                      obtain ⟨hx60_0, hf60_0⟩ := Kd.R_celln 0 HL134_0.out (x8_3 : Int) p60 q60
                      replace p60 := eq_true p60
                      replace q60 := eq_true q60
                      have hq61 : (x7_2 : Int) < (x17_3.length : Int) := (by have h_ : (x7_2 : Int) < ((x17_3.length : Int) : Int) := of_decide_eq_true (by first | (with_reducible assumption) | assumption); first | exact h_ | (have e_ := (Kd.S_reads' HO_5.out).1; omega) | simpa only [List.length_set, List.length_set] using h_)
                      obtain ⟨oki61, ce61, hcl61, hM61, hcc61, hok61, hbk61⟩ := Kd.S_borrow HO_5.out [] (x7_2 : Int) (of_decide_eq_true (by first | (with_reducible assumption) | assumption)) hq61
                      obtain ⟨ve61_0, rfl, ge61_0⟩ := hM61
                      have hv61 := hcc61 0 _ rfl
                      rw [Nat.add_zero, show ((Kd.slice 3 (Kd.int .i64))).sz = 1 from rfl, Nat.mul_one] at hv61
                      replace hv61 := Option.some.inj (hv61.symm.trans HX134_0.out)
                      subst hv61
                      clear hcc61 hcl61
                      replace ge61_0 := (show Kd.R (Kd.int .i64) 3 _ _ _ _ (rd_L2 x17_3 x7_2) from ge61_0)
                      have HP61 := Kd.R_putg ge61_0 (x8_3 : Int) x9_5
                      go_wp2_with (first | ((with_reducible refine gate_store (t := 3) (p := 105) rfl ?_); (try (rw [drewN_self wr]; generalize hq_ : World.drewN wr _ = wr; have n0_ := Aside0.mk (Kd.S_at hq_ HO_5.out); have n1_ := Aside0.mk (Kd.R_at hq_ HL138.out); have n2_ := Aside0.mk (below_at hq_ HB.out); clear hq_ HO_5 HL138 HB; have HO_5 := n0_; have HL138 := n1_; have HB := n2_; clear n0_ n1_ n2_; (try (have hq61 : (x7_2 : Int) < (x17_3.length : Int) := (by have h_ : (x7_2 : Int) < ((x17_3.length : Int) : Int) := of_decide_eq_true (by first | (with_reducible assumption) | assumption); first | exact h_ | (have e_ := (Kd.S_reads' HO_5.out).1; omega) | simpa only [List.length_set, List.length_set] using h_))); (try (obtain ⟨oki61, ce61, hcl61, hM61, hcc61, hok61, hbk61⟩ := Kd.S_borrow HO_5.out [] (x7_2 : Int) (of_decide_eq_true (by first | (with_reducible assumption) | assumption)) hq61)); (try (obtain ⟨ve61_0, rfl, ge61_0⟩ := hM61)); (try (have hv61 := hcc61 0 _ rfl)); (try (rw [Nat.add_zero, show ((Kd.slice 3 (Kd.int .i64))).sz = 1 from rfl, Nat.mul_one] at hv61)); (try (replace hv61 := Option.some.inj (hv61.symm.trans HX134_0.out))); (try (subst hv61)); (try (clear hcc61 hcl61)); (try (replace ge61_0 := (show Kd.R (Kd.int .i64) 3 _ _ _ _ (rd_L2 x17_3 x7_2) from ge61_0))); (try (have HP61 := Kd.R_putg ge61_0 (x8_3 : Int) x9_5)))); refine store_event (t := 3) (p := 105) (v := ?vo_w62) (w1 := (wr.setCell ⟨go60, (x8_3 : Int).toNat, none⟩ (.int .i64 x9_5))) ?hg ?ho ?hn ?hr ?_; (case ho => rfl); (case hg => rfl); (case hn => rfl); (case hr => first | (go_simp; done) | (go_simp; rfl)); intro w62 hw; have hg : wr.grownBy w62 (some go60) := (by rw [hw]; exact HP61.2); have hz_ : Kd.R (Kd.int .i64) 3 w62 w.heap.size oki61 (.slice (some ⟨go60, 0, none⟩) (rd_L2 x17_3 x7_2).length c134_0) y135 := (by rw [hw, Ny135.out]; exact HP61.1); have hp_ : Kd.S (Kd.slice 3 (Kd.int .i64)) 31 w62 w.heap.size (fun _ => True) (.slice (some ad134) x17_3.length co8) y137 := (by rw [Ny137.out]; exact hbk61 hg (fun k_ e_ => by injection e_ with e_; subst e_; exact ge61_0.1 _ rfl) (Kd.M_row hz_)); have hm_ := Kd.R_mono hz_ hok61; clear HP61 hbk61; have n0_ := Aside0.mk (hp_); have n1_ := Aside0.mk ((by rw [hw]; exact below_set (HB.out) GB60.out : Below w.heap.size w w62)); have n2_ := Aside0.mk (hm_); have n3_ := Aside0.mk ((Kd.R_reads' hm_).2.1); clear HO_5; clear HB; clear HL134_0; have HO_5 := n0_; have HB := n1_; have HL138 := n2_; have HC136 := n3_; clear n0_ n1_ n2_ n3_; clear hg hw hp_ hz_ hm_ hok61))
                      repeat (go_quiet (first | ((with_reducible refine gate_store (t := 3) (p := 105) rfl ?_); (try (rw [drewN_self wr]; generalize hq_ : World.drewN wr _ = wr; have n0_ := Aside0.mk (Kd.S_at hq_ HO_5.out); have n1_ := Aside0.mk (Kd.R_at hq_ HL138.out); have n2_ := Aside0.mk (below_at hq_ HB.out); clear hq_ HO_5 HL138 HB; have HO_5 := n0_; have HL138 := n1_; have HB := n2_; clear n0_ n1_ n2_; (try (have hq61 : (x7_2 : Int) < (x17_3.length : Int) := (by have h_ : (x7_2 : Int) < ((x17_3.length : Int) : Int) := of_decide_eq_true (by first | (with_reducible assumption) | assumption); first | exact h_ | (have e_ := (Kd.S_reads' HO_5.out).1; omega) | simpa only [List.length_set, List.length_set] using h_))); (try (obtain ⟨oki61, ce61, hcl61, hM61, hcc61, hok61, hbk61⟩ := Kd.S_borrow HO_5.out [] (x7_2 : Int) (of_decide_eq_true (by first | (with_reducible assumption) | assumption)) hq61)); (try (obtain ⟨ve61_0, rfl, ge61_0⟩ := hM61)); (try (have hv61 := hcc61 0 _ rfl)); (try (rw [Nat.add_zero, show ((Kd.slice 3 (Kd.int .i64))).sz = 1 from rfl, Nat.mul_one] at hv61)); (try (replace hv61 := Option.some.inj (hv61.symm.trans HX134_0.out))); (try (subst hv61)); (try (clear hcc61 hcl61)); (try (replace ge61_0 := (show Kd.R (Kd.int .i64) 3 _ _ _ _ (rd_L2 x17_3 x7_2) from ge61_0))); (try (have HP61 := Kd.R_putg ge61_0 (x8_3 : Int) x9_5)))); refine store_event (t := 3) (p := 105) (v := ?vo_w62) (w1 := (wr.setCell ⟨go60, (x8_3 : Int).toNat, none⟩ (.int .i64 x9_5))) ?hg ?ho ?hn ?hr ?_; (case ho => rfl); (case hg => rfl); (case hn => rfl); (case hr => first | (go_simp; done) | (go_simp; rfl)); intro w62 hw; have hg : wr.grownBy w62 (some go60) := (by rw [hw]; exact HP61.2); have hz_ : Kd.R (Kd.int .i64) 3 w62 w.heap.size oki61 (.slice (some ⟨go60, 0, none⟩) (rd_L2 x17_3 x7_2).length c134_0) y135 := (by rw [hw, Ny135.out]; exact HP61.1); have hp_ : Kd.S (Kd.slice 3 (Kd.int .i64)) 31 w62 w.heap.size (fun _ => True) (.slice (some ad134) x17_3.length co8) y137 := (by rw [Ny137.out]; exact hbk61 hg (fun k_ e_ => by injection e_ with e_; subst e_; exact ge61_0.1 _ rfl) (Kd.M_row hz_)); have hm_ := Kd.R_mono hz_ hok61; clear HP61 hbk61; have n0_ := Aside0.mk (hp_); have n1_ := Aside0.mk ((by rw [hw]; exact below_set (HB.out) GB60.out : Below w.heap.size w w62)); have n2_ := Aside0.mk (hm_); have n3_ := Aside0.mk ((Kd.R_reads' hm_).2.1); clear HO_5; clear HB; clear HL134_0; have HO_5 := n0_; have HB := n1_; have HL138 := n2_; have HC136 := n3_; clear n0_ n1_ n2_ n3_; clear hg hw hp_ hz_ hm_ hok61)); try go_wp2_with (first | ((with_reducible refine gate_store (t := 3) (p := 105) rfl ?_); (try (rw [drewN_self wr]; generalize hq_ : World.drewN wr _ = wr; have n0_ := Aside0.mk (Kd.S_at hq_ HO_5.out); have n1_ := Aside0.mk (Kd.R_at hq_ HL138.out); have n2_ := Aside0.mk (below_at hq_ HB.out); clear hq_ HO_5 HL138 HB; have HO_5 := n0_; have HL138 := n1_; have HB := n2_; clear n0_ n1_ n2_; (try (have hq61 : (x7_2 : Int) < (x17_3.length : Int) := (by have h_ : (x7_2 : Int) < ((x17_3.length : Int) : Int) := of_decide_eq_true (by first | (with_reducible assumption) | assumption); first | exact h_ | (have e_ := (Kd.S_reads' HO_5.out).1; omega) | simpa only [List.length_set, List.length_set] using h_))); (try (obtain ⟨oki61, ce61, hcl61, hM61, hcc61, hok61, hbk61⟩ := Kd.S_borrow HO_5.out [] (x7_2 : Int) (of_decide_eq_true (by first | (with_reducible assumption) | assumption)) hq61)); (try (obtain ⟨ve61_0, rfl, ge61_0⟩ := hM61)); (try (have hv61 := hcc61 0 _ rfl)); (try (rw [Nat.add_zero, show ((Kd.slice 3 (Kd.int .i64))).sz = 1 from rfl, Nat.mul_one] at hv61)); (try (replace hv61 := Option.some.inj (hv61.symm.trans HX134_0.out))); (try (subst hv61)); (try (clear hcc61 hcl61)); (try (replace ge61_0 := (show Kd.R (Kd.int .i64) 3 _ _ _ _ (rd_L2 x17_3 x7_2) from ge61_0))); (try (have HP61 := Kd.R_putg ge61_0 (x8_3 : Int) x9_5)))); refine store_event (t := 3) (p := 105) (v := ?vo_w62) (w1 := (wr.setCell ⟨go60, (x8_3 : Int).toNat, none⟩ (.int .i64 x9_5))) ?hg ?ho ?hn ?hr ?_; (case ho => rfl); (case hg => rfl); (case hn => rfl); (case hr => first | (go_simp; done) | (go_simp; rfl)); intro w62 hw; have hg : wr.grownBy w62 (some go60) := (by rw [hw]; exact HP61.2); have hz_ : Kd.R (Kd.int .i64) 3 w62 w.heap.size oki61 (.slice (some ⟨go60, 0, none⟩) (rd_L2 x17_3 x7_2).length c134_0) y135 := (by rw [hw, Ny135.out]; exact HP61.1); have hp_ : Kd.S (Kd.slice 3 (Kd.int .i64)) 31 w62 w.heap.size (fun _ => True) (.slice (some ad134) x17_3.length co8) y137 := (by rw [Ny137.out]; exact hbk61 hg (fun k_ e_ => by injection e_ with e_; subst e_; exact ge61_0.1 _ rfl) (Kd.M_row hz_)); have hm_ := Kd.R_mono hz_ hok61; clear HP61 hbk61; have n0_ := Aside0.mk (hp_); have n1_ := Aside0.mk ((by rw [hw]; exact below_set (HB.out) GB60.out : Below w.heap.size w w62)); have n2_ := Aside0.mk (hm_); have n3_ := Aside0.mk ((Kd.R_reads' hm_).2.1); clear HO_5; clear HB; clear HL134_0; have HO_5 := n0_; have HB := n1_; have HL138 := n2_; have HC136 := n3_; clear n0_ n1_ n2_ n3_; clear hg hw hp_ hz_ hm_ hok61)))
                      (try simp only [← hl17_3])
                      go_roundg k5
                      case measure => have := HK1.out; have := HK2.out; have := HK3.out; have := HJ21.out; have := HK5.out; omega
                      case rel => exact ⟨(wrap64 (x8_3 - 1)), (y137), (by first | rfl | (simp; done) | (simp [*]; done)), H', ⟨by have := HK1.out; have := HK2.out; have := HK3.out; have := HJ21.out; have := HK5.out; omega⟩, ⟨by (try simp only [hl17_1]); (try simp only [hl17_2]); (try simp only [hl17_3]); (with_reducible repeat (first | apply Kd.S_alloc | apply Kd.S_drewN | apply Kd.S_drew)); exact HO_5.out⟩, ⟨by repeat (first | (with_reducible first | exact HB.out | apply below_alloc | apply pw_below_drewN | apply below_drew1) | exact HB.out)⟩⟩
                     ·rw [if_neg c59] at H
                      exact absurd H (by simp)
                    ·rw [if_neg c58] at H
                     exact absurd H (by simp)
                   ·rw [if_neg c57] at H
                    exact absurd H (by simp)
                  ·rw [if_neg c56] at H
                   exact absurd H (by simp)
           ·rw [if_neg c21] at H
            have c21b0 : decide (0 ≤ x8_3) = false := decide_eq_false c21
            clear c21
            have H' := Aside0.mk H
            clear H
            go_wp2
            repeat (go_quiet (fail); try go_wp2)
            (try simp only [← hl17_2, ← hl17_3])
            go_roundg k3
            case measure => have := HK1.out; have := HK2.out; have := HK3.out; omega
            case rel => exact ⟨(wrap64 (x7_2 - 1)), (x17_3), (by first | rfl | (simp; done) | (simp [*]; done)), H', ⟨by have := HK1.out; have := HK2.out; have := HK3.out; omega⟩, ⟨by (try simp only [hl17_1]); (try simp only [hl17_2]); (try simp only [hl17_3]); (with_reducible repeat (first | apply Kd.S_alloc | apply Kd.S_drewN | apply Kd.S_drew)); exact HO_17.out⟩, ⟨by repeat (first | (with_reducible first | exact HB.out | apply below_alloc | apply pw_below_drewN | apply below_drew1) | exact HB.out)⟩⟩
        ·rw [if_neg c20] at H
         have c20b0 : decide (0 ≤ x7_2) = false := decide_eq_false c20
         clear c20
         obtain rfl := Option.some.inj H
         go_wp2
         repeat (go_quiet (fail); try go_wp2)
         go_ret
         exact ⟨_, by first | rfl | (simp [errW_none, errW_some] <;> rfl) | (simp only [← hji3]; first | rfl | (simp [errW_none, errW_some] <;> rfl)) | (simp [*, errW_none, errW_some] <;> rfl), by (with_reducible repeat (first | apply Kd.S_alloc | apply Kd.S_drewN | apply Kd.S_drew)); exact HO_17.out, by repeat (first | (with_reducible first | exact HB.out | apply below_alloc | apply pw_below_drewN | apply below_drew1) | exact HB.out)⟩
  ·rw [if_neg c5] at H
   exact absurd H (by simp)
 ·rw [if_neg c4] at H
  exact absurd H (by simp)

end Go.Proofs.Ytnnonjjmlbemfaa.X
