-- halved indents
-- printed by this session's xprint.py: out of the translation, by the kit's print with additions; Lean checks it
import Derived.Test.YtnnonjjmlbemfaaWN
import Derived.Test.YtnnonjjmlbemfaaWShare
import Derived.Test.YtnnonjjmlbemfaaWRepsOne
import Derived.Test.YtnnonjjmlbemfaaWGuard
import Derived.Test.YtnnonjjmlbemfaaX0
import Derived.Test.YtnnonjjmlbemfaaX3
import Derived.Test.YtnnonjjmlbemfaaX12
namespace Go.Proofs.Ytnnonjjmlbemfaa.X
open Go.RowKit Go.Proofs.YtnnonjjmlbemfaaW.PrintWords Go.Proofs.YtnnonjjmlbemfaaW.PrintLast Go.Proofs.YtnnonjjmlbemfaaW.PrintMore
attribute [local go_sem] max2_int min2_int max_two min_two max_three min_three max_four min_four isSome_setCell binOp_gtr_str binOp_leq_str   -- for this text's walks alone
set_option linter.unusedVariables false
set_option linter.unusedSimpArgs false

/-! ### align_Check: function 18 -/
mutual
def align_Check.j0 : Nat → ByteArray → ByteArray → List Int → List (List Int) → Bool → Option (Bool)
 | 0, _, _, _, _, _ => none
 | k + 1, x0, x1, x2, x3, x32 => if x32 = true then (some false) else (align_Check.l0 k x0 x1 x2 x3 x3 (x3.length : Int) 0)
def align_Check.l0 : Nat → ByteArray → ByteArray → List Int → List (List Int) → List (List Int) → Int → Int → Option (Bool)
 | 0, _, _, _, _, _, _, _ => none
 | k + 1, x0, x1, x2, x3, x33, x34, x35 => if x35 < x34 then (if 0 ≤ x35 then (if x35 < (x33.length : Int) then (if ((rd_L2 x33 x35).length : Int) = (wrap64 ((x1.size : Int) + 1)) then (align_Check.l0 k x0 x1 x2 x3 x33 x34 (wrap64 (x35 + 1))) else (some false)) else (none)) else (none)) else ((align_walk_nil.f k x0 x1 x2).bind fun bt215 => (if bt215.2 = true then (if 0 < (x3.length : Int) then (if 0 < ((rd_L2 x3 0).length : Int) then (if bt215.1 = (rd (rd_L2 x3 0) 0) then (if 0 ≤ (x0.size : Int) then (if (x0.size : Int) < (x3.length : Int) then (if 0 ≤ (x1.size : Int) then (if (x1.size : Int) < ((rd_L2 x3 (x0.size : Int)).length : Int) then (align_Check.j2 k x0 x1 x3 ((rd (rd_L2 x3 (x0.size : Int)) (x1.size : Int)) != 0)) else (none)) else (none)) else (none)) else (none)) else (align_Check.j2 k x0 x1 x3 true)) else (none)) else (none)) else (align_Check.j2 k x0 x1 x3 true)))
def align_Check.j2 : Nat → ByteArray → ByteArray → List (List Int) → Bool → Option (Bool)
 | 0, _, _, _, _ => none
 | k + 1, x0, x1, x3, x75 => if x75 = true then (some false) else (align_Check.l1 k x0 x1 x3 x3 (x3.length : Int) 0)
def align_Check.l1 : Nat → ByteArray → ByteArray → List (List Int) → List (List Int) → Int → Int → Option (Bool)
 | 0, _, _, _, _, _, _ => none
 | k + 1, x0, x1, x3, x76, x77, x78 => if x78 < x77 then (if 0 ≤ x78 then (if x78 < (x76.length : Int) then (align_Check.l2 k x0 x1 x3 x78 x76 x77 x78 (rd_L2 x76 x78) ((rd_L2 x76 x78).length : Int) 0) else (none)) else (none)) else (some true)
def align_Check.l2 : Nat → ByteArray → ByteArray → List (List Int) → Int → List (List Int) → Int → Int → List Int → Int → Int → Option (Bool)
 | 0, _, _, _, _, _, _, _, _, _, _ => none
 | k + 1, x0, x1, x3, x13, x76, x77, x78, x83, x84, x85 => if x85 < x84 then (if 0 ≤ x85 then (if x85 < (x83.length : Int) then (align_Check.l3 k x0 x1 x3 x13 x85 (rd x83 x85) x76 x77 x78 x83 x84 x85 0) else (none)) else (none)) else (align_Check.l1 k x0 x1 x3 x76 x77 (wrap64 (x78 + 1)))
def align_Check.l3 : Nat → ByteArray → ByteArray → List (List Int) → Int → Int → Int → List (List Int) → Int → Int → List Int → Int → Int → Int → Option (Bool)
 | 0, _, _, _, _, _, _, _, _, _, _, _, _, _ => none
 | k + 1, x0, x1, x3, x13, x15, x16, x76, x77, x78, x83, x84, x85, x90 => if x90 < 5 then ((align_step.f k x0 x1 x13 x15 x90).bind fun bt223 => (if bt223.2.2.2 = true then (if 0 ≤ bt223.1 then (if bt223.1 < (x3.length : Int) then (if 0 ≤ bt223.2.1 then (if bt223.2.1 < ((rd_L2 x3 bt223.1).length : Int) then (if x16 > (wrap64 (bt223.2.2.1 + (rd (rd_L2 x3 bt223.1) bt223.2.1))) then (some false) else (align_Check.l3 k x0 x1 x3 x13 x15 x16 x76 x77 x78 x83 x84 x85 (wrap64 (x90 + 1)))) else (none)) else (none)) else (none)) else (none)) else (align_Check.l3 k x0 x1 x3 x13 x15 x16 x76 x77 x78 x83 x84 x85 (wrap64 (x90 + 1))))) else (align_Check.l2 k x0 x1 x3 x13 x76 x77 x78 x83 x84 (wrap64 (x85 + 1)))
end
def align_Check.f (k : Nat) (a0 : ByteArray) (a1 : ByteArray) (l2 : List Int) (l3 : List (List Int)) : Option (Bool) := (align_given.f k a0 a1).bind fun t213 => (if t213 = 0 then (align_Check.j0 k a0 a1 l2 l3 ((l3.length : Int) != (wrap64 ((a0.size : Int) + 1)))) else (align_Check.j0 k a0 a1 l2 l3 true))
theorem align_Check.mono_l : ∀ k, (∀ y0 y1 y2 y3 y4, LeO (align_Check.j0 k y0 y1 y2 y3 y4) (align_Check.j0 (k + 1) y0 y1 y2 y3 y4)) ∧ (∀ y0 y1 y2 y3 y4 y5 y6, LeO (align_Check.l0 k y0 y1 y2 y3 y4 y5 y6) (align_Check.l0 (k + 1) y0 y1 y2 y3 y4 y5 y6)) ∧ (∀ y0 y1 y2 y3, LeO (align_Check.j2 k y0 y1 y2 y3) (align_Check.j2 (k + 1) y0 y1 y2 y3)) ∧ (∀ y0 y1 y2 y3 y4 y5, LeO (align_Check.l1 k y0 y1 y2 y3 y4 y5) (align_Check.l1 (k + 1) y0 y1 y2 y3 y4 y5)) ∧ (∀ y0 y1 y2 y3 y4 y5 y6 y7 y8 y9, LeO (align_Check.l2 k y0 y1 y2 y3 y4 y5 y6 y7 y8 y9) (align_Check.l2 (k + 1) y0 y1 y2 y3 y4 y5 y6 y7 y8 y9)) ∧ (∀ y0 y1 y2 y3 y4 y5 y6 y7 y8 y9 y10 y11 y12, LeO (align_Check.l3 k y0 y1 y2 y3 y4 y5 y6 y7 y8 y9 y10 y11 y12) (align_Check.l3 (k + 1) y0 y1 y2 y3 y4 y5 y6 y7 y8 y9 y10 y11 y12))
 | 0 => ⟨fun _ _ _ _ _ r h => by simp [align_Check.j0] at h, fun _ _ _ _ _ _ _ r h => by simp [align_Check.l0] at h, fun _ _ _ _ r h => by simp [align_Check.j2] at h, fun _ _ _ _ _ _ r h => by simp [align_Check.l1] at h, fun _ _ _ _ _ _ _ _ _ _ r h => by simp [align_Check.l2] at h, fun _ _ _ _ _ _ _ _ _ _ _ _ _ r h => by simp [align_Check.l3] at h⟩
 | k + 1 => by
  obtain ⟨ih0, ih1, ih2, ih3, ih4, ih5⟩ := align_Check.mono_l k
  refine ⟨?_, ?_, ?_, ?_, ?_, ?_⟩
  ·intro y0 y1 y2 y3 y4
   unfold align_Check.j0
   repeat' first
   | (with_reducible exact ih0 _ _ _ _ _)
   | (with_reducible exact ih1 _ _ _ _ _ _ _)
   | (with_reducible exact ih2 _ _ _ _)
   | (with_reducible exact ih3 _ _ _ _ _ _)
   | (with_reducible exact ih4 _ _ _ _ _ _ _ _ _ _)
   | (with_reducible exact ih5 _ _ _ _ _ _ _ _ _ _ _ _ _)
   | (with_reducible exact align_given.mono _ _ _)
   | (with_reducible exact align_step.mono _ _ _ _ _ _)
   | (with_reducible exact align_walk_nil.mono _ _ _ _)
   | (with_reducible exact LeO.refl _)
   | (with_reducible exact LeO.none _)
   | (with_reducible refine LeO.ite ?_ ?_)
   | (with_reducible refine LeO.bind ?_ (fun _ => ?_))
   | exact ih0 _ _ _ _ _
   | exact ih1 _ _ _ _ _ _ _
   | exact ih2 _ _ _ _
   | exact ih3 _ _ _ _ _ _
   | exact ih4 _ _ _ _ _ _ _ _ _ _
   | exact ih5 _ _ _ _ _ _ _ _ _ _ _ _ _
   | exact align_given.mono _ _ _
   | exact align_step.mono _ _ _ _ _ _
   | exact align_walk_nil.mono _ _ _ _
   | exact LeO.none _
   | refine LeO.ite ?_ ?_
   | refine LeO.bind ?_ (fun _ => ?_)
  ·intro y0 y1 y2 y3 y4 y5 y6
   unfold align_Check.l0
   repeat' first
   | (with_reducible exact ih0 _ _ _ _ _)
   | (with_reducible exact ih1 _ _ _ _ _ _ _)
   | (with_reducible exact ih2 _ _ _ _)
   | (with_reducible exact ih3 _ _ _ _ _ _)
   | (with_reducible exact ih4 _ _ _ _ _ _ _ _ _ _)
   | (with_reducible exact ih5 _ _ _ _ _ _ _ _ _ _ _ _ _)
   | (with_reducible exact align_given.mono _ _ _)
   | (with_reducible exact align_step.mono _ _ _ _ _ _)
   | (with_reducible exact align_walk_nil.mono _ _ _ _)
   | (with_reducible exact LeO.refl _)
   | (with_reducible exact LeO.none _)
   | (with_reducible refine LeO.ite ?_ ?_)
   | (with_reducible refine LeO.bind ?_ (fun _ => ?_))
   | exact ih0 _ _ _ _ _
   | exact ih1 _ _ _ _ _ _ _
   | exact ih2 _ _ _ _
   | exact ih3 _ _ _ _ _ _
   | exact ih4 _ _ _ _ _ _ _ _ _ _
   | exact ih5 _ _ _ _ _ _ _ _ _ _ _ _ _
   | exact align_given.mono _ _ _
   | exact align_step.mono _ _ _ _ _ _
   | exact align_walk_nil.mono _ _ _ _
   | exact LeO.none _
   | refine LeO.ite ?_ ?_
   | refine LeO.bind ?_ (fun _ => ?_)
  ·intro y0 y1 y2 y3
   unfold align_Check.j2
   repeat' first
   | (with_reducible exact ih0 _ _ _ _ _)
   | (with_reducible exact ih1 _ _ _ _ _ _ _)
   | (with_reducible exact ih2 _ _ _ _)
   | (with_reducible exact ih3 _ _ _ _ _ _)
   | (with_reducible exact ih4 _ _ _ _ _ _ _ _ _ _)
   | (with_reducible exact ih5 _ _ _ _ _ _ _ _ _ _ _ _ _)
   | (with_reducible exact align_given.mono _ _ _)
   | (with_reducible exact align_step.mono _ _ _ _ _ _)
   | (with_reducible exact align_walk_nil.mono _ _ _ _)
   | (with_reducible exact LeO.refl _)
   | (with_reducible exact LeO.none _)
   | (with_reducible refine LeO.ite ?_ ?_)
   | (with_reducible refine LeO.bind ?_ (fun _ => ?_))
   | exact ih0 _ _ _ _ _
   | exact ih1 _ _ _ _ _ _ _
   | exact ih2 _ _ _ _
   | exact ih3 _ _ _ _ _ _
   | exact ih4 _ _ _ _ _ _ _ _ _ _
   | exact ih5 _ _ _ _ _ _ _ _ _ _ _ _ _
   | exact align_given.mono _ _ _
   | exact align_step.mono _ _ _ _ _ _
   | exact align_walk_nil.mono _ _ _ _
   | exact LeO.none _
   | refine LeO.ite ?_ ?_
   | refine LeO.bind ?_ (fun _ => ?_)
  ·intro y0 y1 y2 y3 y4 y5
   unfold align_Check.l1
   repeat' first
   | (with_reducible exact ih0 _ _ _ _ _)
   | (with_reducible exact ih1 _ _ _ _ _ _ _)
   | (with_reducible exact ih2 _ _ _ _)
   | (with_reducible exact ih3 _ _ _ _ _ _)
   | (with_reducible exact ih4 _ _ _ _ _ _ _ _ _ _)
   | (with_reducible exact ih5 _ _ _ _ _ _ _ _ _ _ _ _ _)
   | (with_reducible exact align_given.mono _ _ _)
   | (with_reducible exact align_step.mono _ _ _ _ _ _)
   | (with_reducible exact align_walk_nil.mono _ _ _ _)
   | (with_reducible exact LeO.refl _)
   | (with_reducible exact LeO.none _)
   | (with_reducible refine LeO.ite ?_ ?_)
   | (with_reducible refine LeO.bind ?_ (fun _ => ?_))
   | exact ih0 _ _ _ _ _
   | exact ih1 _ _ _ _ _ _ _
   | exact ih2 _ _ _ _
   | exact ih3 _ _ _ _ _ _
   | exact ih4 _ _ _ _ _ _ _ _ _ _
   | exact ih5 _ _ _ _ _ _ _ _ _ _ _ _ _
   | exact align_given.mono _ _ _
   | exact align_step.mono _ _ _ _ _ _
   | exact align_walk_nil.mono _ _ _ _
   | exact LeO.none _
   | refine LeO.ite ?_ ?_
   | refine LeO.bind ?_ (fun _ => ?_)
  ·intro y0 y1 y2 y3 y4 y5 y6 y7 y8 y9
   unfold align_Check.l2
   repeat' first
   | (with_reducible exact ih0 _ _ _ _ _)
   | (with_reducible exact ih1 _ _ _ _ _ _ _)
   | (with_reducible exact ih2 _ _ _ _)
   | (with_reducible exact ih3 _ _ _ _ _ _)
   | (with_reducible exact ih4 _ _ _ _ _ _ _ _ _ _)
   | (with_reducible exact ih5 _ _ _ _ _ _ _ _ _ _ _ _ _)
   | (with_reducible exact align_given.mono _ _ _)
   | (with_reducible exact align_step.mono _ _ _ _ _ _)
   | (with_reducible exact align_walk_nil.mono _ _ _ _)
   | (with_reducible exact LeO.refl _)
   | (with_reducible exact LeO.none _)
   | (with_reducible refine LeO.ite ?_ ?_)
   | (with_reducible refine LeO.bind ?_ (fun _ => ?_))
   | exact ih0 _ _ _ _ _
   | exact ih1 _ _ _ _ _ _ _
   | exact ih2 _ _ _ _
   | exact ih3 _ _ _ _ _ _
   | exact ih4 _ _ _ _ _ _ _ _ _ _
   | exact ih5 _ _ _ _ _ _ _ _ _ _ _ _ _
   | exact align_given.mono _ _ _
   | exact align_step.mono _ _ _ _ _ _
   | exact align_walk_nil.mono _ _ _ _
   | exact LeO.none _
   | refine LeO.ite ?_ ?_
   | refine LeO.bind ?_ (fun _ => ?_)
  ·intro y0 y1 y2 y3 y4 y5 y6 y7 y8 y9 y10 y11 y12
   unfold align_Check.l3
   repeat' first
   | (with_reducible exact ih0 _ _ _ _ _)
   | (with_reducible exact ih1 _ _ _ _ _ _ _)
   | (with_reducible exact ih2 _ _ _ _)
   | (with_reducible exact ih3 _ _ _ _ _ _)
   | (with_reducible exact ih4 _ _ _ _ _ _ _ _ _ _)
   | (with_reducible exact ih5 _ _ _ _ _ _ _ _ _ _ _ _ _)
   | (with_reducible exact align_given.mono _ _ _)
   | (with_reducible exact align_step.mono _ _ _ _ _ _)
   | (with_reducible exact align_walk_nil.mono _ _ _ _)
   | (with_reducible exact LeO.refl _)
   | (with_reducible exact LeO.none _)
   | (with_reducible refine LeO.ite ?_ ?_)
   | (with_reducible refine LeO.bind ?_ (fun _ => ?_))
   | exact ih0 _ _ _ _ _
   | exact ih1 _ _ _ _ _ _ _
   | exact ih2 _ _ _ _
   | exact ih3 _ _ _ _ _ _
   | exact ih4 _ _ _ _ _ _ _ _ _ _
   | exact ih5 _ _ _ _ _ _ _ _ _ _ _ _ _
   | exact align_given.mono _ _ _
   | exact align_step.mono _ _ _ _ _ _
   | exact align_walk_nil.mono _ _ _ _
   | exact LeO.none _
   | refine LeO.ite ?_ ?_
   | refine LeO.bind ?_ (fun _ => ?_)
theorem align_Check.mono : ∀ a0 a1 a2 a3 k, LeO (align_Check.f k a0 a1 a2 a3) (align_Check.f (k + 1) a0 a1 a2 a3) := by
 intro a0 a1 a2 a3 k
 obtain ⟨ih0, ih1, ih2, ih3, ih4, ih5⟩ := align_Check.mono_l k
 unfold align_Check.f
 repeat' first
   | (with_reducible exact ih0 _ _ _ _ _)
   | (with_reducible exact ih1 _ _ _ _ _ _ _)
   | (with_reducible exact ih2 _ _ _ _)
   | (with_reducible exact ih3 _ _ _ _ _ _)
   | (with_reducible exact ih4 _ _ _ _ _ _ _ _ _ _)
   | (with_reducible exact ih5 _ _ _ _ _ _ _ _ _ _ _ _ _)
   | (with_reducible exact align_given.mono _ _ _)
   | (with_reducible exact align_step.mono _ _ _ _ _ _)
   | (with_reducible exact align_walk_nil.mono _ _ _ _)
   | (with_reducible exact LeO.refl _)
   | (with_reducible exact LeO.none _)
   | (with_reducible refine LeO.ite ?_ ?_)
   | (with_reducible refine LeO.bind ?_ (fun _ => ?_))
   | exact ih0 _ _ _ _ _
   | exact ih1 _ _ _ _ _ _ _
   | exact ih2 _ _ _ _
   | exact ih3 _ _ _ _ _ _
   | exact ih4 _ _ _ _ _ _ _ _ _ _
   | exact ih5 _ _ _ _ _ _ _ _ _ _ _ _ _
   | exact align_given.mono _ _ _
   | exact align_step.mono _ _ _ _ _ _
   | exact align_walk_nil.mono _ _ _ _
   | exact LeO.none _
   | refine LeO.ite ?_ ?_
   | refine LeO.bind ?_ (fun _ => ?_)
set_option maxHeartbeats 8000000 in
set_option maxRecDepth 100000 in
theorem align_Check.calls (k : Nat) (a0 : ByteArray) (a1 : ByteArray) (A2 : Option Addr) (c2 : Nat) (l2 : List Int) (A3 : Option Addr) (c3 : Nat) (l3 : List (List Int)) (r : Bool) (w : World) (hr2 : Kd.C (Kd.int .i64) w A2 l2.length l2) (hc2 : l2.length ≤ c2) (hr3 : Kd.C (Kd.slice 3 (Kd.int .i64)) w A3 l3.length l3) (hc3 : l3.length ≤ c3) (h : align_Check.f k a0 a1 l2 l3 = some r) :
  Calls Try.prog 18 #[.string a0, .string a1, .slice A2 l2.length c2, .slice A3 l3.length c3] w fun e w' => e = .returned (.bool r) ∧ Below w.heap.size w w' := by
 have hu60 := Try.underlying60
 have HR2 := Aside0.mk hr2
 have HC2 := Aside0.mk hc2
 clear hr2 hc2
 have HR3 := Aside0.mk hr3
 have HC3 := Aside0.mk hc3
 clear hr3 hc3
 have HB := Aside0.mk (Below.refl w.heap.size w)
 have H : ((align_given.f k a0 a1).bind fun t213 => (if t213 = 0 then (align_Check.j0 k a0 a1 l2 l3 ((l3.length : Int) != (wrap64 ((a0.size : Int) + 1)))) else (align_Check.j0 k a0 a1 l2 l3 true))) = some r := h
 clear h
 have HC5 := Aside0.mk H
 clear H
 go_enter Try.func18, Try.ntmps18
 go_upto_region 1 with (fail)
 repeat (go_quiet (fail); go_upto_region 1 with (fail))
 go_cut [32] (fun v32 wc => ∃ (kq : Nat) (x32_4 : Bool), v32 = .bool x32_4 ∧ Aside0 (align_Check.j0 kq a0 a1 l2 l3 x32_4 = some r) ∧ Aside0 (kq ≤ k) ∧ Aside0 (Below w.heap.size w wc))
 case first =>
  have H := HC5.out
  clear HC5
  replace H := Option.bind_eq_some_iff.mp H
  obtain ⟨t213, A60, H⟩ := H
  replace H : (if t213 = 0 then (align_Check.j0 k a0 a1 l2 l3 ((l3.length : Int) != (wrap64 ((a0.size : Int) + 1)))) else (align_Check.j0 k a0 a1 l2 l3 true)) = some r := H
  have A6 := Aside0.mk A60
  clear A60
  by_cases c7 : t213 = 0
  ·rw [if_pos c7] at H
   have c7b0 : (t213 == 0) = true := beq_iff_eq.mpr c7
   have c7b1 : (t213 != 0) = false := bne_eq_false_iff_eq.mpr c7
   clear c7
   (first | rw [c7b0] | (simp only [i64_w, i32_w]; rw [c7b0]) | skip)
   have H' := Aside0.mk H
   clear H
   go_wp2_with (first | (go_at_call 41; (with_reducible refine (align_given.calls k a0 a1 t213 _ A6.out).mono ?_); rintro e w8 ⟨rfl, hb⟩; have n0_ := Aside0.mk (below_step (by repeat (first | (with_reducible first | exact HB.out | apply below_alloc | apply pw_below_drewN | apply below_drew1) | exact HB.out)) hb); clear HB; have HB := n0_; clear n0_; (try clear hb); (try clear hb2); (try clear hk); (try clear hi)))
   repeat (go_quiet (first | (go_at_call 41; (with_reducible refine (align_given.calls k a0 a1 t213 _ A6.out).mono ?_); (try clear A6); rintro e w8 ⟨rfl, hb⟩; have n0_ := Aside0.mk (below_step (by repeat (first | (with_reducible first | exact HB.out | apply below_alloc | apply pw_below_drewN | apply below_drew1) | exact HB.out)) hb); clear HB; have HB := n0_; clear n0_; (try clear hb); (try clear hb2); (try clear hk); (try clear hi))); try go_wp2_with (first | (go_at_call 41; (with_reducible refine (align_given.calls k a0 a1 t213 _ A6.out).mono ?_); (try clear A6); rintro e w8 ⟨rfl, hb⟩; have n0_ := Aside0.mk (below_step (by repeat (first | (with_reducible first | exact HB.out | apply below_alloc | apply pw_below_drewN | apply below_drew1) | exact HB.out)) hb); clear HB; have HB := n0_; clear n0_; (try clear hb); (try clear hb2); (try clear hk); (try clear hi))))
   go_meet
   case rel => exact ⟨_, (((l3.length : Int) != (wrap64 ((a0.size : Int) + 1)))), (by first | rfl | (simp; done) | (simp [*]; done)), H', ⟨by first | omega | exact Nat.le_refl _⟩, ⟨by repeat (first | (with_reducible first | exact HB.out | apply below_alloc | apply pw_below_drewN | apply below_drew1) | exact HB.out)⟩⟩
  ·rw [if_neg c7] at H
   have c7b0 : (t213 == 0) = false := beq_eq_false_iff_ne.mpr c7
   have c7b1 : (t213 != 0) = true := bne_iff_ne.mpr c7
   (first | rw [c7b0] | (simp only [i64_w, i32_w]; rw [c7b0]) | skip)
   have H' := Aside0.mk H
   clear H
   go_wp2_with (first | (go_at_call 41; (with_reducible refine (align_given.calls k a0 a1 t213 _ A6.out).mono ?_); rintro e w9 ⟨rfl, hb⟩; have n0_ := Aside0.mk (below_step (by repeat (first | (with_reducible first | exact HB.out | apply below_alloc | apply pw_below_drewN | apply below_drew1) | exact HB.out)) hb); clear HB; have HB := n0_; clear n0_; (try clear hb); (try clear hb2); (try clear hk); (try clear hi)))
   repeat (go_quiet (first | (go_at_call 41; (with_reducible refine (align_given.calls k a0 a1 t213 _ A6.out).mono ?_); (try clear A6); rintro e w9 ⟨rfl, hb⟩; have n0_ := Aside0.mk (below_step (by repeat (first | (with_reducible first | exact HB.out | apply below_alloc | apply pw_below_drewN | apply below_drew1) | exact HB.out)) hb); clear HB; have HB := n0_; clear n0_; (try clear hb); (try clear hb2); (try clear hk); (try clear hi))); try go_wp2_with (first | (go_at_call 41; (with_reducible refine (align_given.calls k a0 a1 t213 _ A6.out).mono ?_); (try clear A6); rintro e w9 ⟨rfl, hb⟩; have n0_ := Aside0.mk (below_step (by repeat (first | (with_reducible first | exact HB.out | apply below_alloc | apply pw_below_drewN | apply below_drew1) | exact HB.out)) hb); clear HB; have HB := n0_; clear n0_; (try clear hb); (try clear hb2); (try clear hk); (try clear hi))))
   go_meet
   case rel => exact ⟨_, (true), (by first | rfl | (simp; done) | (simp [*]; done)), H', ⟨by first | omega | exact Nat.le_refl _⟩, ⟨by repeat (first | (with_reducible first | exact HB.out | apply below_alloc | apply pw_below_drewN | apply below_drew1) | exact HB.out)⟩⟩
 case rest =>
  clear HC5
  try clear c1
  try clear c2
  try clear p2
  try clear c3
  try clear p6
  try clear c7
  try clear c7b0
  try clear c7b1
  obtain ⟨kq, x32_4, rfl, HA, HJ4, HB⟩ := hcut
  cases kq with
  | zero => exact absurd HA.out (by simp [align_Check.j0])
  | succ kj4 =>
   have H := HA.out
   clear HA
   simp only [align_Check.j0] at H
   by_cases c10 : x32_4 = true
   ·subst c10
    have H1 : (some false) = some r := by rw [if_pos rfl] at H; exact H
    clear H
    have H := H1
    clear H1
    obtain rfl := Option.some.inj H
    go_wp2
    repeat (go_quiet (fail); try go_wp2)
    go_ret
    exact ⟨by first | rfl | (simp [errW_none, errW_some] <;> rfl) | (simp [*, errW_none, errW_some] <;> rfl), by repeat (first | (with_reducible first | exact HB.out | apply below_alloc | apply pw_below_drewN | apply below_drew1) | exact HB.out)⟩
   ·replace c10 := Bool.eq_false_iff.mpr c10
    subst c10
    have H1 : (align_Check.l0 kj4 a0 a1 l2 l3 l3 (l3.length : Int) 0) = some r := by rw [if_neg (show ¬ (false = true) by decide)] at H; exact H
    clear H
    have H := H1
    clear H1
    have H' := Aside0.mk H
    clear H
    go_wp2
    repeat (go_quiet (fail); try go_wp2)
    go_loopg [35] kj4 (fun kq v35 w' => ∃ (x35_2 : Int), v35 = .int .i64 x35_2 ∧ Aside0 (align_Check.l0 kq a0 a1 l2 l3 l3 (l3.length : Int) x35_2 = some r) ∧ Aside0 (kq ≤ kj4) ∧ Aside0 (Below w.heap.size w w'))
    case atStart => exact ⟨(0), (by first | rfl | (simp; done) | (simp [*]; done)), H', ⟨Nat.le_refl _⟩, ⟨by repeat (first | (with_reducible first | exact HB.out | apply below_alloc | apply pw_below_drewN | apply below_drew1) | exact HB.out)⟩⟩
    case round =>
     clear H'
     try clear c1
     try clear c2
     try clear p2
     try clear c3
     try clear p6
     try clear c7
     try clear c7b0
     try clear c7b1
     try clear c10
     try clear p2
     try clear p6
     obtain ⟨x35_2, rfl, HA, HK2, HB⟩ := hrel
     cases gk with
     | zero => exact absurd HA.out (by simp [align_Check.l0])
     | succ k2 =>
      have H := HA.out
      clear HA
      simp only [align_Check.l0] at H
      by_cases c11 : x35_2 < (l3.length : Int)
      ·rw [if_pos c11] at H
       have c11b0 : decide (x35_2 < (l3.length : Int)) = true := decide_eq_true c11
       clear c11
       by_cases c12 : 0 ≤ x35_2
       ·rw [if_pos c12] at H
        have c12b0 : decide (0 ≤ x35_2) = true := decide_eq_true c12
        clear c12
        by_cases c13 : x35_2 < (l3.length : Int)
        ·rw [if_pos c13] at H
         have c13b0 : decide (x35_2 < (l3.length : Int)) = true := decide_eq_true c13
         clear c13
         by_cases c14 : ((rd_L2 l3 x35_2).length : Int) = (wrap64 ((a1.size : Int) + 1))
         ·rw [if_pos c14] at H
          have c14b0 : (((rd_L2 l3 x35_2).length : Int) == (wrap64 ((a1.size : Int) + 1))) = true := beq_iff_eq.mpr c14
          have c14b1 : (((rd_L2 l3 x35_2).length : Int) != (wrap64 ((a1.size : Int) + 1))) = false := bne_eq_false_iff_eq.mpr c14
          clear c14
          have H' := Aside0.mk H
          clear H
          have p214 : 0 ≤ (x35_2 : Int) := of_decide_eq_true (by first | (with_reducible assumption) | assumption)
          have q214 : x35_2 < (l3.length : Int) := of_decide_eq_true (by first | (with_reducible assumption) | assumption)
          obtain ⟨ad214, A214_0, c214_0, e214, hx214_0, hl214_0, hi214_0⟩ := at_L2 HR3.out x35_2 p214 q214
          cases e214
          replace hx214_0 := (HB.out.cell (World.block_lt_of_cell? w _ hx214_0)).trans hx214_0
          have HR214_0 := Aside0.mk hi214_0
          have HC214_0 := Aside0.mk hl214_0
          clear hi214_0 hl214_0
          replace p214 := eq_true p214
          replace q214 := eq_true q214
          go_wp2
          repeat (go_quiet (fail); try go_wp2)
          go_roundg k2
          case measure => have := HJ4.out; have := HK2.out; omega
          case rel => exact ⟨(wrap64 (x35_2 + 1)), (by first | rfl | (simp; done) | (simp [*]; done)), H', ⟨by have := HJ4.out; have := HK2.out; omega⟩, ⟨by repeat (first | (with_reducible first | exact HB.out | apply below_alloc | apply pw_below_drewN | apply below_drew1) | exact HB.out)⟩⟩
         ·rw [if_neg c14] at H
          have c14b0 : (((rd_L2 l3 x35_2).length : Int) == (wrap64 ((a1.size : Int) + 1))) = false := beq_eq_false_iff_ne.mpr c14
          have c14b1 : (((rd_L2 l3 x35_2).length : Int) != (wrap64 ((a1.size : Int) + 1))) = true := bne_iff_ne.mpr c14
          obtain rfl := Option.some.inj H
          have p214 : 0 ≤ (x35_2 : Int) := of_decide_eq_true (by first | (with_reducible assumption) | assumption)
          have q214 : x35_2 < (l3.length : Int) := of_decide_eq_true (by first | (with_reducible assumption) | assumption)
          obtain ⟨ad214, A214_0, c214_0, e214, hx214_0, hl214_0, hi214_0⟩ := at_L2 HR3.out x35_2 p214 q214
          cases e214
          replace hx214_0 := (HB.out.cell (World.block_lt_of_cell? w _ hx214_0)).trans hx214_0
          have HR214_0 := Aside0.mk hi214_0
          have HC214_0 := Aside0.mk hl214_0
          clear hi214_0 hl214_0
          replace p214 := eq_true p214
          replace q214 := eq_true q214
          go_wp2
          repeat (go_quiet (fail); try go_wp2)
          go_ret
          exact ⟨by first | rfl | (simp [errW_none, errW_some] <;> rfl) | (simp [*, errW_none, errW_some] <;> rfl), by repeat (first | (with_reducible first | exact HB.out | apply below_alloc | apply pw_below_drewN | apply below_drew1) | exact HB.out)⟩
        ·rw [if_neg c13] at H
         exact absurd H (by simp)
       ·rw [if_neg c12] at H
        exact absurd H (by simp)
      ·rw [if_neg c11] at H
       have c11b0 : decide (x35_2 < (l3.length : Int)) = false := decide_eq_false c11
       clear c11
       replace H := Option.bind_eq_some_iff.mp H
       obtain ⟨⟨t215, t216⟩, A150, H⟩ := H
       replace H : (if t216 = true then (if 0 < (l3.length : Int) then (if 0 < ((rd_L2 l3 0).length : Int) then (if t215 = (rd (rd_L2 l3 0) 0) then (if 0 ≤ (a0.size : Int) then (if (a0.size : Int) < (l3.length : Int) then (if 0 ≤ (a1.size : Int) then (if (a1.size : Int) < ((rd_L2 l3 (a0.size : Int)).length : Int) then (align_Check.j2 k2 a0 a1 l3 ((rd (rd_L2 l3 (a0.size : Int)) (a1.size : Int)) != 0)) else (none)) else (none)) else (none)) else (none)) else (align_Check.j2 k2 a0 a1 l3 true)) else (none)) else (none)) else (align_Check.j2 k2 a0 a1 l3 true)) = some r := H
       have A15 := Aside0.mk A150
       clear A150
       have HC16 := Aside0.mk H
       clear H
       go_upto_region 10 with (first | (go_at_call 42; (with_reducible refine (align_walk_nil.calls k2 a0 a1 _ _ l2  t215 t216 _ ?side1 ?side2 A15.out).mono ?_); (case side1 => repeat (first | exact (Kd.C_below HR2.out HB.out) | (with_reducible refine Kd.C_alloc ?_ _) | (with_reducible refine Kd.C_drewN ?_ _) | (with_reducible refine Kd.C_drew ?_))); (case side2 => exact HC2.out); rintro e w17 ⟨rfl, hb⟩; have n0_ := Aside0.mk (below_step (by repeat (first | (with_reducible first | exact HB.out | apply below_alloc | apply pw_below_drewN | apply below_drew1) | exact HB.out)) hb); clear HB; have HB := n0_; clear n0_; (try clear hb); (try clear hb2); (try clear hk); (try clear hi)))
       repeat (go_quiet (first | (go_at_call 42; (with_reducible refine (align_walk_nil.calls k2 a0 a1 _ _ l2  t215 t216 _ ?side1 ?side2 A15.out).mono ?_); (case side1 => repeat (first | exact (Kd.C_below HR2.out HB.out) | (with_reducible refine Kd.C_alloc ?_ _) | (with_reducible refine Kd.C_drewN ?_ _) | (with_reducible refine Kd.C_drew ?_))); (case side2 => exact HC2.out); (try clear A15); rintro e w17 ⟨rfl, hb⟩; have n0_ := Aside0.mk (below_step (by repeat (first | (with_reducible first | exact HB.out | apply below_alloc | apply pw_below_drewN | apply below_drew1) | exact HB.out)) hb); clear HB; have HB := n0_; clear n0_; (try clear hb); (try clear hb2); (try clear hk); (try clear hi))); go_upto_region 10 with (first | (go_at_call 42; (with_reducible refine (align_walk_nil.calls k2 a0 a1 _ _ l2  t215 t216 _ ?side1 ?side2 A15.out).mono ?_); (case side1 => repeat (first | exact (Kd.C_below HR2.out HB.out) | (with_reducible refine Kd.C_alloc ?_ _) | (with_reducible refine Kd.C_drewN ?_ _) | (with_reducible refine Kd.C_drew ?_))); (case side2 => exact HC2.out); (try clear A15); rintro e w17 ⟨rfl, hb⟩; have n0_ := Aside0.mk (below_step (by repeat (first | (with_reducible first | exact HB.out | apply below_alloc | apply pw_below_drewN | apply below_drew1) | exact HB.out)) hb); clear HB; have HB := n0_; clear n0_; (try clear hb); (try clear hb2); (try clear hk); (try clear hi))))
       (try simp only [Act.put, List.setIfInBounds_toArray, List.set_cons_zero, List.set_cons_succ])
       go_cut [75] (fun v75 wc => ∃ (kq : Nat) (x75_15 : Bool), v75 = .bool x75_15 ∧ Aside0 (align_Check.j2 kq a0 a1 l3 x75_15 = some r) ∧ Aside0 (kq ≤ k2) ∧ Aside0 (Below w.heap.size w wc))
       case first =>
        have H := HC16.out
        clear HC16
        by_cases c18 : t216 = true
        ·subst c18
         have H1 : (if 0 < (l3.length : Int) then (if 0 < ((rd_L2 l3 0).length : Int) then (if t215 = (rd (rd_L2 l3 0) 0) then (if 0 ≤ (a0.size : Int) then (if (a0.size : Int) < (l3.length : Int) then (if 0 ≤ (a1.size : Int) then (if (a1.size : Int) < ((rd_L2 l3 (a0.size : Int)).length : Int) then (align_Check.j2 k2 a0 a1 l3 ((rd (rd_L2 l3 (a0.size : Int)) (a1.size : Int)) != 0)) else (none)) else (none)) else (none)) else (none)) else (align_Check.j2 k2 a0 a1 l3 true)) else (none)) else (none)) = some r := by rw [if_pos rfl] at H; exact H
         clear H
         have H := H1
         clear H1
         by_cases c19 : 0 < (l3.length : Int)
         ·rw [if_pos c19] at H
          have c19b0 : decide (0 < (l3.length : Int)) = true := decide_eq_true c19
          have c19b1 : decide (0 < l3.length) = true := decide_eq_true (by omega)
          clear c19
          (first | rw [c19b0] | (simp only [i64_w, i32_w]; rw [c19b0]) | skip)
          by_cases c20 : 0 < ((rd_L2 l3 0).length : Int)
          ·rw [if_pos c20] at H
           have c20b0 : decide (0 < ((rd_L2 l3 0).length : Int)) = true := decide_eq_true c20
           have c20b1 : decide (0 < (rd_L2 l3 0).length) = true := decide_eq_true (by omega)
           clear c20
           by_cases c21 : t215 = (rd (rd_L2 l3 0) 0)
           ·rw [if_pos c21] at H
            have c21b0 : (t215 == (rd (rd_L2 l3 0) 0)) = true := beq_iff_eq.mpr c21
            have c21b1 : (t215 != (rd (rd_L2 l3 0) 0)) = false := bne_eq_false_iff_eq.mpr c21
            clear c21
            by_cases c22 : 0 ≤ (a0.size : Int)
            ·rw [if_pos c22] at H
             have c22b0 : decide (0 ≤ (a0.size : Int)) = true := decide_eq_true c22
             have c22b1 : decide (0 ≤ a0.size) = true := decide_eq_true (by omega)
             clear c22
             by_cases c23 : (a0.size : Int) < (l3.length : Int)
             ·rw [if_pos c23] at H
              have c23b0 : decide ((a0.size : Int) < (l3.length : Int)) = true := decide_eq_true c23
              have c23b1 : decide (a0.size < l3.length) = true := decide_eq_true (Int.ofNat_lt.mp c23)
              clear c23
              by_cases c24 : 0 ≤ (a1.size : Int)
              ·rw [if_pos c24] at H
               have c24b0 : decide (0 ≤ (a1.size : Int)) = true := decide_eq_true c24
               have c24b1 : decide (0 ≤ a1.size) = true := decide_eq_true (by omega)
               clear c24
               by_cases c25 : (a1.size : Int) < ((rd_L2 l3 (a0.size : Int)).length : Int)
               ·rw [if_pos c25] at H
                have c25b0 : decide ((a1.size : Int) < ((rd_L2 l3 (a0.size : Int)).length : Int)) = true := decide_eq_true c25
                have c25b1 : decide (a1.size < (rd_L2 l3 (a0.size : Int)).length) = true := decide_eq_true (Int.ofNat_lt.mp c25)
                clear c25
                have H' := Aside0.mk H
                clear H
                have p217 : 0 ≤ (0 : Int) := (by omega)
                have q217 : 0 < (l3.length : Int) := of_decide_eq_true (by first | (with_reducible assumption) | assumption)
                obtain ⟨ad217, A217_0, c217_0, e217, hx217_0, hl217_0, hi217_0⟩ := at_L2 HR3.out 0 p217 q217
                cases e217
                have qi217 : (0 < l3.length) = True := eq_true (by omega)
                (try rw [show ((0 : Int)).toNat = 0 from rfl] at hx217_0)
                (try rw [Addr.add_zero'] at hx217_0)
                replace hx217_0 := (HB.out.cell (World.block_lt_of_cell? w _ hx217_0)).trans hx217_0
                have HR217_0 := Aside0.mk hi217_0
                have HC217_0 := Aside0.mk hl217_0
                clear hi217_0 hl217_0
                replace p217 := eq_true p217
                replace q217 := eq_true q217
                have p218 : 0 ≤ (0 : Int) := (by omega)
                have q218 : 0 < ((rd_L2 l3 0).length : Int) := of_decide_eq_true (by first | (with_reducible assumption) | assumption)
                obtain ⟨ad218, e218, hx218_0⟩ := Kd.at_int HR217_0.out 0 p218 q218
                cases e218
                have qi218 : (0 < (rd_L2 l3 0).length) = True := eq_true (by omega)
                (try rw [show ((0 : Int)).toNat = 0 from rfl] at hx218_0)
                (try rw [Addr.add_zero'] at hx218_0)
                replace hx218_0 := (HB.out.cell (World.block_lt_of_cell? w _ hx218_0)).trans hx218_0
                replace p218 := eq_true p218
                replace q218 := eq_true q218
                have p219 : 0 ≤ ((a0.size : Int) : Int) := of_decide_eq_true (by first | (with_reducible assumption) | assumption)
                have q219 : (a0.size : Int) < (l3.length : Int) := of_decide_eq_true (by first | (with_reducible assumption) | assumption)
                obtain ⟨ad219, A219_0, c219_0, e219, hx219_0, hl219_0, hi219_0⟩ := at_L2 HR3.out (a0.size : Int) p219 q219
                (try simp only [Int.toNat_natCast] at hx219_0)
                obtain rfl : ad217 = ad219 := (by injection e219)
                replace hx219_0 := (HB.out.cell (World.block_lt_of_cell? w _ hx219_0)).trans hx219_0
                have HR219_0 := Aside0.mk hi219_0
                have HC219_0 := Aside0.mk hl219_0
                clear hi219_0 hl219_0
                replace p219 := eq_true p219
                replace q219 := eq_true q219
                have p220 : 0 ≤ ((a1.size : Int) : Int) := of_decide_eq_true (by first | (with_reducible assumption) | assumption)
                have q220 : (a1.size : Int) < ((rd_L2 l3 (a0.size : Int)).length : Int) := of_decide_eq_true (by first | (with_reducible assumption) | assumption)
                obtain ⟨ad220, e220, hx220_0⟩ := Kd.at_int HR219_0.out (a1.size : Int) p220 q220
                (try simp only [Int.toNat_natCast] at hx220_0)
                cases e220
                replace hx220_0 := (HB.out.cell (World.block_lt_of_cell? w _ hx220_0)).trans hx220_0
                replace p220 := eq_true p220
                replace q220 := eq_true q220
                go_wp2
                repeat (go_quiet (fail); try go_wp2)
                go_meet
                case rel => exact ⟨_, (((rd (rd_L2 l3 (a0.size : Int)) (a1.size : Int)) != 0)), (by first | rfl | (simp; done) | (simp [*]; done)), H', ⟨by have := HJ4.out; have := HK2.out; first | omega | exact Nat.le_refl _⟩, ⟨by repeat (first | (with_reducible first | exact HB.out | apply below_alloc | apply pw_below_drewN | apply below_drew1) | exact HB.out)⟩⟩
               ·rw [if_neg c25] at H
                exact absurd H (by simp)
              ·rw [if_neg c24] at H
               exact absurd H (by simp)
             ·rw [if_neg c23] at H
              exact absurd H (by simp)
            ·rw [if_neg c22] at H
             exact absurd H (by simp)
           ·rw [if_neg c21] at H
            have c21b0 : (t215 == (rd (rd_L2 l3 0) 0)) = false := beq_eq_false_iff_ne.mpr c21
            have c21b1 : (t215 != (rd (rd_L2 l3 0) 0)) = true := bne_iff_ne.mpr c21
            have H' := Aside0.mk H
            clear H
            have p217 : 0 ≤ (0 : Int) := (by omega)
            have q217 : 0 < (l3.length : Int) := of_decide_eq_true (by first | (with_reducible assumption) | assumption)
            obtain ⟨ad217, A217_0, c217_0, e217, hx217_0, hl217_0, hi217_0⟩ := at_L2 HR3.out 0 p217 q217
            cases e217
            have qi217 : (0 < l3.length) = True := eq_true (by omega)
            (try rw [show ((0 : Int)).toNat = 0 from rfl] at hx217_0)
            (try rw [Addr.add_zero'] at hx217_0)
            replace hx217_0 := (HB.out.cell (World.block_lt_of_cell? w _ hx217_0)).trans hx217_0
            have HR217_0 := Aside0.mk hi217_0
            have HC217_0 := Aside0.mk hl217_0
            clear hi217_0 hl217_0
            replace p217 := eq_true p217
            replace q217 := eq_true q217
            have p218 : 0 ≤ (0 : Int) := (by omega)
            have q218 : 0 < ((rd_L2 l3 0).length : Int) := of_decide_eq_true (by first | (with_reducible assumption) | assumption)
            obtain ⟨ad218, e218, hx218_0⟩ := Kd.at_int HR217_0.out 0 p218 q218
            cases e218
            have qi218 : (0 < (rd_L2 l3 0).length) = True := eq_true (by omega)
            (try rw [show ((0 : Int)).toNat = 0 from rfl] at hx218_0)
            (try rw [Addr.add_zero'] at hx218_0)
            replace hx218_0 := (HB.out.cell (World.block_lt_of_cell? w _ hx218_0)).trans hx218_0
            replace p218 := eq_true p218
            replace q218 := eq_true q218
            go_wp2
            repeat (go_quiet (fail); try go_wp2)
            go_meet
            case rel => exact ⟨_, (true), (by first | rfl | (simp; done) | (simp [*]; done)), H', ⟨by have := HJ4.out; have := HK2.out; first | omega | exact Nat.le_refl _⟩, ⟨by repeat (first | (with_reducible first | exact HB.out | apply below_alloc | apply pw_below_drewN | apply below_drew1) | exact HB.out)⟩⟩
          ·rw [if_neg c20] at H
           exact absurd H (by simp)
         ·rw [if_neg c19] at H
          exact absurd H (by simp)
        ·replace c18 := Bool.eq_false_iff.mpr c18
         subst c18
         have H1 : (align_Check.j2 k2 a0 a1 l3 true) = some r := by rw [if_neg (show ¬ (false = true) by decide)] at H; exact H
         clear H
         have H := H1
         clear H1
         have H' := Aside0.mk H
         clear H
         go_wp2
         repeat (go_quiet (fail); try go_wp2)
         go_meet
         case rel => exact ⟨_, (true), (by first | rfl | (simp; done) | (simp [*]; done)), H', ⟨by have := HJ4.out; have := HK2.out; first | omega | exact Nat.le_refl _⟩, ⟨by repeat (first | (with_reducible first | exact HB.out | apply below_alloc | apply pw_below_drewN | apply below_drew1) | exact HB.out)⟩⟩
       case rest =>
        clear HC16
        try clear c1
        try clear c2
        try clear p2
        try clear q2
        try clear hx2
        try clear qi2
        try clear c3
        try clear p6
        try clear c7
        try clear c7b0
        try clear c7b1
        try clear c10
        try clear c11
        try clear c11b0
        try clear c12
        try clear c12b0
        try clear c13
        try clear c13b0
        try clear c14
        try clear c14b0
        try clear c14b1
        try clear c18
        try clear c19
        try clear c19b0
        try clear c19b1
        try clear c20
        try clear c20b0
        try clear c20b1
        try clear c21
        try clear c21b0
        try clear c21b1
        try clear p21
        try clear q21
        try clear hx21
        try clear qi21
        try clear c22
        try clear c22b0
        try clear c22b1
        try clear p22
        try clear q22
        try clear hx22
        try clear c23
        try clear c23b0
        try clear c23b1
        try clear c24
        try clear c24b0
        try clear c24b1
        try clear c25
        try clear c25b0
        try clear c25b1
        try clear hx214_0
        try clear hx217_0
        try clear hx218_0
        try clear hx219_0
        try clear hx220_0
        try clear p2
        try clear p214
        try clear p217
        try clear p218
        try clear p219
        try clear p220
        try clear p6
        try clear q214
        try clear q217
        try clear q218
        try clear q219
        try clear q220
        obtain ⟨kq, x75_15, rfl, HA, HJ15, HB⟩ := hcut
        cases kq with
        | zero => exact absurd HA.out (by simp [align_Check.j2])
        | succ kj15 =>
         have H := HA.out
         clear HA
         simp only [align_Check.j2] at H
         by_cases c26 : x75_15 = true
         ·subst c26
          have H1 : (some false) = some r := by rw [if_pos rfl] at H; exact H
          clear H
          have H := H1
          clear H1
          obtain rfl := Option.some.inj H
          go_wp2
          repeat (go_quiet (fail); try go_wp2)
          go_ret
          exact ⟨by first | rfl | (simp [errW_none, errW_some] <;> rfl) | (simp [*, errW_none, errW_some] <;> rfl), by repeat (first | (with_reducible first | exact HB.out | apply below_alloc | apply pw_below_drewN | apply below_drew1) | exact HB.out)⟩
         ·replace c26 := Bool.eq_false_iff.mpr c26
          subst c26
          have H1 : (align_Check.l1 kj15 a0 a1 l3 l3 (l3.length : Int) 0) = some r := by rw [if_neg (show ¬ (false = true) by decide)] at H; exact H
          clear H
          have H := H1
          clear H1
          have H' := Aside0.mk H
          clear H
          go_wp2
          repeat (go_quiet (fail); try go_wp2)
          go_loopg [78] kj15 (fun kq v78 w' => ∃ (x78_4 : Int), v78 = .int .i64 x78_4 ∧ Aside0 (align_Check.l1 kq a0 a1 l3 l3 (l3.length : Int) x78_4 = some r) ∧ Aside0 (kq ≤ kj15) ∧ Aside0 (Below w.heap.size w w'))
          case atStart => exact ⟨(0), (by first | rfl | (simp; done) | (simp [*]; done)), H', ⟨Nat.le_refl _⟩, ⟨by repeat (first | (with_reducible first | exact HB.out | apply below_alloc | apply pw_below_drewN | apply below_drew1) | exact HB.out)⟩⟩
          case round =>
           clear H'
           try clear c1
           try clear c2
           try clear p2
           try clear q2
           try clear hx2
           try clear qi2
           try clear c3
           try clear p6
           try clear c7
           try clear c7b0
           try clear c7b1
           try clear c10
           try clear c11
           try clear c11b0
           try clear c12
           try clear c12b0
           try clear c13
           try clear c13b0
           try clear c14
           try clear c14b0
           try clear c14b1
           try clear c18
           try clear c19
           try clear c19b0
           try clear c19b1
           try clear c20
           try clear c20b0
           try clear c20b1
           try clear c21
           try clear c21b0
           try clear c21b1
           try clear p21
           try clear q21
           try clear hx21
           try clear qi21
           try clear c22
           try clear c22b0
           try clear c22b1
           try clear p22
           try clear q22
           try clear hx22
           try clear c23
           try clear c23b0
           try clear c23b1
           try clear c24
           try clear c24b0
           try clear c24b1
           try clear c25
           try clear c25b0
           try clear c25b1
           try clear c26
           try clear hx214_0
           try clear hx217_0
           try clear hx218_0
           try clear hx219_0
           try clear hx220_0
           try clear p2
           try clear p21
           try clear p214
           try clear p217
           try clear p218
           try clear p219
           try clear p22
           try clear p220
           try clear p6
           try clear q2
           try clear q21
           try clear q214
           try clear q217
           try clear q218
           try clear q219
           try clear q22
           try clear q220
           obtain ⟨x78_4, rfl, HA, HK4, HB⟩ := hrel
           cases gk with
           | zero => exact absurd HA.out (by simp [align_Check.l1])
           | succ k4 =>
            have H := HA.out
            clear HA
            simp only [align_Check.l1] at H
            by_cases c27 : x78_4 < (l3.length : Int)
            ·rw [if_pos c27] at H
             have c27b0 : decide (x78_4 < (l3.length : Int)) = true := decide_eq_true c27
             clear c27
             by_cases c28 : 0 ≤ x78_4
             ·rw [if_pos c28] at H
              have c28b0 : decide (0 ≤ x78_4) = true := decide_eq_true c28
              clear c28
              by_cases c29 : x78_4 < (l3.length : Int)
              ·rw [if_pos c29] at H
               have c29b0 : decide (x78_4 < (l3.length : Int)) = true := decide_eq_true c29
               clear c29
               have H' := Aside0.mk H
               clear H
               have p221 : 0 ≤ (x78_4 : Int) := of_decide_eq_true (by first | (with_reducible assumption) | assumption)
               have q221 : x78_4 < (l3.length : Int) := of_decide_eq_true (by first | (with_reducible assumption) | assumption)
               obtain ⟨ad221, A221_0, c221_0, e221, hx221_0, hl221_0, hi221_0⟩ := at_L2 HR3.out x78_4 p221 q221
               cases e221
               replace hx221_0 := (HB.out.cell (World.block_lt_of_cell? w _ hx221_0)).trans hx221_0
               have HR221_0 := Aside0.mk hi221_0
               have HC221_0 := Aside0.mk hl221_0
               clear hi221_0 hl221_0
               replace p221 := eq_true p221
               replace q221 := eq_true q221
               go_wp2
               repeat (go_quiet (fail); try go_wp2)
               go_loopg [85] k4 (fun kq v85 w' => ∃ (x85_5 : Int), v85 = .int .i64 x85_5 ∧ Aside0 (align_Check.l2 kq a0 a1 l3 x78_4 l3 (l3.length : Int) x78_4 (rd_L2 l3 x78_4) ((rd_L2 l3 x78_4).length : Int) x85_5 = some r) ∧ Aside0 (kq ≤ k4) ∧ Aside0 (Below w.heap.size w w'))
               case atStart => exact ⟨(0), (by first | rfl | (simp; done) | (simp [*]; done)), H', ⟨Nat.le_refl _⟩, ⟨by repeat (first | (with_reducible first | exact HB.out | apply below_alloc | apply pw_below_drewN | apply below_drew1) | exact HB.out)⟩⟩
               case round =>
                clear H'
                try clear c1
                try clear c2
                try clear p2
                try clear q2
                try clear hx2
                try clear qi2
                try clear c3
                try clear p6
                try clear c7
                try clear c7b0
                try clear c7b1
                try clear c10
                try clear c11
                try clear c11b0
                try clear c12
                try clear c12b0
                try clear c13
                try clear c13b0
                try clear c14
                try clear c14b0
                try clear c14b1
                try clear c18
                try clear c19
                try clear c19b0
                try clear c19b1
                try clear c20
                try clear c20b0
                try clear c20b1
                try clear c21
                try clear c21b0
                try clear c21b1
                try clear p21
                try clear q21
                try clear hx21
                try clear qi21
                try clear c22
                try clear c22b0
                try clear c22b1
                try clear p22
                try clear q22
                try clear hx22
                try clear c23
                try clear c23b0
                try clear c23b1
                try clear c24
                try clear c24b0
                try clear c24b1
                try clear c25
                try clear c25b0
                try clear c25b1
                try clear c26
                try clear c27
                try clear c27b0
                try clear c28
                try clear c28b0
                try clear c29
                try clear c29b0
                try clear hx214_0
                try clear hx217_0
                try clear hx218_0
                try clear hx219_0
                try clear hx220_0
                try clear hx221_0
                try clear p2
                try clear p21
                try clear p214
                try clear p217
                try clear p218
                try clear p219
                try clear p22
                try clear p220
                try clear p221
                try clear p6
                try clear q2
                try clear q21
                try clear q214
                try clear q217
                try clear q218
                try clear q219
                try clear q22
                try clear q220
                try clear q221
                obtain ⟨x85_5, rfl, HA, HK5, HB⟩ := hrel
                cases gk with
                | zero => exact absurd HA.out (by simp [align_Check.l2])
                | succ k5 =>
                 have H := HA.out
                 clear HA
                 simp only [align_Check.l2] at H
                 by_cases c30 : x85_5 < ((rd_L2 l3 x78_4).length : Int)
                 ·rw [if_pos c30] at H
                  have c30b0 : decide (x85_5 < ((rd_L2 l3 x78_4).length : Int)) = true := decide_eq_true c30
                  clear c30
                  by_cases c31 : 0 ≤ x85_5
                  ·rw [if_pos c31] at H
                   have c31b0 : decide (0 ≤ x85_5) = true := decide_eq_true c31
                   clear c31
                   by_cases c32 : x85_5 < ((rd_L2 l3 x78_4).length : Int)
                   ·rw [if_pos c32] at H
                    have c32b0 : decide (x85_5 < ((rd_L2 l3 x78_4).length : Int)) = true := decide_eq_true c32
                    clear c32
                    have H' := Aside0.mk H
                    clear H
                    have p222 : 0 ≤ (x85_5 : Int) := of_decide_eq_true (by first | (with_reducible assumption) | assumption)
                    have q222 : x85_5 < ((rd_L2 l3 x78_4).length : Int) := of_decide_eq_true (by first | (with_reducible assumption) | assumption)
                    obtain ⟨ad222, e222, hx222_0⟩ := Kd.at_int HR221_0.out x85_5 p222 q222
                    cases e222
                    replace hx222_0 := (HB.out.cell (World.block_lt_of_cell? w _ hx222_0)).trans hx222_0
                    replace p222 := eq_true p222
                    replace q222 := eq_true q222
                    go_wp2
                    repeat (go_quiet (fail); try go_wp2)
                    go_loopg [90] k5 (fun kq v90 w' => ∃ (x90_6 : Int), v90 = .int .i64 x90_6 ∧ Aside0 (align_Check.l3 kq a0 a1 l3 x78_4 x85_5 (rd (rd_L2 l3 x78_4) x85_5) l3 (l3.length : Int) x78_4 (rd_L2 l3 x78_4) ((rd_L2 l3 x78_4).length : Int) x85_5 x90_6 = some r) ∧ Aside0 (kq ≤ k5) ∧ Aside0 (Below w.heap.size w w'))
                    case atStart => exact ⟨(0), (by first | rfl | (simp; done) | (simp [*]; done)), H', ⟨Nat.le_refl _⟩, ⟨by repeat (first | (with_reducible first | exact HB.out | apply below_alloc | apply pw_below_drewN | apply below_drew1) | exact HB.out)⟩⟩
                    case round =>
                     clear H'
                     try clear c1
                     try clear c2
                     try clear p2
                     try clear q2
                     try clear hx2
                     try clear qi2
                     try clear c3
                     try clear p6
                     try clear c7
                     try clear c7b0
                     try clear c7b1
                     try clear c10
                     try clear c11
                     try clear c11b0
                     try clear c12
                     try clear c12b0
                     try clear c13
                     try clear c13b0
                     try clear c14
                     try clear c14b0
                     try clear c14b1
                     try clear c18
                     try clear c19
                     try clear c19b0
                     try clear c19b1
                     try clear c20
                     try clear c20b0
                     try clear c20b1
                     try clear c21
                     try clear c21b0
                     try clear c21b1
                     try clear p21
                     try clear q21
                     try clear hx21
                     try clear qi21
                     try clear c22
                     try clear c22b0
                     try clear c22b1
                     try clear p22
                     try clear q22
                     try clear hx22
                     try clear c23
                     try clear c23b0
                     try clear c23b1
                     try clear c24
                     try clear c24b0
                     try clear c24b1
                     try clear c25
                     try clear c25b0
                     try clear c25b1
                     try clear c26
                     try clear c27
                     try clear c27b0
                     try clear c28
                     try clear c28b0
                     try clear c29
                     try clear c29b0
                     try clear c30
                     try clear c30b0
                     try clear c31
                     try clear c31b0
                     try clear c32
                     try clear c32b0
                     try clear hx214_0
                     try clear hx217_0
                     try clear hx218_0
                     try clear hx219_0
                     try clear hx220_0
                     try clear hx221_0
                     try clear hx222_0
                     try clear p2
                     try clear p21
                     try clear p214
                     try clear p217
                     try clear p218
                     try clear p219
                     try clear p22
                     try clear p220
                     try clear p221
                     try clear p222
                     try clear p6
                     try clear q2
                     try clear q21
                     try clear q214
                     try clear q217
                     try clear q218
                     try clear q219
                     try clear q22
                     try clear q220
                     try clear q221
                     try clear q222
                     obtain ⟨x90_6, rfl, HA, HK6, HB⟩ := hrel
                     cases gk with
                     | zero => exact absurd HA.out (by simp [align_Check.l3])
                     | succ k6 =>
                      have H := HA.out
                      clear HA
                      simp only [align_Check.l3] at H
                      by_cases c33 : x90_6 < 5
                      ·rw [if_pos c33] at H
                       have c33b0 : decide (x90_6 < 5) = true := decide_eq_true c33
                       clear c33
                       replace H := Option.bind_eq_some_iff.mp H
                       obtain ⟨⟨t223, t224, t225, t226⟩, A340, H⟩ := H
                       replace H : (if t226 = true then (if 0 ≤ t223 then (if t223 < (l3.length : Int) then (if 0 ≤ t224 then (if t224 < ((rd_L2 l3 t223).length : Int) then (if (rd (rd_L2 l3 x78_4) x85_5) > (wrap64 (t225 + (rd (rd_L2 l3 t223) t224))) then (some false) else (align_Check.l3 k6 a0 a1 l3 x78_4 x85_5 (rd (rd_L2 l3 x78_4) x85_5) l3 (l3.length : Int) x78_4 (rd_L2 l3 x78_4) ((rd_L2 l3 x78_4).length : Int) x85_5 (wrap64 (x90_6 + 1)))) else (none)) else (none)) else (none)) else (none)) else (align_Check.l3 k6 a0 a1 l3 x78_4 x85_5 (rd (rd_L2 l3 x78_4) x85_5) l3 (l3.length : Int) x78_4 (rd_L2 l3 x78_4) ((rd_L2 l3 x78_4).length : Int) x85_5 (wrap64 (x90_6 + 1)))) = some r := H
                       have A34 := Aside0.mk A340
                       clear A340
                       by_cases c35 : t226 = true
                       ·subst c35
                        have H1 : (if 0 ≤ t223 then (if t223 < (l3.length : Int) then (if 0 ≤ t224 then (if t224 < ((rd_L2 l3 t223).length : Int) then (if (rd (rd_L2 l3 x78_4) x85_5) > (wrap64 (t225 + (rd (rd_L2 l3 t223) t224))) then (some false) else (align_Check.l3 k6 a0 a1 l3 x78_4 x85_5 (rd (rd_L2 l3 x78_4) x85_5) l3 (l3.length : Int) x78_4 (rd_L2 l3 x78_4) ((rd_L2 l3 x78_4).length : Int) x85_5 (wrap64 (x90_6 + 1)))) else (none)) else (none)) else (none)) else (none)) = some r := by rw [if_pos rfl] at H; exact H
                        clear H
                        have H := H1
                        clear H1
                        by_cases c36 : 0 ≤ t223
                        ·rw [if_pos c36] at H
                         have c36b0 : decide (0 ≤ t223) = true := decide_eq_true c36
                         clear c36
                         by_cases c37 : t223 < (l3.length : Int)
                         ·rw [if_pos c37] at H
                          have c37b0 : decide (t223 < (l3.length : Int)) = true := decide_eq_true c37
                          clear c37
                          by_cases c38 : 0 ≤ t224
                          ·rw [if_pos c38] at H
                           have c38b0 : decide (0 ≤ t224) = true := decide_eq_true c38
                           clear c38
                           by_cases c39 : t224 < ((rd_L2 l3 t223).length : Int)
                           ·rw [if_pos c39] at H
                            have c39b0 : decide (t224 < ((rd_L2 l3 t223).length : Int)) = true := decide_eq_true c39
                            clear c39
                            by_cases c40 : (rd (rd_L2 l3 x78_4) x85_5) > (wrap64 (t225 + (rd (rd_L2 l3 t223) t224)))
                            ·rw [if_pos c40] at H
                             have c40b0 : decide ((wrap64 (t225 + (rd (rd_L2 l3 t223) t224))) < (rd (rd_L2 l3 x78_4) x85_5)) = true := decide_eq_true c40
                             clear c40
                             obtain rfl := Option.some.inj H
                             go_wp2_with (first | (go_at_call 43; (with_reducible refine (align_step.calls k6 a0 a1 x78_4 x85_5 x90_6 t223 t224 t225 true _ A34.out).mono ?_); rintro e w41 ⟨rfl, hb⟩; have n0_ := Aside0.mk (below_step (by repeat (first | (with_reducible first | exact HB.out | apply below_alloc | apply pw_below_drewN | apply below_drew1) | exact HB.out)) hb); clear HB; have HB := n0_; clear n0_; (try clear hb); (try clear hb2); (try clear hk); (try clear hi)) | ((with_reducible refine gate_dst (N := 18) rfl ?_); (try (refine gate_guard (by rfl) ?_; dsimp only)); refine box_event ?hg (N := 18) ?hd (cs := #[.int .i64 0, .int .i64 0]) (t := 60) ?hr ?_; (case hd => rfl); (case hg => rfl); (case hr => first | (go_simp; done) | (go_simp; rfl)); intro gb227 hg w42 hbox hb; have n0_ := Aside0.mk (below_step (by repeat (first | (with_reducible first | exact HB.out | apply below_alloc | apply pw_below_drewN | apply below_drew1) | exact HB.out)) hb); have n1_ := Aside0.mk (hbox); have n2_ := Aside0.mk ((by rw [hg]; exact (below_size (by repeat (first | (with_reducible first | exact HB.out | apply below_alloc | apply pw_below_drewN | apply below_drew1) | exact HB.out))) : w.heap.size ≤ gb227)); have n3_ := Aside0.mk ((by rw [hg]; exact (below_size (by repeat (first | (with_reducible first | exact HB.out | apply below_alloc | apply pw_below_drewN | apply below_drew1) | exact HB.out))) : w.heap.size ≤ gb227)); clear HB; have HB := n0_; have BK227 := n1_; have GW227 := n2_; have GE227 := n3_; clear n0_ n1_ n2_ n3_; clear hb hbox hg; have hcz43_0 : w42.cell? ⟨gb227, 0, none⟩ = some (.int .i64 0) := (blk_cell BK227.out 0).trans rfl; have hcz43_1 : w42.cell? ⟨gb227, 1, none⟩ = some (.int .i64 0) := (blk_cell BK227.out 1).trans rfl; have hfz43_0 := blk_frozen BK227.out 0; have hfz43_1 := blk_frozen BK227.out 1; have p228 : 0 ≤ (t223 : Int) := of_decide_eq_true (by first | (with_reducible assumption) | assumption); have q228 : t223 < (l3.length : Int) := of_decide_eq_true (by first | (with_reducible assumption) | assumption); obtain ⟨ad228, A228_0, c228_0, e228, hx228_0, hl228_0, hi228_0⟩ := at_L2 HR3.out t223 p228 q228; obtain rfl : ad221 = ad228 := (by injection e228); have hn228_0 : ad221.block ≠ gb227 := Nat.ne_of_lt (Nat.lt_of_lt_of_le (by have := World.block_lt_of_cell? _ _ hx228_0; first | rwa [add_block] at this | exact this) GW227.out); have hn228_1 : ad221.block ≠ gb227 := Nat.ne_of_lt (Nat.lt_of_lt_of_le (by have := World.block_lt_of_cell? _ _ hx228_0; first | rwa [add_block] at this | exact this) GW227.out); replace hx228_0 := (HB.out.cell (World.block_lt_of_cell? w _ hx228_0)).trans hx228_0; have HR228_0 := Aside0.mk hi228_0; have HC228_0 := Aside0.mk hl228_0; clear hi228_0 hl228_0; replace hx228_0 := (cell_far (p := ⟨gb227, 0, none⟩) (by first | (rw [add_block]; exact hn228_0) | (show (Addr.add _ _).block ≠ _; rw [add_block]; exact hn228_0) | exact hn228_0) (.int .i64 t223)).trans hx228_0; replace hx228_0 := (cell_far (p := ⟨gb227, 1, none⟩) (by first | (rw [add_block]; exact hn228_1) | (show (Addr.add _ _).block ≠ _; rw [add_block]; exact hn228_1) | exact hn228_1) (.int .i64 t224)).trans hx228_0; (try have hy228_0 := fun (n_ : Nat) => (show ((((w42.drewN n_).setCell ⟨gb227, 0, none⟩ (.int .i64 t223)).setCell ⟨gb227, 1, none⟩ (.int .i64 t224))).cell? _ = some _ from hx228_0)); clear hn228_0; clear hn228_1; replace p228 := eq_true p228; replace q228 := eq_true q228; have p229 : 0 ≤ (t224 : Int) := of_decide_eq_true (by first | (with_reducible assumption) | assumption); have q229 : t224 < ((rd_L2 l3 t223).length : Int) := of_decide_eq_true (by first | (with_reducible assumption) | assumption); obtain ⟨ad229, e229, hx229_0⟩ := Kd.at_int HR228_0.out t224 p229 q229; cases e229; have hn229_0 : ad229.block ≠ gb227 := Nat.ne_of_lt (Nat.lt_of_lt_of_le (by have := World.block_lt_of_cell? _ _ hx229_0; first | rwa [add_block] at this | exact this) GW227.out); have hn229_1 : ad229.block ≠ gb227 := Nat.ne_of_lt (Nat.lt_of_lt_of_le (by have := World.block_lt_of_cell? _ _ hx229_0; first | rwa [add_block] at this | exact this) GW227.out); replace hx229_0 := (HB.out.cell (World.block_lt_of_cell? w _ hx229_0)).trans hx229_0; replace hx229_0 := (cell_far (p := ⟨gb227, 0, none⟩) (by first | (rw [add_block]; exact hn229_0) | (show (Addr.add _ _).block ≠ _; rw [add_block]; exact hn229_0) | exact hn229_0) (.int .i64 t223)).trans hx229_0; replace hx229_0 := (cell_far (p := ⟨gb227, 1, none⟩) (by first | (rw [add_block]; exact hn229_1) | (show (Addr.add _ _).block ≠ _; rw [add_block]; exact hn229_1) | exact hn229_1) (.int .i64 t224)).trans hx229_0; (try have hy229_0 := fun (n_ : Nat) => (show ((((w42.drewN n_).setCell ⟨gb227, 0, none⟩ (.int .i64 t223)).setCell ⟨gb227, 1, none⟩ (.int .i64 t224))).cell? _ = some _ from hx229_0)); clear hn229_0; clear hn229_1; replace p229 := eq_true p229; replace q229 := eq_true q229))
                             repeat (go_quiet (first | (go_at_call 43; (with_reducible refine (align_step.calls k6 a0 a1 x78_4 x85_5 x90_6 t223 t224 t225 true _ A34.out).mono ?_); (try clear A34); rintro e w41 ⟨rfl, hb⟩; have n0_ := Aside0.mk (below_step (by repeat (first | (with_reducible first | exact HB.out | apply below_alloc | apply pw_below_drewN | apply below_drew1) | exact HB.out)) hb); clear HB; have HB := n0_; clear n0_; (try clear hb); (try clear hb2); (try clear hk); (try clear hi)) | ((with_reducible refine gate_dst (N := 18) rfl ?_); (try (refine gate_guard (by rfl) ?_; dsimp only)); refine box_event ?hg (N := 18) ?hd (cs := #[.int .i64 0, .int .i64 0]) (t := 60) ?hr ?_; (case hd => rfl); (case hg => rfl); (case hr => first | (go_simp; done) | (go_simp; rfl)); intro gb227 hg w42 hbox hb; have n0_ := Aside0.mk (below_step (by repeat (first | (with_reducible first | exact HB.out | apply below_alloc | apply pw_below_drewN | apply below_drew1) | exact HB.out)) hb); have n1_ := Aside0.mk (hbox); have n2_ := Aside0.mk ((by rw [hg]; exact (below_size (by repeat (first | (with_reducible first | exact HB.out | apply below_alloc | apply pw_below_drewN | apply below_drew1) | exact HB.out))) : w.heap.size ≤ gb227)); have n3_ := Aside0.mk ((by rw [hg]; exact (below_size (by repeat (first | (with_reducible first | exact HB.out | apply below_alloc | apply pw_below_drewN | apply below_drew1) | exact HB.out))) : w.heap.size ≤ gb227)); clear HB; have HB := n0_; have BK227 := n1_; have GW227 := n2_; have GE227 := n3_; clear n0_ n1_ n2_ n3_; clear hb hbox hg; have hcz43_0 : w42.cell? ⟨gb227, 0, none⟩ = some (.int .i64 0) := (blk_cell BK227.out 0).trans rfl; have hcz43_1 : w42.cell? ⟨gb227, 1, none⟩ = some (.int .i64 0) := (blk_cell BK227.out 1).trans rfl; have hfz43_0 := blk_frozen BK227.out 0; have hfz43_1 := blk_frozen BK227.out 1; have p228 : 0 ≤ (t223 : Int) := of_decide_eq_true (by first | (with_reducible assumption) | assumption); have q228 : t223 < (l3.length : Int) := of_decide_eq_true (by first | (with_reducible assumption) | assumption); obtain ⟨ad228, A228_0, c228_0, e228, hx228_0, hl228_0, hi228_0⟩ := at_L2 HR3.out t223 p228 q228; obtain rfl : ad221 = ad228 := (by injection e228); have hn228_0 : ad221.block ≠ gb227 := Nat.ne_of_lt (Nat.lt_of_lt_of_le (by have := World.block_lt_of_cell? _ _ hx228_0; first | rwa [add_block] at this | exact this) GW227.out); have hn228_1 : ad221.block ≠ gb227 := Nat.ne_of_lt (Nat.lt_of_lt_of_le (by have := World.block_lt_of_cell? _ _ hx228_0; first | rwa [add_block] at this | exact this) GW227.out); replace hx228_0 := (HB.out.cell (World.block_lt_of_cell? w _ hx228_0)).trans hx228_0; have HR228_0 := Aside0.mk hi228_0; have HC228_0 := Aside0.mk hl228_0; clear hi228_0 hl228_0; replace hx228_0 := (cell_far (p := ⟨gb227, 0, none⟩) (by first | (rw [add_block]; exact hn228_0) | (show (Addr.add _ _).block ≠ _; rw [add_block]; exact hn228_0) | exact hn228_0) (.int .i64 t223)).trans hx228_0; replace hx228_0 := (cell_far (p := ⟨gb227, 1, none⟩) (by first | (rw [add_block]; exact hn228_1) | (show (Addr.add _ _).block ≠ _; rw [add_block]; exact hn228_1) | exact hn228_1) (.int .i64 t224)).trans hx228_0; (try have hy228_0 := fun (n_ : Nat) => (show ((((w42.drewN n_).setCell ⟨gb227, 0, none⟩ (.int .i64 t223)).setCell ⟨gb227, 1, none⟩ (.int .i64 t224))).cell? _ = some _ from hx228_0)); clear hn228_0; clear hn228_1; replace p228 := eq_true p228; replace q228 := eq_true q228; have p229 : 0 ≤ (t224 : Int) := of_decide_eq_true (by first | (with_reducible assumption) | assumption); have q229 : t224 < ((rd_L2 l3 t223).length : Int) := of_decide_eq_true (by first | (with_reducible assumption) | assumption); obtain ⟨ad229, e229, hx229_0⟩ := Kd.at_int HR228_0.out t224 p229 q229; cases e229; have hn229_0 : ad229.block ≠ gb227 := Nat.ne_of_lt (Nat.lt_of_lt_of_le (by have := World.block_lt_of_cell? _ _ hx229_0; first | rwa [add_block] at this | exact this) GW227.out); have hn229_1 : ad229.block ≠ gb227 := Nat.ne_of_lt (Nat.lt_of_lt_of_le (by have := World.block_lt_of_cell? _ _ hx229_0; first | rwa [add_block] at this | exact this) GW227.out); replace hx229_0 := (HB.out.cell (World.block_lt_of_cell? w _ hx229_0)).trans hx229_0; replace hx229_0 := (cell_far (p := ⟨gb227, 0, none⟩) (by first | (rw [add_block]; exact hn229_0) | (show (Addr.add _ _).block ≠ _; rw [add_block]; exact hn229_0) | exact hn229_0) (.int .i64 t223)).trans hx229_0; replace hx229_0 := (cell_far (p := ⟨gb227, 1, none⟩) (by first | (rw [add_block]; exact hn229_1) | (show (Addr.add _ _).block ≠ _; rw [add_block]; exact hn229_1) | exact hn229_1) (.int .i64 t224)).trans hx229_0; (try have hy229_0 := fun (n_ : Nat) => (show ((((w42.drewN n_).setCell ⟨gb227, 0, none⟩ (.int .i64 t223)).setCell ⟨gb227, 1, none⟩ (.int .i64 t224))).cell? _ = some _ from hx229_0)); clear hn229_0; clear hn229_1; replace p229 := eq_true p229; replace q229 := eq_true q229)); try go_wp2_with (first | (go_at_call 43; (with_reducible refine (align_step.calls k6 a0 a1 x78_4 x85_5 x90_6 t223 t224 t225 true _ A34.out).mono ?_); (try clear A34); rintro e w41 ⟨rfl, hb⟩; have n0_ := Aside0.mk (below_step (by repeat (first | (with_reducible first | exact HB.out | apply below_alloc | apply pw_below_drewN | apply below_drew1) | exact HB.out)) hb); clear HB; have HB := n0_; clear n0_; (try clear hb); (try clear hb2); (try clear hk); (try clear hi)) | ((with_reducible refine gate_dst (N := 18) rfl ?_); (try (refine gate_guard (by rfl) ?_; dsimp only)); refine box_event ?hg (N := 18) ?hd (cs := #[.int .i64 0, .int .i64 0]) (t := 60) ?hr ?_; (case hd => rfl); (case hg => rfl); (case hr => first | (go_simp; done) | (go_simp; rfl)); intro gb227 hg w42 hbox hb; have n0_ := Aside0.mk (below_step (by repeat (first | (with_reducible first | exact HB.out | apply below_alloc | apply pw_below_drewN | apply below_drew1) | exact HB.out)) hb); have n1_ := Aside0.mk (hbox); have n2_ := Aside0.mk ((by rw [hg]; exact (below_size (by repeat (first | (with_reducible first | exact HB.out | apply below_alloc | apply pw_below_drewN | apply below_drew1) | exact HB.out))) : w.heap.size ≤ gb227)); have n3_ := Aside0.mk ((by rw [hg]; exact (below_size (by repeat (first | (with_reducible first | exact HB.out | apply below_alloc | apply pw_below_drewN | apply below_drew1) | exact HB.out))) : w.heap.size ≤ gb227)); clear HB; have HB := n0_; have BK227 := n1_; have GW227 := n2_; have GE227 := n3_; clear n0_ n1_ n2_ n3_; clear hb hbox hg; have hcz43_0 : w42.cell? ⟨gb227, 0, none⟩ = some (.int .i64 0) := (blk_cell BK227.out 0).trans rfl; have hcz43_1 : w42.cell? ⟨gb227, 1, none⟩ = some (.int .i64 0) := (blk_cell BK227.out 1).trans rfl; have hfz43_0 := blk_frozen BK227.out 0; have hfz43_1 := blk_frozen BK227.out 1; have p228 : 0 ≤ (t223 : Int) := of_decide_eq_true (by first | (with_reducible assumption) | assumption); have q228 : t223 < (l3.length : Int) := of_decide_eq_true (by first | (with_reducible assumption) | assumption); obtain ⟨ad228, A228_0, c228_0, e228, hx228_0, hl228_0, hi228_0⟩ := at_L2 HR3.out t223 p228 q228; obtain rfl : ad221 = ad228 := (by injection e228); have hn228_0 : ad221.block ≠ gb227 := Nat.ne_of_lt (Nat.lt_of_lt_of_le (by have := World.block_lt_of_cell? _ _ hx228_0; first | rwa [add_block] at this | exact this) GW227.out); have hn228_1 : ad221.block ≠ gb227 := Nat.ne_of_lt (Nat.lt_of_lt_of_le (by have := World.block_lt_of_cell? _ _ hx228_0; first | rwa [add_block] at this | exact this) GW227.out); replace hx228_0 := (HB.out.cell (World.block_lt_of_cell? w _ hx228_0)).trans hx228_0; have HR228_0 := Aside0.mk hi228_0; have HC228_0 := Aside0.mk hl228_0; clear hi228_0 hl228_0; replace hx228_0 := (cell_far (p := ⟨gb227, 0, none⟩) (by first | (rw [add_block]; exact hn228_0) | (show (Addr.add _ _).block ≠ _; rw [add_block]; exact hn228_0) | exact hn228_0) (.int .i64 t223)).trans hx228_0; replace hx228_0 := (cell_far (p := ⟨gb227, 1, none⟩) (by first | (rw [add_block]; exact hn228_1) | (show (Addr.add _ _).block ≠ _; rw [add_block]; exact hn228_1) | exact hn228_1) (.int .i64 t224)).trans hx228_0; (try have hy228_0 := fun (n_ : Nat) => (show ((((w42.drewN n_).setCell ⟨gb227, 0, none⟩ (.int .i64 t223)).setCell ⟨gb227, 1, none⟩ (.int .i64 t224))).cell? _ = some _ from hx228_0)); clear hn228_0; clear hn228_1; replace p228 := eq_true p228; replace q228 := eq_true q228; have p229 : 0 ≤ (t224 : Int) := of_decide_eq_true (by first | (with_reducible assumption) | assumption); have q229 : t224 < ((rd_L2 l3 t223).length : Int) := of_decide_eq_true (by first | (with_reducible assumption) | assumption); obtain ⟨ad229, e229, hx229_0⟩ := Kd.at_int HR228_0.out t224 p229 q229; cases e229; have hn229_0 : ad229.block ≠ gb227 := Nat.ne_of_lt (Nat.lt_of_lt_of_le (by have := World.block_lt_of_cell? _ _ hx229_0; first | rwa [add_block] at this | exact this) GW227.out); have hn229_1 : ad229.block ≠ gb227 := Nat.ne_of_lt (Nat.lt_of_lt_of_le (by have := World.block_lt_of_cell? _ _ hx229_0; first | rwa [add_block] at this | exact this) GW227.out); replace hx229_0 := (HB.out.cell (World.block_lt_of_cell? w _ hx229_0)).trans hx229_0; replace hx229_0 := (cell_far (p := ⟨gb227, 0, none⟩) (by first | (rw [add_block]; exact hn229_0) | (show (Addr.add _ _).block ≠ _; rw [add_block]; exact hn229_0) | exact hn229_0) (.int .i64 t223)).trans hx229_0; replace hx229_0 := (cell_far (p := ⟨gb227, 1, none⟩) (by first | (rw [add_block]; exact hn229_1) | (show (Addr.add _ _).block ≠ _; rw [add_block]; exact hn229_1) | exact hn229_1) (.int .i64 t224)).trans hx229_0; (try have hy229_0 := fun (n_ : Nat) => (show ((((w42.drewN n_).setCell ⟨gb227, 0, none⟩ (.int .i64 t223)).setCell ⟨gb227, 1, none⟩ (.int .i64 t224))).cell? _ = some _ from hx229_0)); clear hn229_0; clear hn229_1; replace p229 := eq_true p229; replace q229 := eq_true q229)))
                             go_ret
                             exact ⟨by first | rfl | (simp [errW_none, errW_some] <;> rfl) | (simp [*, errW_none, errW_some] <;> rfl), by repeat (first | (with_reducible first | exact HB.out | apply below_alloc | apply pw_below_drewN | apply below_drew1 | refine below_set ?_ GE227.out) | exact HB.out)⟩
                            ·rw [if_neg c40] at H
                             have c40b0 : decide ((wrap64 (t225 + (rd (rd_L2 l3 t223) t224))) < (rd (rd_L2 l3 x78_4) x85_5)) = false := decide_eq_false c40
                             clear c40
                             have H' := Aside0.mk H
                             clear H
                             go_wp2_with (first | (go_at_call 43; (with_reducible refine (align_step.calls k6 a0 a1 x78_4 x85_5 x90_6 t223 t224 t225 true _ A34.out).mono ?_); rintro e w44 ⟨rfl, hb⟩; have n0_ := Aside0.mk (below_step (by repeat (first | (with_reducible first | exact HB.out | apply below_alloc | apply pw_below_drewN | apply below_drew1) | exact HB.out)) hb); clear HB; have HB := n0_; clear n0_; (try clear hb); (try clear hb2); (try clear hk); (try clear hi)) | ((with_reducible refine gate_dst (N := 18) rfl ?_); (try (refine gate_guard (by rfl) ?_; dsimp only)); refine box_event ?hg (N := 18) ?hd (cs := #[.int .i64 0, .int .i64 0]) (t := 60) ?hr ?_; (case hd => rfl); (case hg => rfl); (case hr => first | (go_simp; done) | (go_simp; rfl)); intro gb227 hg w45 hbox hb; have n0_ := Aside0.mk (below_step (by repeat (first | (with_reducible first | exact HB.out | apply below_alloc | apply pw_below_drewN | apply below_drew1) | exact HB.out)) hb); have n1_ := Aside0.mk (hbox); have n2_ := Aside0.mk ((by rw [hg]; exact (below_size (by repeat (first | (with_reducible first | exact HB.out | apply below_alloc | apply pw_below_drewN | apply below_drew1) | exact HB.out))) : w.heap.size ≤ gb227)); have n3_ := Aside0.mk ((by rw [hg]; exact (below_size (by repeat (first | (with_reducible first | exact HB.out | apply below_alloc | apply pw_below_drewN | apply below_drew1) | exact HB.out))) : w.heap.size ≤ gb227)); clear HB; have HB := n0_; have BK227 := n1_; have GW227 := n2_; have GE227 := n3_; clear n0_ n1_ n2_ n3_; clear hb hbox hg; have hcz46_0 : w45.cell? ⟨gb227, 0, none⟩ = some (.int .i64 0) := (blk_cell BK227.out 0).trans rfl; have hcz46_1 : w45.cell? ⟨gb227, 1, none⟩ = some (.int .i64 0) := (blk_cell BK227.out 1).trans rfl; have hfz46_0 := blk_frozen BK227.out 0; have hfz46_1 := blk_frozen BK227.out 1; have p228 : 0 ≤ (t223 : Int) := of_decide_eq_true (by first | (with_reducible assumption) | assumption); have q228 : t223 < (l3.length : Int) := of_decide_eq_true (by first | (with_reducible assumption) | assumption); obtain ⟨ad228, A228_0, c228_0, e228, hx228_0, hl228_0, hi228_0⟩ := at_L2 HR3.out t223 p228 q228; obtain rfl : ad221 = ad228 := (by injection e228); have hn228_0 : ad221.block ≠ gb227 := Nat.ne_of_lt (Nat.lt_of_lt_of_le (by have := World.block_lt_of_cell? _ _ hx228_0; first | rwa [add_block] at this | exact this) GW227.out); have hn228_1 : ad221.block ≠ gb227 := Nat.ne_of_lt (Nat.lt_of_lt_of_le (by have := World.block_lt_of_cell? _ _ hx228_0; first | rwa [add_block] at this | exact this) GW227.out); replace hx228_0 := (HB.out.cell (World.block_lt_of_cell? w _ hx228_0)).trans hx228_0; have HR228_0 := Aside0.mk hi228_0; have HC228_0 := Aside0.mk hl228_0; clear hi228_0 hl228_0; replace hx228_0 := (cell_far (p := ⟨gb227, 0, none⟩) (by first | (rw [add_block]; exact hn228_0) | (show (Addr.add _ _).block ≠ _; rw [add_block]; exact hn228_0) | exact hn228_0) (.int .i64 t223)).trans hx228_0; replace hx228_0 := (cell_far (p := ⟨gb227, 1, none⟩) (by first | (rw [add_block]; exact hn228_1) | (show (Addr.add _ _).block ≠ _; rw [add_block]; exact hn228_1) | exact hn228_1) (.int .i64 t224)).trans hx228_0; (try have hy228_0 := fun (n_ : Nat) => (show ((((w45.drewN n_).setCell ⟨gb227, 0, none⟩ (.int .i64 t223)).setCell ⟨gb227, 1, none⟩ (.int .i64 t224))).cell? _ = some _ from hx228_0)); clear hn228_0; clear hn228_1; replace p228 := eq_true p228; replace q228 := eq_true q228; have p229 : 0 ≤ (t224 : Int) := of_decide_eq_true (by first | (with_reducible assumption) | assumption); have q229 : t224 < ((rd_L2 l3 t223).length : Int) := of_decide_eq_true (by first | (with_reducible assumption) | assumption); obtain ⟨ad229, e229, hx229_0⟩ := Kd.at_int HR228_0.out t224 p229 q229; cases e229; have hn229_0 : ad229.block ≠ gb227 := Nat.ne_of_lt (Nat.lt_of_lt_of_le (by have := World.block_lt_of_cell? _ _ hx229_0; first | rwa [add_block] at this | exact this) GW227.out); have hn229_1 : ad229.block ≠ gb227 := Nat.ne_of_lt (Nat.lt_of_lt_of_le (by have := World.block_lt_of_cell? _ _ hx229_0; first | rwa [add_block] at this | exact this) GW227.out); replace hx229_0 := (HB.out.cell (World.block_lt_of_cell? w _ hx229_0)).trans hx229_0; replace hx229_0 := (cell_far (p := ⟨gb227, 0, none⟩) (by first | (rw [add_block]; exact hn229_0) | (show (Addr.add _ _).block ≠ _; rw [add_block]; exact hn229_0) | exact hn229_0) (.int .i64 t223)).trans hx229_0; replace hx229_0 := (cell_far (p := ⟨gb227, 1, none⟩) (by first | (rw [add_block]; exact hn229_1) | (show (Addr.add _ _).block ≠ _; rw [add_block]; exact hn229_1) | exact hn229_1) (.int .i64 t224)).trans hx229_0; (try have hy229_0 := fun (n_ : Nat) => (show ((((w45.drewN n_).setCell ⟨gb227, 0, none⟩ (.int .i64 t223)).setCell ⟨gb227, 1, none⟩ (.int .i64 t224))).cell? _ = some _ from hx229_0)); clear hn229_0; clear hn229_1; replace p229 := eq_true p229; replace q229 := eq_true q229))
                             repeat (go_quiet (first | (go_at_call 43; (with_reducible refine (align_step.calls k6 a0 a1 x78_4 x85_5 x90_6 t223 t224 t225 true _ A34.out).mono ?_); (try clear A34); rintro e w44 ⟨rfl, hb⟩; have n0_ := Aside0.mk (below_step (by repeat (first | (with_reducible first | exact HB.out | apply below_alloc | apply pw_below_drewN | apply below_drew1) | exact HB.out)) hb); clear HB; have HB := n0_; clear n0_; (try clear hb); (try clear hb2); (try clear hk); (try clear hi)) | ((with_reducible refine gate_dst (N := 18) rfl ?_); (try (refine gate_guard (by rfl) ?_; dsimp only)); refine box_event ?hg (N := 18) ?hd (cs := #[.int .i64 0, .int .i64 0]) (t := 60) ?hr ?_; (case hd => rfl); (case hg => rfl); (case hr => first | (go_simp; done) | (go_simp; rfl)); intro gb227 hg w45 hbox hb; have n0_ := Aside0.mk (below_step (by repeat (first | (with_reducible first | exact HB.out | apply below_alloc | apply pw_below_drewN | apply below_drew1) | exact HB.out)) hb); have n1_ := Aside0.mk (hbox); have n2_ := Aside0.mk ((by rw [hg]; exact (below_size (by repeat (first | (with_reducible first | exact HB.out | apply below_alloc | apply pw_below_drewN | apply below_drew1) | exact HB.out))) : w.heap.size ≤ gb227)); have n3_ := Aside0.mk ((by rw [hg]; exact (below_size (by repeat (first | (with_reducible first | exact HB.out | apply below_alloc | apply pw_below_drewN | apply below_drew1) | exact HB.out))) : w.heap.size ≤ gb227)); clear HB; have HB := n0_; have BK227 := n1_; have GW227 := n2_; have GE227 := n3_; clear n0_ n1_ n2_ n3_; clear hb hbox hg; have hcz46_0 : w45.cell? ⟨gb227, 0, none⟩ = some (.int .i64 0) := (blk_cell BK227.out 0).trans rfl; have hcz46_1 : w45.cell? ⟨gb227, 1, none⟩ = some (.int .i64 0) := (blk_cell BK227.out 1).trans rfl; have hfz46_0 := blk_frozen BK227.out 0; have hfz46_1 := blk_frozen BK227.out 1; have p228 : 0 ≤ (t223 : Int) := of_decide_eq_true (by first | (with_reducible assumption) | assumption); have q228 : t223 < (l3.length : Int) := of_decide_eq_true (by first | (with_reducible assumption) | assumption); obtain ⟨ad228, A228_0, c228_0, e228, hx228_0, hl228_0, hi228_0⟩ := at_L2 HR3.out t223 p228 q228; obtain rfl : ad221 = ad228 := (by injection e228); have hn228_0 : ad221.block ≠ gb227 := Nat.ne_of_lt (Nat.lt_of_lt_of_le (by have := World.block_lt_of_cell? _ _ hx228_0; first | rwa [add_block] at this | exact this) GW227.out); have hn228_1 : ad221.block ≠ gb227 := Nat.ne_of_lt (Nat.lt_of_lt_of_le (by have := World.block_lt_of_cell? _ _ hx228_0; first | rwa [add_block] at this | exact this) GW227.out); replace hx228_0 := (HB.out.cell (World.block_lt_of_cell? w _ hx228_0)).trans hx228_0; have HR228_0 := Aside0.mk hi228_0; have HC228_0 := Aside0.mk hl228_0; clear hi228_0 hl228_0; replace hx228_0 := (cell_far (p := ⟨gb227, 0, none⟩) (by first | (rw [add_block]; exact hn228_0) | (show (Addr.add _ _).block ≠ _; rw [add_block]; exact hn228_0) | exact hn228_0) (.int .i64 t223)).trans hx228_0; replace hx228_0 := (cell_far (p := ⟨gb227, 1, none⟩) (by first | (rw [add_block]; exact hn228_1) | (show (Addr.add _ _).block ≠ _; rw [add_block]; exact hn228_1) | exact hn228_1) (.int .i64 t224)).trans hx228_0; (try have hy228_0 := fun (n_ : Nat) => (show ((((w45.drewN n_).setCell ⟨gb227, 0, none⟩ (.int .i64 t223)).setCell ⟨gb227, 1, none⟩ (.int .i64 t224))).cell? _ = some _ from hx228_0)); clear hn228_0; clear hn228_1; replace p228 := eq_true p228; replace q228 := eq_true q228; have p229 : 0 ≤ (t224 : Int) := of_decide_eq_true (by first | (with_reducible assumption) | assumption); have q229 : t224 < ((rd_L2 l3 t223).length : Int) := of_decide_eq_true (by first | (with_reducible assumption) | assumption); obtain ⟨ad229, e229, hx229_0⟩ := Kd.at_int HR228_0.out t224 p229 q229; cases e229; have hn229_0 : ad229.block ≠ gb227 := Nat.ne_of_lt (Nat.lt_of_lt_of_le (by have := World.block_lt_of_cell? _ _ hx229_0; first | rwa [add_block] at this | exact this) GW227.out); have hn229_1 : ad229.block ≠ gb227 := Nat.ne_of_lt (Nat.lt_of_lt_of_le (by have := World.block_lt_of_cell? _ _ hx229_0; first | rwa [add_block] at this | exact this) GW227.out); replace hx229_0 := (HB.out.cell (World.block_lt_of_cell? w _ hx229_0)).trans hx229_0; replace hx229_0 := (cell_far (p := ⟨gb227, 0, none⟩) (by first | (rw [add_block]; exact hn229_0) | (show (Addr.add _ _).block ≠ _; rw [add_block]; exact hn229_0) | exact hn229_0) (.int .i64 t223)).trans hx229_0; replace hx229_0 := (cell_far (p := ⟨gb227, 1, none⟩) (by first | (rw [add_block]; exact hn229_1) | (show (Addr.add _ _).block ≠ _; rw [add_block]; exact hn229_1) | exact hn229_1) (.int .i64 t224)).trans hx229_0; (try have hy229_0 := fun (n_ : Nat) => (show ((((w45.drewN n_).setCell ⟨gb227, 0, none⟩ (.int .i64 t223)).setCell ⟨gb227, 1, none⟩ (.int .i64 t224))).cell? _ = some _ from hx229_0)); clear hn229_0; clear hn229_1; replace p229 := eq_true p229; replace q229 := eq_true q229)); try go_wp2_with (first | (go_at_call 43; (with_reducible refine (align_step.calls k6 a0 a1 x78_4 x85_5 x90_6 t223 t224 t225 true _ A34.out).mono ?_); (try clear A34); rintro e w44 ⟨rfl, hb⟩; have n0_ := Aside0.mk (below_step (by repeat (first | (with_reducible first | exact HB.out | apply below_alloc | apply pw_below_drewN | apply below_drew1) | exact HB.out)) hb); clear HB; have HB := n0_; clear n0_; (try clear hb); (try clear hb2); (try clear hk); (try clear hi)) | ((with_reducible refine gate_dst (N := 18) rfl ?_); (try (refine gate_guard (by rfl) ?_; dsimp only)); refine box_event ?hg (N := 18) ?hd (cs := #[.int .i64 0, .int .i64 0]) (t := 60) ?hr ?_; (case hd => rfl); (case hg => rfl); (case hr => first | (go_simp; done) | (go_simp; rfl)); intro gb227 hg w45 hbox hb; have n0_ := Aside0.mk (below_step (by repeat (first | (with_reducible first | exact HB.out | apply below_alloc | apply pw_below_drewN | apply below_drew1) | exact HB.out)) hb); have n1_ := Aside0.mk (hbox); have n2_ := Aside0.mk ((by rw [hg]; exact (below_size (by repeat (first | (with_reducible first | exact HB.out | apply below_alloc | apply pw_below_drewN | apply below_drew1) | exact HB.out))) : w.heap.size ≤ gb227)); have n3_ := Aside0.mk ((by rw [hg]; exact (below_size (by repeat (first | (with_reducible first | exact HB.out | apply below_alloc | apply pw_below_drewN | apply below_drew1) | exact HB.out))) : w.heap.size ≤ gb227)); clear HB; have HB := n0_; have BK227 := n1_; have GW227 := n2_; have GE227 := n3_; clear n0_ n1_ n2_ n3_; clear hb hbox hg; have hcz46_0 : w45.cell? ⟨gb227, 0, none⟩ = some (.int .i64 0) := (blk_cell BK227.out 0).trans rfl; have hcz46_1 : w45.cell? ⟨gb227, 1, none⟩ = some (.int .i64 0) := (blk_cell BK227.out 1).trans rfl; have hfz46_0 := blk_frozen BK227.out 0; have hfz46_1 := blk_frozen BK227.out 1; have p228 : 0 ≤ (t223 : Int) := of_decide_eq_true (by first | (with_reducible assumption) | assumption); have q228 : t223 < (l3.length : Int) := of_decide_eq_true (by first | (with_reducible assumption) | assumption); obtain ⟨ad228, A228_0, c228_0, e228, hx228_0, hl228_0, hi228_0⟩ := at_L2 HR3.out t223 p228 q228; obtain rfl : ad221 = ad228 := (by injection e228); have hn228_0 : ad221.block ≠ gb227 := Nat.ne_of_lt (Nat.lt_of_lt_of_le (by have := World.block_lt_of_cell? _ _ hx228_0; first | rwa [add_block] at this | exact this) GW227.out); have hn228_1 : ad221.block ≠ gb227 := Nat.ne_of_lt (Nat.lt_of_lt_of_le (by have := World.block_lt_of_cell? _ _ hx228_0; first | rwa [add_block] at this | exact this) GW227.out); replace hx228_0 := (HB.out.cell (World.block_lt_of_cell? w _ hx228_0)).trans hx228_0; have HR228_0 := Aside0.mk hi228_0; have HC228_0 := Aside0.mk hl228_0; clear hi228_0 hl228_0; replace hx228_0 := (cell_far (p := ⟨gb227, 0, none⟩) (by first | (rw [add_block]; exact hn228_0) | (show (Addr.add _ _).block ≠ _; rw [add_block]; exact hn228_0) | exact hn228_0) (.int .i64 t223)).trans hx228_0; replace hx228_0 := (cell_far (p := ⟨gb227, 1, none⟩) (by first | (rw [add_block]; exact hn228_1) | (show (Addr.add _ _).block ≠ _; rw [add_block]; exact hn228_1) | exact hn228_1) (.int .i64 t224)).trans hx228_0; (try have hy228_0 := fun (n_ : Nat) => (show ((((w45.drewN n_).setCell ⟨gb227, 0, none⟩ (.int .i64 t223)).setCell ⟨gb227, 1, none⟩ (.int .i64 t224))).cell? _ = some _ from hx228_0)); clear hn228_0; clear hn228_1; replace p228 := eq_true p228; replace q228 := eq_true q228; have p229 : 0 ≤ (t224 : Int) := of_decide_eq_true (by first | (with_reducible assumption) | assumption); have q229 : t224 < ((rd_L2 l3 t223).length : Int) := of_decide_eq_true (by first | (with_reducible assumption) | assumption); obtain ⟨ad229, e229, hx229_0⟩ := Kd.at_int HR228_0.out t224 p229 q229; cases e229; have hn229_0 : ad229.block ≠ gb227 := Nat.ne_of_lt (Nat.lt_of_lt_of_le (by have := World.block_lt_of_cell? _ _ hx229_0; first | rwa [add_block] at this | exact this) GW227.out); have hn229_1 : ad229.block ≠ gb227 := Nat.ne_of_lt (Nat.lt_of_lt_of_le (by have := World.block_lt_of_cell? _ _ hx229_0; first | rwa [add_block] at this | exact this) GW227.out); replace hx229_0 := (HB.out.cell (World.block_lt_of_cell? w _ hx229_0)).trans hx229_0; replace hx229_0 := (cell_far (p := ⟨gb227, 0, none⟩) (by first | (rw [add_block]; exact hn229_0) | (show (Addr.add _ _).block ≠ _; rw [add_block]; exact hn229_0) | exact hn229_0) (.int .i64 t223)).trans hx229_0; replace hx229_0 := (cell_far (p := ⟨gb227, 1, none⟩) (by first | (rw [add_block]; exact hn229_1) | (show (Addr.add _ _).block ≠ _; rw [add_block]; exact hn229_1) | exact hn229_1) (.int .i64 t224)).trans hx229_0; (try have hy229_0 := fun (n_ : Nat) => (show ((((w45.drewN n_).setCell ⟨gb227, 0, none⟩ (.int .i64 t223)).setCell ⟨gb227, 1, none⟩ (.int .i64 t224))).cell? _ = some _ from hx229_0)); clear hn229_0; clear hn229_1; replace p229 := eq_true p229; replace q229 := eq_true q229)))
                             go_roundg k6
                             case measure => have := HJ4.out; have := HK2.out; have := HJ15.out; have := HK4.out; have := HK5.out; have := HK6.out; omega
                             case rel => exact ⟨(wrap64 (x90_6 + 1)), (by first | rfl | (simp; done) | (simp [*]; done)), H', ⟨by have := HJ4.out; have := HK2.out; have := HJ15.out; have := HK4.out; have := HK5.out; have := HK6.out; omega⟩, ⟨by repeat (first | (with_reducible first | exact HB.out | apply below_alloc | apply pw_below_drewN | apply below_drew1 | refine below_set ?_ GE227.out) | exact HB.out)⟩⟩
                           ·rw [if_neg c39] at H
                            exact absurd H (by simp)
                          ·rw [if_neg c38] at H
                           exact absurd H (by simp)
                         ·rw [if_neg c37] at H
                          exact absurd H (by simp)
                        ·rw [if_neg c36] at H
                         exact absurd H (by simp)
                       ·replace c35 := Bool.eq_false_iff.mpr c35
                        subst c35
                        have H1 : (align_Check.l3 k6 a0 a1 l3 x78_4 x85_5 (rd (rd_L2 l3 x78_4) x85_5) l3 (l3.length : Int) x78_4 (rd_L2 l3 x78_4) ((rd_L2 l3 x78_4).length : Int) x85_5 (wrap64 (x90_6 + 1))) = some r := by rw [if_neg (show ¬ (false = true) by decide)] at H; exact H
                        clear H
                        have H := H1
                        clear H1
                        have H' := Aside0.mk H
                        clear H
                        go_wp2_with (first | (go_at_call 43; (with_reducible refine (align_step.calls k6 a0 a1 x78_4 x85_5 x90_6 t223 t224 t225 false _ A34.out).mono ?_); rintro e w47 ⟨rfl, hb⟩; have n0_ := Aside0.mk (below_step (by repeat (first | (with_reducible first | exact HB.out | apply below_alloc | apply pw_below_drewN | apply below_drew1) | exact HB.out)) hb); clear HB; have HB := n0_; clear n0_; (try clear hb); (try clear hb2); (try clear hk); (try clear hi)) | ((with_reducible refine gate_dst (N := 18) rfl ?_); (try (refine gate_guard (by rfl) ?_; dsimp only)); refine box_event ?hg (N := 18) ?hd (cs := #[.int .i64 0, .int .i64 0]) (t := 60) ?hr ?_; (case hd => rfl); (case hg => rfl); (case hr => first | (go_simp; done) | (go_simp; rfl)); intro gb227 hg w48 hbox hb; have n0_ := Aside0.mk (below_step (by repeat (first | (with_reducible first | exact HB.out | apply below_alloc | apply pw_below_drewN | apply below_drew1) | exact HB.out)) hb); have n1_ := Aside0.mk (hbox); have n2_ := Aside0.mk ((by rw [hg]; exact (below_size (by repeat (first | (with_reducible first | exact HB.out | apply below_alloc | apply pw_below_drewN | apply below_drew1) | exact HB.out))) : w.heap.size ≤ gb227)); have n3_ := Aside0.mk ((by rw [hg]; exact (below_size (by repeat (first | (with_reducible first | exact HB.out | apply below_alloc | apply pw_below_drewN | apply below_drew1) | exact HB.out))) : w.heap.size ≤ gb227)); clear HB; have HB := n0_; have BK227 := n1_; have GW227 := n2_; have GE227 := n3_; clear n0_ n1_ n2_ n3_; clear hb hbox hg; have hcz49_0 : w48.cell? ⟨gb227, 0, none⟩ = some (.int .i64 0) := (blk_cell BK227.out 0).trans rfl; have hcz49_1 : w48.cell? ⟨gb227, 1, none⟩ = some (.int .i64 0) := (blk_cell BK227.out 1).trans rfl; have hfz49_0 := blk_frozen BK227.out 0; have hfz49_1 := blk_frozen BK227.out 1))
                        repeat (go_quiet (first | (go_at_call 43; (with_reducible refine (align_step.calls k6 a0 a1 x78_4 x85_5 x90_6 t223 t224 t225 false _ A34.out).mono ?_); (try clear A34); rintro e w47 ⟨rfl, hb⟩; have n0_ := Aside0.mk (below_step (by repeat (first | (with_reducible first | exact HB.out | apply below_alloc | apply pw_below_drewN | apply below_drew1) | exact HB.out)) hb); clear HB; have HB := n0_; clear n0_; (try clear hb); (try clear hb2); (try clear hk); (try clear hi)) | ((with_reducible refine gate_dst (N := 18) rfl ?_); (try (refine gate_guard (by rfl) ?_; dsimp only)); refine box_event ?hg (N := 18) ?hd (cs := #[.int .i64 0, .int .i64 0]) (t := 60) ?hr ?_; (case hd => rfl); (case hg => rfl); (case hr => first | (go_simp; done) | (go_simp; rfl)); intro gb227 hg w48 hbox hb; have n0_ := Aside0.mk (below_step (by repeat (first | (with_reducible first | exact HB.out | apply below_alloc | apply pw_below_drewN | apply below_drew1) | exact HB.out)) hb); have n1_ := Aside0.mk (hbox); have n2_ := Aside0.mk ((by rw [hg]; exact (below_size (by repeat (first | (with_reducible first | exact HB.out | apply below_alloc | apply pw_below_drewN | apply below_drew1) | exact HB.out))) : w.heap.size ≤ gb227)); have n3_ := Aside0.mk ((by rw [hg]; exact (below_size (by repeat (first | (with_reducible first | exact HB.out | apply below_alloc | apply pw_below_drewN | apply below_drew1) | exact HB.out))) : w.heap.size ≤ gb227)); clear HB; have HB := n0_; have BK227 := n1_; have GW227 := n2_; have GE227 := n3_; clear n0_ n1_ n2_ n3_; clear hb hbox hg; have hcz49_0 : w48.cell? ⟨gb227, 0, none⟩ = some (.int .i64 0) := (blk_cell BK227.out 0).trans rfl; have hcz49_1 : w48.cell? ⟨gb227, 1, none⟩ = some (.int .i64 0) := (blk_cell BK227.out 1).trans rfl; have hfz49_0 := blk_frozen BK227.out 0; have hfz49_1 := blk_frozen BK227.out 1)); try go_wp2_with (first | (go_at_call 43; (with_reducible refine (align_step.calls k6 a0 a1 x78_4 x85_5 x90_6 t223 t224 t225 false _ A34.out).mono ?_); (try clear A34); rintro e w47 ⟨rfl, hb⟩; have n0_ := Aside0.mk (below_step (by repeat (first | (with_reducible first | exact HB.out | apply below_alloc | apply pw_below_drewN | apply below_drew1) | exact HB.out)) hb); clear HB; have HB := n0_; clear n0_; (try clear hb); (try clear hb2); (try clear hk); (try clear hi)) | ((with_reducible refine gate_dst (N := 18) rfl ?_); (try (refine gate_guard (by rfl) ?_; dsimp only)); refine box_event ?hg (N := 18) ?hd (cs := #[.int .i64 0, .int .i64 0]) (t := 60) ?hr ?_; (case hd => rfl); (case hg => rfl); (case hr => first | (go_simp; done) | (go_simp; rfl)); intro gb227 hg w48 hbox hb; have n0_ := Aside0.mk (below_step (by repeat (first | (with_reducible first | exact HB.out | apply below_alloc | apply pw_below_drewN | apply below_drew1) | exact HB.out)) hb); have n1_ := Aside0.mk (hbox); have n2_ := Aside0.mk ((by rw [hg]; exact (below_size (by repeat (first | (with_reducible first | exact HB.out | apply below_alloc | apply pw_below_drewN | apply below_drew1) | exact HB.out))) : w.heap.size ≤ gb227)); have n3_ := Aside0.mk ((by rw [hg]; exact (below_size (by repeat (first | (with_reducible first | exact HB.out | apply below_alloc | apply pw_below_drewN | apply below_drew1) | exact HB.out))) : w.heap.size ≤ gb227)); clear HB; have HB := n0_; have BK227 := n1_; have GW227 := n2_; have GE227 := n3_; clear n0_ n1_ n2_ n3_; clear hb hbox hg; have hcz49_0 : w48.cell? ⟨gb227, 0, none⟩ = some (.int .i64 0) := (blk_cell BK227.out 0).trans rfl; have hcz49_1 : w48.cell? ⟨gb227, 1, none⟩ = some (.int .i64 0) := (blk_cell BK227.out 1).trans rfl; have hfz49_0 := blk_frozen BK227.out 0; have hfz49_1 := blk_frozen BK227.out 1)))
                        go_roundg k6
                        case measure => have := HJ4.out; have := HK2.out; have := HJ15.out; have := HK4.out; have := HK5.out; have := HK6.out; omega
                        case rel => exact ⟨(wrap64 (x90_6 + 1)), (by first | rfl | (simp; done) | (simp [*]; done)), H', ⟨by have := HJ4.out; have := HK2.out; have := HJ15.out; have := HK4.out; have := HK5.out; have := HK6.out; omega⟩, ⟨by repeat (first | (with_reducible first | exact HB.out | apply below_alloc | apply pw_below_drewN | apply below_drew1 | refine below_set ?_ GE227.out) | exact HB.out)⟩⟩
                      ·rw [if_neg c33] at H
                       have c33b0 : decide (x90_6 < 5) = false := decide_eq_false c33
                       clear c33
                       have H' := Aside0.mk H
                       clear H
                       go_wp2
                       repeat (go_quiet (fail); try go_wp2)
                       go_roundg k6
                       case measure => have := HJ4.out; have := HK2.out; have := HJ15.out; have := HK4.out; have := HK5.out; have := HK6.out; omega
                       case rel => exact ⟨(wrap64 (x85_5 + 1)), (by first | rfl | (simp; done) | (simp [*]; done)), H', ⟨by have := HJ4.out; have := HK2.out; have := HJ15.out; have := HK4.out; have := HK5.out; have := HK6.out; omega⟩, ⟨by repeat (first | (with_reducible first | exact HB.out | apply below_alloc | apply pw_below_drewN | apply below_drew1) | exact HB.out)⟩⟩
                   ·rw [if_neg c32] at H
                    exact absurd H (by simp)
                  ·rw [if_neg c31] at H
                   exact absurd H (by simp)
                 ·rw [if_neg c30] at H
                  have c30b0 : decide (x85_5 < ((rd_L2 l3 x78_4).length : Int)) = false := decide_eq_false c30
                  clear c30
                  have H' := Aside0.mk H
                  clear H
                  go_wp2
                  repeat (go_quiet (fail); try go_wp2)
                  go_roundg k5
                  case measure => have := HJ4.out; have := HK2.out; have := HJ15.out; have := HK4.out; have := HK5.out; omega
                  case rel => exact ⟨(wrap64 (x78_4 + 1)), (by first | rfl | (simp; done) | (simp [*]; done)), H', ⟨by have := HJ4.out; have := HK2.out; have := HJ15.out; have := HK4.out; have := HK5.out; omega⟩, ⟨by repeat (first | (with_reducible first | exact HB.out | apply below_alloc | apply pw_below_drewN | apply below_drew1) | exact HB.out)⟩⟩
              ·rw [if_neg c29] at H
               exact absurd H (by simp)
             ·rw [if_neg c28] at H
              exact absurd H (by simp)
            ·rw [if_neg c27] at H
             have c27b0 : decide (x78_4 < (l3.length : Int)) = false := decide_eq_false c27
             clear c27
             obtain rfl := Option.some.inj H
             go_wp2
             repeat (go_quiet (fail); try go_wp2)
             go_ret
             exact ⟨by first | rfl | (simp [errW_none, errW_some] <;> rfl) | (simp [*, errW_none, errW_some] <;> rfl), by repeat (first | (with_reducible first | exact HB.out | apply below_alloc | apply pw_below_drewN | apply below_drew1) | exact HB.out)⟩

end Go.Proofs.Ytnnonjjmlbemfaa.X
