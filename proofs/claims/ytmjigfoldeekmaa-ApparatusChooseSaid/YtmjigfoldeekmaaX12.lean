-- and more
-- shortened
-- thinned
-- halved indents
-- printed by this session's xprint.py: out of the translation, by the kit's print with additions; Lean checks it
import Derived.Test.YtmjigfoldeekmaaXE
import Derived.Test.YtmjigfoldeekmaaXC
import Derived.Test.YtmjigfoldeekmaaWN
import Derived.Test.YtmjigfoldeekmaaWShare
import Derived.Test.YtmjigfoldeekmaaWRepsOne
import Derived.Test.YtmjigfoldeekmaaWGuard
import Derived.Test.YtmjigfoldeekmaaX0
import Derived.Test.YtmjigfoldeekmaaX2
import Derived.Test.YtmjigfoldeekmaaX11
import Derived.Test.YtmjigfoldeekmaaXA
namespace Go.Proofs.Ytmjigfoldeekmaa.X
open Go.RowKit Go.Proofs.YtmjigfoldeekmaaW.PrintWords Go.Proofs.YtmjigfoldeekmaaW.PrintLast Go.Proofs.YtmjigfoldeekmaaW.PrintMore
attribute [local go_sem] max2_int min2_int max_two min_two max_three min_three max_four min_four isSome_setCell binOp_gtr_str binOp_leq_str binOp_geq_str   -- for this text's walks alone
set_option linter.unusedVariables false
set_option linter.unusedSimpArgs false

attribute [local go_sem high] eqA67
/-! ### ancepsref57_Same: function 19 -/
mutual
def ancepsref57_Same.j0 : Nat → Bool → List ByteArray → List (S65) → List ByteArray → List (S65) → Option (Bool)
 | 0, _, _, _, _, _ => none
 | k + 1, x23, x242000, x242001, x243000, x243001 => if x23 = true then (some false) else (ancepsref57_Same.l0 k 0 x242000 x242001 x243000 x243001)
def ancepsref57_Same.l0 : Nat → Int → List ByteArray → List (S65) → List ByteArray → List (S65) → Option (Bool)
 | 0, _, _, _, _, _ => none
 | k + 1, x5, x242000, x242001, x243000, x243001 => if x5 < (x242001.length : Int) then (if 0 ≤ x5 then (if x5 < (x243001.length : Int) then (if ((rd_T65 x242001 x5).f0).toList = ((rd_T65 x243001 x5).f0).toList then (ancepsref57_Same.j2 k x5 ((((rd_T65 x242001 x5).f1).length : Int) != (((rd_T65 x243001 x5).f1).length : Int)) x242000 x242001 x243000 x243001 ((rd_T65 x242001 x5).f0) ((rd_T65 x242001 x5).f1) ((rd_T65 x243001 x5).f0) ((rd_T65 x243001 x5).f1)) else (ancepsref57_Same.j2 k x5 true x242000 x242001 x243000 x243001 ((rd_T65 x242001 x5).f0) ((rd_T65 x242001 x5).f1) ((rd_T65 x243001 x5).f0) ((rd_T65 x243001 x5).f1))) else (none)) else (none)) else (some true)
def ancepsref57_Same.j2 : Nat → Int → Bool → List ByteArray → List (S65) → List ByteArray → List (S65) → ByteArray → List (S67) → ByteArray → List (S67) → Option (Bool)
 | 0, _, _, _, _, _, _, _, _, _, _ => none
 | k + 1, x5, x54, x242000, x242001, x243000, x243001, x247000, x247001, x248000, x248001 => if x54 = true then (some false) else (ancepsref57_Same.l1 k x5 0 x242000 x242001 x243000 x243001 x247000 x247001 x248000 x248001)
def ancepsref57_Same.l1 : Nat → Int → Int → List ByteArray → List (S65) → List ByteArray → List (S65) → ByteArray → List (S67) → ByteArray → List (S67) → Option (Bool)
 | 0, _, _, _, _, _, _, _, _, _, _ => none
 | k + 1, x5, x8, x242000, x242001, x243000, x243001, x247000, x247001, x248000, x248001 => if x8 < (x247001.length : Int) then (if 0 ≤ x8 then (if x8 < (x248001.length : Int) then (if (!((((rd_T67 x247001 x8).f0).toList) == (((rd_T67 x248001 x8).f0).toList)) || (!(((rd_T67 x247001 x8).f1) == ((rd_T67 x248001 x8).f1)))) = true then (some false) else (ancepsref57_Same.l1 k x5 (wrap64 (x8 + 1)) x242000 x242001 x243000 x243001 x247000 x247001 x248000 x248001)) else (none)) else (none)) else (ancepsref57_Same.l0 k (wrap64 (x5 + 1)) x242000 x242001 x243000 x243001)
end
def ancepsref57_Same.f (k : Nat) (l0_0 : List ByteArray) (l0_1 : List (S65)) (l1_0 : List ByteArray) (l1_1 : List (S65)) : Option (Bool) := (ancepsref01_Equal.f k l0_0 l1_0).bind fun t243 => (if t243 = true then (ancepsref57_Same.j0 k ((l0_1.length : Int) != (l1_1.length : Int)) l0_0 l0_1 l1_0 l1_1) else (ancepsref57_Same.j0 k true l0_0 l0_1 l1_0 l1_1))
theorem ancepsref57_Same.mono_l : ∀ k, (∀ y0 y1 y2 y3 y4, LeO (ancepsref57_Same.j0 k y0 y1 y2 y3 y4) (ancepsref57_Same.j0 (k + 1) y0 y1 y2 y3 y4)) ∧ (∀ y0 y1 y2 y3 y4, LeO (ancepsref57_Same.l0 k y0 y1 y2 y3 y4) (ancepsref57_Same.l0 (k + 1) y0 y1 y2 y3 y4)) ∧ (∀ y0 y1 y2 y3 y4 y5 y6 y7 y8 y9, LeO (ancepsref57_Same.j2 k y0 y1 y2 y3 y4 y5 y6 y7 y8 y9) (ancepsref57_Same.j2 (k + 1) y0 y1 y2 y3 y4 y5 y6 y7 y8 y9)) ∧ (∀ y0 y1 y2 y3 y4 y5 y6 y7 y8 y9, LeO (ancepsref57_Same.l1 k y0 y1 y2 y3 y4 y5 y6 y7 y8 y9) (ancepsref57_Same.l1 (k + 1) y0 y1 y2 y3 y4 y5 y6 y7 y8 y9))
 | 0 => ⟨fun _ _ _ _ _ r h => by simp [ancepsref57_Same.j0] at h, fun _ _ _ _ _ r h => by simp [ancepsref57_Same.l0] at h, fun _ _ _ _ _ _ _ _ _ _ r h => by simp [ancepsref57_Same.j2] at h, fun _ _ _ _ _ _ _ _ _ _ r h => by simp [ancepsref57_Same.l1] at h⟩
 | k + 1 => by
  obtain ⟨ih0, ih1, ih2, ih3⟩ := ancepsref57_Same.mono_l k
  refine ⟨?_, ?_, ?_, ?_⟩
  ·intro y0 y1 y2 y3 y4
   unfold ancepsref57_Same.j0
   repeat' first
   | (with_reducible exact ih0 _ _ _ _ _)
   | (with_reducible exact ih1 _ _ _ _ _)
   | (with_reducible exact ih2 _ _ _ _ _ _ _ _ _ _)
   | (with_reducible exact ih3 _ _ _ _ _ _ _ _ _ _)
   | (with_reducible exact ancepsref01_Equal.mono _ _ _)
   | (with_reducible exact LeO.refl _)
   | (with_reducible exact LeO.none _)
   | (with_reducible refine LeO.ite ?_ ?_)
   | (with_reducible refine LeO.bind ?_ (fun _ => ?_))
   | exact ih0 _ _ _ _ _
   | exact ih1 _ _ _ _ _
   | exact ih2 _ _ _ _ _ _ _ _ _ _
   | exact ih3 _ _ _ _ _ _ _ _ _ _
   | exact ancepsref01_Equal.mono _ _ _
   | exact LeO.none _
   | refine LeO.ite ?_ ?_
   | refine LeO.bind ?_ (fun _ => ?_)
  ·intro y0 y1 y2 y3 y4
   unfold ancepsref57_Same.l0
   repeat' first
   | (with_reducible exact ih0 _ _ _ _ _)
   | (with_reducible exact ih1 _ _ _ _ _)
   | (with_reducible exact ih2 _ _ _ _ _ _ _ _ _ _)
   | (with_reducible exact ih3 _ _ _ _ _ _ _ _ _ _)
   | (with_reducible exact ancepsref01_Equal.mono _ _ _)
   | (with_reducible exact LeO.refl _)
   | (with_reducible exact LeO.none _)
   | (with_reducible refine LeO.ite ?_ ?_)
   | (with_reducible refine LeO.bind ?_ (fun _ => ?_))
   | exact ih0 _ _ _ _ _
   | exact ih1 _ _ _ _ _
   | exact ih2 _ _ _ _ _ _ _ _ _ _
   | exact ih3 _ _ _ _ _ _ _ _ _ _
   | exact ancepsref01_Equal.mono _ _ _
   | exact LeO.none _
   | refine LeO.ite ?_ ?_
   | refine LeO.bind ?_ (fun _ => ?_)
  ·intro y0 y1 y2 y3 y4 y5 y6 y7 y8 y9
   unfold ancepsref57_Same.j2
   repeat' first
   | (with_reducible exact ih0 _ _ _ _ _)
   | (with_reducible exact ih1 _ _ _ _ _)
   | (with_reducible exact ih2 _ _ _ _ _ _ _ _ _ _)
   | (with_reducible exact ih3 _ _ _ _ _ _ _ _ _ _)
   | (with_reducible exact ancepsref01_Equal.mono _ _ _)
   | (with_reducible exact LeO.refl _)
   | (with_reducible exact LeO.none _)
   | (with_reducible refine LeO.ite ?_ ?_)
   | (with_reducible refine LeO.bind ?_ (fun _ => ?_))
   | exact ih0 _ _ _ _ _
   | exact ih1 _ _ _ _ _
   | exact ih2 _ _ _ _ _ _ _ _ _ _
   | exact ih3 _ _ _ _ _ _ _ _ _ _
   | exact ancepsref01_Equal.mono _ _ _
   | exact LeO.none _
   | refine LeO.ite ?_ ?_
   | refine LeO.bind ?_ (fun _ => ?_)
  ·intro y0 y1 y2 y3 y4 y5 y6 y7 y8 y9
   unfold ancepsref57_Same.l1
   repeat' first
   | (with_reducible exact ih0 _ _ _ _ _)
   | (with_reducible exact ih1 _ _ _ _ _)
   | (with_reducible exact ih2 _ _ _ _ _ _ _ _ _ _)
   | (with_reducible exact ih3 _ _ _ _ _ _ _ _ _ _)
   | (with_reducible exact ancepsref01_Equal.mono _ _ _)
   | (with_reducible exact LeO.refl _)
   | (with_reducible exact LeO.none _)
   | (with_reducible refine LeO.ite ?_ ?_)
   | (with_reducible refine LeO.bind ?_ (fun _ => ?_))
   | exact ih0 _ _ _ _ _
   | exact ih1 _ _ _ _ _
   | exact ih2 _ _ _ _ _ _ _ _ _ _
   | exact ih3 _ _ _ _ _ _ _ _ _ _
   | exact ancepsref01_Equal.mono _ _ _
   | exact LeO.none _
   | refine LeO.ite ?_ ?_
   | refine LeO.bind ?_ (fun _ => ?_)
theorem ancepsref57_Same.mono : ∀ a0 a1 a2 a3 k, LeO (ancepsref57_Same.f k a0 a1 a2 a3) (ancepsref57_Same.f (k + 1) a0 a1 a2 a3) := by
 intro a0 a1 a2 a3 k
 obtain ⟨ih0, ih1, ih2, ih3⟩ := ancepsref57_Same.mono_l k
 unfold ancepsref57_Same.f
 repeat' first
   | (with_reducible exact ih0 _ _ _ _ _)
   | (with_reducible exact ih1 _ _ _ _ _)
   | (with_reducible exact ih2 _ _ _ _ _ _ _ _ _ _)
   | (with_reducible exact ih3 _ _ _ _ _ _ _ _ _ _)
   | (with_reducible exact ancepsref01_Equal.mono _ _ _)
   | (with_reducible exact LeO.refl _)
   | (with_reducible exact LeO.none _)
   | (with_reducible refine LeO.ite ?_ ?_)
   | (with_reducible refine LeO.bind ?_ (fun _ => ?_))
   | exact ih0 _ _ _ _ _
   | exact ih1 _ _ _ _ _
   | exact ih2 _ _ _ _ _ _ _ _ _ _
   | exact ih3 _ _ _ _ _ _ _ _ _ _
   | exact ancepsref01_Equal.mono _ _ _
   | exact LeO.none _
   | refine LeO.ite ?_ ?_
   | refine LeO.bind ?_ (fun _ => ?_)
def ancepsref57_Same.T6 : Bool × List (List Nat × List Nat) := (true, [([], []), ([0], [0]), ([], []), ([1, 2], [1, 2]), ([3], [3]), ([], []), ([5], [5]), ([], []), ([6, 7], [6, 7]), ([8], [8]), ([], []), ([], []), ([10, 4, 0, 1, 2, 3, 4, 10, 11], [4, 10]), ([11, 9, 12, 0, 1, 2, 3, 4, 5, 6, 7, 8, 9, 10, 11, 12], [9, 11])])
def ancepsref57_Same.B6 : List Nat := [0, 1, 0, 7, 15, 0, 32, 0, 224, 480, 0, 0, 3103, 8191]
theorem ancepsref57_Same.tab6 : rtab .any (opsOf Try.f19 6) = ancepsref57_Same.T6 := by kernel_rfl
theorem ancepsref57_Same.bits6 : waitsOk ancepsref57_Same.T6.2 ancepsref57_Same.B6 = true := by kernel_rfl
def ancepsref57_Same.T12 : Bool × List (List Nat × List Nat) := (true, [([], []), ([0], [0]), ([], []), ([1, 2], [1, 2]), ([3], [3]), ([], []), ([5], [5]), ([], []), ([6, 7], [6, 7]), ([8], [8]), ([4, 9], [4, 9])])
def ancepsref57_Same.B12 : List Nat := [0, 1, 0, 7, 15, 0, 32, 0, 224, 480, 1023]
theorem ancepsref57_Same.tab12 : rtab .any (opsOf Try.f19 12) = ancepsref57_Same.T12 := by kernel_rfl
theorem ancepsref57_Same.bits12 : waitsOk ancepsref57_Same.T12.2 ancepsref57_Same.B12 = true := by kernel_rfl
set_option maxHeartbeats 8000000 in
set_option maxRecDepth 100000 in
theorem ancepsref57_Same.calls (k : Nat) (A0_0 : Option Addr) (c0_0 : Nat) (l0_0 : List ByteArray) (A0_1 : Option Addr) (c0_1 : Nat) (l0_1 : List (S65)) (A1_0 : Option Addr) (c1_0 : Nat) (l1_0 : List ByteArray) (A1_1 : Option Addr) (c1_1 : Nat) (l1_1 : List (S65)) (r : Bool) (w : World) (hr0_0 : Kd.C Kd.string w A0_0 l0_0.length l0_0) (hc0_0 : l0_0.length ≤ c0_0) (hr0_1 : Kd.C k65 w A0_1 l0_1.length l0_1) (hc0_1 : l0_1.length ≤ c0_1) (hr1_0 : Kd.C Kd.string w A1_0 l1_0.length l1_0) (hc1_0 : l1_0.length ≤ c1_0) (hr1_1 : Kd.C k65 w A1_1 l1_1.length l1_1) (hc1_1 : l1_1.length ≤ c1_1) (h : ancepsref57_Same.f k l0_0 l0_1 l1_0 l1_1 = some r) :
  Calls Try.prog 19 #[.agg #[.slice A0_0 l0_0.length c0_0, .slice A0_1 l0_1.length c0_1], .agg #[.slice A1_0 l1_0.length c1_0, .slice A1_1 l1_1.length c1_1]] w fun e w' => e = .returned (.bool r) ∧ Below w.heap.size w w' := by
 have hu42 := Try.underlying42
 have hu65 := Try.underlying65
 have hu67 := Try.underlying67
 have HR0_0 := Aside0.mk hr0_0
 have HC0_0 := Aside0.mk hc0_0
 clear hr0_0 hc0_0
 have HR0_1 := Aside0.mk hr0_1
 have HC0_1 := Aside0.mk hc0_1
 clear hr0_1 hc0_1
 have HR1_0 := Aside0.mk hr1_0
 have HC1_0 := Aside0.mk hc1_0
 clear hr1_0 hc1_0
 have HR1_1 := Aside0.mk hr1_1
 have HC1_1 := Aside0.mk hc1_1
 clear hr1_1 hc1_1
 have HB := Aside0.mk (Below.refl w.heap.size w)
 have H : ((ancepsref01_Equal.f k l0_0 l1_0).bind fun t243 => (if t243 = true then (ancepsref57_Same.j0 k ((l0_1.length : Int) != (l1_1.length : Int)) l0_0 l0_1 l1_0 l1_1) else (ancepsref57_Same.j0 k true l0_0 l0_1 l1_0 l1_1))) = some r := h
 clear h
 have HC3 := Aside0.mk H
 clear H
 go_enter Try.func19, Try.ntmps19
 go_upto_region 1 with (first | ((with_reducible refine gate_dst (N := 2) rfl ?_); (try (refine gate_guard (by rfl) ?_; dsimp only)); refine bX 2 #[.slice A0_0 l0_0.length c0_0, .slice A0_1 l0_1.length c0_1] 42 ?_; intro gb241 hg w4 hbox hb; have n0_ := jL HB hb; have n1_ := Aside0.mk (hbox); have n2_ := Aside0.mk ((by rw [hg]; exact (below_size (iL HB)) : w.heap.size ≤ gb241)); have n3_ := Aside0.mk ((by rw [hg]; exact (below_size (iL HB)) : w.heap.size ≤ gb241)); clear HB; have HB := n0_; have BK241 := n1_; have GW241 := n2_; have GE241 := n3_; clear n0_ n1_ n2_ n3_; clear hb hbox hg) | ((with_reducible refine gate_dst (N := 3) rfl ?_); (try (refine gate_guard (by rfl) ?_; dsimp only)); refine bX 3 #[.slice A1_0 l1_0.length c1_0, .slice A1_1 l1_1.length c1_1] 42 ?_; intro gb242 hg w5 hbox hb; have n0_ := jB BK241 hb; have n1_ := jL HB hb; have n2_ := Aside0.mk (hbox); have n3_ := Aside0.mk ((by rw [hg]; exact (below_size (iL HB)) : w.heap.size ≤ gb242)); have n4_ := Aside0.mk ((by rw [hg]; exact (below_size (iL HB)) : w.heap.size ≤ gb242)); have n5_ := Aside0.mk ((by rw [hg]; exact Nat.ne_of_lt (blk_lt (g := gb241) (o := .cells #[.slice A0_0 l0_0.length c0_0, .slice A0_1 l0_1.length c0_1] 42 (0, 0)) (iB BK241)) : gb241 ≠ gb242)); have n6_ := Aside0.mk ((by rw [hg]; exact Nat.ne_of_gt (blk_lt (g := gb241) (o := .cells #[.slice A0_0 l0_0.length c0_0, .slice A0_1 l0_1.length c0_1] 42 (0, 0)) (iB BK241)) : gb242 ≠ gb241)); clear BK241; clear HB; have BK241 := n0_; have HB := n1_; have BK242 := n2_; have GW242 := n3_; have GE242 := n4_; have NB241_242 := n5_; have NB242_241 := n6_; clear n0_ n1_ n2_ n3_ n4_ n5_ n6_; clear hb hbox hg))
 (try simp only [Act.put, List.setIfInBounds_toArray, List.set_cons_zero, List.set_cons_succ])
 go_cut [23] (fun v23 wc => ∃ (kq : Nat) (x23_2 : Bool), v23 = .bool x23_2 ∧ Aside0 (ancepsref57_Same.j0 kq x23_2 l0_0 l0_1 l1_0 l1_1 = some r) ∧ Aside0 (kq ≤ k) ∧ Aside0 (wc.heap[gb241]? = some (.cells #[(.slice A0_0 l0_0.length c0_0), (.slice A0_1 l0_1.length c0_1)] 42 (0, 0))) ∧ Aside0 (wc.heap[gb242]? = some (.cells #[(.slice A1_0 l1_0.length c1_0), (.slice A1_1 l1_1.length c1_1)] 42 (0, 0))) ∧ Aside0 (Below w.heap.size w wc))
 case first =>
  have H := HC3.out
  clear HC3
  replace H := Option.bind_eq_some_iff.mp H
  obtain ⟨t243, A60, H⟩ := H
  try dsimp only at H
  have A6 := Aside0.mk A60
  clear A60
  by_cases c7 : t243 = true
  ·subst c7
   have H1 : (ancepsref57_Same.j0 k ((l0_1.length : Int) != (l1_1.length : Int)) l0_0 l0_1 l1_0 l1_1) = some r := by rw [if_pos rfl] at H; exact H
   clear H
   have H := H1
   clear H1
   have H' := Aside0.mk H
   clear H
   have hnb8 := NB241_242.out
   have hnc8 := NB242_241.out
   have hcz9_0 := cZ BK241 0 (.slice A0_0 l0_0.length c0_0)
   have hcz9_1 := cZ BK241 1 (.slice A0_1 l0_1.length c0_1)
   have hfz9_0 := blk_frozen BK241.out 0
   have hfz9_1 := blk_frozen BK241.out 1
   have hcz10_0 := cZ BK242 0 (.slice A1_0 l1_0.length c1_0)
   have hcz10_1 := cZ BK242 1 (.slice A1_1 l1_1.length c1_1)
   have hfz10_0 := blk_frozen BK242.out 0
   have hfz10_1 := blk_frozen BK242.out 1
   go_wp2_with (first | ((with_reducible refine gate_callee (f := 21) rfl ?_); refine gL_ (some 13) Try.func21 #[.slice A0_0 l0_0.length c0_0, .slice A1_0 l1_0.length c1_0] ?_; (with_reducible refine (ancepsref01_Equal.calls k _ _ l0_0 _ _ l1_0 true _ ?side1 ?side2 ?side3 ?side4 A6.out).mono ?_); (case side1 => exact iC HR0_0 HB); (case side2 => exact HC0_0.out); (case side3 => exact iC HR1_0 HB); (case side4 => exact HC1_0.out); rintro e w' ⟨rfl, ⟨nd, rfl⟩⟩; refine ⟨_, rfl, ?_⟩))
   go_meet
   case rel => exact ⟨_, (((l0_1.length : Int) != (l1_1.length : Int))), eV, H', ⟨by first | omega | exact Nat.le_refl _⟩, ⟨iB BK241⟩, ⟨iB BK242⟩, ⟨iL HB⟩⟩
  ·replace c7 := Bool.eq_false_iff.mpr c7
   subst c7
   have H1 : (ancepsref57_Same.j0 k true l0_0 l0_1 l1_0 l1_1) = some r := by rw [if_neg (show ¬ (false = true) by decide)] at H; exact H
   clear H
   have H := H1
   clear H1
   have H' := Aside0.mk H
   clear H
   have hnb11 := NB241_242.out
   have hnc11 := NB242_241.out
   have hcz12_0 := cZ BK241 0 (.slice A0_0 l0_0.length c0_0)
   have hcz12_1 := cZ BK241 1 (.slice A0_1 l0_1.length c0_1)
   have hfz12_0 := blk_frozen BK241.out 0
   have hfz12_1 := blk_frozen BK241.out 1
   have hcz13_0 := cZ BK242 0 (.slice A1_0 l1_0.length c1_0)
   have hcz13_1 := cZ BK242 1 (.slice A1_1 l1_1.length c1_1)
   have hfz13_0 := blk_frozen BK242.out 0
   have hfz13_1 := blk_frozen BK242.out 1
   go_wp2_with (first | ((with_reducible refine gate_callee (f := 21) rfl ?_); refine gL_ (some 13) Try.func21 #[.slice A0_0 l0_0.length c0_0, .slice A1_0 l1_0.length c1_0] ?_; (with_reducible refine (ancepsref01_Equal.calls k _ _ l0_0 _ _ l1_0 false _ ?side1 ?side2 ?side3 ?side4 A6.out).mono ?_); (case side1 => exact iC HR0_0 HB); (case side2 => exact HC0_0.out); (case side3 => exact iC HR1_0 HB); (case side4 => exact HC1_0.out); rintro e w' ⟨rfl, ⟨nd, rfl⟩⟩; refine ⟨_, rfl, ?_⟩))
   go_meet
   case rel => exact ⟨_, (true), eV, H', ⟨by first | omega | exact Nat.le_refl _⟩, ⟨iB BK241⟩, ⟨iB BK242⟩, ⟨iL HB⟩⟩
 case rest =>
  clear HC3
  (try clear c1); (try clear c2); (try clear p2); (try clear c7); (try clear c8); (try clear c11); (try clear hcz10_0); (try clear hcz10_1); (try clear hcz12_0); (try clear hcz12_1); (try clear hcz13_0); (try clear hcz13_1); (try clear hcz9_0); (try clear hcz9_1); (try clear hfz10_0); (try clear hfz10_1); (try clear hfz12_0); (try clear hfz12_1); (try clear hfz13_0); (try clear hfz13_1); (try clear hfz9_0); (try clear hfz9_1)
  obtain ⟨kq, x23_2, rfl, HA, HJ2, BK241, BK242, HB⟩ := hcut
  cases kq with
  | zero => exact absurd HA.out (by simp [ancepsref57_Same.j0])
  | succ kj2 =>
   have H := HA.out
   clear HA
   simp only [ancepsref57_Same.j0] at H
   by_cases c14 : x23_2 = true
   ·subst c14
    have H1 : (some false) = some r := by rw [if_pos rfl] at H; exact H
    clear H
    have H := H1
    clear H1
    obtain rfl := Option.some.inj H
    go_wp2
    go_ret
    exact ⟨eV, iL HB⟩
   ·replace c14 := Bool.eq_false_iff.mpr c14
    subst c14
    have H1 : (ancepsref57_Same.l0 kj2 0 l0_0 l0_1 l1_0 l1_1) = some r := by rw [if_neg (show ¬ (false = true) by decide)] at H; exact H
    clear H
    have H := H1
    clear H1
    have H' := Aside0.mk H
    clear H
    go_wp2
    go_loopg [5] kj2 (fun kq v5 w' => ∃ (x5_2 : Int), v5 = .int .i64 x5_2 ∧ Aside0 (ancepsref57_Same.l0 kq x5_2 l0_0 l0_1 l1_0 l1_1 = some r) ∧ Aside0 (kq ≤ kj2) ∧ Aside0 (w'.heap[gb241]? = some (.cells #[(.slice A0_0 l0_0.length c0_0), (.slice A0_1 l0_1.length c0_1)] 42 (0, 0))) ∧ Aside0 (w'.heap[gb242]? = some (.cells #[(.slice A1_0 l1_0.length c1_0), (.slice A1_1 l1_1.length c1_1)] 42 (0, 0))) ∧ Aside0 (Below w.heap.size w w'))
    case atStart => exact ⟨(0), eV, H', ⟨Nat.le_refl _⟩, ⟨iB BK241⟩, ⟨iB BK242⟩, ⟨iL HB⟩⟩
    case round =>
     clear H'
     (try clear c1); (try clear c2); (try clear p2); (try clear c7); (try clear c8); (try clear c11); (try clear c14); (try clear hcz10_0); (try clear hcz10_1); (try clear hcz12_0); (try clear hcz12_1); (try clear hcz13_0); (try clear hcz13_1); (try clear hcz9_0); (try clear hcz9_1); (try clear hfz10_0); (try clear hfz10_1); (try clear hfz12_0); (try clear hfz12_1); (try clear hfz13_0); (try clear hfz13_1); (try clear hfz9_0); (try clear hfz9_1); (try clear p2)
     obtain ⟨x5_2, rfl, HA, HK2, BK241, BK242, HB⟩ := hrel
     cases gk with
     | zero => exact absurd HA.out (by simp [ancepsref57_Same.l0])
     | succ k2 =>
      have H := HA.out
      clear HA
      simp only [ancepsref57_Same.l0] at H
      by_cases c15 : x5_2 < (l0_1.length : Int)
      ·rw [if_pos c15] at H
       have c15b0 : decide (x5_2 < (l0_1.length : Int)) = true := decide_eq_true c15
       clear c15
       by_cases c16 : 0 ≤ x5_2
       ·rw [if_pos c16] at H
        have c16b0 : decide (0 ≤ x5_2) = true := decide_eq_true c16
        clear c16
        by_cases c17 : x5_2 < (l1_1.length : Int)
        ·rw [if_pos c17] at H
         have c17b0 : decide (x5_2 < (l1_1.length : Int)) = true := decide_eq_true c17
         clear c17
         have HC18 := Aside0.mk H
         clear H
         have hnb19 := NB241_242.out
         have hnc19 := NB242_241.out
         have hcz20_0 := cZ BK241 0 (.slice A0_0 l0_0.length c0_0)
         have hcz20_1 := cZ BK241 1 (.slice A0_1 l0_1.length c0_1)
         have hfz20_0 := blk_frozen BK241.out 0
         have hfz20_1 := blk_frozen BK241.out 1
         try go_wp2
         have n0_ := Aside0.mk (blk_drew BK241.out)
         have n1_ := Aside0.mk (blk_drew BK242.out)
         have n2_ := Aside0.mk (below_drew1 HB.out)
         clear BK241
         clear BK242
         clear HB
         have BK241 := n0_
         have BK242 := n1_
         have HB := n2_
         clear n0_ n1_ n2_
         have p244 := oD (0 ≤ (x5_2 : Int))
         have q244 := oD (x5_2 < (l0_1.length : Int))
         obtain ⟨ad244, A244_1, c244_1, e244, hx244_0, hx244_1, hl244_1, hi244_1⟩ := at_T65 HR0_1.out x5_2 p244 q244
         have hw244_1 := hx244_1
         have hw244_0 := hx244_0
         cases e244
         replace hx244_0 := (HB.out.cell (World.block_lt_of_cell? w _ hx244_0)).trans hx244_0
         replace hx244_1 := (HB.out.cell (World.block_lt_of_cell? w _ hx244_1)).trans hx244_1
         have HR244_1 := Aside0.mk hi244_1
         have HC244_1 := Aside0.mk hl244_1
         clear hi244_1 hl244_1
         replace p244 := eq_true p244
         replace q244 := eq_true q244
         have p245 := oD (0 ≤ (x5_2 : Int))
         have q245 := oD (x5_2 < (l1_1.length : Int))
         obtain ⟨ad245, A245_1, c245_1, e245, hx245_0, hx245_1, hl245_1, hi245_1⟩ := at_T65 HR1_1.out x5_2 p245 q245
         have hw245_1 := hx245_1
         have hw245_0 := hx245_0
         cases e245
         replace hx245_0 := (HB.out.cell (World.block_lt_of_cell? w _ hx245_0)).trans hx245_0
         replace hx245_1 := (HB.out.cell (World.block_lt_of_cell? w _ hx245_1)).trans hx245_1
         have HR245_1 := Aside0.mk hi245_1
         have HC245_1 := Aside0.mk hl245_1
         clear hi245_1 hl245_1
         replace p245 := eq_true p245
         replace q245 := eq_true q245
         refine start_ (n := 14) (S := fun w' => w'.cell? ⟨gb241, 0, none⟩ = some (.slice A0_0 l0_0.length c0_0) ∧ w'.cell? ⟨gb241, 1, none⟩ = some (.slice (some ad244) l0_1.length c0_1) ∧ w'.cell? ⟨gb242, 0, none⟩ = some (.slice A1_0 l1_0.length c1_0) ∧ w'.cell? ⟨gb242, 1, none⟩ = some (.slice (some ad245) l1_1.length c1_1) ∧ w'.cell? (ad244.add ((x5_2).toNat * 2)) = some (.string ((rd_T65 l0_1 x5_2).f0)) ∧ w'.cell? ⟨(ad244.add ((x5_2).toNat * 2)).block, (ad244.add ((x5_2).toNat * 2)).off + 1, none⟩ = some (.slice A244_1 ((rd_T65 l0_1 x5_2).f1).length c244_1) ∧ w'.cell? (ad245.add ((x5_2).toNat * 2)) = some (.string ((rd_T65 l1_1 x5_2).f0)) ∧ w'.cell? ⟨(ad245.add ((x5_2).toNat * 2)).block, (ad245.add ((x5_2).toNat * 2)).off + 1, none⟩ = some (.slice A245_1 ((rd_T65 l1_1 x5_2).f1).length c245_1)) (ds := []) #[false, false, false, false, false, false, false, false, false, false, false, false, false, false] (by kernel_rfl) rfl rfl ⟨(blk_cell BK241.out 0).trans rfl, (blk_cell BK241.out 1).trans rfl, (blk_cell BK242.out 0).trans rfl, (blk_cell BK242.out 1).trans rfl, ((HB.out.cell (World.block_lt_of_cell? w _ hw244_0)).trans hw244_0), ((HB.out.cell (World.block_lt_of_cell? w _ hw244_1)).trans hw244_1), ((HB.out.cell (World.block_lt_of_cell? w _ hw245_0)).trans hw245_0), ((HB.out.cell (World.block_lt_of_cell? w _ hw245_1)).trans hw245_1)⟩ (fun hHeld => ?_); refine with_tabW ancepsref57_Same.tab6 ancepsref57_Same.bits6 (fun HT_ HW_ => ?_)
         generalize wr.drew = w21 at BK241 BK242 HB HR244_1 HR245_1 hx244_0 hx244_1 hx245_0 hx245_1 hHeld ⊢
         refine pv_ 0 (some 31) HT_ ?_
         refine pv_ 2 (some 33) HT_ ?_
         refine pv_ 5 (some 36) HT_ ?_
         refine pv_ 7 (some 38) HT_ ?_
         refine tw_ 1 (some 32) HT_ HW_ hHeld ?_
         refine pv_ 3 (some 34) HT_ ?_
         refine tw_ 4 (some 35) HT_ HW_ hHeld ?_
         refine tw_ 6 (some 37) HT_ HW_ hHeld ?_
         refine pv_ 8 (some 39) HT_ ?_
         refine tw_ 9 (some 40) HT_ HW_ hHeld ?_
         refine join_ (σ := Nat × Nat) 2 #[true, true, true, true, true, true, true, true, true, true, true, true, false, false] (fun s_ => [(6, .pointer (some ⟨s_.1, 0, none⟩)), (7, .pointer (some ⟨s_.2, 0, none⟩))]) (fun s_ w' => (w'.cell? ⟨gb241, 0, none⟩ = some (.slice A0_0 l0_0.length c0_0) ∧ w'.cell? ⟨gb241, 1, none⟩ = some (.slice (some ad244) l0_1.length c0_1) ∧ w'.cell? ⟨gb242, 0, none⟩ = some (.slice A1_0 l1_0.length c1_0) ∧ w'.cell? ⟨gb242, 1, none⟩ = some (.slice (some ad245) l1_1.length c1_1) ∧ w'.cell? (ad244.add ((x5_2).toNat * 2)) = some (.string ((rd_T65 l0_1 x5_2).f0)) ∧ w'.cell? ⟨(ad244.add ((x5_2).toNat * 2)).block, (ad244.add ((x5_2).toNat * 2)).off + 1, none⟩ = some (.slice A244_1 ((rd_T65 l0_1 x5_2).f1).length c244_1) ∧ w'.cell? (ad245.add ((x5_2).toNat * 2)) = some (.string ((rd_T65 l1_1 x5_2).f0)) ∧ w'.cell? ⟨(ad245.add ((x5_2).toNat * 2)).block, (ad245.add ((x5_2).toNat * 2)).off + 1, none⟩ = some (.slice A245_1 ((rd_T65 l1_1 x5_2).f1).length c245_1)) ∧ (w'.heap[gb241]? = some (.cells #[.slice A0_0 l0_0.length c0_0, .slice (some ad244) l0_1.length c0_1] 42 (0, 0))) ∧ (w'.heap[gb242]? = some (.cells #[.slice A1_0 l1_0.length c1_0, .slice (some ad245) l1_1.length c1_1] 42 (0, 0))) ∧ (w'.heap[s_.1]? = some (.cells #[.string (⟨#[]⟩ : ByteArray), .slice none 0 0] 65 (0, 0))) ∧ (w'.heap[s_.2]? = some (.cells #[.string (⟨#[]⟩ : ByteArray), .slice none 0 0] 65 (0, 0))) ∧ (w.heap.size ≤ s_.1) ∧ (w.heap.size ≤ s_.1) ∧ (gb241 ≠ s_.1) ∧ (s_.1 ≠ gb241) ∧ (gb242 ≠ s_.1) ∧ (s_.1 ≠ gb242) ∧ (s_.2 ≠ s_.1) ∧ (s_.1 ≠ s_.2) ∧ (w.heap.size ≤ s_.2) ∧ (w.heap.size ≤ s_.2) ∧ (gb241 ≠ s_.2) ∧ (s_.2 ≠ gb241) ∧ (gb242 ≠ s_.2) ∧ (s_.2 ≠ gb242) ∧ (Below w.heap.size w w')) ?_ ?_
         rotate_left
         ·intro hCont
          refine two_ (i := 10) (j := 11) (Ni := some 6) (Nj := some 7) #[true, true, true, true, true, true, true, true, true, true, true, false, false, false] #[true, true, true, true, true, true, true, true, true, true, false, true, false, false] rfl rfl rfl rfl (two_of HT_.out (by kernel_rfl)) (by decide) (by decide) (fun K hK => ?_) (fun K hK => ?_)
          ·skip
           refine box_step ?hg (N := 6) ?hd (cs := #[.string (⟨#[]⟩ : ByteArray), .slice none 0 0]) (t := 65) ?hr ?_; (case hd | hg => rfl); (case hr => first | (go_simp; done) | (go_simp; rfl))
           intro gb246 hg w22 hbox hb
           have n0_ := jB BK241 hb
           have n1_ := jB BK242 hb
           have n2_ := jL HB hb
           have n3_ := Aside0.mk (hbox)
           have n4_ := Aside0.mk ((by rw [hg]; exact (below_size (iL HB)) : w.heap.size ≤ gb246))
           have n5_ := Aside0.mk ((by rw [hg]; exact (below_size (iL HB)) : w.heap.size ≤ gb246))
           have n6_ := Aside0.mk ((by rw [hg]; exact Nat.ne_of_lt (blk_lt (g := gb241) (o := .cells #[.slice A0_0 l0_0.length c0_0, .slice (some ad244) l0_1.length c0_1] 42 (0, 0)) (iB BK241)) : gb241 ≠ gb246))
           have n7_ := Aside0.mk ((by rw [hg]; exact Nat.ne_of_gt (blk_lt (g := gb241) (o := .cells #[.slice A0_0 l0_0.length c0_0, .slice (some ad244) l0_1.length c0_1] 42 (0, 0)) (iB BK241)) : gb246 ≠ gb241))
           have n8_ := Aside0.mk ((by rw [hg]; exact Nat.ne_of_lt (blk_lt (g := gb242) (o := .cells #[.slice A1_0 l1_0.length c1_0, .slice (some ad245) l1_1.length c1_1] 42 (0, 0)) (iB BK242)) : gb242 ≠ gb246))
           have n9_ := Aside0.mk ((by rw [hg]; exact Nat.ne_of_gt (blk_lt (g := gb242) (o := .cells #[.slice A1_0 l1_0.length c1_0, .slice (some ad245) l1_1.length c1_1] 42 (0, 0)) (iB BK242)) : gb246 ≠ gb242))
           clear BK241
           clear BK242
           clear HB
           have BK241 := n0_
           have BK242 := n1_
           have HB := n2_
           have BK246 := n3_
           have GW246 := n4_
           have GE246 := n5_
           have NB241_246 := n6_
           have NB246_241 := n7_
           have NB242_246 := n8_
           have NB246_242 := n9_
           clear n0_ n1_ n2_ n3_ n4_ n5_ n6_ n7_ n8_ n9_
           clear hb hbox hg
           refine hK.out _ _ ⟨(blk_cell BK241.out 0).trans rfl, (blk_cell BK241.out 1).trans rfl, (blk_cell BK242.out 0).trans rfl, (blk_cell BK242.out 1).trans rfl, ((HB.out.cell (World.block_lt_of_cell? w _ hw244_0)).trans hw244_0), ((HB.out.cell (World.block_lt_of_cell? w _ hw244_1)).trans hw244_1), ((HB.out.cell (World.block_lt_of_cell? w _ hw245_0)).trans hw245_0), ((HB.out.cell (World.block_lt_of_cell? w _ hw245_1)).trans hw245_1)⟩ (fun hHeld => ?_)
           clear hK K
           refine norm_ (a' := ?_) ?_ ?_
           rotate_left
           ·show Act.put _ (some 6) _ = _
            simp only [Act.put, List.setIfInBounds_toArray, List.set_cons_zero, List.set_cons_succ, i64_w, i32_w]
            rfl
           refine one_ (i := 11) (N := some 7) #[true, true, true, true, true, true, true, true, true, true, true, true, false, false] rfl rfl (one_of HT_.out (by kernel_rfl)) (by decide) (fun K hK => ?_)
           refine box_step ?hg (N := 7) ?hd (cs := #[.string (⟨#[]⟩ : ByteArray), .slice none 0 0]) (t := 65) ?hr ?_; (case hd | hg => rfl); (case hr => first | (go_simp; done) | (go_simp; rfl))
           intro gb247 hg w23 hbox hb
           have n0_ := jB BK241 hb
           have n1_ := jB BK242 hb
           have n2_ := jB BK246 hb
           have n3_ := jL HB hb
           have n4_ := Aside0.mk (hbox)
           have n5_ := Aside0.mk ((by rw [hg]; exact (below_size (iL HB)) : w.heap.size ≤ gb247))
           have n6_ := Aside0.mk ((by rw [hg]; exact (below_size (iL HB)) : w.heap.size ≤ gb247))
           have n7_ := Aside0.mk ((by rw [hg]; exact Nat.ne_of_lt (blk_lt (g := gb241) (o := .cells #[.slice A0_0 l0_0.length c0_0, .slice (some ad244) l0_1.length c0_1] 42 (0, 0)) (iB BK241)) : gb241 ≠ gb247))
           have n8_ := Aside0.mk ((by rw [hg]; exact Nat.ne_of_gt (blk_lt (g := gb241) (o := .cells #[.slice A0_0 l0_0.length c0_0, .slice (some ad244) l0_1.length c0_1] 42 (0, 0)) (iB BK241)) : gb247 ≠ gb241))
           have n9_ := Aside0.mk ((by rw [hg]; exact Nat.ne_of_lt (blk_lt (g := gb242) (o := .cells #[.slice A1_0 l1_0.length c1_0, .slice (some ad245) l1_1.length c1_1] 42 (0, 0)) (iB BK242)) : gb242 ≠ gb247))
           have n10_ := Aside0.mk ((by rw [hg]; exact Nat.ne_of_gt (blk_lt (g := gb242) (o := .cells #[.slice A1_0 l1_0.length c1_0, .slice (some ad245) l1_1.length c1_1] 42 (0, 0)) (iB BK242)) : gb247 ≠ gb242))
           have n11_ := Aside0.mk ((by rw [hg]; exact Nat.ne_of_lt (blk_lt (g := gb246) (o := .cells #[.string (⟨#[]⟩ : ByteArray), .slice none 0 0] 65 (0, 0)) (iB BK246)) : gb246 ≠ gb247))
           have n12_ := Aside0.mk ((by rw [hg]; exact Nat.ne_of_gt (blk_lt (g := gb246) (o := .cells #[.string (⟨#[]⟩ : ByteArray), .slice none 0 0] 65 (0, 0)) (iB BK246)) : gb247 ≠ gb246))
           clear BK241
           clear BK242
           clear BK246
           clear HB
           have BK241 := n0_
           have BK242 := n1_
           have BK246 := n2_
           have HB := n3_
           have BK247 := n4_
           have GW247 := n5_
           have GE247 := n6_
           have NB241_247 := n7_
           have NB247_241 := n8_
           have NB242_247 := n9_
           have NB247_242 := n10_
           have NB246_247 := n11_
           have NB247_246 := n12_
           clear n0_ n1_ n2_ n3_ n4_ n5_ n6_ n7_ n8_ n9_ n10_ n11_ n12_
           clear hb hbox hg
           refine hK.out _ _ ⟨(blk_cell BK241.out 0).trans rfl, (blk_cell BK241.out 1).trans rfl, (blk_cell BK242.out 0).trans rfl, (blk_cell BK242.out 1).trans rfl, ((HB.out.cell (World.block_lt_of_cell? w _ hw244_0)).trans hw244_0), ((HB.out.cell (World.block_lt_of_cell? w _ hw244_1)).trans hw244_1), ((HB.out.cell (World.block_lt_of_cell? w _ hw245_0)).trans hw245_0), ((HB.out.cell (World.block_lt_of_cell? w _ hw245_1)).trans hw245_1)⟩ (fun hHeld => ?_)
           clear hK K
           refine norm_ (a' := ?_) ?_ ?_
           rotate_left
           ·show Act.put _ (some 7) _ = _
            simp only [Act.put, List.setIfInBounds_toArray, List.set_cons_zero, List.set_cons_succ, i64_w, i32_w]
            rfl
           exact norm_ (by simp only [putAll, Act.put, List.setIfInBounds_toArray, List.set_cons_zero, List.set_cons_succ]) (hCont (gb246, gb247) _ ⟨hHeld, (iB BK241), (iB BK242), (iB BK246), (iB BK247), GW246.out, GE246.out, NB241_246.out, NB246_241.out, NB242_246.out, NB246_242.out, NB247_246.out, NB246_247.out, GW247.out, GE247.out, NB241_247.out, NB247_241.out, NB242_247.out, NB247_242.out, (iL HB)⟩)
          ·skip
           refine box_step ?hg (N := 7) ?hd (cs := #[.string (⟨#[]⟩ : ByteArray), .slice none 0 0]) (t := 65) ?hr ?_; (case hd | hg => rfl); (case hr => first | (go_simp; done) | (go_simp; rfl))
           intro gb247 hg w22 hbox hb
           have n0_ := jB BK241 hb
           have n1_ := jB BK242 hb
           have n2_ := jL HB hb
           have n3_ := Aside0.mk (hbox)
           have n4_ := Aside0.mk ((by rw [hg]; exact (below_size (iL HB)) : w.heap.size ≤ gb247))
           have n5_ := Aside0.mk ((by rw [hg]; exact (below_size (iL HB)) : w.heap.size ≤ gb247))
           have n6_ := Aside0.mk ((by rw [hg]; exact Nat.ne_of_lt (blk_lt (g := gb241) (o := .cells #[.slice A0_0 l0_0.length c0_0, .slice (some ad244) l0_1.length c0_1] 42 (0, 0)) (iB BK241)) : gb241 ≠ gb247))
           have n7_ := Aside0.mk ((by rw [hg]; exact Nat.ne_of_gt (blk_lt (g := gb241) (o := .cells #[.slice A0_0 l0_0.length c0_0, .slice (some ad244) l0_1.length c0_1] 42 (0, 0)) (iB BK241)) : gb247 ≠ gb241))
           have n8_ := Aside0.mk ((by rw [hg]; exact Nat.ne_of_lt (blk_lt (g := gb242) (o := .cells #[.slice A1_0 l1_0.length c1_0, .slice (some ad245) l1_1.length c1_1] 42 (0, 0)) (iB BK242)) : gb242 ≠ gb247))
           have n9_ := Aside0.mk ((by rw [hg]; exact Nat.ne_of_gt (blk_lt (g := gb242) (o := .cells #[.slice A1_0 l1_0.length c1_0, .slice (some ad245) l1_1.length c1_1] 42 (0, 0)) (iB BK242)) : gb247 ≠ gb242))
           clear BK241
           clear BK242
           clear HB
           have BK241 := n0_
           have BK242 := n1_
           have HB := n2_
           have BK247 := n3_
           have GW247 := n4_
           have GE247 := n5_
           have NB241_247 := n6_
           have NB247_241 := n7_
           have NB242_247 := n8_
           have NB247_242 := n9_
           clear n0_ n1_ n2_ n3_ n4_ n5_ n6_ n7_ n8_ n9_
           clear hb hbox hg
           refine hK.out _ _ ⟨(blk_cell BK241.out 0).trans rfl, (blk_cell BK241.out 1).trans rfl, (blk_cell BK242.out 0).trans rfl, (blk_cell BK242.out 1).trans rfl, ((HB.out.cell (World.block_lt_of_cell? w _ hw244_0)).trans hw244_0), ((HB.out.cell (World.block_lt_of_cell? w _ hw244_1)).trans hw244_1), ((HB.out.cell (World.block_lt_of_cell? w _ hw245_0)).trans hw245_0), ((HB.out.cell (World.block_lt_of_cell? w _ hw245_1)).trans hw245_1)⟩ (fun hHeld => ?_)
           clear hK K
           refine norm_ (a' := ?_) ?_ ?_
           rotate_left
           ·show Act.put _ (some 7) _ = _
            simp only [Act.put, List.setIfInBounds_toArray, List.set_cons_zero, List.set_cons_succ, i64_w, i32_w]
            rfl
           refine one_ (i := 10) (N := some 6) #[true, true, true, true, true, true, true, true, true, true, true, true, false, false] rfl rfl (one_of HT_.out (by kernel_rfl)) (by decide) (fun K hK => ?_)
           refine box_step ?hg (N := 6) ?hd (cs := #[.string (⟨#[]⟩ : ByteArray), .slice none 0 0]) (t := 65) ?hr ?_; (case hd | hg => rfl); (case hr => first | (go_simp; done) | (go_simp; rfl))
           intro gb246 hg w23 hbox hb
           have n0_ := jB BK241 hb
           have n1_ := jB BK242 hb
           have n2_ := jB BK247 hb
           have n3_ := jL HB hb
           have n4_ := Aside0.mk (hbox)
           have n5_ := Aside0.mk ((by rw [hg]; exact (below_size (iL HB)) : w.heap.size ≤ gb246))
           have n6_ := Aside0.mk ((by rw [hg]; exact (below_size (iL HB)) : w.heap.size ≤ gb246))
           have n7_ := Aside0.mk ((by rw [hg]; exact Nat.ne_of_lt (blk_lt (g := gb241) (o := .cells #[.slice A0_0 l0_0.length c0_0, .slice (some ad244) l0_1.length c0_1] 42 (0, 0)) (iB BK241)) : gb241 ≠ gb246))
           have n8_ := Aside0.mk ((by rw [hg]; exact Nat.ne_of_gt (blk_lt (g := gb241) (o := .cells #[.slice A0_0 l0_0.length c0_0, .slice (some ad244) l0_1.length c0_1] 42 (0, 0)) (iB BK241)) : gb246 ≠ gb241))
           have n9_ := Aside0.mk ((by rw [hg]; exact Nat.ne_of_lt (blk_lt (g := gb242) (o := .cells #[.slice A1_0 l1_0.length c1_0, .slice (some ad245) l1_1.length c1_1] 42 (0, 0)) (iB BK242)) : gb242 ≠ gb246))
           have n10_ := Aside0.mk ((by rw [hg]; exact Nat.ne_of_gt (blk_lt (g := gb242) (o := .cells #[.slice A1_0 l1_0.length c1_0, .slice (some ad245) l1_1.length c1_1] 42 (0, 0)) (iB BK242)) : gb246 ≠ gb242))
           have n11_ := Aside0.mk ((by rw [hg]; exact Nat.ne_of_lt (blk_lt (g := gb247) (o := .cells #[.string (⟨#[]⟩ : ByteArray), .slice none 0 0] 65 (0, 0)) (iB BK247)) : gb247 ≠ gb246))
           have n12_ := Aside0.mk ((by rw [hg]; exact Nat.ne_of_gt (blk_lt (g := gb247) (o := .cells #[.string (⟨#[]⟩ : ByteArray), .slice none 0 0] 65 (0, 0)) (iB BK247)) : gb246 ≠ gb247))
           clear BK241
           clear BK242
           clear BK247
           clear HB
           have BK241 := n0_
           have BK242 := n1_
           have BK247 := n2_
           have HB := n3_
           have BK246 := n4_
           have GW246 := n5_
           have GE246 := n6_
           have NB241_246 := n7_
           have NB246_241 := n8_
           have NB242_246 := n9_
           have NB246_242 := n10_
           have NB247_246 := n11_
           have NB246_247 := n12_
           clear n0_ n1_ n2_ n3_ n4_ n5_ n6_ n7_ n8_ n9_ n10_ n11_ n12_
           clear hb hbox hg
           refine hK.out _ _ ⟨(blk_cell BK241.out 0).trans rfl, (blk_cell BK241.out 1).trans rfl, (blk_cell BK242.out 0).trans rfl, (blk_cell BK242.out 1).trans rfl, ((HB.out.cell (World.block_lt_of_cell? w _ hw244_0)).trans hw244_0), ((HB.out.cell (World.block_lt_of_cell? w _ hw244_1)).trans hw244_1), ((HB.out.cell (World.block_lt_of_cell? w _ hw245_0)).trans hw245_0), ((HB.out.cell (World.block_lt_of_cell? w _ hw245_1)).trans hw245_1)⟩ (fun hHeld => ?_)
           clear hK K
           refine norm_ (a' := ?_) ?_ ?_
           rotate_left
           ·show Act.put _ (some 6) _ = _
            simp only [Act.put, List.setIfInBounds_toArray, List.set_cons_zero, List.set_cons_succ, i64_w, i32_w]
            rfl
           exact norm_ (by simp only [putAll, Act.put, List.setIfInBounds_toArray, List.set_cons_zero, List.set_cons_succ]) (hCont (gb246, gb247) _ ⟨hHeld, (iB BK241), (iB BK242), (iB BK246), (iB BK247), GW246.out, GE246.out, NB241_246.out, NB246_241.out, NB242_246.out, NB246_242.out, NB247_246.out, NB246_247.out, GW247.out, GE247.out, NB241_247.out, NB247_241.out, NB242_247.out, NB247_242.out, (iL HB)⟩)
         rintro ⟨gb246, gb247⟩ w24 ⟨hS_, h0_, h1_, h2_, h3_, h4_, h5_, h6_, h7_, h8_, h9_, h10_, h11_, h12_, h13_, h14_, h15_, h16_, h17_, h18_⟩
         have n0_ : Aside0 (w24.heap[gb241]? = some (.cells #[.slice A0_0 l0_0.length c0_0, .slice (some ad244) l0_1.length c0_1] 42 (0, 0))) := ⟨h0_⟩
         have n1_ : Aside0 (w24.heap[gb242]? = some (.cells #[.slice A1_0 l1_0.length c1_0, .slice (some ad245) l1_1.length c1_1] 42 (0, 0))) := ⟨h1_⟩
         have n2_ : Aside0 (w24.heap[gb246]? = some (.cells #[.string (⟨#[]⟩ : ByteArray), .slice none 0 0] 65 (0, 0))) := ⟨h2_⟩
         have n3_ : Aside0 (w24.heap[gb247]? = some (.cells #[.string (⟨#[]⟩ : ByteArray), .slice none 0 0] 65 (0, 0))) := ⟨h3_⟩
         have n4_ : Aside0 (w.heap.size ≤ gb246) := ⟨h4_⟩
         have n5_ : Aside0 (w.heap.size ≤ gb246) := ⟨h5_⟩
         have n6_ : Aside0 (gb241 ≠ gb246) := ⟨h6_⟩
         have n7_ : Aside0 (gb246 ≠ gb241) := ⟨h7_⟩
         have n8_ : Aside0 (gb242 ≠ gb246) := ⟨h8_⟩
         have n9_ : Aside0 (gb246 ≠ gb242) := ⟨h9_⟩
         have n10_ : Aside0 (gb247 ≠ gb246) := ⟨h10_⟩
         have n11_ : Aside0 (gb246 ≠ gb247) := ⟨h11_⟩
         have n12_ : Aside0 (w.heap.size ≤ gb247) := ⟨h12_⟩
         have n13_ : Aside0 (w.heap.size ≤ gb247) := ⟨h13_⟩
         have n14_ : Aside0 (gb241 ≠ gb247) := ⟨h14_⟩
         have n15_ : Aside0 (gb247 ≠ gb241) := ⟨h15_⟩
         have n16_ : Aside0 (gb242 ≠ gb247) := ⟨h16_⟩
         have n17_ : Aside0 (gb247 ≠ gb242) := ⟨h17_⟩
         have n18_ : Aside0 (Below w.heap.size w w24) := ⟨h18_⟩
         clear BK241
         clear BK242
         clear HB
         clear h0_ h1_ h2_ h3_ h4_ h5_ h6_ h7_ h8_ h9_ h10_ h11_ h12_ h13_ h14_ h15_ h16_ h17_ h18_
         have BK241 := n0_
         have BK242 := n1_
         have BK246 := n2_
         have BK247 := n3_
         have GW246 := n4_
         have GE246 := n5_
         have NB241_246 := n6_
         have NB246_241 := n7_
         have NB242_246 := n8_
         have NB246_242 := n9_
         have NB247_246 := n10_
         have NB246_247 := n11_
         have GW247 := n12_
         have GE247 := n13_
         have NB241_247 := n14_
         have NB247_241 := n15_
         have NB242_247 := n16_
         have NB247_242 := n17_
         have HB := n18_
         clear n0_ n1_ n2_ n3_ n4_ n5_ n6_ n7_ n8_ n9_ n10_ n11_ n12_ n13_ n14_ n15_ n16_ n17_ n18_
         have hHeld : w24.cell? ⟨gb241, 0, none⟩ = some (.slice A0_0 l0_0.length c0_0) ∧ w24.cell? ⟨gb241, 1, none⟩ = some (.slice (some ad244) l0_1.length c0_1) ∧ w24.cell? ⟨gb242, 0, none⟩ = some (.slice A1_0 l1_0.length c1_0) ∧ w24.cell? ⟨gb242, 1, none⟩ = some (.slice (some ad245) l1_1.length c1_1) ∧ w24.cell? (ad244.add ((x5_2).toNat * 2)) = some (.string ((rd_T65 l0_1 x5_2).f0)) ∧ w24.cell? ⟨(ad244.add ((x5_2).toNat * 2)).block, (ad244.add ((x5_2).toNat * 2)).off + 1, none⟩ = some (.slice A244_1 ((rd_T65 l0_1 x5_2).f1).length c244_1) ∧ w24.cell? (ad245.add ((x5_2).toNat * 2)) = some (.string ((rd_T65 l1_1 x5_2).f0)) ∧ w24.cell? ⟨(ad245.add ((x5_2).toNat * 2)).block, (ad245.add ((x5_2).toNat * 2)).off + 1, none⟩ = some (.slice A245_1 ((rd_T65 l1_1 x5_2).f1).length c245_1) := hS_
         refine norm_ (a' := ?_) ?_ ?_
         rotate_left
         ·simp only [putAll, Act.put, List.setIfInBounds_toArray, List.set_cons_zero, List.set_cons_succ]
          rfl
         refine one_ (i := 12) (N := none) #[true, true, true, true, true, true, true, true, true, true, true, true, true, false] rfl rfl (one_of HT_.out (by kernel_rfl)) (by decide) (fun K hK => ?_)
         have hs25 : w24.cell? ⟨gb246, 0, none⟩ = some (.string (⟨#[]⟩ : ByteArray)) := (blk_cell BK246.out 0).trans rfl
         have hfs25 := blk_frozen BK246.out 0
         have hns25_0 := NB241_246.out
         have hns25_1 := NB242_246.out
         have hns25_3 := NB247_246.out
         have hms25_0 := NB246_241.out
         have hms25_1 := NB246_242.out
         have hms25_3 := NB246_247.out
         have hs26 : w24.cell? ⟨gb246, 1, none⟩ = some (.slice none 0 0) := (blk_cell BK246.out 1).trans rfl
         have hfs26 := blk_frozen BK246.out 1
         have hns26_0 := NB241_246.out
         have hns26_1 := NB242_246.out
         have hns26_3 := NB247_246.out
         have hms26_0 := NB246_241.out
         have hms26_1 := NB246_242.out
         have hms26_3 := NB246_247.out
         refine skip_ (w1 := ?_) (by rfl) rfl ?_ ?_
         rotate_left
         ·go_simp
          rfl
         refine hK.out _ _ ⟨((cell_far (p := ⟨gb246, _, none⟩) NB241_246.out _).trans (((cell_far (p := ⟨gb246, _, none⟩) NB241_246.out _).trans (hHeld.1)))), ((cell_far (p := ⟨gb246, _, none⟩) NB241_246.out _).trans (((cell_far (p := ⟨gb246, _, none⟩) NB241_246.out _).trans (hHeld.2.1)))), ((cell_far (p := ⟨gb246, _, none⟩) NB242_246.out _).trans (((cell_far (p := ⟨gb246, _, none⟩) NB242_246.out _).trans (hHeld.2.2.1)))), ((cell_far (p := ⟨gb246, _, none⟩) NB242_246.out _).trans (((cell_far (p := ⟨gb246, _, none⟩) NB242_246.out _).trans (hHeld.2.2.2.1)))), ((cell_far (p := ⟨gb246, _, none⟩) (by first | exact Nat.ne_of_lt (Nat.lt_of_lt_of_le (by have := World.block_lt_of_cell? _ _ hw244_0; first | rwa [add_block] at this | exact this) GW246.out) | (rw [add_block]; exact Nat.ne_of_lt (Nat.lt_of_lt_of_le (by have := World.block_lt_of_cell? _ _ hw244_0; first | rwa [add_block] at this | exact this) GW246.out)) | (show (Addr.add _ _).block ≠ _; rw [add_block]; exact Nat.ne_of_lt (Nat.lt_of_lt_of_le (by have := World.block_lt_of_cell? _ _ hw244_0; first | rwa [add_block] at this | exact this) GW246.out)) | (dsimp only; exact Nat.ne_of_lt (Nat.lt_of_lt_of_le (by have := World.block_lt_of_cell? _ _ hw244_0; first | rwa [add_block] at this | exact this) GW246.out))) _).trans (((cell_far (p := ⟨gb246, _, none⟩) (by first | exact Nat.ne_of_lt (Nat.lt_of_lt_of_le (by have := World.block_lt_of_cell? _ _ hw244_0; first | rwa [add_block] at this | exact this) GW246.out) | (rw [add_block]; exact Nat.ne_of_lt (Nat.lt_of_lt_of_le (by have := World.block_lt_of_cell? _ _ hw244_0; first | rwa [add_block] at this | exact this) GW246.out)) | (show (Addr.add _ _).block ≠ _; rw [add_block]; exact Nat.ne_of_lt (Nat.lt_of_lt_of_le (by have := World.block_lt_of_cell? _ _ hw244_0; first | rwa [add_block] at this | exact this) GW246.out)) | (dsimp only; exact Nat.ne_of_lt (Nat.lt_of_lt_of_le (by have := World.block_lt_of_cell? _ _ hw244_0; first | rwa [add_block] at this | exact this) GW246.out))) _).trans (hHeld.2.2.2.2.1)))), ((cell_far (p := ⟨gb246, _, none⟩) (by first | exact Nat.ne_of_lt (Nat.lt_of_lt_of_le (by have := World.block_lt_of_cell? _ _ hw244_1; first | rwa [add_block] at this | exact this) GW246.out) | (rw [add_block]; exact Nat.ne_of_lt (Nat.lt_of_lt_of_le (by have := World.block_lt_of_cell? _ _ hw244_1; first | rwa [add_block] at this | exact this) GW246.out)) | (show (Addr.add _ _).block ≠ _; rw [add_block]; exact Nat.ne_of_lt (Nat.lt_of_lt_of_le (by have := World.block_lt_of_cell? _ _ hw244_1; first | rwa [add_block] at this | exact this) GW246.out)) | (dsimp only; exact Nat.ne_of_lt (Nat.lt_of_lt_of_le (by have := World.block_lt_of_cell? _ _ hw244_1; first | rwa [add_block] at this | exact this) GW246.out))) _).trans (((cell_far (p := ⟨gb246, _, none⟩) (by first | exact Nat.ne_of_lt (Nat.lt_of_lt_of_le (by have := World.block_lt_of_cell? _ _ hw244_1; first | rwa [add_block] at this | exact this) GW246.out) | (rw [add_block]; exact Nat.ne_of_lt (Nat.lt_of_lt_of_le (by have := World.block_lt_of_cell? _ _ hw244_1; first | rwa [add_block] at this | exact this) GW246.out)) | (show (Addr.add _ _).block ≠ _; rw [add_block]; exact Nat.ne_of_lt (Nat.lt_of_lt_of_le (by have := World.block_lt_of_cell? _ _ hw244_1; first | rwa [add_block] at this | exact this) GW246.out)) | (dsimp only; exact Nat.ne_of_lt (Nat.lt_of_lt_of_le (by have := World.block_lt_of_cell? _ _ hw244_1; first | rwa [add_block] at this | exact this) GW246.out))) _).trans (hHeld.2.2.2.2.2.1)))), ((cell_far (p := ⟨gb246, _, none⟩) (by first | exact Nat.ne_of_lt (Nat.lt_of_lt_of_le (by have := World.block_lt_of_cell? _ _ hw245_0; first | rwa [add_block] at this | exact this) GW246.out) | (rw [add_block]; exact Nat.ne_of_lt (Nat.lt_of_lt_of_le (by have := World.block_lt_of_cell? _ _ hw245_0; first | rwa [add_block] at this | exact this) GW246.out)) | (show (Addr.add _ _).block ≠ _; rw [add_block]; exact Nat.ne_of_lt (Nat.lt_of_lt_of_le (by have := World.block_lt_of_cell? _ _ hw245_0; first | rwa [add_block] at this | exact this) GW246.out)) | (dsimp only; exact Nat.ne_of_lt (Nat.lt_of_lt_of_le (by have := World.block_lt_of_cell? _ _ hw245_0; first | rwa [add_block] at this | exact this) GW246.out))) _).trans (((cell_far (p := ⟨gb246, _, none⟩) (by first | exact Nat.ne_of_lt (Nat.lt_of_lt_of_le (by have := World.block_lt_of_cell? _ _ hw245_0; first | rwa [add_block] at this | exact this) GW246.out) | (rw [add_block]; exact Nat.ne_of_lt (Nat.lt_of_lt_of_le (by have := World.block_lt_of_cell? _ _ hw245_0; first | rwa [add_block] at this | exact this) GW246.out)) | (show (Addr.add _ _).block ≠ _; rw [add_block]; exact Nat.ne_of_lt (Nat.lt_of_lt_of_le (by have := World.block_lt_of_cell? _ _ hw245_0; first | rwa [add_block] at this | exact this) GW246.out)) | (dsimp only; exact Nat.ne_of_lt (Nat.lt_of_lt_of_le (by have := World.block_lt_of_cell? _ _ hw245_0; first | rwa [add_block] at this | exact this) GW246.out))) _).trans (hHeld.2.2.2.2.2.2.1)))), ((cell_far (p := ⟨gb246, _, none⟩) (by first | exact Nat.ne_of_lt (Nat.lt_of_lt_of_le (by have := World.block_lt_of_cell? _ _ hw245_1; first | rwa [add_block] at this | exact this) GW246.out) | (rw [add_block]; exact Nat.ne_of_lt (Nat.lt_of_lt_of_le (by have := World.block_lt_of_cell? _ _ hw245_1; first | rwa [add_block] at this | exact this) GW246.out)) | (show (Addr.add _ _).block ≠ _; rw [add_block]; exact Nat.ne_of_lt (Nat.lt_of_lt_of_le (by have := World.block_lt_of_cell? _ _ hw245_1; first | rwa [add_block] at this | exact this) GW246.out)) | (dsimp only; exact Nat.ne_of_lt (Nat.lt_of_lt_of_le (by have := World.block_lt_of_cell? _ _ hw245_1; first | rwa [add_block] at this | exact this) GW246.out))) _).trans (((cell_far (p := ⟨gb246, _, none⟩) (by first | exact Nat.ne_of_lt (Nat.lt_of_lt_of_le (by have := World.block_lt_of_cell? _ _ hw245_1; first | rwa [add_block] at this | exact this) GW246.out) | (rw [add_block]; exact Nat.ne_of_lt (Nat.lt_of_lt_of_le (by have := World.block_lt_of_cell? _ _ hw245_1; first | rwa [add_block] at this | exact this) GW246.out)) | (show (Addr.add _ _).block ≠ _; rw [add_block]; exact Nat.ne_of_lt (Nat.lt_of_lt_of_le (by have := World.block_lt_of_cell? _ _ hw245_1; first | rwa [add_block] at this | exact this) GW246.out)) | (dsimp only; exact Nat.ne_of_lt (Nat.lt_of_lt_of_le (by have := World.block_lt_of_cell? _ _ hw245_1; first | rwa [add_block] at this | exact this) GW246.out))) _).trans (hHeld.2.2.2.2.2.2.2))))⟩ (fun hHeld => ?_)
         clear hK K
         refine one_ (i := 13) (N := none) #[true, true, true, true, true, true, true, true, true, true, true, true, true, true] rfl rfl (one_of HT_.out (by kernel_rfl)) (by decide) (fun K hK => ?_)
         have hs27 : w24.cell? ⟨gb247, 0, none⟩ = some (.string (⟨#[]⟩ : ByteArray)) := (blk_cell BK247.out 0).trans rfl
         have hfs27 := blk_frozen BK247.out 0
         have hns27_0 := NB241_247.out
         have hns27_1 := NB242_247.out
         have hns27_2 := NB246_247.out
         have hms27_0 := NB247_241.out
         have hms27_1 := NB247_242.out
         have hms27_2 := NB247_246.out
         have hs28 : w24.cell? ⟨gb247, 1, none⟩ = some (.slice none 0 0) := (blk_cell BK247.out 1).trans rfl
         have hfs28 := blk_frozen BK247.out 1
         have hns28_0 := NB241_247.out
         have hns28_1 := NB242_247.out
         have hns28_2 := NB246_247.out
         have hms28_0 := NB247_241.out
         have hms28_1 := NB247_242.out
         have hms28_2 := NB247_246.out
         refine skip_ (w1 := ?_) (by rfl) rfl ?_ ?_
         rotate_left
         ·go_simp
          rfl
         refine hK.out _ _ ⟨((cell_far (p := ⟨gb247, _, none⟩) NB241_247.out _).trans (((cell_far (p := ⟨gb247, _, none⟩) NB241_247.out _).trans (hHeld.1)))), ((cell_far (p := ⟨gb247, _, none⟩) NB241_247.out _).trans (((cell_far (p := ⟨gb247, _, none⟩) NB241_247.out _).trans (hHeld.2.1)))), ((cell_far (p := ⟨gb247, _, none⟩) NB242_247.out _).trans (((cell_far (p := ⟨gb247, _, none⟩) NB242_247.out _).trans (hHeld.2.2.1)))), ((cell_far (p := ⟨gb247, _, none⟩) NB242_247.out _).trans (((cell_far (p := ⟨gb247, _, none⟩) NB242_247.out _).trans (hHeld.2.2.2.1)))), ((cell_far (p := ⟨gb247, _, none⟩) (by first | exact Nat.ne_of_lt (Nat.lt_of_lt_of_le (by have := World.block_lt_of_cell? _ _ hw244_0; first | rwa [add_block] at this | exact this) GW247.out) | (rw [add_block]; exact Nat.ne_of_lt (Nat.lt_of_lt_of_le (by have := World.block_lt_of_cell? _ _ hw244_0; first | rwa [add_block] at this | exact this) GW247.out)) | (show (Addr.add _ _).block ≠ _; rw [add_block]; exact Nat.ne_of_lt (Nat.lt_of_lt_of_le (by have := World.block_lt_of_cell? _ _ hw244_0; first | rwa [add_block] at this | exact this) GW247.out)) | (dsimp only; exact Nat.ne_of_lt (Nat.lt_of_lt_of_le (by have := World.block_lt_of_cell? _ _ hw244_0; first | rwa [add_block] at this | exact this) GW247.out))) _).trans (((cell_far (p := ⟨gb247, _, none⟩) (by first | exact Nat.ne_of_lt (Nat.lt_of_lt_of_le (by have := World.block_lt_of_cell? _ _ hw244_0; first | rwa [add_block] at this | exact this) GW247.out) | (rw [add_block]; exact Nat.ne_of_lt (Nat.lt_of_lt_of_le (by have := World.block_lt_of_cell? _ _ hw244_0; first | rwa [add_block] at this | exact this) GW247.out)) | (show (Addr.add _ _).block ≠ _; rw [add_block]; exact Nat.ne_of_lt (Nat.lt_of_lt_of_le (by have := World.block_lt_of_cell? _ _ hw244_0; first | rwa [add_block] at this | exact this) GW247.out)) | (dsimp only; exact Nat.ne_of_lt (Nat.lt_of_lt_of_le (by have := World.block_lt_of_cell? _ _ hw244_0; first | rwa [add_block] at this | exact this) GW247.out))) _).trans (hHeld.2.2.2.2.1)))), ((cell_far (p := ⟨gb247, _, none⟩) (by first | exact Nat.ne_of_lt (Nat.lt_of_lt_of_le (by have := World.block_lt_of_cell? _ _ hw244_1; first | rwa [add_block] at this | exact this) GW247.out) | (rw [add_block]; exact Nat.ne_of_lt (Nat.lt_of_lt_of_le (by have := World.block_lt_of_cell? _ _ hw244_1; first | rwa [add_block] at this | exact this) GW247.out)) | (show (Addr.add _ _).block ≠ _; rw [add_block]; exact Nat.ne_of_lt (Nat.lt_of_lt_of_le (by have := World.block_lt_of_cell? _ _ hw244_1; first | rwa [add_block] at this | exact this) GW247.out)) | (dsimp only; exact Nat.ne_of_lt (Nat.lt_of_lt_of_le (by have := World.block_lt_of_cell? _ _ hw244_1; first | rwa [add_block] at this | exact this) GW247.out))) _).trans (((cell_far (p := ⟨gb247, _, none⟩) (by first | exact Nat.ne_of_lt (Nat.lt_of_lt_of_le (by have := World.block_lt_of_cell? _ _ hw244_1; first | rwa [add_block] at this | exact this) GW247.out) | (rw [add_block]; exact Nat.ne_of_lt (Nat.lt_of_lt_of_le (by have := World.block_lt_of_cell? _ _ hw244_1; first | rwa [add_block] at this | exact this) GW247.out)) | (show (Addr.add _ _).block ≠ _; rw [add_block]; exact Nat.ne_of_lt (Nat.lt_of_lt_of_le (by have := World.block_lt_of_cell? _ _ hw244_1; first | rwa [add_block] at this | exact this) GW247.out)) | (dsimp only; exact Nat.ne_of_lt (Nat.lt_of_lt_of_le (by have := World.block_lt_of_cell? _ _ hw244_1; first | rwa [add_block] at this | exact this) GW247.out))) _).trans (hHeld.2.2.2.2.2.1)))), ((cell_far (p := ⟨gb247, _, none⟩) (by first | exact Nat.ne_of_lt (Nat.lt_of_lt_of_le (by have := World.block_lt_of_cell? _ _ hw245_0; first | rwa [add_block] at this | exact this) GW247.out) | (rw [add_block]; exact Nat.ne_of_lt (Nat.lt_of_lt_of_le (by have := World.block_lt_of_cell? _ _ hw245_0; first | rwa [add_block] at this | exact this) GW247.out)) | (show (Addr.add _ _).block ≠ _; rw [add_block]; exact Nat.ne_of_lt (Nat.lt_of_lt_of_le (by have := World.block_lt_of_cell? _ _ hw245_0; first | rwa [add_block] at this | exact this) GW247.out)) | (dsimp only; exact Nat.ne_of_lt (Nat.lt_of_lt_of_le (by have := World.block_lt_of_cell? _ _ hw245_0; first | rwa [add_block] at this | exact this) GW247.out))) _).trans (((cell_far (p := ⟨gb247, _, none⟩) (by first | exact Nat.ne_of_lt (Nat.lt_of_lt_of_le (by have := World.block_lt_of_cell? _ _ hw245_0; first | rwa [add_block] at this | exact this) GW247.out) | (rw [add_block]; exact Nat.ne_of_lt (Nat.lt_of_lt_of_le (by have := World.block_lt_of_cell? _ _ hw245_0; first | rwa [add_block] at this | exact this) GW247.out)) | (show (Addr.add _ _).block ≠ _; rw [add_block]; exact Nat.ne_of_lt (Nat.lt_of_lt_of_le (by have := World.block_lt_of_cell? _ _ hw245_0; first | rwa [add_block] at this | exact this) GW247.out)) | (dsimp only; exact Nat.ne_of_lt (Nat.lt_of_lt_of_le (by have := World.block_lt_of_cell? _ _ hw245_0; first | rwa [add_block] at this | exact this) GW247.out))) _).trans (hHeld.2.2.2.2.2.2.1)))), ((cell_far (p := ⟨gb247, _, none⟩) (by first | exact Nat.ne_of_lt (Nat.lt_of_lt_of_le (by have := World.block_lt_of_cell? _ _ hw245_1; first | rwa [add_block] at this | exact this) GW247.out) | (rw [add_block]; exact Nat.ne_of_lt (Nat.lt_of_lt_of_le (by have := World.block_lt_of_cell? _ _ hw245_1; first | rwa [add_block] at this | exact this) GW247.out)) | (show (Addr.add _ _).block ≠ _; rw [add_block]; exact Nat.ne_of_lt (Nat.lt_of_lt_of_le (by have := World.block_lt_of_cell? _ _ hw245_1; first | rwa [add_block] at this | exact this) GW247.out)) | (dsimp only; exact Nat.ne_of_lt (Nat.lt_of_lt_of_le (by have := World.block_lt_of_cell? _ _ hw245_1; first | rwa [add_block] at this | exact this) GW247.out))) _).trans (((cell_far (p := ⟨gb247, _, none⟩) (by first | exact Nat.ne_of_lt (Nat.lt_of_lt_of_le (by have := World.block_lt_of_cell? _ _ hw245_1; first | rwa [add_block] at this | exact this) GW247.out) | (rw [add_block]; exact Nat.ne_of_lt (Nat.lt_of_lt_of_le (by have := World.block_lt_of_cell? _ _ hw245_1; first | rwa [add_block] at this | exact this) GW247.out)) | (show (Addr.add _ _).block ≠ _; rw [add_block]; exact Nat.ne_of_lt (Nat.lt_of_lt_of_le (by have := World.block_lt_of_cell? _ _ hw245_1; first | rwa [add_block] at this | exact this) GW247.out)) | (dsimp only; exact Nat.ne_of_lt (Nat.lt_of_lt_of_le (by have := World.block_lt_of_cell? _ _ hw245_1; first | rwa [add_block] at this | exact this) GW247.out))) _).trans (hHeld.2.2.2.2.2.2.2))))⟩ (fun hHeld => ?_)
         clear hK K
         refine done_ (done_of HT_.out (by kernel_rfl)) ?_
         go_upto_region 7 with (fail)
         go_cut [54] (fun v54 wc => ∃ (kq : Nat) (x54_17 : Bool), v54 = .bool x54_17 ∧ Aside0 (ancepsref57_Same.j2 kq x5_2 x54_17 l0_0 l0_1 l1_0 l1_1 ((rd_T65 l0_1 x5_2).f0) ((rd_T65 l0_1 x5_2).f1) ((rd_T65 l1_1 x5_2).f0) ((rd_T65 l1_1 x5_2).f1) = some r) ∧ Aside0 (kq ≤ k2) ∧ Aside0 (wc.heap[gb241]? = some (.cells #[(.slice A0_0 l0_0.length c0_0), (.slice (some ad244) l0_1.length c0_1)] 42 (0, 0))) ∧ Aside0 (wc.heap[gb242]? = some (.cells #[(.slice A1_0 l1_0.length c1_0), (.slice (some ad245) l1_1.length c1_1)] 42 (0, 0))) ∧ Aside0 (wc.heap[gb246]? = some (.cells #[.string ((rd_T65 l0_1 x5_2).f0), (.slice A244_1 ((rd_T65 l0_1 x5_2).f1).length c244_1)] 65 (0, 0))) ∧ Aside0 (wc.heap[gb247]? = some (.cells #[.string ((rd_T65 l1_1 x5_2).f0), (.slice A245_1 ((rd_T65 l1_1 x5_2).f1).length c245_1)] 65 (0, 0))) ∧ Aside0 (Below w.heap.size w wc))
         case first =>
          have H := HC18.out
          clear HC18
          by_cases c29 : ((rd_T65 l0_1 x5_2).f0).toList = ((rd_T65 l1_1 x5_2).f0).toList
          ·rw [if_pos c29] at H
           have c29b0 : (((rd_T65 l0_1 x5_2).f0).toList == ((rd_T65 l1_1 x5_2).f0).toList) = true := beq_iff_eq.mpr c29
           have c29b1 : (((rd_T65 l0_1 x5_2).f0).toList != ((rd_T65 l1_1 x5_2).f0).toList) = false := bne_eq_false_iff_eq.mpr c29
           clear c29
           (first | rw [c29b0] | (simp only [i64_w, i32_w]; rw [c29b0]) | skip)
           have H' := Aside0.mk H
           clear H
           have hnb30 := NB246_241.out
           have hnc30 := NB241_246.out
           have hnb31 := NB246_242.out
           have hnc31 := NB242_246.out
           have hnb32 := NB246_247.out
           have hnc32 := NB247_246.out
           have hcz33_0 := cZ BK246 0 (.string (⟨#[]⟩ : ByteArray))
           have hcz33_1 := cZ BK246 1 (.slice none 0 0)
           have hfz33_0 := blk_frozen BK246.out 0
           have hfz33_1 := blk_frozen BK246.out 1
           have hnb34 := NB247_241.out
           have hnc34 := NB241_247.out
           have hnb35 := NB247_242.out
           have hnc35 := NB242_247.out
           have hcz36_0 := cZ BK247 0 (.string (⟨#[]⟩ : ByteArray))
           have hcz36_1 := cZ BK247 1 (.slice none 0 0)
           have hfz36_0 := blk_frozen BK247.out 0
           have hfz36_1 := blk_frozen BK247.out 1
           go_wp2
           go_meet
           case rel => exact ⟨_, (((((rd_T65 l0_1 x5_2).f1).length : Int) != (((rd_T65 l1_1 x5_2).f1).length : Int))), eV, H', ⟨by have := HJ2.out; have := HK2.out; first | omega | exact Nat.le_refl _⟩, ⟨by (with_reducible repeat (first | apply blk_drewN | apply blk_drew | apply blk_alloc)); refine blk_far ?_ NB241_247.out _; (with_reducible repeat (first | apply blk_drewN | apply blk_drew | apply blk_alloc)); refine blk_far ?_ NB241_247.out _; (with_reducible repeat (first | apply blk_drewN | apply blk_drew | apply blk_alloc)); refine blk_far ?_ NB241_246.out _; (with_reducible repeat (first | apply blk_drewN | apply blk_drew | apply blk_alloc)); refine blk_far ?_ NB241_246.out _; (with_reducible repeat (first | apply blk_drewN | apply blk_drew | apply blk_alloc)); exact BK241.out⟩, ⟨by (with_reducible repeat (first | apply blk_drewN | apply blk_drew | apply blk_alloc)); refine blk_far ?_ NB242_247.out _; (with_reducible repeat (first | apply blk_drewN | apply blk_drew | apply blk_alloc)); refine blk_far ?_ NB242_247.out _; (with_reducible repeat (first | apply blk_drewN | apply blk_drew | apply blk_alloc)); refine blk_far ?_ NB242_246.out _; (with_reducible repeat (first | apply blk_drewN | apply blk_drew | apply blk_alloc)); refine blk_far ?_ NB242_246.out _; (with_reducible repeat (first | apply blk_drewN | apply blk_drew | apply blk_alloc)); exact BK242.out⟩, ⟨by (with_reducible repeat (first | apply blk_drewN | apply blk_drew | apply blk_alloc)); refine blk_far ?_ NB246_247.out _; (with_reducible repeat (first | apply blk_drewN | apply blk_drew | apply blk_alloc)); refine blk_far ?_ NB246_247.out _; (with_reducible repeat (first | apply blk_drewN | apply blk_drew | apply blk_alloc)); refine blk_put (cs := #[.string ((rd_T65 l0_1 x5_2).f0), .slice none 0 0]) ?_ 1 _ rfl; (with_reducible repeat (first | apply blk_drewN | apply blk_drew | apply blk_alloc)); refine blk_put (cs := #[.string (⟨#[]⟩ : ByteArray), .slice none 0 0]) ?_ 0 _ rfl; (with_reducible repeat (first | apply blk_drewN | apply blk_drew | apply blk_alloc)); exact BK246.out⟩, ⟨by (with_reducible repeat (first | apply blk_drewN | apply blk_drew | apply blk_alloc)); refine blk_put (cs := #[.string ((rd_T65 l1_1 x5_2).f0), .slice none 0 0]) ?_ 1 _ rfl; (with_reducible repeat (first | apply blk_drewN | apply blk_drew | apply blk_alloc)); refine blk_put (cs := #[.string (⟨#[]⟩ : ByteArray), .slice none 0 0]) ?_ 0 _ rfl; (with_reducible repeat (first | apply blk_drewN | apply blk_drew | apply blk_alloc)); refine blk_far ?_ NB247_246.out _; (with_reducible repeat (first | apply blk_drewN | apply blk_drew | apply blk_alloc)); refine blk_far ?_ NB247_246.out _; (with_reducible repeat (first | apply blk_drewN | apply blk_drew | apply blk_alloc)); exact BK247.out⟩, ⟨iL HB⟩⟩
          ·rw [if_neg c29] at H
           have c29b0 : (((rd_T65 l0_1 x5_2).f0).toList == ((rd_T65 l1_1 x5_2).f0).toList) = false := beq_eq_false_iff_ne.mpr c29
           have c29b1 : (((rd_T65 l0_1 x5_2).f0).toList != ((rd_T65 l1_1 x5_2).f0).toList) = true := bne_iff_ne.mpr c29
           (first | rw [c29b0] | (simp only [i64_w, i32_w]; rw [c29b0]) | skip)
           have H' := Aside0.mk H
           clear H
           have hnb37 := NB246_241.out
           have hnc37 := NB241_246.out
           have hnb38 := NB246_242.out
           have hnc38 := NB242_246.out
           have hnb39 := NB246_247.out
           have hnc39 := NB247_246.out
           have hcz40_0 := cZ BK246 0 (.string (⟨#[]⟩ : ByteArray))
           have hcz40_1 := cZ BK246 1 (.slice none 0 0)
           have hfz40_0 := blk_frozen BK246.out 0
           have hfz40_1 := blk_frozen BK246.out 1
           have hnb41 := NB247_241.out
           have hnc41 := NB241_247.out
           have hnb42 := NB247_242.out
           have hnc42 := NB242_247.out
           have hcz43_0 := cZ BK247 0 (.string (⟨#[]⟩ : ByteArray))
           have hcz43_1 := cZ BK247 1 (.slice none 0 0)
           have hfz43_0 := blk_frozen BK247.out 0
           have hfz43_1 := blk_frozen BK247.out 1
           go_wp2
           go_meet
           case rel => exact ⟨_, (true), eV, H', ⟨by have := HJ2.out; have := HK2.out; first | omega | exact Nat.le_refl _⟩, ⟨by (with_reducible repeat (first | apply blk_drewN | apply blk_drew | apply blk_alloc)); refine blk_far ?_ NB241_247.out _; (with_reducible repeat (first | apply blk_drewN | apply blk_drew | apply blk_alloc)); refine blk_far ?_ NB241_247.out _; (with_reducible repeat (first | apply blk_drewN | apply blk_drew | apply blk_alloc)); refine blk_far ?_ NB241_246.out _; (with_reducible repeat (first | apply blk_drewN | apply blk_drew | apply blk_alloc)); refine blk_far ?_ NB241_246.out _; (with_reducible repeat (first | apply blk_drewN | apply blk_drew | apply blk_alloc)); exact BK241.out⟩, ⟨by (with_reducible repeat (first | apply blk_drewN | apply blk_drew | apply blk_alloc)); refine blk_far ?_ NB242_247.out _; (with_reducible repeat (first | apply blk_drewN | apply blk_drew | apply blk_alloc)); refine blk_far ?_ NB242_247.out _; (with_reducible repeat (first | apply blk_drewN | apply blk_drew | apply blk_alloc)); refine blk_far ?_ NB242_246.out _; (with_reducible repeat (first | apply blk_drewN | apply blk_drew | apply blk_alloc)); refine blk_far ?_ NB242_246.out _; (with_reducible repeat (first | apply blk_drewN | apply blk_drew | apply blk_alloc)); exact BK242.out⟩, ⟨by (with_reducible repeat (first | apply blk_drewN | apply blk_drew | apply blk_alloc)); refine blk_far ?_ NB246_247.out _; (with_reducible repeat (first | apply blk_drewN | apply blk_drew | apply blk_alloc)); refine blk_far ?_ NB246_247.out _; (with_reducible repeat (first | apply blk_drewN | apply blk_drew | apply blk_alloc)); refine blk_put (cs := #[.string ((rd_T65 l0_1 x5_2).f0), .slice none 0 0]) ?_ 1 _ rfl; (with_reducible repeat (first | apply blk_drewN | apply blk_drew | apply blk_alloc)); refine blk_put (cs := #[.string (⟨#[]⟩ : ByteArray), .slice none 0 0]) ?_ 0 _ rfl; (with_reducible repeat (first | apply blk_drewN | apply blk_drew | apply blk_alloc)); exact BK246.out⟩, ⟨by (with_reducible repeat (first | apply blk_drewN | apply blk_drew | apply blk_alloc)); refine blk_put (cs := #[.string ((rd_T65 l1_1 x5_2).f0), .slice none 0 0]) ?_ 1 _ rfl; (with_reducible repeat (first | apply blk_drewN | apply blk_drew | apply blk_alloc)); refine blk_put (cs := #[.string (⟨#[]⟩ : ByteArray), .slice none 0 0]) ?_ 0 _ rfl; (with_reducible repeat (first | apply blk_drewN | apply blk_drew | apply blk_alloc)); refine blk_far ?_ NB247_246.out _; (with_reducible repeat (first | apply blk_drewN | apply blk_drew | apply blk_alloc)); refine blk_far ?_ NB247_246.out _; (with_reducible repeat (first | apply blk_drewN | apply blk_drew | apply blk_alloc)); exact BK247.out⟩, ⟨iL HB⟩⟩
         case rest =>
          clear HC18
          (try clear c1); (try clear c2); (try clear p2); (try clear q2); (try clear hx2); (try clear c3); (try clear c4); (try clear c7); (try clear c8); (try clear c11); (try clear c14); (try clear c15); (try clear c15b0); (try clear c16); (try clear c16b0); (try clear c17); (try clear c17b0); (try clear c19); (try clear c21); (try clear c24); (try clear p24); (try clear q24); (try clear hx24); (try clear c29); (try clear c29b0); (try clear c29b1); (try clear c30); (try clear c31); (try clear c32); (try clear c34); (try clear c35); (try clear c37); (try clear c38); (try clear c39); (try clear c41); (try clear c42); (try clear hcz10_0); (try clear hcz10_1); (try clear hcz12_0); (try clear hcz12_1); (try clear hcz13_0); (try clear hcz13_1); (try clear hcz20_0); (try clear hcz20_1); (try clear hcz33_0); (try clear hcz33_1); (try clear hcz36_0); (try clear hcz36_1); (try clear hcz40_0); (try clear hcz40_1); (try clear hcz43_0); (try clear hcz43_1); (try clear hcz9_0); (try clear hcz9_1); (try clear hfz10_0); (try clear hfz10_1); (try clear hfz12_0); (try clear hfz12_1); (try clear hfz13_0); (try clear hfz13_1); (try clear hfz20_0); (try clear hfz20_1); (try clear hfz33_0); (try clear hfz33_1); (try clear hfz36_0); (try clear hfz36_1); (try clear hfz40_0); (try clear hfz40_1); (try clear hfz43_0); (try clear hfz43_1); (try clear hfz9_0); (try clear hfz9_1); (try clear hx244_0); (try clear hx244_1); (try clear hx245_0); (try clear hx245_1); (try clear p2); (try clear p244); (try clear p245); (try clear q244); (try clear q245)
          obtain ⟨kq, x54_17, rfl, HA, HJ17, BK241, BK242, BK246, BK247, HB⟩ := hcut
          cases kq with
          | zero => exact absurd HA.out (by simp [ancepsref57_Same.j2])
          | succ kj17 =>
           have H := HA.out
           clear HA
           simp only [ancepsref57_Same.j2] at H
           by_cases c44 : x54_17 = true
           ·subst c44
            have H1 : (some false) = some r := by rw [if_pos rfl] at H; exact H
            clear H
            have H := H1
            clear H1
            obtain rfl := Option.some.inj H
            go_wp2
            go_ret
            exact ⟨eV, iL HB⟩
           ·replace c44 := Bool.eq_false_iff.mpr c44
            subst c44
            have H1 : (ancepsref57_Same.l1 kj17 x5_2 0 l0_0 l0_1 l1_0 l1_1 ((rd_T65 l0_1 x5_2).f0) ((rd_T65 l0_1 x5_2).f1) ((rd_T65 l1_1 x5_2).f0) ((rd_T65 l1_1 x5_2).f1)) = some r := by rw [if_neg (show ¬ (false = true) by decide)] at H; exact H
            clear H
            have H := H1
            clear H1
            have H' := Aside0.mk H
            clear H
            go_wp2
            go_loopg [8] kj17 (fun kq v8 w' => ∃ (x8_4 : Int), v8 = .int .i64 x8_4 ∧ Aside0 (ancepsref57_Same.l1 kq x5_2 x8_4 l0_0 l0_1 l1_0 l1_1 ((rd_T65 l0_1 x5_2).f0) ((rd_T65 l0_1 x5_2).f1) ((rd_T65 l1_1 x5_2).f0) ((rd_T65 l1_1 x5_2).f1) = some r) ∧ Aside0 (kq ≤ kj17) ∧ Aside0 (w'.heap[gb241]? = some (.cells #[(.slice A0_0 l0_0.length c0_0), (.slice (some ad244) l0_1.length c0_1)] 42 (0, 0))) ∧ Aside0 (w'.heap[gb242]? = some (.cells #[(.slice A1_0 l1_0.length c1_0), (.slice (some ad245) l1_1.length c1_1)] 42 (0, 0))) ∧ Aside0 (w'.heap[gb246]? = some (.cells #[.string ((rd_T65 l0_1 x5_2).f0), (.slice A244_1 ((rd_T65 l0_1 x5_2).f1).length c244_1)] 65 (0, 0))) ∧ Aside0 (w'.heap[gb247]? = some (.cells #[.string ((rd_T65 l1_1 x5_2).f0), (.slice A245_1 ((rd_T65 l1_1 x5_2).f1).length c245_1)] 65 (0, 0))) ∧ Aside0 (Below w.heap.size w w'))
            case atStart => exact ⟨(0), eV, H', ⟨Nat.le_refl _⟩, ⟨iB BK241⟩, ⟨iB BK242⟩, ⟨iB BK246⟩, ⟨iB BK247⟩, ⟨iL HB⟩⟩
            case round =>
             clear H'
             (try clear c1); (try clear c2); (try clear p2); (try clear q2); (try clear hx2); (try clear c3); (try clear c4); (try clear c7); (try clear c8); (try clear c11); (try clear c14); (try clear c15); (try clear c15b0); (try clear c16); (try clear c16b0); (try clear c17); (try clear c17b0); (try clear c19); (try clear c21); (try clear c24); (try clear p24); (try clear q24); (try clear hx24); (try clear c29); (try clear c29b0); (try clear c29b1); (try clear c30); (try clear c31); (try clear c32); (try clear c34); (try clear c35); (try clear c37); (try clear c38); (try clear c39); (try clear c41); (try clear c42); (try clear c44); (try clear hcz10_0); (try clear hcz10_1); (try clear hcz12_0); (try clear hcz12_1); (try clear hcz13_0); (try clear hcz13_1); (try clear hcz20_0); (try clear hcz20_1); (try clear hcz33_0); (try clear hcz33_1); (try clear hcz36_0); (try clear hcz36_1); (try clear hcz40_0); (try clear hcz40_1); (try clear hcz43_0); (try clear hcz43_1); (try clear hcz9_0); (try clear hcz9_1); (try clear hfz10_0); (try clear hfz10_1); (try clear hfz12_0); (try clear hfz12_1); (try clear hfz13_0); (try clear hfz13_1); (try clear hfz20_0); (try clear hfz20_1); (try clear hfz33_0); (try clear hfz33_1); (try clear hfz36_0); (try clear hfz36_1); (try clear hfz40_0); (try clear hfz40_1); (try clear hfz43_0); (try clear hfz43_1); (try clear hfz9_0); (try clear hfz9_1); (try clear hx244_0); (try clear hx244_1); (try clear hx245_0); (try clear hx245_1); (try clear p2); (try clear p24); (try clear p244); (try clear p245); (try clear q2); (try clear q24); (try clear q244); (try clear q245)
             obtain ⟨x8_4, rfl, HA, HK4, BK241, BK242, BK246, BK247, HB⟩ := hrel
             cases gk with
             | zero => exact absurd HA.out (by simp [ancepsref57_Same.l1])
             | succ k4 =>
              have H := HA.out
              clear HA
              simp only [ancepsref57_Same.l1] at H
              by_cases c45 : x8_4 < (((rd_T65 l0_1 x5_2).f1).length : Int)
              ·rw [if_pos c45] at H
               have c45b0 : decide (x8_4 < (((rd_T65 l0_1 x5_2).f1).length : Int)) = true := decide_eq_true c45
               clear c45
               by_cases c46 : 0 ≤ x8_4
               ·rw [if_pos c46] at H
                have c46b0 : decide (0 ≤ x8_4) = true := decide_eq_true c46
                clear c46
                by_cases c47 : x8_4 < (((rd_T65 l1_1 x5_2).f1).length : Int)
                ·rw [if_pos c47] at H
                 have c47b0 : decide (x8_4 < (((rd_T65 l1_1 x5_2).f1).length : Int)) = true := decide_eq_true c47
                 clear c47
                 by_cases c48 : (!((((rd_T67 ((rd_T65 l0_1 x5_2).f1) x8_4).f0).toList) == (((rd_T67 ((rd_T65 l1_1 x5_2).f1) x8_4).f0).toList)) || (!(((rd_T67 ((rd_T65 l0_1 x5_2).f1) x8_4).f1) == ((rd_T67 ((rd_T65 l1_1 x5_2).f1) x8_4).f1)))) = true
                 ·rw [if_pos c48] at H
                  have c48b0 : (!((((rd_T67 ((rd_T65 l0_1 x5_2).f1) x8_4).f0).toList) == (((rd_T67 ((rd_T65 l1_1 x5_2).f1) x8_4).f0).toList)) || (!(((rd_T67 ((rd_T65 l0_1 x5_2).f1) x8_4).f1) == ((rd_T67 ((rd_T65 l1_1 x5_2).f1) x8_4).f1)))) = true := c48
                  clear c48
                  obtain rfl := Option.some.inj H
                  have hnb49 := NB246_241.out
                  have hnc49 := NB241_246.out
                  have hnb50 := NB246_242.out
                  have hnc50 := NB242_246.out
                  have hnb51 := NB246_247.out
                  have hnc51 := NB247_246.out
                  have hcz52_0 := cZ BK246 0 (.string ((rd_T65 l0_1 x5_2).f0))
                  have hcz52_1 := cZ BK246 1 (.slice A244_1 ((rd_T65 l0_1 x5_2).f1).length c244_1)
                  have hfz52_0 := blk_frozen BK246.out 0
                  have hfz52_1 := blk_frozen BK246.out 1
                  try go_wp2
                  have n0_ := Aside0.mk (blk_drew BK241.out)
                  have n1_ := Aside0.mk (blk_drew BK242.out)
                  have n2_ := Aside0.mk (blk_drew BK246.out)
                  have n3_ := Aside0.mk (blk_drew BK247.out)
                  have n4_ := Aside0.mk (below_drew1 HB.out)
                  clear BK241
                  clear BK242
                  clear BK246
                  clear BK247
                  clear HB
                  have BK241 := n0_
                  have BK242 := n1_
                  have BK246 := n2_
                  have BK247 := n3_
                  have HB := n4_
                  clear n0_ n1_ n2_ n3_ n4_
                  have p248 := oD (0 ≤ (x8_4 : Int))
                  have q248 := oD (x8_4 < (((rd_T65 l0_1 x5_2).f1).length : Int))
                  obtain ⟨ad248, e248, hx248_0, hx248_1⟩ := at_T67 HR244_1.out x8_4 p248 q248
                  have hw248_1 := hx248_1
                  have hw248_0 := hx248_0
                  cases e248
                  replace hx248_0 := (HB.out.cell (World.block_lt_of_cell? w _ hx248_0)).trans hx248_0
                  replace hx248_1 := (HB.out.cell (World.block_lt_of_cell? w _ hx248_1)).trans hx248_1
                  replace p248 := eq_true p248
                  replace q248 := eq_true q248
                  have p249 := oD (0 ≤ (x8_4 : Int))
                  have q249 := oD (x8_4 < (((rd_T65 l1_1 x5_2).f1).length : Int))
                  obtain ⟨ad249, e249, hx249_0, hx249_1⟩ := at_T67 HR245_1.out x8_4 p249 q249
                  have hw249_1 := hx249_1
                  have hw249_0 := hx249_0
                  cases e249
                  replace hx249_0 := (HB.out.cell (World.block_lt_of_cell? w _ hx249_0)).trans hx249_0
                  replace hx249_1 := (HB.out.cell (World.block_lt_of_cell? w _ hx249_1)).trans hx249_1
                  replace p249 := eq_true p249
                  replace q249 := eq_true q249
                  refine start_ (n := 11) (S := fun w' => w'.cell? ⟨gb246, 0, none⟩ = some (.string ((rd_T65 l0_1 x5_2).f0)) ∧ w'.cell? ⟨gb246, 1, none⟩ = some (.slice (some ad248) ((rd_T65 l0_1 x5_2).f1).length c244_1) ∧ w'.cell? ⟨gb247, 0, none⟩ = some (.string ((rd_T65 l1_1 x5_2).f0)) ∧ w'.cell? ⟨gb247, 1, none⟩ = some (.slice (some ad249) ((rd_T65 l1_1 x5_2).f1).length c245_1) ∧ w'.cell? (ad248.add ((x8_4).toNat * 2)) = some (.string ((rd_T67 ((rd_T65 l0_1 x5_2).f1) x8_4).f0)) ∧ w'.cell? ⟨(ad248.add ((x8_4).toNat * 2)).block, (ad248.add ((x8_4).toNat * 2)).off + 1, none⟩ = some (.int .i64 ((rd_T67 ((rd_T65 l0_1 x5_2).f1) x8_4).f1)) ∧ w'.cell? (ad249.add ((x8_4).toNat * 2)) = some (.string ((rd_T67 ((rd_T65 l1_1 x5_2).f1) x8_4).f0)) ∧ w'.cell? ⟨(ad249.add ((x8_4).toNat * 2)).block, (ad249.add ((x8_4).toNat * 2)).off + 1, none⟩ = some (.int .i64 ((rd_T67 ((rd_T65 l1_1 x5_2).f1) x8_4).f1))) (ds := []) #[false, false, false, false, false, false, false, false, false, false, false] (by kernel_rfl) rfl rfl ⟨(blk_cell BK246.out 0).trans rfl, (blk_cell BK246.out 1).trans rfl, (blk_cell BK247.out 0).trans rfl, (blk_cell BK247.out 1).trans rfl, ((HB.out.cell (World.block_lt_of_cell? w _ hw248_0)).trans hw248_0), ((HB.out.cell (World.block_lt_of_cell? w _ hw248_1)).trans hw248_1), ((HB.out.cell (World.block_lt_of_cell? w _ hw249_0)).trans hw249_0), ((HB.out.cell (World.block_lt_of_cell? w _ hw249_1)).trans hw249_1)⟩ (fun hHeld => ?_); refine with_tabW ancepsref57_Same.tab12 ancepsref57_Same.bits12 (fun HT_ HW_ => ?_)
                  generalize wr.drew = w53 at BK241 BK242 BK246 BK247 HB hx248_0 hx248_1 hx249_0 hx249_1 hHeld ⊢
                  refine pv_ 0 (some 62) HT_ ?_
                  refine pv_ 2 (some 64) HT_ ?_
                  refine pv_ 5 (some 67) HT_ ?_
                  refine pv_ 7 (some 69) HT_ ?_
                  refine tw_ 1 (some 63) HT_ HW_ hHeld ?_
                  refine pv_ 3 (some 65) HT_ ?_
                  refine tw_ 4 (some 66) HT_ HW_ hHeld ?_
                  refine tw_ 6 (some 68) HT_ HW_ hHeld ?_
                  refine pv_ 8 (some 70) HT_ ?_
                  refine tw_ 9 (some 71) HT_ HW_ hHeld ?_
                  refine pv_ 10 (some 72) HT_ ?_
                  refine done_ (done_of HT_.out (by kernel_rfl)) ?_
                  try go_wp2
                  go_ret
                  exact ⟨eV, iL HB⟩
                 ·rw [if_neg c48] at H
                  have c48b0 : (!((((rd_T67 ((rd_T65 l0_1 x5_2).f1) x8_4).f0).toList) == (((rd_T67 ((rd_T65 l1_1 x5_2).f1) x8_4).f0).toList)) || (!(((rd_T67 ((rd_T65 l0_1 x5_2).f1) x8_4).f1) == ((rd_T67 ((rd_T65 l1_1 x5_2).f1) x8_4).f1)))) = false := by simpa using c48
                  clear c48
                  have H' := Aside0.mk H
                  clear H
                  have hnb54 := NB246_241.out
                  have hnc54 := NB241_246.out
                  have hnb55 := NB246_242.out
                  have hnc55 := NB242_246.out
                  have hnb56 := NB246_247.out
                  have hnc56 := NB247_246.out
                  have hcz57_0 := cZ BK246 0 (.string ((rd_T65 l0_1 x5_2).f0))
                  have hcz57_1 := cZ BK246 1 (.slice A244_1 ((rd_T65 l0_1 x5_2).f1).length c244_1)
                  have hfz57_0 := blk_frozen BK246.out 0
                  have hfz57_1 := blk_frozen BK246.out 1
                  try go_wp2
                  have n0_ := Aside0.mk (blk_drew BK241.out)
                  have n1_ := Aside0.mk (blk_drew BK242.out)
                  have n2_ := Aside0.mk (blk_drew BK246.out)
                  have n3_ := Aside0.mk (blk_drew BK247.out)
                  have n4_ := Aside0.mk (below_drew1 HB.out)
                  clear BK241
                  clear BK242
                  clear BK246
                  clear BK247
                  clear HB
                  have BK241 := n0_
                  have BK242 := n1_
                  have BK246 := n2_
                  have BK247 := n3_
                  have HB := n4_
                  clear n0_ n1_ n2_ n3_ n4_
                  have p248 := oD (0 ≤ (x8_4 : Int))
                  have q248 := oD (x8_4 < (((rd_T65 l0_1 x5_2).f1).length : Int))
                  obtain ⟨ad248, e248, hx248_0, hx248_1⟩ := at_T67 HR244_1.out x8_4 p248 q248
                  have hw248_1 := hx248_1
                  have hw248_0 := hx248_0
                  cases e248
                  replace hx248_0 := (HB.out.cell (World.block_lt_of_cell? w _ hx248_0)).trans hx248_0
                  replace hx248_1 := (HB.out.cell (World.block_lt_of_cell? w _ hx248_1)).trans hx248_1
                  replace p248 := eq_true p248
                  replace q248 := eq_true q248
                  have p249 := oD (0 ≤ (x8_4 : Int))
                  have q249 := oD (x8_4 < (((rd_T65 l1_1 x5_2).f1).length : Int))
                  obtain ⟨ad249, e249, hx249_0, hx249_1⟩ := at_T67 HR245_1.out x8_4 p249 q249
                  have hw249_1 := hx249_1
                  have hw249_0 := hx249_0
                  cases e249
                  replace hx249_0 := (HB.out.cell (World.block_lt_of_cell? w _ hx249_0)).trans hx249_0
                  replace hx249_1 := (HB.out.cell (World.block_lt_of_cell? w _ hx249_1)).trans hx249_1
                  replace p249 := eq_true p249
                  replace q249 := eq_true q249
                  refine start_ (n := 11) (S := fun w' => w'.cell? ⟨gb246, 0, none⟩ = some (.string ((rd_T65 l0_1 x5_2).f0)) ∧ w'.cell? ⟨gb246, 1, none⟩ = some (.slice (some ad248) ((rd_T65 l0_1 x5_2).f1).length c244_1) ∧ w'.cell? ⟨gb247, 0, none⟩ = some (.string ((rd_T65 l1_1 x5_2).f0)) ∧ w'.cell? ⟨gb247, 1, none⟩ = some (.slice (some ad249) ((rd_T65 l1_1 x5_2).f1).length c245_1) ∧ w'.cell? (ad248.add ((x8_4).toNat * 2)) = some (.string ((rd_T67 ((rd_T65 l0_1 x5_2).f1) x8_4).f0)) ∧ w'.cell? ⟨(ad248.add ((x8_4).toNat * 2)).block, (ad248.add ((x8_4).toNat * 2)).off + 1, none⟩ = some (.int .i64 ((rd_T67 ((rd_T65 l0_1 x5_2).f1) x8_4).f1)) ∧ w'.cell? (ad249.add ((x8_4).toNat * 2)) = some (.string ((rd_T67 ((rd_T65 l1_1 x5_2).f1) x8_4).f0)) ∧ w'.cell? ⟨(ad249.add ((x8_4).toNat * 2)).block, (ad249.add ((x8_4).toNat * 2)).off + 1, none⟩ = some (.int .i64 ((rd_T67 ((rd_T65 l1_1 x5_2).f1) x8_4).f1))) (ds := []) #[false, false, false, false, false, false, false, false, false, false, false] (by kernel_rfl) rfl rfl ⟨(blk_cell BK246.out 0).trans rfl, (blk_cell BK246.out 1).trans rfl, (blk_cell BK247.out 0).trans rfl, (blk_cell BK247.out 1).trans rfl, ((HB.out.cell (World.block_lt_of_cell? w _ hw248_0)).trans hw248_0), ((HB.out.cell (World.block_lt_of_cell? w _ hw248_1)).trans hw248_1), ((HB.out.cell (World.block_lt_of_cell? w _ hw249_0)).trans hw249_0), ((HB.out.cell (World.block_lt_of_cell? w _ hw249_1)).trans hw249_1)⟩ (fun hHeld => ?_); refine with_tabW ancepsref57_Same.tab12 ancepsref57_Same.bits12 (fun HT_ HW_ => ?_)
                  generalize wr.drew = w58 at BK241 BK242 BK246 BK247 HB hx248_0 hx248_1 hx249_0 hx249_1 hHeld ⊢
                  refine pv_ 0 (some 62) HT_ ?_
                  refine pv_ 2 (some 64) HT_ ?_
                  refine pv_ 5 (some 67) HT_ ?_
                  refine pv_ 7 (some 69) HT_ ?_
                  refine tw_ 1 (some 63) HT_ HW_ hHeld ?_
                  refine pv_ 3 (some 65) HT_ ?_
                  refine tw_ 4 (some 66) HT_ HW_ hHeld ?_
                  refine tw_ 6 (some 68) HT_ HW_ hHeld ?_
                  refine pv_ 8 (some 70) HT_ ?_
                  refine tw_ 9 (some 71) HT_ HW_ hHeld ?_
                  refine pv_ 10 (some 72) HT_ ?_
                  refine done_ (done_of HT_.out (by kernel_rfl)) ?_
                  try go_wp2
                  go_roundg k4
                  case measure => have := HJ2.out; have := HK2.out; have := HJ17.out; have := HK4.out; omega
                  case rel => exact ⟨(wrap64 (x8_4 + 1)), eV, H', ⟨by have := HJ2.out; have := HK2.out; have := HJ17.out; have := HK4.out; omega⟩, ⟨iB BK241⟩, ⟨iB BK242⟩, ⟨iB BK246⟩, ⟨iB BK247⟩, ⟨iL HB⟩⟩
                ·rw [if_neg c47] at H
                 exact absurd H (by simp)
               ·rw [if_neg c46] at H
                exact absurd H (by simp)
              ·rw [if_neg c45] at H
               have c45b0 : decide (x8_4 < (((rd_T65 l0_1 x5_2).f1).length : Int)) = false := decide_eq_false c45
               clear c45
               have H' := Aside0.mk H
               clear H
               have hnb59 := NB246_241.out
               have hnc59 := NB241_246.out
               have hnb60 := NB246_242.out
               have hnc60 := NB242_246.out
               have hnb61 := NB246_247.out
               have hnc61 := NB247_246.out
               have hcz62_0 := cZ BK246 0 (.string ((rd_T65 l0_1 x5_2).f0))
               have hcz62_1 := cZ BK246 1 (.slice A244_1 ((rd_T65 l0_1 x5_2).f1).length c244_1)
               have hfz62_0 := blk_frozen BK246.out 0
               have hfz62_1 := blk_frozen BK246.out 1
               go_wp2
               go_roundg k4
               case measure => have := HJ2.out; have := HK2.out; have := HJ17.out; have := HK4.out; omega
               case rel => exact ⟨(wrap64 (x5_2 + 1)), eV, H', ⟨by have := HJ2.out; have := HK2.out; have := HJ17.out; have := HK4.out; omega⟩, ⟨iB BK241⟩, ⟨iB BK242⟩, ⟨iL HB⟩⟩
        ·rw [if_neg c17] at H
         exact absurd H (by simp)
       ·rw [if_neg c16] at H
        exact absurd H (by simp)
      ·rw [if_neg c15] at H
       have c15b0 : decide (x5_2 < (l0_1.length : Int)) = false := decide_eq_false c15
       clear c15
       obtain rfl := Option.some.inj H
       have hnb63 := NB241_242.out
       have hnc63 := NB242_241.out
       have hcz64_0 := cZ BK241 0 (.slice A0_0 l0_0.length c0_0)
       have hcz64_1 := cZ BK241 1 (.slice A0_1 l0_1.length c0_1)
       have hfz64_0 := blk_frozen BK241.out 0
       have hfz64_1 := blk_frozen BK241.out 1
       go_wp2
       go_ret
       exact ⟨eV, iL HB⟩

end Go.Proofs.Ytmjigfoldeekmaa.X
