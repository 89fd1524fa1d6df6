-- shortened
-- thinned
-- halved indents
-- printed by this session's xprint.py: out of the translation, by the kit's print with additions; Lean checks it
import Derived.Test.YtmjigfoldeekmaaWN
import Derived.Test.YtmjigfoldeekmaaWShare
import Derived.Test.YtmjigfoldeekmaaWRepsOne
import Derived.Test.YtmjigfoldeekmaaWGuard
import Derived.Test.YtmjigfoldeekmaaX0
import Derived.Test.YtmjigfoldeekmaaX2
import Derived.Test.YtmjigfoldeekmaaX11
import Derived.Test.YtmjigfoldeekmaaXA
namespace Go.Proofs.Ytmjigfoldeekmaa.X
open Go.RowKit Go.Proofs.YtmjigfoldeekmaaW.PrintWords Go.Proofs.YtmjigfoldeekmaaW.PrintLast Go.Proofs.YtmjigfoldeekmaaW.PrintMore
attribute [local go_sem] max2_int min2_int max_two min_two max_three min_three max_four min_four isSome_setCell binOp_gtr_str binOp_leq_str binOp_geq_str   -- for this text's walks alone
set_option linter.unusedVariables false
set_option linter.unusedSimpArgs false

attribute [local go_sem high] eqA67
/-! ### ancepsref57_Same: function 19 -/
mutual
def ancepsref57_Same.j0 : Nat → Bool → List ByteArray → List (S65) → List ByteArray → List (S65) → Option (Bool)
 | 0, _, _, _, _, _ => none
 | k + 1, x23, x371000, x371001, x372000, x372001 => if x23 = true then (some false) else (ancepsref57_Same.l0 k 0 x371000 x371001 x372000 x372001)
def ancepsref57_Same.l0 : Nat → Int → List ByteArray → List (S65) → List ByteArray → List (S65) → Option (Bool)
 | 0, _, _, _, _, _ => none
 | k + 1, x5, x371000, x371001, x372000, x372001 => if x5 < (x371001.length : Int) then (if 0 ≤ x5 then (if x5 < (x372001.length : Int) then (if ((rd_T65 x371001 x5).f0).toList = ((rd_T65 x372001 x5).f0).toList then (ancepsref57_Same.j2 k x5 ((((rd_T65 x371001 x5).f1).length : Int) != (((rd_T65 x372001 x5).f1).length : Int)) x371000 x371001 x372000 x372001 ((rd_T65 x371001 x5).f0) ((rd_T65 x371001 x5).f1) ((rd_T65 x372001 x5).f0) ((rd_T65 x372001 x5).f1)) else (ancepsref57_Same.j2 k x5 true x371000 x371001 x372000 x372001 ((rd_T65 x371001 x5).f0) ((rd_T65 x371001 x5).f1) ((rd_T65 x372001 x5).f0) ((rd_T65 x372001 x5).f1))) else (none)) else (none)) else (some true)
def ancepsref57_Same.j2 : Nat → Int → Bool → List ByteArray → List (S65) → List ByteArray → List (S65) → ByteArray → List (S67) → ByteArray → List (S67) → Option (Bool)
 | 0, _, _, _, _, _, _, _, _, _, _ => none
 | k + 1, x5, x54, x371000, x371001, x372000, x372001, x376000, x376001, x377000, x377001 => if x54 = true then (some false) else (ancepsref57_Same.l1 k x5 0 x371000 x371001 x372000 x372001 x376000 x376001 x377000 x377001)
def ancepsref57_Same.l1 : Nat → Int → Int → List ByteArray → List (S65) → List ByteArray → List (S65) → ByteArray → List (S67) → ByteArray → List (S67) → Option (Bool)
 | 0, _, _, _, _, _, _, _, _, _, _ => none
 | k + 1, x5, x8, x371000, x371001, x372000, x372001, x376000, x376001, x377000, x377001 => if x8 < (x376001.length : Int) then (if 0 ≤ x8 then (if x8 < (x377001.length : Int) then (if (!((((rd_T67 x376001 x8).f0).toList) == (((rd_T67 x377001 x8).f0).toList)) || (!(((rd_T67 x376001 x8).f1) == ((rd_T67 x377001 x8).f1)))) = true then (some false) else (ancepsref57_Same.l1 k x5 (wrap64 (x8 + 1)) x371000 x371001 x372000 x372001 x376000 x376001 x377000 x377001)) else (none)) else (none)) else (ancepsref57_Same.l0 k (wrap64 (x5 + 1)) x371000 x371001 x372000 x372001)
end
def ancepsref57_Same.f (k : Nat) (l0_0 : List ByteArray) (l0_1 : List (S65)) (l1_0 : List ByteArray) (l1_1 : List (S65)) : Option (Bool) := (ancepsref01_Equal.f k l0_0 l1_0).bind fun t372 => (if t372 = true then (ancepsref57_Same.j0 k ((l0_1.length : Int) != (l1_1.length : Int)) l0_0 l0_1 l1_0 l1_1) else (ancepsref57_Same.j0 k true l0_0 l0_1 l1_0 l1_1))
theorem ancepsref57_Same.mono_l : ∀ k, (∀ y0 y1 y2 y3 y4, LeO (ancepsref57_Same.j0 k y0 y1 y2 y3 y4) (ancepsref57_Same.j0 (k + 1) y0 y1 y2 y3 y4)) ∧ (∀ y0 y1 y2 y3 y4, LeO (ancepsref57_Same.l0 k y0 y1 y2 y3 y4) (ancepsref57_Same.l0 (k + 1) y0 y1 y2 y3 y4)) ∧ (∀ y0 y1 y2 y3 y4 y5 y6 y7 y8 y9, LeO (ancepsref57_Same.j2 k y0 y1 y2 y3 y4 y5 y6 y7 y8 y9) (ancepsref57_Same.j2 (k + 1) y0 y1 y2 y3 y4 y5 y6 y7 y8 y9)) ∧ (∀ y0 y1 y2 y3 y4 y5 y6 y7 y8 y9, LeO (ancepsref57_Same.l1 k y0 y1 y2 y3 y4 y5 y6 y7 y8 y9) (ancepsref57_Same.l1 (k + 1) y0 y1 y2 y3 y4 y5 y6 y7 y8 y9))
 | 0 => ⟨fun _ _ _ _ _ r h => by simp [ancepsref57_Same.j0] at h, fun _ _ _ _ _ r h => by simp [ancepsref57_Same.l0] at h, fun _ _ _ _ _ _ _ _ _ _ r h => by simp [ancepsref57_Same.j2] at h, fun _ _ _ _ _ _ _ _ _ _ r h => by simp [ancepsref57_Same.l1] at h⟩
 | k + 1 => by
  obtain ⟨ih0, ih1, ih2, ih3⟩ := ancepsref57_Same.mono_l k
  refine ⟨?_, ?_, ?_, ?_⟩
  ·intro y0 y1 y2 y3 y4
   unfold ancepsref57_Same.j0
   repeat' first
   | (with_reducible exact ih0 _ _ _ _ _)
   | (with_reducible exact ih1 _ _ _ _ _)
   | (with_reducible exact ih2 _ _ _ _ _ _ _ _ _ _)
   | (with_reducible exact ih3 _ _ _ _ _ _ _ _ _ _)
   | (with_reducible exact ancepsref01_Equal.mono _ _ _)
   | (with_reducible exact LeO.refl _)
   | (with_reducible exact LeO.none _)
   | (with_reducible refine LeO.ite ?_ ?_)
   | (with_reducible refine LeO.bind ?_ (fun _ => ?_))
   | exact ih0 _ _ _ _ _
   | exact ih1 _ _ _ _ _
   | exact ih2 _ _ _ _ _ _ _ _ _ _
   | exact ih3 _ _ _ _ _ _ _ _ _ _
   | exact ancepsref01_Equal.mono _ _ _
   | exact LeO.none _
   | refine LeO.ite ?_ ?_
   | refine LeO.bind ?_ (fun _ => ?_)
  ·intro y0 y1 y2 y3 y4
   unfold ancepsref57_Same.l0
   repeat' first
   | (with_reducible exact ih0 _ _ _ _ _)
   | (with_reducible exact ih1 _ _ _ _ _)
   | (with_reducible exact ih2 _ _ _ _ _ _ _ _ _ _)
   | (with_reducible exact ih3 _ _ _ _ _ _ _ _ _ _)
   | (with_reducible exact ancepsref01_Equal.mono _ _ _)
   | (with_reducible exact LeO.refl _)
   | (with_reducible exact LeO.none _)
   | (with_reducible refine LeO.ite ?_ ?_)
   | (with_reducible refine LeO.bind ?_ (fun _ => ?_))
   | exact ih0 _ _ _ _ _
   | exact ih1 _ _ _ _ _
   | exact ih2 _ _ _ _ _ _ _ _ _ _
   | exact ih3 _ _ _ _ _ _ _ _ _ _
   | exact ancepsref01_Equal.mono _ _ _
   | exact LeO.none _
   | refine LeO.ite ?_ ?_
   | refine LeO.bind ?_ (fun _ => ?_)
  ·intro y0 y1 y2 y3 y4 y5 y6 y7 y8 y9
   unfold ancepsref57_Same.j2
   repeat' first
   | (with_reducible exact ih0 _ _ _ _ _)
   | (with_reducible exact ih1 _ _ _ _ _)
   | (with_reducible exact ih2 _ _ _ _ _ _ _ _ _ _)
   | (with_reducible exact ih3 _ _ _ _ _ _ _ _ _ _)
   | (with_reducible exact ancepsref01_Equal.mono _ _ _)
   | (with_reducible exact LeO.refl _)
   | (with_reducible exact LeO.none _)
   | (with_reducible refine LeO.ite ?_ ?_)
   | (with_reducible refine LeO.bind ?_ (fun _ => ?_))
   | exact ih0 _ _ _ _ _
   | exact ih1 _ _ _ _ _
   | exact ih2 _ _ _ _ _ _ _ _ _ _
   | exact ih3 _ _ _ _ _ _ _ _ _ _
   | exact ancepsref01_Equal.mono _ _ _
   | exact LeO.none _
   | refine LeO.ite ?_ ?_
   | refine LeO.bind ?_ (fun _ => ?_)
  ·intro y0 y1 y2 y3 y4 y5 y6 y7 y8 y9
   unfold ancepsref57_Same.l1
   repeat' first
   | (with_reducible exact ih0 _ _ _ _ _)
   | (with_reducible exact ih1 _ _ _ _ _)
   | (with_reducible exact ih2 _ _ _ _ _ _ _ _ _ _)
   | (with_reducible exact ih3 _ _ _ _ _ _ _ _ _ _)
   | (with_reducible exact ancepsref01_Equal.mono _ _ _)
   | (with_reducible exact LeO.refl _)
   | (with_reducible exact LeO.none _)
   | (with_reducible refine LeO.ite ?_ ?_)
   | (with_reducible refine LeO.bind ?_ (fun _ => ?_))
   | exact ih0 _ _ _ _ _
   | exact ih1 _ _ _ _ _
   | exact ih2 _ _ _ _ _ _ _ _ _ _
   | exact ih3 _ _ _ _ _ _ _ _ _ _
   | exact ancepsref01_Equal.mono _ _ _
   | exact LeO.none _
   | refine LeO.ite ?_ ?_
   | refine LeO.bind ?_ (fun _ => ?_)
theorem ancepsref57_Same.mono : ∀ a0 a1 a2 a3 k, LeO (ancepsref57_Same.f k a0 a1 a2 a3) (ancepsref57_Same.f (k + 1) a0 a1 a2 a3) := by
 intro a0 a1 a2 a3 k
 obtain ⟨ih0, ih1, ih2, ih3⟩ := ancepsref57_Same.mono_l k
 unfold ancepsref57_Same.f
 repeat' first
   | (with_reducible exact ih0 _ _ _ _ _)
   | (with_reducible exact ih1 _ _ _ _ _)
   | (with_reducible exact ih2 _ _ _ _ _ _ _ _ _ _)
   | (with_reducible exact ih3 _ _ _ _ _ _ _ _ _ _)
   | (with_reducible exact ancepsref01_Equal.mono _ _ _)
   | (with_reducible exact LeO.refl _)
   | (with_reducible exact LeO.none _)
   | (with_reducible refine LeO.ite ?_ ?_)
   | (with_reducible refine LeO.bind ?_ (fun _ => ?_))
   | exact ih0 _ _ _ _ _
   | exact ih1 _ _ _ _ _
   | exact ih2 _ _ _ _ _ _ _ _ _ _
   | exact ih3 _ _ _ _ _ _ _ _ _ _
   | exact ancepsref01_Equal.mono _ _ _
   | exact LeO.none _
   | refine LeO.ite ?_ ?_
   | refine LeO.bind ?_ (fun _ => ?_)
def ancepsref57_Same.T6 : Bool × List (List Nat × List Nat) := (true, [([], []), ([0], [0]), ([], []), ([1, 2], [1, 2]), ([3], [3]), ([], []), ([5], [5]), ([], []), ([6, 7], [6, 7]), ([8], [8]), ([], []), ([], []), ([10, 4, 0, 1, 2, 3, 4, 10, 11], [4, 10]), ([11, 9, 12, 0, 1, 2, 3, 4, 5, 6, 7, 8, 9, 10, 11, 12], [9, 11])])
def ancepsref57_Same.B6 : List Nat := [0, 1, 0, 7, 15, 0, 32, 0, 224, 480, 0, 0, 3103, 8191]
theorem ancepsref57_Same.tab6 : rtab .any (opsOf Try.f19 6) = ancepsref57_Same.T6 := by kernel_rfl
theorem ancepsref57_Same.bits6 : waitsOk ancepsref57_Same.T6.2 ancepsref57_Same.B6 = true := by kernel_rfl
def ancepsref57_Same.T12 : Bool × List (List Nat × List Nat) := (true, [([], []), ([0], [0]), ([], []), ([1, 2], [1, 2]), ([3], [3]), ([], []), ([5], [5]), ([], []), ([6, 7], [6, 7]), ([8], [8]), ([4, 9], [4, 9])])
def ancepsref57_Same.B12 : List Nat := [0, 1, 0, 7, 15, 0, 32, 0, 224, 480, 1023]
theorem ancepsref57_Same.tab12 : rtab .any (opsOf Try.f19 12) = ancepsref57_Same.T12 := by kernel_rfl
theorem ancepsref57_Same.bits12 : waitsOk ancepsref57_Same.T12.2 ancepsref57_Same.B12 = true := by kernel_rfl
set_option maxHeartbeats 8000000 in
set_option maxRecDepth 100000 in
theorem ancepsref57_Same.calls (k : Nat) (A0_0 : Option Addr) (c0_0 : Nat) (l0_0 : List ByteArray) (A0_1 : Option Addr) (c0_1 : Nat) (l0_1 : List (S65)) (A1_0 : Option Addr) (c1_0 : Nat) (l1_0 : List ByteArray) (A1_1 : Option Addr) (c1_1 : Nat) (l1_1 : List (S65)) (r : Bool) (w : World) (hr0_0 : Kd.C Kd.string w A0_0 l0_0.length l0_0) (hc0_0 : l0_0.length ≤ c0_0) (hr0_1 : Kd.C k65 w A0_1 l0_1.length l0_1) (hc0_1 : l0_1.length ≤ c0_1) (hr1_0 : Kd.C Kd.string w A1_0 l1_0.length l1_0) (hc1_0 : l1_0.length ≤ c1_0) (hr1_1 : Kd.C k65 w A1_1 l1_1.length l1_1) (hc1_1 : l1_1.length ≤ c1_1) (h : ancepsref57_Same.f k l0_0 l0_1 l1_0 l1_1 = some r) :
  Calls Try.prog 19 #[.agg #[.slice A0_0 l0_0.length c0_0, .slice A0_1 l0_1.length c0_1], .agg #[.slice A1_0 l1_0.length c1_0, .slice A1_1 l1_1.length c1_1]] w fun e w' => e = .returned (.bool r) ∧ Below w.heap.size w w' := by
 have hu42 := Try.underlying42
 have hu65 := Try.underlying65
 have hu67 := Try.underlying67
 have HR0_0 := Aside0.mk hr0_0
 have HC0_0 := Aside0.mk hc0_0
 clear hr0_0 hc0_0
 have HR0_1 := Aside0.mk hr0_1
 have HC0_1 := Aside0.mk hc0_1
 clear hr0_1 hc0_1
 have HR1_0 := Aside0.mk hr1_0
 have HC1_0 := Aside0.mk hc1_0
 clear hr1_0 hc1_0
 have HR1_1 := Aside0.mk hr1_1
 have HC1_1 := Aside0.mk hc1_1
 clear hr1_1 hc1_1
 have HB := Aside0.mk (Below.refl w.heap.size w)
 have H : ((ancepsref01_Equal.f k l0_0 l1_0).bind fun t372 => (if t372 = true then (ancepsref57_Same.j0 k ((l0_1.length : Int) != (l1_1.length : Int)) l0_0 l0_1 l1_0 l1_1) else (ancepsref57_Same.j0 k true l0_0 l0_1 l1_0 l1_1))) = some r := h
 clear h
 have HC3 := Aside0.mk H
 clear H
 go_enter Try.func19, Try.ntmps19
 go_upto_region 1 with (first | ((with_reducible refine gate_dst (N := 2) rfl ?_); (try (refine gate_guard (by rfl) ?_; dsimp only)); refine bX 2 #[.slice A0_0 l0_0.length c0_0, .slice A0_1 l0_1.length c0_1] 42 ?_; intro gb370 hg w4 hbox hb; have n0_ := jL HB hb; have n1_ := Aside0.mk (hbox); have n2_ := Aside0.mk ((by rw [hg]; exact (below_size (iL HB)) : w.heap.size ≤ gb370)); have n3_ := Aside0.mk ((by rw [hg]; exact (below_size (iL HB)) : w.heap.size ≤ gb370)); clear HB; have HB := n0_; have BK370 := n1_; have GW370 := n2_; have GE370 := n3_; clear n0_ n1_ n2_ n3_; clear hb hbox hg) | ((with_reducible refine gate_dst (N := 3) rfl ?_); (try (refine gate_guard (by rfl) ?_; dsimp only)); refine bX 3 #[.slice A1_0 l1_0.length c1_0, .slice A1_1 l1_1.length c1_1] 42 ?_; intro gb371 hg w5 hbox hb; have n0_ := jB BK370 hb; have n1_ := jL HB hb; have n2_ := Aside0.mk (hbox); have n3_ := Aside0.mk ((by rw [hg]; exact (below_size (iL HB)) : w.heap.size ≤ gb371)); have n4_ := Aside0.mk ((by rw [hg]; exact (below_size (iL HB)) : w.heap.size ≤ gb371)); have n5_ := Aside0.mk ((by rw [hg]; exact Nat.ne_of_lt (blk_lt (g := gb370) (o := .cells #[.slice A0_0 l0_0.length c0_0, .slice A0_1 l0_1.length c0_1] 42 (0, 0)) (iB BK370)) : gb370 ≠ gb371)); have n6_ := Aside0.mk ((by rw [hg]; exact Nat.ne_of_gt (blk_lt (g := gb370) (o := .cells #[.slice A0_0 l0_0.length c0_0, .slice A0_1 l0_1.length c0_1] 42 (0, 0)) (iB BK370)) : gb371 ≠ gb370)); clear BK370; clear HB; have BK370 := n0_; have HB := n1_; have BK371 := n2_; have GW371 := n3_; have GE371 := n4_; have NB370_371 := n5_; have NB371_370 := n6_; clear n0_ n1_ n2_ n3_ n4_ n5_ n6_; clear hb hbox hg))
 (try simp only [Act.put, List.setIfInBounds_toArray, List.set_cons_zero, List.set_cons_succ])
 go_cut [23] (fun v23 wc => ∃ (kq : Nat) (x23_2 : Bool), v23 = .bool x23_2 ∧ Aside0 (ancepsref57_Same.j0 kq x23_2 l0_0 l0_1 l1_0 l1_1 = some r) ∧ Aside0 (kq ≤ k) ∧ Aside0 (wc.heap[gb370]? = some (.cells #[(.slice A0_0 l0_0.length c0_0), (.slice A0_1 l0_1.length c0_1)] 42 (0, 0))) ∧ Aside0 (wc.heap[gb371]? = some (.cells #[(.slice A1_0 l1_0.length c1_0), (.slice A1_1 l1_1.length c1_1)] 42 (0, 0))) ∧ Aside0 (Below w.heap.size w wc))
 case first =>
  have H := HC3.out
  clear HC3
  replace H := Option.bind_eq_some_iff.mp H
  obtain ⟨t372, A60, H⟩ := H
  try dsimp only at H
  have A6 := Aside0.mk A60
  clear A60
  by_cases c7 : t372 = true
  ·subst c7
   have H1 : (ancepsref57_Same.j0 k ((l0_1.length : Int) != (l1_1.length : Int)) l0_0 l0_1 l1_0 l1_1) = some r := by rw [if_pos rfl] at H; exact H
   clear H
   have H := H1
   clear H1
   have H' := Aside0.mk H
   clear H
   have hnb8 := NB370_371.out
   have hnc8 := NB371_370.out
   have hcz9_0 := cZ BK370 0 (.slice A0_0 l0_0.length c0_0)
   have hcz9_1 := cZ BK370 1 (.slice A0_1 l0_1.length c0_1)
   have hfz9_0 := blk_frozen BK370.out 0
   have hfz9_1 := blk_frozen BK370.out 1
   have hcz10_0 := cZ BK371 0 (.slice A1_0 l1_0.length c1_0)
   have hcz10_1 := cZ BK371 1 (.slice A1_1 l1_1.length c1_1)
   have hfz10_0 := blk_frozen BK371.out 0
   have hfz10_1 := blk_frozen BK371.out 1
   go_wp2_with (first | ((with_reducible refine gate_callee (f := 21) rfl ?_); refine gL_ (some 13) Try.func21 #[.slice A0_0 l0_0.length c0_0, .slice A1_0 l1_0.length c1_0] ?_; (with_reducible refine (ancepsref01_Equal.calls k _ _ l0_0 _ _ l1_0 true _ ?side1 ?side2 ?side3 ?side4 A6.out).mono ?_); (case side1 => exact iC HR0_0 HB); (case side2 => exact HC0_0.out); (case side3 => exact iC HR1_0 HB); (case side4 => exact HC1_0.out); rintro e w' ⟨rfl, ⟨nd, rfl⟩⟩; refine ⟨_, rfl, ?_⟩))
   go_meet
   case rel => exact ⟨_, (((l0_1.length : Int) != (l1_1.length : Int))), (by first | rfl | (simp; done) | (simp [*]; done)), H', ⟨by first | omega | exact Nat.le_refl _⟩, ⟨by (with_reducible repeat (first | apply blk_drewN | apply blk_drew | apply blk_alloc)); exact BK370.out⟩, ⟨by (with_reducible repeat (first | apply blk_drewN | apply blk_drew | apply blk_alloc)); exact BK371.out⟩, ⟨by repeat (first | (with_reducible first | exact HB.out | apply below_alloc | apply pw_below_drewN | apply below_drew1 | refine below_set ?_ GE370.out | refine below_set ?_ GE371.out) | exact HB.out)⟩⟩
  ·replace c7 := Bool.eq_false_iff.mpr c7
   subst c7
   have H1 : (ancepsref57_Same.j0 k true l0_0 l0_1 l1_0 l1_1) = some r := by rw [if_neg (show ¬ (false = true) by decide)] at H; exact H
   clear H
   have H := H1
   clear H1
   have H' := Aside0.mk H
   clear H
   have hnb11 := NB370_371.out
   have hnc11 := NB371_370.out
   have hcz12_0 := cZ BK370 0 (.slice A0_0 l0_0.length c0_0)
   have hcz12_1 := cZ BK370 1 (.slice A0_1 l0_1.length c0_1)
   have hfz12_0 := blk_frozen BK370.out 0
   have hfz12_1 := blk_frozen BK370.out 1
   have hcz13_0 := cZ BK371 0 (.slice A1_0 l1_0.length c1_0)
   have hcz13_1 := cZ BK371 1 (.slice A1_1 l1_1.length c1_1)
   have hfz13_0 := blk_frozen BK371.out 0
   have hfz13_1 := blk_frozen BK371.out 1
   go_wp2_with (first | ((with_reducible refine gate_callee (f := 21) rfl ?_); refine gL_ (some 13) Try.func21 #[.slice A0_0 l0_0.length c0_0, .slice A1_0 l1_0.length c1_0] ?_; (with_reducible refine (ancepsref01_Equal.calls k _ _ l0_0 _ _ l1_0 false _ ?side1 ?side2 ?side3 ?side4 A6.out).mono ?_); (case side1 => exact iC HR0_0 HB); (case side2 => exact HC0_0.out); (case side3 => exact iC HR1_0 HB); (case side4 => exact HC1_0.out); rintro e w' ⟨rfl, ⟨nd, rfl⟩⟩; refine ⟨_, rfl, ?_⟩))
   go_meet
   case rel => exact ⟨_, (true), (by first | rfl | (simp; done) | (simp [*]; done)), H', ⟨by first | omega | exact Nat.le_refl _⟩, ⟨by (with_reducible repeat (first | apply blk_drewN | apply blk_drew | apply blk_alloc)); exact BK370.out⟩, ⟨by (with_reducible repeat (first | apply blk_drewN | apply blk_drew | apply blk_alloc)); exact BK371.out⟩, ⟨by repeat (first | (with_reducible first | exact HB.out | apply below_alloc | apply pw_below_drewN | apply below_drew1 | refine below_set ?_ GE370.out | refine below_set ?_ GE371.out) | exact HB.out)⟩⟩
 case rest =>
  clear HC3
  try clear c1
  try clear c2
  try clear p2
  try clear c7
  try clear c8
  try clear c11
  try clear hcz10_0
  try clear hcz10_1
  try clear hcz12_0
  try clear hcz12_1
  try clear hcz13_0
  try clear hcz13_1
  try clear hcz9_0
  try clear hcz9_1
  try clear hfz10_0
  try clear hfz10_1
  try clear hfz12_0
  try clear hfz12_1
  try clear hfz13_0
  try clear hfz13_1
  try clear hfz9_0
  try clear hfz9_1
  obtain ⟨kq, x23_2, rfl, HA, HJ2, BK370, BK371, HB⟩ := hcut
  cases kq with
  | zero => exact absurd HA.out (by simp [ancepsref57_Same.j0])
  | succ kj2 =>
   have H := HA.out
   clear HA
   simp only [ancepsref57_Same.j0] at H
   by_cases c14 : x23_2 = true
   ·subst c14
    have H1 : (some false) = some r := by rw [if_pos rfl] at H; exact H
    clear H
    have H := H1
    clear H1
    obtain rfl := Option.some.inj H
    go_wp2
    go_ret
    exact ⟨by first | rfl | (simp [errW_none, errW_some] <;> rfl) | (simp [*, errW_none, errW_some] <;> rfl), by repeat (first | (with_reducible first | exact HB.out | apply below_alloc | apply pw_below_drewN | apply below_drew1 | refine below_set ?_ GE370.out | refine below_set ?_ GE371.out) | exact HB.out)⟩
   ·replace c14 := Bool.eq_false_iff.mpr c14
    subst c14
    have H1 : (ancepsref57_Same.l0 kj2 0 l0_0 l0_1 l1_0 l1_1) = some r := by rw [if_neg (show ¬ (false = true) by decide)] at H; exact H
    clear H
    have H := H1
    clear H1
    have H' := Aside0.mk H
    clear H
    go_wp2
    go_loopg [5] kj2 (fun kq v5 w' => ∃ (x5_2 : Int), v5 = .int .i64 x5_2 ∧ Aside0 (ancepsref57_Same.l0 kq x5_2 l0_0 l0_1 l1_0 l1_1 = some r) ∧ Aside0 (kq ≤ kj2) ∧ Aside0 (w'.heap[gb370]? = some (.cells #[(.slice A0_0 l0_0.length c0_0), (.slice A0_1 l0_1.length c0_1)] 42 (0, 0))) ∧ Aside0 (w'.heap[gb371]? = some (.cells #[(.slice A1_0 l1_0.length c1_0), (.slice A1_1 l1_1.length c1_1)] 42 (0, 0))) ∧ Aside0 (Below w.heap.size w w'))
    case atStart => exact ⟨(0), (by first | rfl | (simp; done) | (simp [*]; done)), H', ⟨Nat.le_refl _⟩, ⟨by (with_reducible repeat (first | apply blk_drewN | apply blk_drew | apply blk_alloc)); exact BK370.out⟩, ⟨by (with_reducible repeat (first | apply blk_drewN | apply blk_drew | apply blk_alloc)); exact BK371.out⟩, ⟨by repeat (first | (with_reducible first | exact HB.out | apply below_alloc | apply pw_below_drewN | apply below_drew1 | refine below_set ?_ GE370.out | refine below_set ?_ GE371.out) | exact HB.out)⟩⟩
    case round =>
     clear H'
     try clear c1
     try clear c2
     try clear p2
     try clear c7
     try clear c8
     try clear c11
     try clear c14
     try clear hcz10_0
     try clear hcz10_1
     try clear hcz12_0
     try clear hcz12_1
     try clear hcz13_0
     try clear hcz13_1
     try clear hcz9_0
     try clear hcz9_1
     try clear hfz10_0
     try clear hfz10_1
     try clear hfz12_0
     try clear hfz12_1
     try clear hfz13_0
     try clear hfz13_1
     try clear hfz9_0
     try clear hfz9_1
     try clear p2
     obtain ⟨x5_2, rfl, HA, HK2, BK370, BK371, HB⟩ := hrel
     cases gk with
     | zero => exact absurd HA.out (by simp [ancepsref57_Same.l0])
     | succ k2 =>
      have H := HA.out
      clear HA
      simp only [ancepsref57_Same.l0] at H
      by_cases c15 : x5_2 < (l0_1.length : Int)
      ·rw [if_pos c15] at H
       have c15b0 : decide (x5_2 < (l0_1.length : Int)) = true := decide_eq_true c15
       clear c15
       by_cases c16 : 0 ≤ x5_2
       ·rw [if_pos c16] at H
        have c16b0 : decide (0 ≤ x5_2) = true := decide_eq_true c16
        clear c16
        by_cases c17 : x5_2 < (l1_1.length : Int)
        ·rw [if_pos c17] at H
         have c17b0 : decide (x5_2 < (l1_1.length : Int)) = true := decide_eq_true c17
         clear c17
         have HC18 := Aside0.mk H
         clear H
         have hnb19 := NB370_371.out
         have hnc19 := NB371_370.out
         have hcz20_0 := cZ BK370 0 (.slice A0_0 l0_0.length c0_0)
         have hcz20_1 := cZ BK370 1 (.slice A0_1 l0_1.length c0_1)
         have hfz20_0 := blk_frozen BK370.out 0
         have hfz20_1 := blk_frozen BK370.out 1
         try go_wp2
         have n0_ := Aside0.mk (blk_drew BK370.out)
         have n1_ := Aside0.mk (blk_drew BK371.out)
         have n2_ := Aside0.mk (below_drew1 HB.out)
         clear BK370
         clear BK371
         clear HB
         have BK370 := n0_
         have BK371 := n1_
         have HB := n2_
         clear n0_ n1_ n2_
         have p373 : 0 ≤ (x5_2 : Int) := of_decide_eq_true (by first | (with_reducible assumption) | assumption)
         have q373 : x5_2 < (l0_1.length : Int) := of_decide_eq_true (by first | (with_reducible assumption) | assumption)
         obtain ⟨ad373, A373_1, c373_1, e373, hx373_0, hx373_1, hl373_1, hi373_1⟩ := at_T65 HR0_1.out x5_2 p373 q373
         have hw373_1 := hx373_1
         have hw373_0 := hx373_0
         cases e373
         replace hx373_0 := (HB.out.cell (World.block_lt_of_cell? w _ hx373_0)).trans hx373_0
         replace hx373_1 := (HB.out.cell (World.block_lt_of_cell? w _ hx373_1)).trans hx373_1
         have HR373_1 := Aside0.mk hi373_1
         have HC373_1 := Aside0.mk hl373_1
         clear hi373_1 hl373_1
         replace p373 := eq_true p373
         replace q373 := eq_true q373
         have p374 : 0 ≤ (x5_2 : Int) := of_decide_eq_true (by first | (with_reducible assumption) | assumption)
         have q374 : x5_2 < (l1_1.length : Int) := of_decide_eq_true (by first | (with_reducible assumption) | assumption)
         obtain ⟨ad374, A374_1, c374_1, e374, hx374_0, hx374_1, hl374_1, hi374_1⟩ := at_T65 HR1_1.out x5_2 p374 q374
         have hw374_1 := hx374_1
         have hw374_0 := hx374_0
         cases e374
         replace hx374_0 := (HB.out.cell (World.block_lt_of_cell? w _ hx374_0)).trans hx374_0
         replace hx374_1 := (HB.out.cell (World.block_lt_of_cell? w _ hx374_1)).trans hx374_1
         have HR374_1 := Aside0.mk hi374_1
         have HC374_1 := Aside0.mk hl374_1
         clear hi374_1 hl374_1
         replace p374 := eq_true p374
         replace q374 := eq_true q374
         refine start_ (n := 14) (S := fun w' => w'.cell? ⟨gb370, 0, none⟩ = some (.slice A0_0 l0_0.length c0_0) ∧ w'.cell? ⟨gb370, 1, none⟩ = some (.slice (some ad373) l0_1.length c0_1) ∧ w'.cell? ⟨gb371, 0, none⟩ = some (.slice A1_0 l1_0.length c1_0) ∧ w'.cell? ⟨gb371, 1, none⟩ = some (.slice (some ad374) l1_1.length c1_1) ∧ w'.cell? (ad373.add ((x5_2).toNat * 2)) = some (.string ((rd_T65 l0_1 x5_2).f0)) ∧ w'.cell? ⟨(ad373.add ((x5_2).toNat * 2)).block, (ad373.add ((x5_2).toNat * 2)).off + 1, none⟩ = some (.slice A373_1 ((rd_T65 l0_1 x5_2).f1).length c373_1) ∧ w'.cell? (ad374.add ((x5_2).toNat * 2)) = some (.string ((rd_T65 l1_1 x5_2).f0)) ∧ w'.cell? ⟨(ad374.add ((x5_2).toNat * 2)).block, (ad374.add ((x5_2).toNat * 2)).off + 1, none⟩ = some (.slice A374_1 ((rd_T65 l1_1 x5_2).f1).length c374_1)) (ds := []) #[false, false, false, false, false, false, false, false, false, false, false, false, false, false] (by kernel_rfl) rfl rfl ⟨(blk_cell BK370.out 0).trans rfl, (blk_cell BK370.out 1).trans rfl, (blk_cell BK371.out 0).trans rfl, (blk_cell BK371.out 1).trans rfl, ((HB.out.cell (World.block_lt_of_cell? w _ hw373_0)).trans hw373_0), ((HB.out.cell (World.block_lt_of_cell? w _ hw373_1)).trans hw373_1), ((HB.out.cell (World.block_lt_of_cell? w _ hw374_0)).trans hw374_0), ((HB.out.cell (World.block_lt_of_cell? w _ hw374_1)).trans hw374_1)⟩ (fun hHeld => ?_); refine with_tabW ancepsref57_Same.tab6 ancepsref57_Same.bits6 (fun HT_ HW_ => ?_)
         generalize wr.drew = w21 at BK370 BK371 HB HR373_1 HR374_1 hx373_0 hx373_1 hx374_0 hx374_1 hHeld ⊢
         refine pure_ (i := 0) (N := some 31) (v := ?_) (a' := ?_) #[true, false, false, false, false, false, false, false, false, false, false, false, false, false] rfl rfl (any_of HT_.out (by kernel_rfl)) (fun _ _ _ h => h) (Or.inl ⟨by rfl, ?_⟩) ?_ ?_
         rotate_left
         ·intro w'
          go_simp
          with_reducible rfl
         rotate_left
         ·simp only [Act.put, List.setIfInBounds_toArray, List.set_cons_zero, List.set_cons_succ, i64_w, i32_w]
          rfl
         refine pure_ (i := 2) (N := some 33) (v := ?_) (a' := ?_) #[true, false, true, false, false, false, false, false, false, false, false, false, false, false] rfl rfl (any_of HT_.out (by kernel_rfl)) (fun _ _ _ h => h) (Or.inl ⟨by rfl, ?_⟩) ?_ ?_
         rotate_left
         ·intro w'
          go_simp
          with_reducible rfl
         rotate_left
         ·simp only [Act.put, List.setIfInBounds_toArray, List.set_cons_zero, List.set_cons_succ, i64_w, i32_w]
          rfl
         refine pure_ (i := 5) (N := some 36) (v := ?_) (a' := ?_) #[true, false, true, false, false, true, false, false, false, false, false, false, false, false] rfl rfl (any_of HT_.out (by kernel_rfl)) (fun _ _ _ h => h) (Or.inl ⟨by rfl, ?_⟩) ?_ ?_
         rotate_left
         ·intro w'
          go_simp
          with_reducible rfl
         rotate_left
         ·simp only [Act.put, List.setIfInBounds_toArray, List.set_cons_zero, List.set_cons_succ, i64_w, i32_w]
          rfl
         refine pure_ (i := 7) (N := some 38) (v := ?_) (a' := ?_) #[true, false, true, false, false, true, false, true, false, false, false, false, false, false] rfl rfl (any_of HT_.out (by kernel_rfl)) (fun _ _ _ h => h) (Or.inl ⟨by rfl, ?_⟩) ?_ ?_
         rotate_left
         ·intro w'
          go_simp
          with_reducible rfl
         rotate_left
         ·simp only [Act.put, List.setIfInBounds_toArray, List.set_cons_zero, List.set_cons_succ, i64_w, i32_w]
          rfl
         refine take_ (i := 1) (N := some 32) (v := ?_) (a' := ?_) #[true, true, true, false, false, true, false, true, false, false, false, false, false, false] rfl rfl (take_ofW HT_.out HW_.out (by kernel_rfl)) (fun _ _ _ h => h) (Or.inl ⟨by rfl, ?_⟩) hHeld ?_ ?_
         rotate_left
         ·rintro w' ⟨s0, s1, s2, s3, s4, s5, s6, s7⟩
          go_simp
          with_reducible rfl
         rotate_left
         ·simp only [Act.put, List.setIfInBounds_toArray, List.set_cons_zero, List.set_cons_succ, i64_w, i32_w]
          rfl
         refine pure_ (i := 3) (N := some 34) (v := ?_) (a' := ?_) #[true, true, true, true, false, true, false, true, false, false, false, false, false, false] rfl rfl (any_of HT_.out (by kernel_rfl)) (fun _ _ _ h => h) (Or.inl ⟨by rfl, ?_⟩) ?_ ?_
         rotate_left
         ·intro w'
          go_simp
          with_reducible rfl
         rotate_left
         ·simp only [Act.put, List.setIfInBounds_toArray, List.set_cons_zero, List.set_cons_succ, i64_w, i32_w]
          rfl
         refine take_ (i := 4) (N := some 35) (v := ?_) (a' := ?_) #[true, true, true, true, true, true, false, true, false, false, false, false, false, false] rfl rfl (take_ofW HT_.out HW_.out (by kernel_rfl)) (fun _ _ _ h => h) (Or.inl ⟨by rfl, ?_⟩) hHeld ?_ ?_
         rotate_left
         ·rintro w' ⟨s0, s1, s2, s3, s4, s5, s6, s7⟩
          go_simp
          with_reducible rfl
         rotate_left
         ·simp only [Act.put, List.setIfInBounds_toArray, List.set_cons_zero, List.set_cons_succ, i64_w, i32_w]
          rfl
         refine take_ (i := 6) (N := some 37) (v := ?_) (a' := ?_) #[true, true, true, true, true, true, true, true, false, false, false, false, false, false] rfl rfl (take_ofW HT_.out HW_.out (by kernel_rfl)) (fun _ _ _ h => h) (Or.inl ⟨by rfl, ?_⟩) hHeld ?_ ?_
         rotate_left
         ·rintro w' ⟨s0, s1, s2, s3, s4, s5, s6, s7⟩
          go_simp
          with_reducible rfl
         rotate_left
         ·simp only [Act.put, List.setIfInBounds_toArray, List.set_cons_zero, List.set_cons_succ, i64_w, i32_w]
          rfl
         refine pure_ (i := 8) (N := some 39) (v := ?_) (a' := ?_) #[true, true, true, true, true, true, true, true, true, false, false, false, false, false] rfl rfl (any_of HT_.out (by kernel_rfl)) (fun _ _ _ h => h) (Or.inl ⟨by rfl, ?_⟩) ?_ ?_
         rotate_left
         ·intro w'
          go_simp
          with_reducible rfl
         rotate_left
         ·simp only [Act.put, List.setIfInBounds_toArray, List.set_cons_zero, List.set_cons_succ, i64_w, i32_w]
          rfl
         refine take_ (i := 9) (N := some 40) (v := ?_) (a' := ?_) #[true, true, true, true, true, true, true, true, true, true, false, false, false, false] rfl rfl (take_ofW HT_.out HW_.out (by kernel_rfl)) (fun _ _ _ h => h) (Or.inl ⟨by rfl, ?_⟩) hHeld ?_ ?_
         rotate_left
         ·rintro w' ⟨s0, s1, s2, s3, s4, s5, s6, s7⟩
          go_simp
          with_reducible rfl
         rotate_left
         ·simp only [Act.put, List.setIfInBounds_toArray, List.set_cons_zero, List.set_cons_succ, i64_w, i32_w]
          rfl
         refine join_ (σ := Nat × Nat) 2 #[true, true, true, true, true, true, true, true, true, true, true, true, false, false] (fun s_ => [(6, .pointer (some ⟨s_.1, 0, none⟩)), (7, .pointer (some ⟨s_.2, 0, none⟩))]) (fun s_ w' => (w'.cell? ⟨gb370, 0, none⟩ = some (.slice A0_0 l0_0.length c0_0) ∧ w'.cell? ⟨gb370, 1, none⟩ = some (.slice (some ad373) l0_1.length c0_1) ∧ w'.cell? ⟨gb371, 0, none⟩ = some (.slice A1_0 l1_0.length c1_0) ∧ w'.cell? ⟨gb371, 1, none⟩ = some (.slice (some ad374) l1_1.length c1_1) ∧ w'.cell? (ad373.add ((x5_2).toNat * 2)) = some (.string ((rd_T65 l0_1 x5_2).f0)) ∧ w'.cell? ⟨(ad373.add ((x5_2).toNat * 2)).block, (ad373.add ((x5_2).toNat * 2)).off + 1, none⟩ = some (.slice A373_1 ((rd_T65 l0_1 x5_2).f1).length c373_1) ∧ w'.cell? (ad374.add ((x5_2).toNat * 2)) = some (.string ((rd_T65 l1_1 x5_2).f0)) ∧ w'.cell? ⟨(ad374.add ((x5_2).toNat * 2)).block, (ad374.add ((x5_2).toNat * 2)).off + 1, none⟩ = some (.slice A374_1 ((rd_T65 l1_1 x5_2).f1).length c374_1)) ∧ (w'.heap[gb370]? = some (.cells #[.slice A0_0 l0_0.length c0_0, .slice (some ad373) l0_1.length c0_1] 42 (0, 0))) ∧ (w'.heap[gb371]? = some (.cells #[.slice A1_0 l1_0.length c1_0, .slice (some ad374) l1_1.length c1_1] 42 (0, 0))) ∧ (w'.heap[s_.1]? = some (.cells #[.string (⟨#[]⟩ : ByteArray), .slice none 0 0] 65 (0, 0))) ∧ (w'.heap[s_.2]? = some (.cells #[.string (⟨#[]⟩ : ByteArray), .slice none 0 0] 65 (0, 0))) ∧ (w.heap.size ≤ s_.1) ∧ (w.heap.size ≤ s_.1) ∧ (gb370 ≠ s_.1) ∧ (s_.1 ≠ gb370) ∧ (gb371 ≠ s_.1) ∧ (s_.1 ≠ gb371) ∧ (s_.2 ≠ s_.1) ∧ (s_.1 ≠ s_.2) ∧ (w.heap.size ≤ s_.2) ∧ (w.heap.size ≤ s_.2) ∧ (gb370 ≠ s_.2) ∧ (s_.2 ≠ gb370) ∧ (gb371 ≠ s_.2) ∧ (s_.2 ≠ gb371) ∧ (Below w.heap.size w w')) ?_ ?_
         rotate_left
         ·intro hCont
          refine two_ (i := 10) (j := 11) (Ni := some 6) (Nj := some 7) #[true, true, true, true, true, true, true, true, true, true, true, false, false, false] #[true, true, true, true, true, true, true, true, true, true, false, true, false, false] rfl rfl rfl rfl (two_of HT_.out (by kernel_rfl)) (by decide) (by decide) (fun K hK => ?_) (fun K hK => ?_)
          ·skip
           refine box_step ?hg (N := 6) ?hd (cs := #[.string (⟨#[]⟩ : ByteArray), .slice none 0 0]) (t := 65) ?hr ?_; (case hd | hg => rfl); (case hr => first | (go_simp; done) | (go_simp; rfl))
           intro gb375 hg w22 hbox hb
           have n0_ := jB BK370 hb
           have n1_ := jB BK371 hb
           have n2_ := jL HB hb
           have n3_ := Aside0.mk (hbox)
           have n4_ := Aside0.mk ((by rw [hg]; exact (below_size (iL HB)) : w.heap.size ≤ gb375))
           have n5_ := Aside0.mk ((by rw [hg]; exact (below_size (iL HB)) : w.heap.size ≤ gb375))
           have n6_ := Aside0.mk ((by rw [hg]; exact Nat.ne_of_lt (blk_lt (g := gb370) (o := .cells #[.slice A0_0 l0_0.length c0_0, .slice (some ad373) l0_1.length c0_1] 42 (0, 0)) (iB BK370)) : gb370 ≠ gb375))
           have n7_ := Aside0.mk ((by rw [hg]; exact Nat.ne_of_gt (blk_lt (g := gb370) (o := .cells #[.slice A0_0 l0_0.length c0_0, .slice (some ad373) l0_1.length c0_1] 42 (0, 0)) (iB BK370)) : gb375 ≠ gb370))
           have n8_ := Aside0.mk ((by rw [hg]; exact Nat.ne_of_lt (blk_lt (g := gb371) (o := .cells #[.slice A1_0 l1_0.length c1_0, .slice (some ad374) l1_1.length c1_1] 42 (0, 0)) (iB BK371)) : gb371 ≠ gb375))
           have n9_ := Aside0.mk ((by rw [hg]; exact Nat.ne_of_gt (blk_lt (g := gb371) (o := .cells #[.slice A1_0 l1_0.length c1_0, .slice (some ad374) l1_1.length c1_1] 42 (0, 0)) (iB BK371)) : gb375 ≠ gb371))
           clear BK370
           clear BK371
           clear HB
           have BK370 := n0_
           have BK371 := n1_
           have HB := n2_
           have BK375 := n3_
           have GW375 := n4_
           have GE375 := n5_
           have NB370_375 := n6_
           have NB375_370 := n7_
           have NB371_375 := n8_
           have NB375_371 := n9_
           clear n0_ n1_ n2_ n3_ n4_ n5_ n6_ n7_ n8_ n9_
           clear hb hbox hg
           refine hK.out _ _ ⟨(blk_cell BK370.out 0).trans rfl, (blk_cell BK370.out 1).trans rfl, (blk_cell BK371.out 0).trans rfl, (blk_cell BK371.out 1).trans rfl, ((HB.out.cell (World.block_lt_of_cell? w _ hw373_0)).trans hw373_0), ((HB.out.cell (World.block_lt_of_cell? w _ hw373_1)).trans hw373_1), ((HB.out.cell (World.block_lt_of_cell? w _ hw374_0)).trans hw374_0), ((HB.out.cell (World.block_lt_of_cell? w _ hw374_1)).trans hw374_1)⟩ (fun hHeld => ?_)
           clear hK K
           refine norm_ (a' := ?_) ?_ ?_
           rotate_left
           ·show Act.put _ (some 6) _ = _
            simp only [Act.put, List.setIfInBounds_toArray, List.set_cons_zero, List.set_cons_succ, i64_w, i32_w]
            rfl
           refine one_ (i := 11) (N := some 7) #[true, true, true, true, true, true, true, true, true, true, true, true, false, false] rfl rfl (one_of HT_.out (by kernel_rfl)) (by decide) (fun K hK => ?_)
           refine box_step ?hg (N := 7) ?hd (cs := #[.string (⟨#[]⟩ : ByteArray), .slice none 0 0]) (t := 65) ?hr ?_; (case hd | hg => rfl); (case hr => first | (go_simp; done) | (go_simp; rfl))
           intro gb376 hg w23 hbox hb
           have n0_ := jB BK370 hb
           have n1_ := jB BK371 hb
           have n2_ := jB BK375 hb
           have n3_ := jL HB hb
           have n4_ := Aside0.mk (hbox)
           have n5_ := Aside0.mk ((by rw [hg]; exact (below_size (iL HB)) : w.heap.size ≤ gb376))
           have n6_ := Aside0.mk ((by rw [hg]; exact (below_size (iL HB)) : w.heap.size ≤ gb376))
           have n7_ := Aside0.mk ((by rw [hg]; exact Nat.ne_of_lt (blk_lt (g := gb370) (o := .cells #[.slice A0_0 l0_0.length c0_0, .slice (some ad373) l0_1.length c0_1] 42 (0, 0)) (iB BK370)) : gb370 ≠ gb376))
           have n8_ := Aside0.mk ((by rw [hg]; exact Nat.ne_of_gt (blk_lt (g := gb370) (o := .cells #[.slice A0_0 l0_0.length c0_0, .slice (some ad373) l0_1.length c0_1] 42 (0, 0)) (iB BK370)) : gb376 ≠ gb370))
           have n9_ := Aside0.mk ((by rw [hg]; exact Nat.ne_of_lt (blk_lt (g := gb371) (o := .cells #[.slice A1_0 l1_0.length c1_0, .slice (some ad374) l1_1.length c1_1] 42 (0, 0)) (iB BK371)) : gb371 ≠ gb376))
           have n10_ := Aside0.mk ((by rw [hg]; exact Nat.ne_of_gt (blk_lt (g := gb371) (o := .cells #[.slice A1_0 l1_0.length c1_0, .slice (some ad374) l1_1.length c1_1] 42 (0, 0)) (iB BK371)) : gb376 ≠ gb371))
           have n11_ := Aside0.mk ((by rw [hg]; exact Nat.ne_of_lt (blk_lt (g := gb375) (o := .cells #[.string (⟨#[]⟩ : ByteArray), .slice none 0 0] 65 (0, 0)) (iB BK375)) : gb375 ≠ gb376))
           have n12_ := Aside0.mk ((by rw [hg]; exact Nat.ne_of_gt (blk_lt (g := gb375) (o := .cells #[.string (⟨#[]⟩ : ByteArray), .slice none 0 0] 65 (0, 0)) (iB BK375)) : gb376 ≠ gb375))
           clear BK370
           clear BK371
           clear BK375
           clear HB
           have BK370 := n0_
           have BK371 := n1_
           have BK375 := n2_
           have HB := n3_
           have BK376 := n4_
           have GW376 := n5_
           have GE376 := n6_
           have NB370_376 := n7_
           have NB376_370 := n8_
           have NB371_376 := n9_
           have NB376_371 := n10_
           have NB375_376 := n11_
           have NB376_375 := n12_
           clear n0_ n1_ n2_ n3_ n4_ n5_ n6_ n7_ n8_ n9_ n10_ n11_ n12_
           clear hb hbox hg
           refine hK.out _ _ ⟨(blk_cell BK370.out 0).trans rfl, (blk_cell BK370.out 1).trans rfl, (blk_cell BK371.out 0).trans rfl, (blk_cell BK371.out 1).trans rfl, ((HB.out.cell (World.block_lt_of_cell? w _ hw373_0)).trans hw373_0), ((HB.out.cell (World.block_lt_of_cell? w _ hw373_1)).trans hw373_1), ((HB.out.cell (World.block_lt_of_cell? w _ hw374_0)).trans hw374_0), ((HB.out.cell (World.block_lt_of_cell? w _ hw374_1)).trans hw374_1)⟩ (fun hHeld => ?_)
           clear hK K
           refine norm_ (a' := ?_) ?_ ?_
           rotate_left
           ·show Act.put _ (some 7) _ = _
            simp only [Act.put, List.setIfInBounds_toArray, List.set_cons_zero, List.set_cons_succ, i64_w, i32_w]
            rfl
           exact norm_ (by simp only [putAll, Act.put, List.setIfInBounds_toArray, List.set_cons_zero, List.set_cons_succ]) (hCont (gb375, gb376) _ ⟨hHeld, (iB BK370), (iB BK371), (iB BK375), (iB BK376), GW375.out, GE375.out, NB370_375.out, NB375_370.out, NB371_375.out, NB375_371.out, NB376_375.out, NB375_376.out, GW376.out, GE376.out, NB370_376.out, NB376_370.out, NB371_376.out, NB376_371.out, (iL HB)⟩)
          ·skip
           refine box_step ?hg (N := 7) ?hd (cs := #[.string (⟨#[]⟩ : ByteArray), .slice none 0 0]) (t := 65) ?hr ?_; (case hd | hg => rfl); (case hr => first | (go_simp; done) | (go_simp; rfl))
           intro gb376 hg w22 hbox hb
           have n0_ := jB BK370 hb
           have n1_ := jB BK371 hb
           have n2_ := jL HB hb
           have n3_ := Aside0.mk (hbox)
           have n4_ := Aside0.mk ((by rw [hg]; exact (below_size (iL HB)) : w.heap.size ≤ gb376))
           have n5_ := Aside0.mk ((by rw [hg]; exact (below_size (iL HB)) : w.heap.size ≤ gb376))
           have n6_ := Aside0.mk ((by rw [hg]; exact Nat.ne_of_lt (blk_lt (g := gb370) (o := .cells #[.slice A0_0 l0_0.length c0_0, .slice (some ad373) l0_1.length c0_1] 42 (0, 0)) (iB BK370)) : gb370 ≠ gb376))
           have n7_ := Aside0.mk ((by rw [hg]; exact Nat.ne_of_gt (blk_lt (g := gb370) (o := .cells #[.slice A0_0 l0_0.length c0_0, .slice (some ad373) l0_1.length c0_1] 42 (0, 0)) (iB BK370)) : gb376 ≠ gb370))
           have n8_ := Aside0.mk ((by rw [hg]; exact Nat.ne_of_lt (blk_lt (g := gb371) (o := .cells #[.slice A1_0 l1_0.length c1_0, .slice (some ad374) l1_1.length c1_1] 42 (0, 0)) (iB BK371)) : gb371 ≠ gb376))
           have n9_ := Aside0.mk ((by rw [hg]; exact Nat.ne_of_gt (blk_lt (g := gb371) (o := .cells #[.slice A1_0 l1_0.length c1_0, .slice (some ad374) l1_1.length c1_1] 42 (0, 0)) (iB BK371)) : gb376 ≠ gb371))
           clear BK370
           clear BK371
           clear HB
           have BK370 := n0_
           have BK371 := n1_
           have HB := n2_
           have BK376 := n3_
           have GW376 := n4_
           have GE376 := n5_
           have NB370_376 := n6_
           have NB376_370 := n7_
           have NB371_376 := n8_
           have NB376_371 := n9_
           clear n0_ n1_ n2_ n3_ n4_ n5_ n6_ n7_ n8_ n9_
           clear hb hbox hg
           refine hK.out _ _ ⟨(blk_cell BK370.out 0).trans rfl, (blk_cell BK370.out 1).trans rfl, (blk_cell BK371.out 0).trans rfl, (blk_cell BK371.out 1).trans rfl, ((HB.out.cell (World.block_lt_of_cell? w _ hw373_0)).trans hw373_0), ((HB.out.cell (World.block_lt_of_cell? w _ hw373_1)).trans hw373_1), ((HB.out.cell (World.block_lt_of_cell? w _ hw374_0)).trans hw374_0), ((HB.out.cell (World.block_lt_of_cell? w _ hw374_1)).trans hw374_1)⟩ (fun hHeld => ?_)
           clear hK K
           refine norm_ (a' := ?_) ?_ ?_
           rotate_left
           ·show Act.put _ (some 7) _ = _
            simp only [Act.put, List.setIfInBounds_toArray, List.set_cons_zero, List.set_cons_succ, i64_w, i32_w]
            rfl
           refine one_ (i := 10) (N := some 6) #[true, true, true, true, true, true, true, true, true, true, true, true, false, false] rfl rfl (one_of HT_.out (by kernel_rfl)) (by decide) (fun K hK => ?_)
           refine box_step ?hg (N := 6) ?hd (cs := #[.string (⟨#[]⟩ : ByteArray), .slice none 0 0]) (t := 65) ?hr ?_; (case hd | hg => rfl); (case hr => first | (go_simp; done) | (go_simp; rfl))
           intro gb375 hg w23 hbox hb
           have n0_ := jB BK370 hb
           have n1_ := jB BK371 hb
           have n2_ := jB BK376 hb
           have n3_ := jL HB hb
           have n4_ := Aside0.mk (hbox)
           have n5_ := Aside0.mk ((by rw [hg]; exact (below_size (iL HB)) : w.heap.size ≤ gb375))
           have n6_ := Aside0.mk ((by rw [hg]; exact (below_size (iL HB)) : w.heap.size ≤ gb375))
           have n7_ := Aside0.mk ((by rw [hg]; exact Nat.ne_of_lt (blk_lt (g := gb370) (o := .cells #[.slice A0_0 l0_0.length c0_0, .slice (some ad373) l0_1.length c0_1] 42 (0, 0)) (iB BK370)) : gb370 ≠ gb375))
           have n8_ := Aside0.mk ((by rw [hg]; exact Nat.ne_of_gt (blk_lt (g := gb370) (o := .cells #[.slice A0_0 l0_0.length c0_0, .slice (some ad373) l0_1.length c0_1] 42 (0, 0)) (iB BK370)) : gb375 ≠ gb370))
           have n9_ := Aside0.mk ((by rw [hg]; exact Nat.ne_of_lt (blk_lt (g := gb371) (o := .cells #[.slice A1_0 l1_0.length c1_0, .slice (some ad374) l1_1.length c1_1] 42 (0, 0)) (iB BK371)) : gb371 ≠ gb375))
           have n10_ := Aside0.mk ((by rw [hg]; exact Nat.ne_of_gt (blk_lt (g := gb371) (o := .cells #[.slice A1_0 l1_0.length c1_0, .slice (some ad374) l1_1.length c1_1] 42 (0, 0)) (iB BK371)) : gb375 ≠ gb371))
           have n11_ := Aside0.mk ((by rw [hg]; exact Nat.ne_of_lt (blk_lt (g := gb376) (o := .cells #[.string (⟨#[]⟩ : ByteArray), .slice none 0 0] 65 (0, 0)) (iB BK376)) : gb376 ≠ gb375))
           have n12_ := Aside0.mk ((by rw [hg]; exact Nat.ne_of_gt (blk_lt (g := gb376) (o := .cells #[.string (⟨#[]⟩ : ByteArray), .slice none 0 0] 65 (0, 0)) (iB BK376)) : gb375 ≠ gb376))
           clear BK370
           clear BK371
           clear BK376
           clear HB
           have BK370 := n0_
           have BK371 := n1_
           have BK376 := n2_
           have HB := n3_
           have BK375 := n4_
           have GW375 := n5_
           have GE375 := n6_
           have NB370_375 := n7_
           have NB375_370 := n8_
           have NB371_375 := n9_
           have NB375_371 := n10_
           have NB376_375 := n11_
           have NB375_376 := n12_
           clear n0_ n1_ n2_ n3_ n4_ n5_ n6_ n7_ n8_ n9_ n10_ n11_ n12_
           clear hb hbox hg
           refine hK.out _ _ ⟨(blk_cell BK370.out 0).trans rfl, (blk_cell BK370.out 1).trans rfl, (blk_cell BK371.out 0).trans rfl, (blk_cell BK371.out 1).trans rfl, ((HB.out.cell (World.block_lt_of_cell? w _ hw373_0)).trans hw373_0), ((HB.out.cell (World.block_lt_of_cell? w _ hw373_1)).trans hw373_1), ((HB.out.cell (World.block_lt_of_cell? w _ hw374_0)).trans hw374_0), ((HB.out.cell (World.block_lt_of_cell? w _ hw374_1)).trans hw374_1)⟩ (fun hHeld => ?_)
           clear hK K
           refine norm_ (a' := ?_) ?_ ?_
           rotate_left
           ·show Act.put _ (some 6) _ = _
            simp only [Act.put, List.setIfInBounds_toArray, List.set_cons_zero, List.set_cons_succ, i64_w, i32_w]
            rfl
           exact norm_ (by simp only [putAll, Act.put, List.setIfInBounds_toArray, List.set_cons_zero, List.set_cons_succ]) (hCont (gb375, gb376) _ ⟨hHeld, (iB BK370), (iB BK371), (iB BK375), (iB BK376), GW375.out, GE375.out, NB370_375.out, NB375_370.out, NB371_375.out, NB375_371.out, NB376_375.out, NB375_376.out, GW376.out, GE376.out, NB370_376.out, NB376_370.out, NB371_376.out, NB376_371.out, (iL HB)⟩)
         rintro ⟨gb375, gb376⟩ w24 ⟨hS_, h0_, h1_, h2_, h3_, h4_, h5_, h6_, h7_, h8_, h9_, h10_, h11_, h12_, h13_, h14_, h15_, h16_, h17_, h18_⟩
         have n0_ : Aside0 (w24.heap[gb370]? = some (.cells #[.slice A0_0 l0_0.length c0_0, .slice (some ad373) l0_1.length c0_1] 42 (0, 0))) := ⟨h0_⟩
         have n1_ : Aside0 (w24.heap[gb371]? = some (.cells #[.slice A1_0 l1_0.length c1_0, .slice (some ad374) l1_1.length c1_1] 42 (0, 0))) := ⟨h1_⟩
         have n2_ : Aside0 (w24.heap[gb375]? = some (.cells #[.string (⟨#[]⟩ : ByteArray), .slice none 0 0] 65 (0, 0))) := ⟨h2_⟩
         have n3_ : Aside0 (w24.heap[gb376]? = some (.cells #[.string (⟨#[]⟩ : ByteArray), .slice none 0 0] 65 (0, 0))) := ⟨h3_⟩
         have n4_ : Aside0 (w.heap.size ≤ gb375) := ⟨h4_⟩
         have n5_ : Aside0 (w.heap.size ≤ gb375) := ⟨h5_⟩
         have n6_ : Aside0 (gb370 ≠ gb375) := ⟨h6_⟩
         have n7_ : Aside0 (gb375 ≠ gb370) := ⟨h7_⟩
         have n8_ : Aside0 (gb371 ≠ gb375) := ⟨h8_⟩
         have n9_ : Aside0 (gb375 ≠ gb371) := ⟨h9_⟩
         have n10_ : Aside0 (gb376 ≠ gb375) := ⟨h10_⟩
         have n11_ : Aside0 (gb375 ≠ gb376) := ⟨h11_⟩
         have n12_ : Aside0 (w.heap.size ≤ gb376) := ⟨h12_⟩
         have n13_ : Aside0 (w.heap.size ≤ gb376) := ⟨h13_⟩
         have n14_ : Aside0 (gb370 ≠ gb376) := ⟨h14_⟩
         have n15_ : Aside0 (gb376 ≠ gb370) := ⟨h15_⟩
         have n16_ : Aside0 (gb371 ≠ gb376) := ⟨h16_⟩
         have n17_ : Aside0 (gb376 ≠ gb371) := ⟨h17_⟩
         have n18_ : Aside0 (Below w.heap.size w w24) := ⟨h18_⟩
         clear BK370
         clear BK371
         clear HB
         clear h0_ h1_ h2_ h3_ h4_ h5_ h6_ h7_ h8_ h9_ h10_ h11_ h12_ h13_ h14_ h15_ h16_ h17_ h18_
         have BK370 := n0_
         have BK371 := n1_
         have BK375 := n2_
         have BK376 := n3_
         have GW375 := n4_
         have GE375 := n5_
         have NB370_375 := n6_
         have NB375_370 := n7_
         have NB371_375 := n8_
         have NB375_371 := n9_
         have NB376_375 := n10_
         have NB375_376 := n11_
         have GW376 := n12_
         have GE376 := n13_
         have NB370_376 := n14_
         have NB376_370 := n15_
         have NB371_376 := n16_
         have NB376_371 := n17_
         have HB := n18_
         clear n0_ n1_ n2_ n3_ n4_ n5_ n6_ n7_ n8_ n9_ n10_ n11_ n12_ n13_ n14_ n15_ n16_ n17_ n18_
         have hHeld : w24.cell? ⟨gb370, 0, none⟩ = some (.slice A0_0 l0_0.length c0_0) ∧ w24.cell? ⟨gb370, 1, none⟩ = some (.slice (some ad373) l0_1.length c0_1) ∧ w24.cell? ⟨gb371, 0, none⟩ = some (.slice A1_0 l1_0.length c1_0) ∧ w24.cell? ⟨gb371, 1, none⟩ = some (.slice (some ad374) l1_1.length c1_1) ∧ w24.cell? (ad373.add ((x5_2).toNat * 2)) = some (.string ((rd_T65 l0_1 x5_2).f0)) ∧ w24.cell? ⟨(ad373.add ((x5_2).toNat * 2)).block, (ad373.add ((x5_2).toNat * 2)).off + 1, none⟩ = some (.slice A373_1 ((rd_T65 l0_1 x5_2).f1).length c373_1) ∧ w24.cell? (ad374.add ((x5_2).toNat * 2)) = some (.string ((rd_T65 l1_1 x5_2).f0)) ∧ w24.cell? ⟨(ad374.add ((x5_2).toNat * 2)).block, (ad374.add ((x5_2).toNat * 2)).off + 1, none⟩ = some (.slice A374_1 ((rd_T65 l1_1 x5_2).f1).length c374_1) := hS_
         refine norm_ (a' := ?_) ?_ ?_
         rotate_left
         ·simp only [putAll, Act.put, List.setIfInBounds_toArray, List.set_cons_zero, List.set_cons_succ]
          rfl
         refine one_ (i := 12) (N := none) #[true, true, true, true, true, true, true, true, true, true, true, true, true, false] rfl rfl (one_of HT_.out (by kernel_rfl)) (by decide) (fun K hK => ?_)
         have hs25 : w24.cell? ⟨gb375, 0, none⟩ = some (.string (⟨#[]⟩ : ByteArray)) := (blk_cell BK375.out 0).trans rfl
         have hfs25 := blk_frozen BK375.out 0
         have hns25_0 := NB370_375.out
         have hns25_1 := NB371_375.out
         have hns25_3 := NB376_375.out
         have hms25_0 := NB375_370.out
         have hms25_1 := NB375_371.out
         have hms25_3 := NB375_376.out
         have hs26 : w24.cell? ⟨gb375, 1, none⟩ = some (.slice none 0 0) := (blk_cell BK375.out 1).trans rfl
         have hfs26 := blk_frozen BK375.out 1
         have hns26_0 := NB370_375.out
         have hns26_1 := NB371_375.out
         have hns26_3 := NB376_375.out
         have hms26_0 := NB375_370.out
         have hms26_1 := NB375_371.out
         have hms26_3 := NB375_376.out
         refine skip_ (w1 := ?_) (by rfl) rfl ?_ ?_
         rotate_left
         ·go_simp
          rfl
         refine hK.out _ _ ⟨((cell_far (p := ⟨gb375, _, none⟩) NB370_375.out _).trans (((cell_far (p := ⟨gb375, _, none⟩) NB370_375.out _).trans (hHeld.1)))), ((cell_far (p := ⟨gb375, _, none⟩) NB370_375.out _).trans (((cell_far (p := ⟨gb375, _, none⟩) NB370_375.out _).trans (hHeld.2.1)))), ((cell_far (p := ⟨gb375, _, none⟩) NB371_375.out _).trans (((cell_far (p := ⟨gb375, _, none⟩) NB371_375.out _).trans (hHeld.2.2.1)))), ((cell_far (p := ⟨gb375, _, none⟩) NB371_375.out _).trans (((cell_far (p := ⟨gb375, _, none⟩) NB371_375.out _).trans (hHeld.2.2.2.1)))), ((cell_far (p := ⟨gb375, _, none⟩) (by first | exact Nat.ne_of_lt (Nat.lt_of_lt_of_le (by have := World.block_lt_of_cell? _ _ hw373_0; first | rwa [add_block] at this | exact this) GW375.out) | (rw [add_block]; exact Nat.ne_of_lt (Nat.lt_of_lt_of_le (by have := World.block_lt_of_cell? _ _ hw373_0; first | rwa [add_block] at this | exact this) GW375.out)) | (show (Addr.add _ _).block ≠ _; rw [add_block]; exact Nat.ne_of_lt (Nat.lt_of_lt_of_le (by have := World.block_lt_of_cell? _ _ hw373_0; first | rwa [add_block] at this | exact this) GW375.out)) | (dsimp only; exact Nat.ne_of_lt (Nat.lt_of_lt_of_le (by have := World.block_lt_of_cell? _ _ hw373_0; first | rwa [add_block] at this | exact this) GW375.out))) _).trans (((cell_far (p := ⟨gb375, _, none⟩) (by first | exact Nat.ne_of_lt (Nat.lt_of_lt_of_le (by have := World.block_lt_of_cell? _ _ hw373_0; first | rwa [add_block] at this | exact this) GW375.out) | (rw [add_block]; exact Nat.ne_of_lt (Nat.lt_of_lt_of_le (by have := World.block_lt_of_cell? _ _ hw373_0; first | rwa [add_block] at this | exact this) GW375.out)) | (show (Addr.add _ _).block ≠ _; rw [add_block]; exact Nat.ne_of_lt (Nat.lt_of_lt_of_le (by have := World.block_lt_of_cell? _ _ hw373_0; first | rwa [add_block] at this | exact this) GW375.out)) | (dsimp only; exact Nat.ne_of_lt (Nat.lt_of_lt_of_le (by have := World.block_lt_of_cell? _ _ hw373_0; first | rwa [add_block] at this | exact this) GW375.out))) _).trans (hHeld.2.2.2.2.1)))), ((cell_far (p := ⟨gb375, _, none⟩) (by first | exact Nat.ne_of_lt (Nat.lt_of_lt_of_le (by have := World.block_lt_of_cell? _ _ hw373_1; first | rwa [add_block] at this | exact this) GW375.out) | (rw [add_block]; exact Nat.ne_of_lt (Nat.lt_of_lt_of_le (by have := World.block_lt_of_cell? _ _ hw373_1; first | rwa [add_block] at this | exact this) GW375.out)) | (show (Addr.add _ _).block ≠ _; rw [add_block]; exact Nat.ne_of_lt (Nat.lt_of_lt_of_le (by have := World.block_lt_of_cell? _ _ hw373_1; first | rwa [add_block] at this | exact this) GW375.out)) | (dsimp only; exact Nat.ne_of_lt (Nat.lt_of_lt_of_le (by have := World.block_lt_of_cell? _ _ hw373_1; first | rwa [add_block] at this | exact this) GW375.out))) _).trans (((cell_far (p := ⟨gb375, _, none⟩) (by first | exact Nat.ne_of_lt (Nat.lt_of_lt_of_le (by have := World.block_lt_of_cell? _ _ hw373_1; first | rwa [add_block] at this | exact this) GW375.out) | (rw [add_block]; exact Nat.ne_of_lt (Nat.lt_of_lt_of_le (by have := World.block_lt_of_cell? _ _ hw373_1; first | rwa [add_block] at this | exact this) GW375.out)) | (show (Addr.add _ _).block ≠ _; rw [add_block]; exact Nat.ne_of_lt (Nat.lt_of_lt_of_le (by have := World.block_lt_of_cell? _ _ hw373_1; first | rwa [add_block] at this | exact this) GW375.out)) | (dsimp only; exact Nat.ne_of_lt (Nat.lt_of_lt_of_le (by have := World.block_lt_of_cell? _ _ hw373_1; first | rwa [add_block] at this | exact this) GW375.out))) _).trans (hHeld.2.2.2.2.2.1)))), ((cell_far (p := ⟨gb375, _, none⟩) (by first | exact Nat.ne_of_lt (Nat.lt_of_lt_of_le (by have := World.block_lt_of_cell? _ _ hw374_0; first | rwa [add_block] at this | exact this) GW375.out) | (rw [add_block]; exact Nat.ne_of_lt (Nat.lt_of_lt_of_le (by have := World.block_lt_of_cell? _ _ hw374_0; first | rwa [add_block] at this | exact this) GW375.out)) | (show (Addr.add _ _).block ≠ _; rw [add_block]; exact Nat.ne_of_lt (Nat.lt_of_lt_of_le (by have := World.block_lt_of_cell? _ _ hw374_0; first | rwa [add_block] at this | exact this) GW375.out)) | (dsimp only; exact Nat.ne_of_lt (Nat.lt_of_lt_of_le (by have := World.block_lt_of_cell? _ _ hw374_0; first | rwa [add_block] at this | exact this) GW375.out))) _).trans (((cell_far (p := ⟨gb375, _, none⟩) (by first | exact Nat.ne_of_lt (Nat.lt_of_lt_of_le (by have := World.block_lt_of_cell? _ _ hw374_0; first | rwa [add_block] at this | exact this) GW375.out) | (rw [add_block]; exact Nat.ne_of_lt (Nat.lt_of_lt_of_le (by have := World.block_lt_of_cell? _ _ hw374_0; first | rwa [add_block] at this | exact this) GW375.out)) | (show (Addr.add _ _).block ≠ _; rw [add_block]; exact Nat.ne_of_lt (Nat.lt_of_lt_of_le (by have := World.block_lt_of_cell? _ _ hw374_0; first | rwa [add_block] at this | exact this) GW375.out)) | (dsimp only; exact Nat.ne_of_lt (Nat.lt_of_lt_of_le (by have := World.block_lt_of_cell? _ _ hw374_0; first | rwa [add_block] at this | exact this) GW375.out))) _).trans (hHeld.2.2.2.2.2.2.1)))), ((cell_far (p := ⟨gb375, _, none⟩) (by first | exact Nat.ne_of_lt (Nat.lt_of_lt_of_le (by have := World.block_lt_of_cell? _ _ hw374_1; first | rwa [add_block] at this | exact this) GW375.out) | (rw [add_block]; exact Nat.ne_of_lt (Nat.lt_of_lt_of_le (by have := World.block_lt_of_cell? _ _ hw374_1; first | rwa [add_block] at this | exact this) GW375.out)) | (show (Addr.add _ _).block ≠ _; rw [add_block]; exact Nat.ne_of_lt (Nat.lt_of_lt_of_le (by have := World.block_lt_of_cell? _ _ hw374_1; first | rwa [add_block] at this | exact this) GW375.out)) | (dsimp only; exact Nat.ne_of_lt (Nat.lt_of_lt_of_le (by have := World.block_lt_of_cell? _ _ hw374_1; first | rwa [add_block] at this | exact this) GW375.out))) _).trans (((cell_far (p := ⟨gb375, _, none⟩) (by first | exact Nat.ne_of_lt (Nat.lt_of_lt_of_le (by have := World.block_lt_of_cell? _ _ hw374_1; first | rwa [add_block] at this | exact this) GW375.out) | (rw [add_block]; exact Nat.ne_of_lt (Nat.lt_of_lt_of_le (by have := World.block_lt_of_cell? _ _ hw374_1; first | rwa [add_block] at this | exact this) GW375.out)) | (show (Addr.add _ _).block ≠ _; rw [add_block]; exact Nat.ne_of_lt (Nat.lt_of_lt_of_le (by have := World.block_lt_of_cell? _ _ hw374_1; first | rwa [add_block] at this | exact this) GW375.out)) | (dsimp only; exact Nat.ne_of_lt (Nat.lt_of_lt_of_le (by have := World.block_lt_of_cell? _ _ hw374_1; first | rwa [add_block] at this | exact this) GW375.out))) _).trans (hHeld.2.2.2.2.2.2.2))))⟩ (fun hHeld => ?_)
         clear hK K
         refine one_ (i := 13) (N := none) #[true, true, true, true, true, true, true, true, true, true, true, true, true, true] rfl rfl (one_of HT_.out (by kernel_rfl)) (by decide) (fun K hK => ?_)
         have hs27 : w24.cell? ⟨gb376, 0, none⟩ = some (.string (⟨#[]⟩ : ByteArray)) := (blk_cell BK376.out 0).trans rfl
         have hfs27 := blk_frozen BK376.out 0
         have hns27_0 := NB370_376.out
         have hns27_1 := NB371_376.out
         have hns27_2 := NB375_376.out
         have hms27_0 := NB376_370.out
         have hms27_1 := NB376_371.out
         have hms27_2 := NB376_375.out
         have hs28 : w24.cell? ⟨gb376, 1, none⟩ = some (.slice none 0 0) := (blk_cell BK376.out 1).trans rfl
         have hfs28 := blk_frozen BK376.out 1
         have hns28_0 := NB370_376.out
         have hns28_1 := NB371_376.out
         have hns28_2 := NB375_376.out
         have hms28_0 := NB376_370.out
         have hms28_1 := NB376_371.out
         have hms28_2 := NB376_375.out
         refine skip_ (w1 := ?_) (by rfl) rfl ?_ ?_
         rotate_left
         ·go_simp
          rfl
         refine hK.out _ _ ⟨((cell_far (p := ⟨gb376, _, none⟩) NB370_376.out _).trans (((cell_far (p := ⟨gb376, _, none⟩) NB370_376.out _).trans (hHeld.1)))), ((cell_far (p := ⟨gb376, _, none⟩) NB370_376.out _).trans (((cell_far (p := ⟨gb376, _, none⟩) NB370_376.out _).trans (hHeld.2.1)))), ((cell_far (p := ⟨gb376, _, none⟩) NB371_376.out _).trans (((cell_far (p := ⟨gb376, _, none⟩) NB371_376.out _).trans (hHeld.2.2.1)))), ((cell_far (p := ⟨gb376, _, none⟩) NB371_376.out _).trans (((cell_far (p := ⟨gb376, _, none⟩) NB371_376.out _).trans (hHeld.2.2.2.1)))), ((cell_far (p := ⟨gb376, _, none⟩) (by first | exact Nat.ne_of_lt (Nat.lt_of_lt_of_le (by have := World.block_lt_of_cell? _ _ hw373_0; first | rwa [add_block] at this | exact this) GW376.out) | (rw [add_block]; exact Nat.ne_of_lt (Nat.lt_of_lt_of_le (by have := World.block_lt_of_cell? _ _ hw373_0; first | rwa [add_block] at this | exact this) GW376.out)) | (show (Addr.add _ _).block ≠ _; rw [add_block]; exact Nat.ne_of_lt (Nat.lt_of_lt_of_le (by have := World.block_lt_of_cell? _ _ hw373_0; first | rwa [add_block] at this | exact this) GW376.out)) | (dsimp only; exact Nat.ne_of_lt (Nat.lt_of_lt_of_le (by have := World.block_lt_of_cell? _ _ hw373_0; first | rwa [add_block] at this | exact this) GW376.out))) _).trans (((cell_far (p := ⟨gb376, _, none⟩) (by first | exact Nat.ne_of_lt (Nat.lt_of_lt_of_le (by have := World.block_lt_of_cell? _ _ hw373_0; first | rwa [add_block] at this | exact this) GW376.out) | (rw [add_block]; exact Nat.ne_of_lt (Nat.lt_of_lt_of_le (by have := World.block_lt_of_cell? _ _ hw373_0; first | rwa [add_block] at this | exact this) GW376.out)) | (show (Addr.add _ _).block ≠ _; rw [add_block]; exact Nat.ne_of_lt (Nat.lt_of_lt_of_le (by have := World.block_lt_of_cell? _ _ hw373_0; first | rwa [add_block] at this | exact this) GW376.out)) | (dsimp only; exact Nat.ne_of_lt (Nat.lt_of_lt_of_le (by have := World.block_lt_of_cell? _ _ hw373_0; first | rwa [add_block] at this | exact this) GW376.out))) _).trans (hHeld.2.2.2.2.1)))), ((cell_far (p := ⟨gb376, _, none⟩) (by first | exact Nat.ne_of_lt (Nat.lt_of_lt_of_le (by have := World.block_lt_of_cell? _ _ hw373_1; first | rwa [add_block] at this | exact this) GW376.out) | (rw [add_block]; exact Nat.ne_of_lt (Nat.lt_of_lt_of_le (by have := World.block_lt_of_cell? _ _ hw373_1; first | rwa [add_block] at this | exact this) GW376.out)) | (show (Addr.add _ _).block ≠ _; rw [add_block]; exact Nat.ne_of_lt (Nat.lt_of_lt_of_le (by have := World.block_lt_of_cell? _ _ hw373_1; first | rwa [add_block] at this | exact this) GW376.out)) | (dsimp only; exact Nat.ne_of_lt (Nat.lt_of_lt_of_le (by have := World.block_lt_of_cell? _ _ hw373_1; first | rwa [add_block] at this | exact this) GW376.out))) _).trans (((cell_far (p := ⟨gb376, _, none⟩) (by first | exact Nat.ne_of_lt (Nat.lt_of_lt_of_le (by have := World.block_lt_of_cell? _ _ hw373_1; first | rwa [add_block] at this | exact this) GW376.out) | (rw [add_block]; exact Nat.ne_of_lt (Nat.lt_of_lt_of_le (by have := World.block_lt_of_cell? _ _ hw373_1; first | rwa [add_block] at this | exact this) GW376.out)) | (show (Addr.add _ _).block ≠ _; rw [add_block]; exact Nat.ne_of_lt (Nat.lt_of_lt_of_le (by have := World.block_lt_of_cell? _ _ hw373_1; first | rwa [add_block] at this | exact this) GW376.out)) | (dsimp only; exact Nat.ne_of_lt (Nat.lt_of_lt_of_le (by have := World.block_lt_of_cell? _ _ hw373_1; first | rwa [add_block] at this | exact this) GW376.out))) _).trans (hHeld.2.2.2.2.2.1)))), ((cell_far (p := ⟨gb376, _, none⟩) (by first | exact Nat.ne_of_lt (Nat.lt_of_lt_of_le (by have := World.block_lt_of_cell? _ _ hw374_0; first | rwa [add_block] at this | exact this) GW376.out) | (rw [add_block]; exact Nat.ne_of_lt (Nat.lt_of_lt_of_le (by have := World.block_lt_of_cell? _ _ hw374_0; first | rwa [add_block] at this | exact this) GW376.out)) | (show (Addr.add _ _).block ≠ _; rw [add_block]; exact Nat.ne_of_lt (Nat.lt_of_lt_of_le (by have := World.block_lt_of_cell? _ _ hw374_0; first | rwa [add_block] at this | exact this) GW376.out)) | (dsimp only; exact Nat.ne_of_lt (Nat.lt_of_lt_of_le (by have := World.block_lt_of_cell? _ _ hw374_0; first | rwa [add_block] at this | exact this) GW376.out))) _).trans (((cell_far (p := ⟨gb376, _, none⟩) (by first | exact Nat.ne_of_lt (Nat.lt_of_lt_of_le (by have := World.block_lt_of_cell? _ _ hw374_0; first | rwa [add_block] at this | exact this) GW376.out) | (rw [add_block]; exact Nat.ne_of_lt (Nat.lt_of_lt_of_le (by have := World.block_lt_of_cell? _ _ hw374_0; first | rwa [add_block] at this | exact this) GW376.out)) | (show (Addr.add _ _).block ≠ _; rw [add_block]; exact Nat.ne_of_lt (Nat.lt_of_lt_of_le (by have := World.block_lt_of_cell? _ _ hw374_0; first | rwa [add_block] at this | exact this) GW376.out)) | (dsimp only; exact Nat.ne_of_lt (Nat.lt_of_lt_of_le (by have := World.block_lt_of_cell? _ _ hw374_0; first | rwa [add_block] at this | exact this) GW376.out))) _).trans (hHeld.2.2.2.2.2.2.1)))), ((cell_far (p := ⟨gb376, _, none⟩) (by first | exact Nat.ne_of_lt (Nat.lt_of_lt_of_le (by have := World.block_lt_of_cell? _ _ hw374_1; first | rwa [add_block] at this | exact this) GW376.out) | (rw [add_block]; exact Nat.ne_of_lt (Nat.lt_of_lt_of_le (by have := World.block_lt_of_cell? _ _ hw374_1; first | rwa [add_block] at this | exact this) GW376.out)) | (show (Addr.add _ _).block ≠ _; rw [add_block]; exact Nat.ne_of_lt (Nat.lt_of_lt_of_le (by have := World.block_lt_of_cell? _ _ hw374_1; first | rwa [add_block] at this | exact this) GW376.out)) | (dsimp only; exact Nat.ne_of_lt (Nat.lt_of_lt_of_le (by have := World.block_lt_of_cell? _ _ hw374_1; first | rwa [add_block] at this | exact this) GW376.out))) _).trans (((cell_far (p := ⟨gb376, _, none⟩) (by first | exact Nat.ne_of_lt (Nat.lt_of_lt_of_le (by have := World.block_lt_of_cell? _ _ hw374_1; first | rwa [add_block] at this | exact this) GW376.out) | (rw [add_block]; exact Nat.ne_of_lt (Nat.lt_of_lt_of_le (by have := World.block_lt_of_cell? _ _ hw374_1; first | rwa [add_block] at this | exact this) GW376.out)) | (show (Addr.add _ _).block ≠ _; rw [add_block]; exact Nat.ne_of_lt (Nat.lt_of_lt_of_le (by have := World.block_lt_of_cell? _ _ hw374_1; first | rwa [add_block] at this | exact this) GW376.out)) | (dsimp only; exact Nat.ne_of_lt (Nat.lt_of_lt_of_le (by have := World.block_lt_of_cell? _ _ hw374_1; first | rwa [add_block] at this | exact this) GW376.out))) _).trans (hHeld.2.2.2.2.2.2.2))))⟩ (fun hHeld => ?_)
         clear hK K
         refine done_ (done_of HT_.out (by kernel_rfl)) ?_
         go_upto_region 7 with (fail)
         go_cut [54] (fun v54 wc => ∃ (kq : Nat) (x54_17 : Bool), v54 = .bool x54_17 ∧ Aside0 (ancepsref57_Same.j2 kq x5_2 x54_17 l0_0 l0_1 l1_0 l1_1 ((rd_T65 l0_1 x5_2).f0) ((rd_T65 l0_1 x5_2).f1) ((rd_T65 l1_1 x5_2).f0) ((rd_T65 l1_1 x5_2).f1) = some r) ∧ Aside0 (kq ≤ k2) ∧ Aside0 (wc.heap[gb370]? = some (.cells #[(.slice A0_0 l0_0.length c0_0), (.slice (some ad373) l0_1.length c0_1)] 42 (0, 0))) ∧ Aside0 (wc.heap[gb371]? = some (.cells #[(.slice A1_0 l1_0.length c1_0), (.slice (some ad374) l1_1.length c1_1)] 42 (0, 0))) ∧ Aside0 (wc.heap[gb375]? = some (.cells #[.string ((rd_T65 l0_1 x5_2).f0), (.slice A373_1 ((rd_T65 l0_1 x5_2).f1).length c373_1)] 65 (0, 0))) ∧ Aside0 (wc.heap[gb376]? = some (.cells #[.string ((rd_T65 l1_1 x5_2).f0), (.slice A374_1 ((rd_T65 l1_1 x5_2).f1).length c374_1)] 65 (0, 0))) ∧ Aside0 (Below w.heap.size w wc))
         case first =>
          have H := HC18.out
          clear HC18
          by_cases c29 : ((rd_T65 l0_1 x5_2).f0).toList = ((rd_T65 l1_1 x5_2).f0).toList
          ·rw [if_pos c29] at H
           have c29b0 : (((rd_T65 l0_1 x5_2).f0).toList == ((rd_T65 l1_1 x5_2).f0).toList) = true := beq_iff_eq.mpr c29
           have c29b1 : (((rd_T65 l0_1 x5_2).f0).toList != ((rd_T65 l1_1 x5_2).f0).toList) = false := bne_eq_false_iff_eq.mpr c29
           clear c29
           (first | rw [c29b0] | (simp only [i64_w, i32_w]; rw [c29b0]) | skip)
           have H' := Aside0.mk H
           clear H
           have hnb30 := NB375_370.out
           have hnc30 := NB370_375.out
           have hnb31 := NB375_371.out
           have hnc31 := NB371_375.out
           have hnb32 := NB375_376.out
           have hnc32 := NB376_375.out
           have hcz33_0 := cZ BK375 0 (.string (⟨#[]⟩ : ByteArray))
           have hcz33_1 := cZ BK375 1 (.slice none 0 0)
           have hfz33_0 := blk_frozen BK375.out 0
           have hfz33_1 := blk_frozen BK375.out 1
           have hnb34 := NB376_370.out
           have hnc34 := NB370_376.out
           have hnb35 := NB376_371.out
           have hnc35 := NB371_376.out
           have hcz36_0 := cZ BK376 0 (.string (⟨#[]⟩ : ByteArray))
           have hcz36_1 := cZ BK376 1 (.slice none 0 0)
           have hfz36_0 := blk_frozen BK376.out 0
           have hfz36_1 := blk_frozen BK376.out 1
           go_wp2
           go_meet
           case rel => exact ⟨_, (((((rd_T65 l0_1 x5_2).f1).length : Int) != (((rd_T65 l1_1 x5_2).f1).length : Int))), (by first | rfl | (simp; done) | (simp [*]; done)), H', ⟨by have := HJ2.out; have := HK2.out; first | omega | exact Nat.le_refl _⟩, ⟨by (with_reducible repeat (first | apply blk_drewN | apply blk_drew | apply blk_alloc)); refine blk_far ?_ NB370_376.out _; (with_reducible repeat (first | apply blk_drewN | apply blk_drew | apply blk_alloc)); refine blk_far ?_ NB370_376.out _; (with_reducible repeat (first | apply blk_drewN | apply blk_drew | apply blk_alloc)); refine blk_far ?_ NB370_375.out _; (with_reducible repeat (first | apply blk_drewN | apply blk_drew | apply blk_alloc)); refine blk_far ?_ NB370_375.out _; (with_reducible repeat (first | apply blk_drewN | apply blk_drew | apply blk_alloc)); exact BK370.out⟩, ⟨by (with_reducible repeat (first | apply blk_drewN | apply blk_drew | apply blk_alloc)); refine blk_far ?_ NB371_376.out _; (with_reducible repeat (first | apply blk_drewN | apply blk_drew | apply blk_alloc)); refine blk_far ?_ NB371_376.out _; (with_reducible repeat (first | apply blk_drewN | apply blk_drew | apply blk_alloc)); refine blk_far ?_ NB371_375.out _; (with_reducible repeat (first | apply blk_drewN | apply blk_drew | apply blk_alloc)); refine blk_far ?_ NB371_375.out _; (with_reducible repeat (first | apply blk_drewN | apply blk_drew | apply blk_alloc)); exact BK371.out⟩, ⟨by (with_reducible repeat (first | apply blk_drewN | apply blk_drew | apply blk_alloc)); refine blk_far ?_ NB375_376.out _; (with_reducible repeat (first | apply blk_drewN | apply blk_drew | apply blk_alloc)); refine blk_far ?_ NB375_376.out _; (with_reducible repeat (first | apply blk_drewN | apply blk_drew | apply blk_alloc)); refine blk_put (cs := #[.string ((rd_T65 l0_1 x5_2).f0), .slice none 0 0]) ?_ 1 _ rfl; (with_reducible repeat (first | apply blk_drewN | apply blk_drew | apply blk_alloc)); refine blk_put (cs := #[.string (⟨#[]⟩ : ByteArray), .slice none 0 0]) ?_ 0 _ rfl; (with_reducible repeat (first | apply blk_drewN | apply blk_drew | apply blk_alloc)); exact BK375.out⟩, ⟨by (with_reducible repeat (first | apply blk_drewN | apply blk_drew | apply blk_alloc)); refine blk_put (cs := #[.string ((rd_T65 l1_1 x5_2).f0), .slice none 0 0]) ?_ 1 _ rfl; (with_reducible repeat (first | apply blk_drewN | apply blk_drew | apply blk_alloc)); refine blk_put (cs := #[.string (⟨#[]⟩ : ByteArray), .slice none 0 0]) ?_ 0 _ rfl; (with_reducible repeat (first | apply blk_drewN | apply blk_drew | apply blk_alloc)); refine blk_far ?_ NB376_375.out _; (with_reducible repeat (first | apply blk_drewN | apply blk_drew | apply blk_alloc)); refine blk_far ?_ NB376_375.out _; (with_reducible repeat (first | apply blk_drewN | apply blk_drew | apply blk_alloc)); exact BK376.out⟩, ⟨by repeat (first | (with_reducible first | exact HB.out | apply below_alloc | apply pw_below_drewN | apply below_drew1 | refine below_set ?_ GE370.out | refine below_set ?_ GE371.out | refine below_set ?_ GE375.out | refine below_set ?_ GE376.out) | exact HB.out)⟩⟩
          ·rw [if_neg c29] at H
           have c29b0 : (((rd_T65 l0_1 x5_2).f0).toList == ((rd_T65 l1_1 x5_2).f0).toList) = false := beq_eq_false_iff_ne.mpr c29
           have c29b1 : (((rd_T65 l0_1 x5_2).f0).toList != ((rd_T65 l1_1 x5_2).f0).toList) = true := bne_iff_ne.mpr c29
           (first | rw [c29b0] | (simp only [i64_w, i32_w]; rw [c29b0]) | skip)
           have H' := Aside0.mk H
           clear H
           have hnb37 := NB375_370.out
           have hnc37 := NB370_375.out
           have hnb38 := NB375_371.out
           have hnc38 := NB371_375.out
           have hnb39 := NB375_376.out
           have hnc39 := NB376_375.out
           have hcz40_0 := cZ BK375 0 (.string (⟨#[]⟩ : ByteArray))
           have hcz40_1 := cZ BK375 1 (.slice none 0 0)
           have hfz40_0 := blk_frozen BK375.out 0
           have hfz40_1 := blk_frozen BK375.out 1
           have hnb41 := NB376_370.out
           have hnc41 := NB370_376.out
           have hnb42 := NB376_371.out
           have hnc42 := NB371_376.out
           have hcz43_0 := cZ BK376 0 (.string (⟨#[]⟩ : ByteArray))
           have hcz43_1 := cZ BK376 1 (.slice none 0 0)
           have hfz43_0 := blk_frozen BK376.out 0
           have hfz43_1 := blk_frozen BK376.out 1
           go_wp2
           go_meet
           case rel => exact ⟨_, (true), (by first | rfl | (simp; done) | (simp [*]; done)), H', ⟨by have := HJ2.out; have := HK2.out; first | omega | exact Nat.le_refl _⟩, ⟨by (with_reducible repeat (first | apply blk_drewN | apply blk_drew | apply blk_alloc)); refine blk_far ?_ NB370_376.out _; (with_reducible repeat (first | apply blk_drewN | apply blk_drew | apply blk_alloc)); refine blk_far ?_ NB370_376.out _; (with_reducible repeat (first | apply blk_drewN | apply blk_drew | apply blk_alloc)); refine blk_far ?_ NB370_375.out _; (with_reducible repeat (first | apply blk_drewN | apply blk_drew | apply blk_alloc)); refine blk_far ?_ NB370_375.out _; (with_reducible repeat (first | apply blk_drewN | apply blk_drew | apply blk_alloc)); exact BK370.out⟩, ⟨by (with_reducible repeat (first | apply blk_drewN | apply blk_drew | apply blk_alloc)); refine blk_far ?_ NB371_376.out _; (with_reducible repeat (first | apply blk_drewN | apply blk_drew | apply blk_alloc)); refine blk_far ?_ NB371_376.out _; (with_reducible repeat (first | apply blk_drewN | apply blk_drew | apply blk_alloc)); refine blk_far ?_ NB371_375.out _; (with_reducible repeat (first | apply blk_drewN | apply blk_drew | apply blk_alloc)); refine blk_far ?_ NB371_375.out _; (with_reducible repeat (first | apply blk_drewN | apply blk_drew | apply blk_alloc)); exact BK371.out⟩, ⟨by (with_reducible repeat (first | apply blk_drewN | apply blk_drew | apply blk_alloc)); refine blk_far ?_ NB375_376.out _; (with_reducible repeat (first | apply blk_drewN | apply blk_drew | apply blk_alloc)); refine blk_far ?_ NB375_376.out _; (with_reducible repeat (first | apply blk_drewN | apply blk_drew | apply blk_alloc)); refine blk_put (cs := #[.string ((rd_T65 l0_1 x5_2).f0), .slice none 0 0]) ?_ 1 _ rfl; (with_reducible repeat (first | apply blk_drewN | apply blk_drew | apply blk_alloc)); refine blk_put (cs := #[.string (⟨#[]⟩ : ByteArray), .slice none 0 0]) ?_ 0 _ rfl; (with_reducible repeat (first | apply blk_drewN | apply blk_drew | apply blk_alloc)); exact BK375.out⟩, ⟨by (with_reducible repeat (first | apply blk_drewN | apply blk_drew | apply blk_alloc)); refine blk_put (cs := #[.string ((rd_T65 l1_1 x5_2).f0), .slice none 0 0]) ?_ 1 _ rfl; (with_reducible repeat (first | apply blk_drewN | apply blk_drew | apply blk_alloc)); refine blk_put (cs := #[.string (⟨#[]⟩ : ByteArray), .slice none 0 0]) ?_ 0 _ rfl; (with_reducible repeat (first | apply blk_drewN | apply blk_drew | apply blk_alloc)); refine blk_far ?_ NB376_375.out _; (with_reducible repeat (first | apply blk_drewN | apply blk_drew | apply blk_alloc)); refine blk_far ?_ NB376_375.out _; (with_reducible repeat (first | apply blk_drewN | apply blk_drew | apply blk_alloc)); exact BK376.out⟩, ⟨by repeat (first | (with_reducible first | exact HB.out | apply below_alloc | apply pw_below_drewN | apply below_drew1 | refine below_set ?_ GE370.out | refine below_set ?_ GE371.out | refine below_set ?_ GE375.out | refine below_set ?_ GE376.out) | exact HB.out)⟩⟩
         case rest =>
          clear HC18
          try clear c1
          try clear c2
          try clear p2
          try clear c3
          try clear p3
          try clear q3
          try clear hx3
          try clear c4
          try clear c7
          try clear c8
          try clear c11
          try clear c14
          try clear c15
          try clear c15b0
          try clear c16
          try clear c16b0
          try clear c17
          try clear c17b0
          try clear c19
          try clear c21
          try clear c29
          try clear c29b0
          try clear c29b1
          try clear c30
          try clear c31
          try clear c32
          try clear c34
          try clear c35
          try clear c37
          try clear p37
          try clear q37
          try clear hx37
          try clear c38
          try clear c39
          try clear c41
          try clear c42
          try clear hcz10_0
          try clear hcz10_1
          try clear hcz12_0
          try clear hcz12_1
          try clear hcz13_0
          try clear hcz13_1
          try clear hcz20_0
          try clear hcz20_1
          try clear hcz33_0
          try clear hcz33_1
          try clear hcz36_0
          try clear hcz36_1
          try clear hcz40_0
          try clear hcz40_1
          try clear hcz43_0
          try clear hcz43_1
          try clear hcz9_0
          try clear hcz9_1
          try clear hfz10_0
          try clear hfz10_1
          try clear hfz12_0
          try clear hfz12_1
          try clear hfz13_0
          try clear hfz13_1
          try clear hfz20_0
          try clear hfz20_1
          try clear hfz33_0
          try clear hfz33_1
          try clear hfz36_0
          try clear hfz36_1
          try clear hfz40_0
          try clear hfz40_1
          try clear hfz43_0
          try clear hfz43_1
          try clear hfz9_0
          try clear hfz9_1
          try clear hx373_0
          try clear hx373_1
          try clear hx374_0
          try clear hx374_1
          try clear p2
          try clear p373
          try clear p374
          try clear q373
          try clear q374
          obtain ⟨kq, x54_17, rfl, HA, HJ17, BK370, BK371, BK375, BK376, HB⟩ := hcut
          cases kq with
          | zero => exact absurd HA.out (by simp [ancepsref57_Same.j2])
          | succ kj17 =>
           have H := HA.out
           clear HA
           simp only [ancepsref57_Same.j2] at H
           by_cases c44 : x54_17 = true
           ·subst c44
            have H1 : (some false) = some r := by rw [if_pos rfl] at H; exact H
            clear H
            have H := H1
            clear H1
            obtain rfl := Option.some.inj H
            go_wp2
            go_ret
            exact ⟨by first | rfl | (simp [errW_none, errW_some] <;> rfl) | (simp [*, errW_none, errW_some] <;> rfl), by repeat (first | (with_reducible first | exact HB.out | apply below_alloc | apply pw_below_drewN | apply below_drew1 | refine below_set ?_ GE370.out | refine below_set ?_ GE371.out | refine below_set ?_ GE375.out | refine below_set ?_ GE376.out) | exact HB.out)⟩
           ·replace c44 := Bool.eq_false_iff.mpr c44
            subst c44
            have H1 : (ancepsref57_Same.l1 kj17 x5_2 0 l0_0 l0_1 l1_0 l1_1 ((rd_T65 l0_1 x5_2).f0) ((rd_T65 l0_1 x5_2).f1) ((rd_T65 l1_1 x5_2).f0) ((rd_T65 l1_1 x5_2).f1)) = some r := by rw [if_neg (show ¬ (false = true) by decide)] at H; exact H
            clear H
            have H := H1
            clear H1
            have H' := Aside0.mk H
            clear H
            go_wp2
            go_loopg [8] kj17 (fun kq v8 w' => ∃ (x8_4 : Int), v8 = .int .i64 x8_4 ∧ Aside0 (ancepsref57_Same.l1 kq x5_2 x8_4 l0_0 l0_1 l1_0 l1_1 ((rd_T65 l0_1 x5_2).f0) ((rd_T65 l0_1 x5_2).f1) ((rd_T65 l1_1 x5_2).f0) ((rd_T65 l1_1 x5_2).f1) = some r) ∧ Aside0 (kq ≤ kj17) ∧ Aside0 (w'.heap[gb370]? = some (.cells #[(.slice A0_0 l0_0.length c0_0), (.slice (some ad373) l0_1.length c0_1)] 42 (0, 0))) ∧ Aside0 (w'.heap[gb371]? = some (.cells #[(.slice A1_0 l1_0.length c1_0), (.slice (some ad374) l1_1.length c1_1)] 42 (0, 0))) ∧ Aside0 (w'.heap[gb375]? = some (.cells #[.string ((rd_T65 l0_1 x5_2).f0), (.slice A373_1 ((rd_T65 l0_1 x5_2).f1).length c373_1)] 65 (0, 0))) ∧ Aside0 (w'.heap[gb376]? = some (.cells #[.string ((rd_T65 l1_1 x5_2).f0), (.slice A374_1 ((rd_T65 l1_1 x5_2).f1).length c374_1)] 65 (0, 0))) ∧ Aside0 (Below w.heap.size w w'))
            case atStart => exact ⟨(0), (by first | rfl | (simp; done) | (simp [*]; done)), H', ⟨Nat.le_refl _⟩, ⟨by (with_reducible repeat (first | apply blk_drewN | apply blk_drew | apply blk_alloc)); exact BK370.out⟩, ⟨by (with_reducible repeat (first | apply blk_drewN | apply blk_drew | apply blk_alloc)); exact BK371.out⟩, ⟨by (with_reducible repeat (first | apply blk_drewN | apply blk_drew | apply blk_alloc)); exact BK375.out⟩, ⟨by (with_reducible repeat (first | apply blk_drewN | apply blk_drew | apply blk_alloc)); exact BK376.out⟩, ⟨by repeat (first | (with_reducible first | exact HB.out | apply below_alloc | apply pw_below_drewN | apply below_drew1 | refine below_set ?_ GE370.out | refine below_set ?_ GE371.out | refine below_set ?_ GE375.out | refine below_set ?_ GE376.out) | exact HB.out)⟩⟩
            case round =>
             clear H'
             try clear c1
             try clear c2
             try clear p2
             try clear c3
             try clear p3
             try clear q3
             try clear hx3
             try clear c4
             try clear c7
             try clear c8
             try clear c11
             try clear c14
             try clear c15
             try clear c15b0
             try clear c16
             try clear c16b0
             try clear c17
             try clear c17b0
             try clear c19
             try clear c21
             try clear c29
             try clear c29b0
             try clear c29b1
             try clear c30
             try clear c31
             try clear c32
             try clear c34
             try clear c35
             try clear c37
             try clear p37
             try clear q37
             try clear hx37
             try clear c38
             try clear c39
             try clear c41
             try clear c42
             try clear c44
             try clear hcz10_0
             try clear hcz10_1
             try clear hcz12_0
             try clear hcz12_1
             try clear hcz13_0
             try clear hcz13_1
             try clear hcz20_0
             try clear hcz20_1
             try clear hcz33_0
             try clear hcz33_1
             try clear hcz36_0
             try clear hcz36_1
             try clear hcz40_0
             try clear hcz40_1
             try clear hcz43_0
             try clear hcz43_1
             try clear hcz9_0
             try clear hcz9_1
             try clear hfz10_0
             try clear hfz10_1
             try clear hfz12_0
             try clear hfz12_1
             try clear hfz13_0
             try clear hfz13_1
             try clear hfz20_0
             try clear hfz20_1
             try clear hfz33_0
             try clear hfz33_1
             try clear hfz36_0
             try clear hfz36_1
             try clear hfz40_0
             try clear hfz40_1
             try clear hfz43_0
             try clear hfz43_1
             try clear hfz9_0
             try clear hfz9_1
             try clear hx373_0
             try clear hx373_1
             try clear hx374_0
             try clear hx374_1
             try clear p2
             try clear p3
             try clear p37
             try clear p373
             try clear p374
             try clear q3
             try clear q37
             try clear q373
             try clear q374
             obtain ⟨x8_4, rfl, HA, HK4, BK370, BK371, BK375, BK376, HB⟩ := hrel
             cases gk with
             | zero => exact absurd HA.out (by simp [ancepsref57_Same.l1])
             | succ k4 =>
              have H := HA.out
              clear HA
              simp only [ancepsref57_Same.l1] at H
              by_cases c45 : x8_4 < (((rd_T65 l0_1 x5_2).f1).length : Int)
              ·rw [if_pos c45] at H
               have c45b0 : decide (x8_4 < (((rd_T65 l0_1 x5_2).f1).length : Int)) = true := decide_eq_true c45
               clear c45
               by_cases c46 : 0 ≤ x8_4
               ·rw [if_pos c46] at H
                have c46b0 : decide (0 ≤ x8_4) = true := decide_eq_true c46
                clear c46
                by_cases c47 : x8_4 < (((rd_T65 l1_1 x5_2).f1).length : Int)
                ·rw [if_pos c47] at H
                 have c47b0 : decide (x8_4 < (((rd_T65 l1_1 x5_2).f1).length : Int)) = true := decide_eq_true c47
                 clear c47
                 by_cases c48 : (!((((rd_T67 ((rd_T65 l0_1 x5_2).f1) x8_4).f0).toList) == (((rd_T67 ((rd_T65 l1_1 x5_2).f1) x8_4).f0).toList)) || (!(((rd_T67 ((rd_T65 l0_1 x5_2).f1) x8_4).f1) == ((rd_T67 ((rd_T65 l1_1 x5_2).f1) x8_4).f1)))) = true
                 ·rw [if_pos c48] at H
                  have c48b0 : (!((((rd_T67 ((rd_T65 l0_1 x5_2).f1) x8_4).f0).toList) == (((rd_T67 ((rd_T65 l1_1 x5_2).f1) x8_4).f0).toList)) || (!(((rd_T67 ((rd_T65 l0_1 x5_2).f1) x8_4).f1) == ((rd_T67 ((rd_T65 l1_1 x5_2).f1) x8_4).f1)))) = true := c48
                  clear c48
                  obtain rfl := Option.some.inj H
                  have hnb49 := NB375_370.out
                  have hnc49 := NB370_375.out
                  have hnb50 := NB375_371.out
                  have hnc50 := NB371_375.out
                  have hnb51 := NB375_376.out
                  have hnc51 := NB376_375.out
                  have hcz52_0 := cZ BK375 0 (.string ((rd_T65 l0_1 x5_2).f0))
                  have hcz52_1 := cZ BK375 1 (.slice A373_1 ((rd_T65 l0_1 x5_2).f1).length c373_1)
                  have hfz52_0 := blk_frozen BK375.out 0
                  have hfz52_1 := blk_frozen BK375.out 1
                  try go_wp2
                  have n0_ := Aside0.mk (blk_drew BK370.out)
                  have n1_ := Aside0.mk (blk_drew BK371.out)
                  have n2_ := Aside0.mk (blk_drew BK375.out)
                  have n3_ := Aside0.mk (blk_drew BK376.out)
                  have n4_ := Aside0.mk (below_drew1 HB.out)
                  clear BK370
                  clear BK371
                  clear BK375
                  clear BK376
                  clear HB
                  have BK370 := n0_
                  have BK371 := n1_
                  have BK375 := n2_
                  have BK376 := n3_
                  have HB := n4_
                  clear n0_ n1_ n2_ n3_ n4_
                  have p377 : 0 ≤ (x8_4 : Int) := of_decide_eq_true (by first | (with_reducible assumption) | assumption)
                  have q377 : x8_4 < (((rd_T65 l0_1 x5_2).f1).length : Int) := of_decide_eq_true (by first | (with_reducible assumption) | assumption)
                  obtain ⟨ad377, e377, hx377_0, hx377_1⟩ := at_T67 HR373_1.out x8_4 p377 q377
                  have hw377_1 := hx377_1
                  have hw377_0 := hx377_0
                  cases e377
                  replace hx377_0 := (HB.out.cell (World.block_lt_of_cell? w _ hx377_0)).trans hx377_0
                  replace hx377_1 := (HB.out.cell (World.block_lt_of_cell? w _ hx377_1)).trans hx377_1
                  replace p377 := eq_true p377
                  replace q377 := eq_true q377
                  have p378 : 0 ≤ (x8_4 : Int) := of_decide_eq_true (by first | (with_reducible assumption) | assumption)
                  have q378 : x8_4 < (((rd_T65 l1_1 x5_2).f1).length : Int) := of_decide_eq_true (by first | (with_reducible assumption) | assumption)
                  obtain ⟨ad378, e378, hx378_0, hx378_1⟩ := at_T67 HR374_1.out x8_4 p378 q378
                  have hw378_1 := hx378_1
                  have hw378_0 := hx378_0
                  cases e378
                  replace hx378_0 := (HB.out.cell (World.block_lt_of_cell? w _ hx378_0)).trans hx378_0
                  replace hx378_1 := (HB.out.cell (World.block_lt_of_cell? w _ hx378_1)).trans hx378_1
                  replace p378 := eq_true p378
                  replace q378 := eq_true q378
                  refine start_ (n := 11) (S := fun w' => w'.cell? ⟨gb375, 0, none⟩ = some (.string ((rd_T65 l0_1 x5_2).f0)) ∧ w'.cell? ⟨gb375, 1, none⟩ = some (.slice (some ad377) ((rd_T65 l0_1 x5_2).f1).length c373_1) ∧ w'.cell? ⟨gb376, 0, none⟩ = some (.string ((rd_T65 l1_1 x5_2).f0)) ∧ w'.cell? ⟨gb376, 1, none⟩ = some (.slice (some ad378) ((rd_T65 l1_1 x5_2).f1).length c374_1) ∧ w'.cell? (ad377.add ((x8_4).toNat * 2)) = some (.string ((rd_T67 ((rd_T65 l0_1 x5_2).f1) x8_4).f0)) ∧ w'.cell? ⟨(ad377.add ((x8_4).toNat * 2)).block, (ad377.add ((x8_4).toNat * 2)).off + 1, none⟩ = some (.int .i64 ((rd_T67 ((rd_T65 l0_1 x5_2).f1) x8_4).f1)) ∧ w'.cell? (ad378.add ((x8_4).toNat * 2)) = some (.string ((rd_T67 ((rd_T65 l1_1 x5_2).f1) x8_4).f0)) ∧ w'.cell? ⟨(ad378.add ((x8_4).toNat * 2)).block, (ad378.add ((x8_4).toNat * 2)).off + 1, none⟩ = some (.int .i64 ((rd_T67 ((rd_T65 l1_1 x5_2).f1) x8_4).f1))) (ds := []) #[false, false, false, false, false, false, false, false, false, false, false] (by kernel_rfl) rfl rfl ⟨(blk_cell BK375.out 0).trans rfl, (blk_cell BK375.out 1).trans rfl, (blk_cell BK376.out 0).trans rfl, (blk_cell BK376.out 1).trans rfl, ((HB.out.cell (World.block_lt_of_cell? w _ hw377_0)).trans hw377_0), ((HB.out.cell (World.block_lt_of_cell? w _ hw377_1)).trans hw377_1), ((HB.out.cell (World.block_lt_of_cell? w _ hw378_0)).trans hw378_0), ((HB.out.cell (World.block_lt_of_cell? w _ hw378_1)).trans hw378_1)⟩ (fun hHeld => ?_); refine with_tabW ancepsref57_Same.tab12 ancepsref57_Same.bits12 (fun HT_ HW_ => ?_)
                  generalize wr.drew = w53 at BK370 BK371 BK375 BK376 HB hx377_0 hx377_1 hx378_0 hx378_1 hHeld ⊢
                  refine pure_ (i := 0) (N := some 62) (v := ?_) (a' := ?_) #[true, false, false, false, false, false, false, false, false, false, false] rfl rfl (any_of HT_.out (by kernel_rfl)) (fun _ _ _ h => h) (Or.inl ⟨by rfl, ?_⟩) ?_ ?_
                  rotate_left
                  ·intro w'
                   go_simp
                   with_reducible rfl
                  rotate_left
                  ·simp only [Act.put, List.setIfInBounds_toArray, List.set_cons_zero, List.set_cons_succ, i64_w, i32_w]
                   rfl
                  refine pure_ (i := 2) (N := some 64) (v := ?_) (a' := ?_) #[true, false, true, false, false, false, false, false, false, false, false] rfl rfl (any_of HT_.out (by kernel_rfl)) (fun _ _ _ h => h) (Or.inl ⟨by rfl, ?_⟩) ?_ ?_
                  rotate_left
                  ·intro w'
                   go_simp
                   with_reducible rfl
                  rotate_left
                  ·simp only [Act.put, List.setIfInBounds_toArray, List.set_cons_zero, List.set_cons_succ, i64_w, i32_w]
                   rfl
                  refine pure_ (i := 5) (N := some 67) (v := ?_) (a' := ?_) #[true, false, true, false, false, true, false, false, false, false, false] rfl rfl (any_of HT_.out (by kernel_rfl)) (fun _ _ _ h => h) (Or.inl ⟨by rfl, ?_⟩) ?_ ?_
                  rotate_left
                  ·intro w'
                   go_simp
                   with_reducible rfl
                  rotate_left
                  ·simp only [Act.put, List.setIfInBounds_toArray, List.set_cons_zero, List.set_cons_succ, i64_w, i32_w]
                   rfl
                  refine pure_ (i := 7) (N := some 69) (v := ?_) (a' := ?_) #[true, false, true, false, false, true, false, true, false, false, false] rfl rfl (any_of HT_.out (by kernel_rfl)) (fun _ _ _ h => h) (Or.inl ⟨by rfl, ?_⟩) ?_ ?_
                  rotate_left
                  ·intro w'
                   go_simp
                   with_reducible rfl
                  rotate_left
                  ·simp only [Act.put, List.setIfInBounds_toArray, List.set_cons_zero, List.set_cons_succ, i64_w, i32_w]
                   rfl
                  refine take_ (i := 1) (N := some 63) (v := ?_) (a' := ?_) #[true, true, true, false, false, true, false, true, false, false, false] rfl rfl (take_ofW HT_.out HW_.out (by kernel_rfl)) (fun _ _ _ h => h) (Or.inl ⟨by rfl, ?_⟩) hHeld ?_ ?_
                  rotate_left
                  ·rintro w' ⟨s0, s1, s2, s3, s4, s5, s6, s7⟩
                   go_simp
                   with_reducible rfl
                  rotate_left
                  ·simp only [Act.put, List.setIfInBounds_toArray, List.set_cons_zero, List.set_cons_succ, i64_w, i32_w]
                   rfl
                  refine pure_ (i := 3) (N := some 65) (v := ?_) (a' := ?_) #[true, true, true, true, false, true, false, true, false, false, false] rfl rfl (any_of HT_.out (by kernel_rfl)) (fun _ _ _ h => h) (Or.inl ⟨by rfl, ?_⟩) ?_ ?_
                  rotate_left
                  ·intro w'
                   go_simp
                   with_reducible rfl
                  rotate_left
                  ·simp only [Act.put, List.setIfInBounds_toArray, List.set_cons_zero, List.set_cons_succ, i64_w, i32_w]
                   rfl
                  refine take_ (i := 4) (N := some 66) (v := ?_) (a' := ?_) #[true, true, true, true, true, true, false, true, false, false, false] rfl rfl (take_ofW HT_.out HW_.out (by kernel_rfl)) (fun _ _ _ h => h) (Or.inl ⟨by rfl, ?_⟩) hHeld ?_ ?_
                  rotate_left
                  ·rintro w' ⟨s0, s1, s2, s3, s4, s5, s6, s7⟩
                   go_simp
                   with_reducible rfl
                  rotate_left
                  ·simp only [Act.put, List.setIfInBounds_toArray, List.set_cons_zero, List.set_cons_succ, i64_w, i32_w]
                   rfl
                  refine take_ (i := 6) (N := some 68) (v := ?_) (a' := ?_) #[true, true, true, true, true, true, true, true, false, false, false] rfl rfl (take_ofW HT_.out HW_.out (by kernel_rfl)) (fun _ _ _ h => h) (Or.inl ⟨by rfl, ?_⟩) hHeld ?_ ?_
                  rotate_left
                  ·rintro w' ⟨s0, s1, s2, s3, s4, s5, s6, s7⟩
                   go_simp
                   with_reducible rfl
                  rotate_left
                  ·simp only [Act.put, List.setIfInBounds_toArray, List.set_cons_zero, List.set_cons_succ, i64_w, i32_w]
                   rfl
                  refine pure_ (i := 8) (N := some 70) (v := ?_) (a' := ?_) #[true, true, true, true, true, true, true, true, true, false, false] rfl rfl (any_of HT_.out (by kernel_rfl)) (fun _ _ _ h => h) (Or.inl ⟨by rfl, ?_⟩) ?_ ?_
                  rotate_left
                  ·intro w'
                   go_simp
                   with_reducible rfl
                  rotate_left
                  ·simp only [Act.put, List.setIfInBounds_toArray, List.set_cons_zero, List.set_cons_succ, i64_w, i32_w]
                   rfl
                  refine take_ (i := 9) (N := some 71) (v := ?_) (a' := ?_) #[true, true, true, true, true, true, true, true, true, true, false] rfl rfl (take_ofW HT_.out HW_.out (by kernel_rfl)) (fun _ _ _ h => h) (Or.inl ⟨by rfl, ?_⟩) hHeld ?_ ?_
                  rotate_left
                  ·rintro w' ⟨s0, s1, s2, s3, s4, s5, s6, s7⟩
                   go_simp
                   with_reducible rfl
                  rotate_left
                  ·simp only [Act.put, List.setIfInBounds_toArray, List.set_cons_zero, List.set_cons_succ, i64_w, i32_w]
                   rfl
                  refine pure_ (i := 10) (N := some 72) (v := ?_) (a' := ?_) #[true, true, true, true, true, true, true, true, true, true, true] rfl rfl (any_of HT_.out (by kernel_rfl)) (fun _ _ _ h => h) (Or.inl ⟨by rfl, ?_⟩) ?_ ?_
                  rotate_left
                  ·intro w'
                   go_simp
                   with_reducible rfl
                  rotate_left
                  ·simp only [Act.put, List.setIfInBounds_toArray, List.set_cons_zero, List.set_cons_succ, i64_w, i32_w]
                   rfl
                  refine done_ (done_of HT_.out (by kernel_rfl)) ?_
                  try go_wp2
                  go_ret
                  exact ⟨by first | rfl | (simp [errW_none, errW_some] <;> rfl) | (simp [*, errW_none, errW_some] <;> rfl), by repeat (first | (with_reducible first | exact HB.out | apply below_alloc | apply pw_below_drewN | apply below_drew1 | refine below_set ?_ GE370.out | refine below_set ?_ GE371.out | refine below_set ?_ GE375.out | refine below_set ?_ GE376.out) | exact HB.out)⟩
                 ·rw [if_neg c48] at H
                  have c48b0 : (!((((rd_T67 ((rd_T65 l0_1 x5_2).f1) x8_4).f0).toList) == (((rd_T67 ((rd_T65 l1_1 x5_2).f1) x8_4).f0).toList)) || (!(((rd_T67 ((rd_T65 l0_1 x5_2).f1) x8_4).f1) == ((rd_T67 ((rd_T65 l1_1 x5_2).f1) x8_4).f1)))) = false := by simpa using c48
                  clear c48
                  have H' := Aside0.mk H
                  clear H
                  have hnb54 := NB375_370.out
                  have hnc54 := NB370_375.out
                  have hnb55 := NB375_371.out
                  have hnc55 := NB371_375.out
                  have hnb56 := NB375_376.out
                  have hnc56 := NB376_375.out
                  have hcz57_0 := cZ BK375 0 (.string ((rd_T65 l0_1 x5_2).f0))
                  have hcz57_1 := cZ BK375 1 (.slice A373_1 ((rd_T65 l0_1 x5_2).f1).length c373_1)
                  have hfz57_0 := blk_frozen BK375.out 0
                  have hfz57_1 := blk_frozen BK375.out 1
                  try go_wp2
                  have n0_ := Aside0.mk (blk_drew BK370.out)
                  have n1_ := Aside0.mk (blk_drew BK371.out)
                  have n2_ := Aside0.mk (blk_drew BK375.out)
                  have n3_ := Aside0.mk (blk_drew BK376.out)
                  have n4_ := Aside0.mk (below_drew1 HB.out)
                  clear BK370
                  clear BK371
                  clear BK375
                  clear BK376
                  clear HB
                  have BK370 := n0_
                  have BK371 := n1_
                  have BK375 := n2_
                  have BK376 := n3_
                  have HB := n4_
                  clear n0_ n1_ n2_ n3_ n4_
                  have p377 : 0 ≤ (x8_4 : Int) := of_decide_eq_true (by first | (with_reducible assumption) | assumption)
                  have q377 : x8_4 < (((rd_T65 l0_1 x5_2).f1).length : Int) := of_decide_eq_true (by first | (with_reducible assumption) | assumption)
                  obtain ⟨ad377, e377, hx377_0, hx377_1⟩ := at_T67 HR373_1.out x8_4 p377 q377
                  have hw377_1 := hx377_1
                  have hw377_0 := hx377_0
                  cases e377
                  replace hx377_0 := (HB.out.cell (World.block_lt_of_cell? w _ hx377_0)).trans hx377_0
                  replace hx377_1 := (HB.out.cell (World.block_lt_of_cell? w _ hx377_1)).trans hx377_1
                  replace p377 := eq_true p377
                  replace q377 := eq_true q377
                  have p378 : 0 ≤ (x8_4 : Int) := of_decide_eq_true (by first | (with_reducible assumption) | assumption)
                  have q378 : x8_4 < (((rd_T65 l1_1 x5_2).f1).length : Int) := of_decide_eq_true (by first | (with_reducible assumption) | assumption)
                  obtain ⟨ad378, e378, hx378_0, hx378_1⟩ := at_T67 HR374_1.out x8_4 p378 q378
                  have hw378_1 := hx378_1
                  have hw378_0 := hx378_0
                  cases e378
                  replace hx378_0 := (HB.out.cell (World.block_lt_of_cell? w _ hx378_0)).trans hx378_0
                  replace hx378_1 := (HB.out.cell (World.block_lt_of_cell? w _ hx378_1)).trans hx378_1
                  replace p378 := eq_true p378
                  replace q378 := eq_true q378
                  refine start_ (n := 11) (S := fun w' => w'.cell? ⟨gb375, 0, none⟩ = some (.string ((rd_T65 l0_1 x5_2).f0)) ∧ w'.cell? ⟨gb375, 1, none⟩ = some (.slice (some ad377) ((rd_T65 l0_1 x5_2).f1).length c373_1) ∧ w'.cell? ⟨gb376, 0, none⟩ = some (.string ((rd_T65 l1_1 x5_2).f0)) ∧ w'.cell? ⟨gb376, 1, none⟩ = some (.slice (some ad378) ((rd_T65 l1_1 x5_2).f1).length c374_1) ∧ w'.cell? (ad377.add ((x8_4).toNat * 2)) = some (.string ((rd_T67 ((rd_T65 l0_1 x5_2).f1) x8_4).f0)) ∧ w'.cell? ⟨(ad377.add ((x8_4).toNat * 2)).block, (ad377.add ((x8_4).toNat * 2)).off + 1, none⟩ = some (.int .i64 ((rd_T67 ((rd_T65 l0_1 x5_2).f1) x8_4).f1)) ∧ w'.cell? (ad378.add ((x8_4).toNat * 2)) = some (.string ((rd_T67 ((rd_T65 l1_1 x5_2).f1) x8_4).f0)) ∧ w'.cell? ⟨(ad378.add ((x8_4).toNat * 2)).block, (ad378.add ((x8_4).toNat * 2)).off + 1, none⟩ = some (.int .i64 ((rd_T67 ((rd_T65 l1_1 x5_2).f1) x8_4).f1))) (ds := []) #[false, false, false, false, false, false, false, false, false, false, false] (by kernel_rfl) rfl rfl ⟨(blk_cell BK375.out 0).trans rfl, (blk_cell BK375.out 1).trans rfl, (blk_cell BK376.out 0).trans rfl, (blk_cell BK376.out 1).trans rfl, ((HB.out.cell (World.block_lt_of_cell? w _ hw377_0)).trans hw377_0), ((HB.out.cell (World.block_lt_of_cell? w _ hw377_1)).trans hw377_1), ((HB.out.cell (World.block_lt_of_cell? w _ hw378_0)).trans hw378_0), ((HB.out.cell (World.block_lt_of_cell? w _ hw378_1)).trans hw378_1)⟩ (fun hHeld => ?_); refine with_tabW ancepsref57_Same.tab12 ancepsref57_Same.bits12 (fun HT_ HW_ => ?_)
                  generalize wr.drew = w58 at BK370 BK371 BK375 BK376 HB hx377_0 hx377_1 hx378_0 hx378_1 hHeld ⊢
                  refine pure_ (i := 0) (N := some 62) (v := ?_) (a' := ?_) #[true, false, false, false, false, false, false, false, false, false, false] rfl rfl (any_of HT_.out (by kernel_rfl)) (fun _ _ _ h => h) (Or.inl ⟨by rfl, ?_⟩) ?_ ?_
                  rotate_left
                  ·intro w'
                   go_simp
                   with_reducible rfl
                  rotate_left
                  ·simp only [Act.put, List.setIfInBounds_toArray, List.set_cons_zero, List.set_cons_succ, i64_w, i32_w]
                   rfl
                  refine pure_ (i := 2) (N := some 64) (v := ?_) (a' := ?_) #[true, false, true, false, false, false, false, false, false, false, false] rfl rfl (any_of HT_.out (by kernel_rfl)) (fun _ _ _ h => h) (Or.inl ⟨by rfl, ?_⟩) ?_ ?_
                  rotate_left
                  ·intro w'
                   go_simp
                   with_reducible rfl
                  rotate_left
                  ·simp only [Act.put, List.setIfInBounds_toArray, List.set_cons_zero, List.set_cons_succ, i64_w, i32_w]
                   rfl
                  refine pure_ (i := 5) (N := some 67) (v := ?_) (a' := ?_) #[true, false, true, false, false, true, false, false, false, false, false] rfl rfl (any_of HT_.out (by kernel_rfl)) (fun _ _ _ h => h) (Or.inl ⟨by rfl, ?_⟩) ?_ ?_
                  rotate_left
                  ·intro w'
                   go_simp
                   with_reducible rfl
                  rotate_left
                  ·simp only [Act.put, List.setIfInBounds_toArray, List.set_cons_zero, List.set_cons_succ, i64_w, i32_w]
                   rfl
                  refine pure_ (i := 7) (N := some 69) (v := ?_) (a' := ?_) #[true, false, true, false, false, true, false, true, false, false, false] rfl rfl (any_of HT_.out (by kernel_rfl)) (fun _ _ _ h => h) (Or.inl ⟨by rfl, ?_⟩) ?_ ?_
                  rotate_left
                  ·intro w'
                   go_simp
                   with_reducible rfl
                  rotate_left
                  ·simp only [Act.put, List.setIfInBounds_toArray, List.set_cons_zero, List.set_cons_succ, i64_w, i32_w]
                   rfl
                  refine take_ (i := 1) (N := some 63) (v := ?_) (a' := ?_) #[true, true, true, false, false, true, false, true, false, false, false] rfl rfl (take_ofW HT_.out HW_.out (by kernel_rfl)) (fun _ _ _ h => h) (Or.inl ⟨by rfl, ?_⟩) hHeld ?_ ?_
                  rotate_left
                  ·rintro w' ⟨s0, s1, s2, s3, s4, s5, s6, s7⟩
                   go_simp
                   with_reducible rfl
                  rotate_left
                  ·simp only [Act.put, List.setIfInBounds_toArray, List.set_cons_zero, List.set_cons_succ, i64_w, i32_w]
                   rfl
                  refine pure_ (i := 3) (N := some 65) (v := ?_) (a' := ?_) #[true, true, true, true, false, true, false, true, false, false, false] rfl rfl (any_of HT_.out (by kernel_rfl)) (fun _ _ _ h => h) (Or.inl ⟨by rfl, ?_⟩) ?_ ?_
                  rotate_left
                  ·intro w'
                   go_simp
                   with_reducible rfl
                  rotate_left
                  ·simp only [Act.put, List.setIfInBounds_toArray, List.set_cons_zero, List.set_cons_succ, i64_w, i32_w]
                   rfl
                  refine take_ (i := 4) (N := some 66) (v := ?_) (a' := ?_) #[true, true, true, true, true, true, false, true, false, false, false] rfl rfl (take_ofW HT_.out HW_.out (by kernel_rfl)) (fun _ _ _ h => h) (Or.inl ⟨by rfl, ?_⟩) hHeld ?_ ?_
                  rotate_left
                  ·rintro w' ⟨s0, s1, s2, s3, s4, s5, s6, s7⟩
                   go_simp
                   with_reducible rfl
                  rotate_left
                  ·simp only [Act.put, List.setIfInBounds_toArray, List.set_cons_zero, List.set_cons_succ, i64_w, i32_w]
                   rfl
                  refine take_ (i := 6) (N := some 68) (v := ?_) (a' := ?_) #[true, true, true, true, true, true, true, true, false, false, false] rfl rfl (take_ofW HT_.out HW_.out (by kernel_rfl)) (fun _ _ _ h => h) (Or.inl ⟨by rfl, ?_⟩) hHeld ?_ ?_
                  rotate_left
                  ·rintro w' ⟨s0, s1, s2, s3, s4, s5, s6, s7⟩
                   go_simp
                   with_reducible rfl
                  rotate_left
                  ·simp only [Act.put, List.setIfInBounds_toArray, List.set_cons_zero, List.set_cons_succ, i64_w, i32_w]
                   rfl
                  refine pure_ (i := 8) (N := some 70) (v := ?_) (a' := ?_) #[true, true, true, true, true, true, true, true, true, false, false] rfl rfl (any_of HT_.out (by kernel_rfl)) (fun _ _ _ h => h) (Or.inl ⟨by rfl, ?_⟩) ?_ ?_
                  rotate_left
                  ·intro w'
                   go_simp
                   with_reducible rfl
                  rotate_left
                  ·simp only [Act.put, List.setIfInBounds_toArray, List.set_cons_zero, List.set_cons_succ, i64_w, i32_w]
                   rfl
                  refine take_ (i := 9) (N := some 71) (v := ?_) (a' := ?_) #[true, true, true, true, true, true, true, true, true, true, false] rfl rfl (take_ofW HT_.out HW_.out (by kernel_rfl)) (fun _ _ _ h => h) (Or.inl ⟨by rfl, ?_⟩) hHeld ?_ ?_
                  rotate_left
                  ·rintro w' ⟨s0, s1, s2, s3, s4, s5, s6, s7⟩
                   go_simp
                   with_reducible rfl
                  rotate_left
                  ·simp only [Act.put, List.setIfInBounds_toArray, List.set_cons_zero, List.set_cons_succ, i64_w, i32_w]
                   rfl
                  refine pure_ (i := 10) (N := some 72) (v := ?_) (a' := ?_) #[true, true, true, true, true, true, true, true, true, true, true] rfl rfl (any_of HT_.out (by kernel_rfl)) (fun _ _ _ h => h) (Or.inl ⟨by rfl, ?_⟩) ?_ ?_
                  rotate_left
                  ·intro w'
                   go_simp
                   with_reducible rfl
                  rotate_left
                  ·simp only [Act.put, List.setIfInBounds_toArray, List.set_cons_zero, List.set_cons_succ, i64_w, i32_w]
                   rfl
                  refine done_ (done_of HT_.out (by kernel_rfl)) ?_
                  try go_wp2
                  go_roundg k4
                  case measure => have := HJ2.out; have := HK2.out; have := HJ17.out; have := HK4.out; omega
                  case rel => exact ⟨(wrap64 (x8_4 + 1)), (by first | rfl | (simp; done) | (simp [*]; done)), H', ⟨by have := HJ2.out; have := HK2.out; have := HJ17.out; have := HK4.out; omega⟩, ⟨by (with_reducible repeat (first | apply blk_drewN | apply blk_drew | apply blk_alloc)); exact BK370.out⟩, ⟨by (with_reducible repeat (first | apply blk_drewN | apply blk_drew | apply blk_alloc)); exact BK371.out⟩, ⟨by (with_reducible repeat (first | apply blk_drewN | apply blk_drew | apply blk_alloc)); exact BK375.out⟩, ⟨by (with_reducible repeat (first | apply blk_drewN | apply blk_drew | apply blk_alloc)); exact BK376.out⟩, ⟨by repeat (first | (with_reducible first | exact HB.out | apply below_alloc | apply pw_below_drewN | apply below_drew1 | refine below_set ?_ GE370.out | refine below_set ?_ GE371.out | refine below_set ?_ GE375.out | refine below_set ?_ GE376.out) | exact HB.out)⟩⟩
                ·rw [if_neg c47] at H
                 exact absurd H (by simp)
               ·rw [if_neg c46] at H
                exact absurd H (by simp)
              ·rw [if_neg c45] at H
               have c45b0 : decide (x8_4 < (((rd_T65 l0_1 x5_2).f1).length : Int)) = false := decide_eq_false c45
               clear c45
               have H' := Aside0.mk H
               clear H
               have hnb59 := NB375_370.out
               have hnc59 := NB370_375.out
               have hnb60 := NB375_371.out
               have hnc60 := NB371_375.out
               have hnb61 := NB375_376.out
               have hnc61 := NB376_375.out
               have hcz62_0 := cZ BK375 0 (.string ((rd_T65 l0_1 x5_2).f0))
               have hcz62_1 := cZ BK375 1 (.slice A373_1 ((rd_T65 l0_1 x5_2).f1).length c373_1)
               have hfz62_0 := blk_frozen BK375.out 0
               have hfz62_1 := blk_frozen BK375.out 1
               go_wp2
               go_roundg k4
               case measure => have := HJ2.out; have := HK2.out; have := HJ17.out; have := HK4.out; omega
               case rel => exact ⟨(wrap64 (x5_2 + 1)), (by first | rfl | (simp; done) | (simp [*]; done)), H', ⟨by have := HJ2.out; have := HK2.out; have := HJ17.out; have := HK4.out; omega⟩, ⟨by (with_reducible repeat (first | apply blk_drewN | apply blk_drew | apply blk_alloc)); exact BK370.out⟩, ⟨by (with_reducible repeat (first | apply blk_drewN | apply blk_drew | apply blk_alloc)); exact BK371.out⟩, ⟨by repeat (first | (with_reducible first | exact HB.out | apply below_alloc | apply pw_below_drewN | apply below_drew1 | refine below_set ?_ GE370.out | refine below_set ?_ GE371.out | refine below_set ?_ GE375.out | refine below_set ?_ GE376.out) | exact HB.out)⟩⟩
        ·rw [if_neg c17] at H
         exact absurd H (by simp)
       ·rw [if_neg c16] at H
        exact absurd H (by simp)
      ·rw [if_neg c15] at H
       have c15b0 : decide (x5_2 < (l0_1.length : Int)) = false := decide_eq_false c15
       clear c15
       obtain rfl := Option.some.inj H
       have hnb63 := NB370_371.out
       have hnc63 := NB371_370.out
       have hcz64_0 := cZ BK370 0 (.slice A0_0 l0_0.length c0_0)
       have hcz64_1 := cZ BK370 1 (.slice A0_1 l0_1.length c0_1)
       have hfz64_0 := blk_frozen BK370.out 0
       have hfz64_1 := blk_frozen BK370.out 1
       go_wp2
       go_ret
       exact ⟨by first | rfl | (simp [errW_none, errW_some] <;> rfl) | (simp [*, errW_none, errW_some] <;> rfl), by repeat (first | (with_reducible first | exact HB.out | apply below_alloc | apply pw_below_drewN | apply below_drew1 | refine below_set ?_ GE370.out | refine below_set ?_ GE371.out) | exact HB.out)⟩

end Go.Proofs.Ytmjigfoldeekmaa.X
