-- and more
-- shortened
-- thinned
-- halved indents
-- printed by this session's xprint.py: out of the translation, by the kit's print with additions; Lean checks it
import Derived.Test.YtmjigfoldeekmaaXE
import Derived.Test.YtmjigfoldeekmaaXC
import Derived.Test.YtmjigfoldeekmaaWN
import Derived.Test.YtmjigfoldeekmaaWShare
import Derived.Test.YtmjigfoldeekmaaWRepsOne
import Derived.Test.YtmjigfoldeekmaaWGuard
import Derived.Test.YtmjigfoldeekmaaX0
import Derived.Test.YtmjigfoldeekmaaX17
import Derived.Test.YtmjigfoldeekmaaXA
namespace Go.Proofs.Ytmjigfoldeekmaa.X
open Go.RowKit Go.Proofs.YtmjigfoldeekmaaW.PrintWords Go.Proofs.YtmjigfoldeekmaaW.PrintLast Go.Proofs.YtmjigfoldeekmaaW.PrintMore
attribute [local go_sem] max2_int min2_int max_two min_two max_three min_three max_four min_four isSome_setCell binOp_gtr_str binOp_leq_str binOp_geq_str   -- for this text's walks alone
set_option linter.unusedVariables false
set_option linter.unusedSimpArgs false

/-! ### ancepsref57_Choose: function 29 -/
mutual
def ancepsref57_Choose.j0 : Nat → Int → Int → Bool → List ByteArray → List (S65) → Option (List ByteArray × (List (S65)) × Int)
 | 0, _, _, _, _, _ => none
 | k + 1, x1, x2, x40, x305000, x305001 => if x40 = true then (some (([] : List ByteArray), ([] : List (S65)), 6)) else (ancepsref57_Choose.l0 k x1 x2 0 x305000 x305001 x305000 ([] : List (S65)))
def ancepsref57_Choose.l0 : Nat → Int → Int → Int → List ByteArray → List (S65) → List ByteArray → List (S65) → Option (List ByteArray × (List (S65)) × Int)
 | 0, _, _, _, _, _, _, _ => none
 | k + 1, x1, x2, x10, x305000, x305001, x309000, x309001 => if x10 < (x305001.length : Int) then (if x10 = x1 then (if 0 ≤ x10 then ((ancepsref57_chosen.f k ((rd_T65 x305001 x10).f0) ((rd_T65 x305001 x10).f1) x2 (x305000.length : Int)).bind fun bt310 => (if x309001.length < 3518437208883 then (ancepsref57_Choose.l0 k x1 x2 (wrap64 (x10 + 1)) x305000 x305001 x309000 (x309001 ++ [(⟨bt310.1, bt310.2⟩ : S65)])) else (none))) else (none)) else (if 0 ≤ x10 then (if x309001.length < 3518437208883 then (ancepsref57_Choose.l0 k x1 x2 (wrap64 (x10 + 1)) x305000 x305001 x309000 (x309001 ++ [(⟨(rd_T65 x305001 x10).f0, (rd_T65 x305001 x10).f1⟩ : S65)])) else (none)) else (none))) else (some (x309000, x309001, 0))
end
def ancepsref57_Choose.f (k : Nat) (l0_0 : List ByteArray) (l0_1 : List (S65)) (a1 : Int) (a2 : Int) : Option (List ByteArray × (List (S65)) × Int) := (ancepsref57_Valid.f k l0_0 l0_1).bind fun t306 => (if t306 = 0 then (if a1 < 0 then (ancepsref57_Choose.j0 k a1 a2 true l0_0 l0_1) else (if a1 ≥ (l0_1.length : Int) then (ancepsref57_Choose.j0 k a1 a2 true l0_0 l0_1) else (if a2 < 0 then (ancepsref57_Choose.j0 k a1 a2 true l0_0 l0_1) else (if 0 ≤ a1 then (if a1 < (l0_1.length : Int) then (ancepsref57_Choose.j0 k a1 a2 (decide (a2 ≥ (((rd_T65 l0_1 a1).f1).length : Int))) l0_0 l0_1) else (none)) else (none))))) else (some (([] : List ByteArray), ([] : List (S65)), t306)))
theorem ancepsref57_Choose.mono_l : ∀ k, (∀ y0 y1 y2 y3 y4, LeO (ancepsref57_Choose.j0 k y0 y1 y2 y3 y4) (ancepsref57_Choose.j0 (k + 1) y0 y1 y2 y3 y4)) ∧ (∀ y0 y1 y2 y3 y4 y5 y6, LeO (ancepsref57_Choose.l0 k y0 y1 y2 y3 y4 y5 y6) (ancepsref57_Choose.l0 (k + 1) y0 y1 y2 y3 y4 y5 y6))
 | 0 => ⟨fun _ _ _ _ _ r h => by simp [ancepsref57_Choose.j0] at h, fun _ _ _ _ _ _ _ r h => by simp [ancepsref57_Choose.l0] at h⟩
 | k + 1 => by
  obtain ⟨ih0, ih1⟩ := ancepsref57_Choose.mono_l k
  refine ⟨?_, ?_⟩
  ·intro y0 y1 y2 y3 y4
   unfold ancepsref57_Choose.j0
   repeat' first
   | (with_reducible exact ih0 _ _ _ _ _)
   | (with_reducible exact ih1 _ _ _ _ _ _ _)
   | (with_reducible exact ancepsref57_Valid.mono _ _ _)
   | (with_reducible exact ancepsref57_chosen.mono _ _ _ _ _)
   | (with_reducible exact LeO.refl _)
   | (with_reducible exact LeO.none _)
   | (with_reducible refine LeO.ite ?_ ?_)
   | (with_reducible refine LeO.bind ?_ (fun _ => ?_))
   | exact ih0 _ _ _ _ _
   | exact ih1 _ _ _ _ _ _ _
   | exact ancepsref57_Valid.mono _ _ _
   | exact ancepsref57_chosen.mono _ _ _ _ _
   | exact LeO.none _
   | refine LeO.ite ?_ ?_
   | refine LeO.bind ?_ (fun _ => ?_)
  ·intro y0 y1 y2 y3 y4 y5 y6
   unfold ancepsref57_Choose.l0
   repeat' first
   | (with_reducible exact ih0 _ _ _ _ _)
   | (with_reducible exact ih1 _ _ _ _ _ _ _)
   | (with_reducible exact ancepsref57_Valid.mono _ _ _)
   | (with_reducible exact ancepsref57_chosen.mono _ _ _ _ _)
   | (with_reducible exact LeO.refl _)
   | (with_reducible exact LeO.none _)
   | (with_reducible refine LeO.ite ?_ ?_)
   | (with_reducible refine LeO.bind ?_ (fun _ => ?_))
   | exact ih0 _ _ _ _ _
   | exact ih1 _ _ _ _ _ _ _
   | exact ancepsref57_Valid.mono _ _ _
   | exact ancepsref57_chosen.mono _ _ _ _ _
   | exact LeO.none _
   | refine LeO.ite ?_ ?_
   | refine LeO.bind ?_ (fun _ => ?_)
theorem ancepsref57_Choose.mono : ∀ a0 a1 a2 a3 k, LeO (ancepsref57_Choose.f k a0 a1 a2 a3) (ancepsref57_Choose.f (k + 1) a0 a1 a2 a3) := by
 intro a0 a1 a2 a3 k
 obtain ⟨ih0, ih1⟩ := ancepsref57_Choose.mono_l k
 unfold ancepsref57_Choose.f
 repeat' first
   | (with_reducible exact ih0 _ _ _ _ _)
   | (with_reducible exact ih1 _ _ _ _ _ _ _)
   | (with_reducible exact ancepsref57_Valid.mono _ _ _)
   | (with_reducible exact ancepsref57_chosen.mono _ _ _ _ _)
   | (with_reducible exact LeO.refl _)
   | (with_reducible exact LeO.none _)
   | (with_reducible refine LeO.ite ?_ ?_)
   | (with_reducible refine LeO.bind ?_ (fun _ => ?_))
   | exact ih0 _ _ _ _ _
   | exact ih1 _ _ _ _ _ _ _
   | exact ancepsref57_Valid.mono _ _ _
   | exact ancepsref57_chosen.mono _ _ _ _ _
   | exact LeO.none _
   | refine LeO.ite ?_ ?_
   | refine LeO.bind ?_ (fun _ => ?_)
def ancepsref57_Choose.T11 : Bool × List (List Nat × List Nat) := (true, [([], []), ([0], [0]), ([], []), ([2], [2]), ([], []), ([3, 4], [3, 4]), ([5], [5]), ([], []), ([], []), ([8], [8]), ([9], [9]), ([6, 7, 10], [6, 7, 10]), ([11], [11]), ([1, 12, 11], [1, 12]), ([0, 1, 2, 3, 4, 5, 6, 7, 8, 9, 10, 11, 12, 13], []), ([14, 13, 13, 0, 1, 2, 3, 4, 5, 6, 7, 8, 9, 10, 11, 12, 13], [13, 14])])
def ancepsref57_Choose.B11 : List Nat := [0, 1, 0, 4, 0, 28, 60, 0, 0, 256, 768, 2044, 4092, 8191, 16383, 32767]
theorem ancepsref57_Choose.tab11 : rtab .any (opsOf Try.f29 11) = ancepsref57_Choose.T11 := by kernel_rfl
theorem ancepsref57_Choose.bits11 : waitsOk ancepsref57_Choose.T11.2 ancepsref57_Choose.B11 = true := by kernel_rfl
def ancepsref57_Choose.T12 : Bool × List (List Nat × List Nat) := (true, [([], []), ([0], [0]), ([], []), ([2], [2]), ([], []), ([3, 4], [3, 4]), ([5], [5]), ([6], [6]), ([1, 7], [1, 7]), ([0, 1, 2, 3, 4, 5, 6, 7, 8], []), ([9, 8, 8, 0, 1, 2, 3, 4, 5, 6, 7, 8], [8, 9])])
def ancepsref57_Choose.B12 : List Nat := [0, 1, 0, 4, 0, 28, 60, 124, 255, 511, 1023]
theorem ancepsref57_Choose.tab12 : rtab .any (opsOf Try.f29 12) = ancepsref57_Choose.T12 := by kernel_rfl
theorem ancepsref57_Choose.bits12 : waitsOk ancepsref57_Choose.T12.2 ancepsref57_Choose.B12 = true := by kernel_rfl
set_option maxHeartbeats 8000000 in
set_option maxRecDepth 100000 in
theorem ancepsref57_Choose.calls (k : Nat) (P0_0_ : Nat → Prop) (A0_0 : Option Addr) (c0_0 : Nat) (l0_0 : List ByteArray) (P0_1_ : Nat → Prop) (A0_1 : Option Addr) (c0_1 : Nat) (l0_1 : List (S65)) (a1 : Int) (a2 : Int) (r1 : List ByteArray) (r2 : List (S65)) (r3 : Int) (w : World) (hs0_0 : Kd.V Kd.string 9 w w.heap.size (fun k_ => P0_0_ k_) (.slice A0_0 l0_0.length c0_0) l0_0) (hs0_1 : Kd.V k65 65 w w.heap.size (fun k_ => P0_1_ k_) (.slice A0_1 l0_1.length c0_1) l0_1) (h : ancepsref57_Choose.f k l0_0 l0_1 a1 a2 = some (r1, r2, r3)) :
  Calls Try.prog 29 #[.agg #[.slice A0_0 l0_0.length c0_0, .slice A0_1 l0_1.length c0_1], .int .i64 a1, .int .i64 a2] w fun e w' => ∃ v0_ v1_ : Value, e = .returned (.tuple #[.agg #[v0_, v1_], .int .i64 r3]) ∧ Kd.V Kd.string 9 w' w.heap.size (fun k_ => ((P0_0_ k_ ∨ P0_1_ k_) ∨ w.heap.size ≤ k_) ∧ some k_ ≠ (v1_ : Value).ownBlock) v0_ r1 ∧ Kd.N k65 65 w' w.heap.size (fun k_ => ((P0_0_ k_ ∨ P0_1_ k_) ∨ w.heap.size ≤ k_)) v1_ r2 ∧ Below w.heap.size w w' := by
 have hu42 := Try.underlying42
 have hu65 := Try.underlying65
 have HO0_0 := Aside0.mk (show Kd.V Kd.string 9 w w.heap.size (fun k_ => ((P0_0_ k_ ∨ P0_1_ k_) ∨ w.heap.size ≤ k_)) (.slice A0_0 l0_0.length c0_0) l0_0 from Kd.V_mono hs0_0 (fun k_ hk => .inl (.inl hk)))
 have HO0_1 := Aside0.mk (show Kd.V k65 65 w w.heap.size (fun k_ => ((P0_0_ k_ ∨ P0_1_ k_) ∨ w.heap.size ≤ k_)) (.slice A0_1 l0_1.length c0_1) l0_1 from Kd.V_mono hs0_1 (fun k_ hk => .inl (.inr hk)))
 have HB := Aside0.mk (Below.refl w.heap.size w)
 have H : ((ancepsref57_Valid.f k l0_0 l0_1).bind fun t306 => (if t306 = 0 then (if a1 < 0 then (ancepsref57_Choose.j0 k a1 a2 true l0_0 l0_1) else (if a1 ≥ (l0_1.length : Int) then (ancepsref57_Choose.j0 k a1 a2 true l0_0 l0_1) else (if a2 < 0 then (ancepsref57_Choose.j0 k a1 a2 true l0_0 l0_1) else (if 0 ≤ a1 then (if a1 < (l0_1.length : Int) then (ancepsref57_Choose.j0 k a1 a2 (decide (a2 ≥ (((rd_T65 l0_1 a1).f1).length : Int))) l0_0 l0_1) else (none)) else (none))))) else (some (([] : List ByteArray), ([] : List (S65)), t306)))) = some (r1, r2, r3) := h
 clear h
 replace H := Option.bind_eq_some_iff.mp H
 obtain ⟨t306, A40, H⟩ := H
 try dsimp only at H
 have A4 := Aside0.mk A40
 clear A40
 by_cases c5 : t306 = 0
 ·rw [if_pos c5] at H
  have c5b0 : (t306 == 0) = true := beq_iff_eq.mpr c5
  have c5b1 : (t306 != 0) = false := bne_eq_false_iff_eq.mpr c5
  clear c5
  have HC6 := Aside0.mk H
  clear H
  go_enter Try.func29, Try.ntmps29
  go_upto_region 4 with (first | ((with_reducible refine gate_dst (N := 3) rfl ?_); (try (refine gate_guard (by rfl) ?_; dsimp only)); refine bX 3 #[.slice A0_0 l0_0.length c0_0, .slice A0_1 l0_1.length c0_1] 42 ?_; intro gb304 hg w7 hbox hb; have n0_ := Aside0.mk (Kd.V_below (Kd.V_elderB (iV HO0_0) gb304 (Nat.le_of_eq hg.symm)) hb); have n1_ := Aside0.mk (Kd.V_below (Kd.V_elderB (iV HO0_1) gb304 (Nat.le_of_eq hg.symm)) hb); have n2_ := jL HB hb; have n3_ := Aside0.mk (hbox); have n4_ := Aside0.mk ((by rw [hg]; exact (below_size (iL HB)) : w.heap.size ≤ gb304)); have n5_ := Aside0.mk ((by rw [hg]; exact (below_size (iL HB)) : w.heap.size ≤ gb304)); clear HO0_0; clear HO0_1; clear HB; have HO0_0 := n0_; have HO0_1 := n1_; have HB := n2_; have BK304 := n3_; have GW304 := n4_; have GE304 := n5_; clear n0_ n1_ n2_ n3_ n4_ n5_; clear hb hbox hg) | ((with_reducible refine gate_dst (N := 6) rfl ?_); (try (refine gate_guard (by rfl) ?_; dsimp only)); refine bX 6 #[.slice none 0 0, .slice none 0 0] 42 ?_; intro gb305 hg w8 hbox hb; have n0_ := Aside0.mk (Kd.V_below (Kd.V_elderB (iV HO0_0) gb305 (Nat.le_of_eq hg.symm)) hb); have n1_ := Aside0.mk (Kd.V_below (Kd.V_elderB (iV HO0_1) gb305 (Nat.le_of_eq hg.symm)) hb); have n2_ := jB BK304 hb; have n3_ := jL HB hb; have n4_ := Aside0.mk (hbox); have n5_ := Aside0.mk ((by rw [hg]; exact (below_size (iL HB)) : w.heap.size ≤ gb305)); have n6_ := Aside0.mk ((by rw [hg]; exact (below_size (iL HB)) : w.heap.size ≤ gb305)); have n7_ := Aside0.mk ((by rw [hg]; exact Nat.ne_of_lt (blk_lt (g := gb304) (o := .cells #[.slice A0_0 l0_0.length c0_0, .slice A0_1 l0_1.length c0_1] 42 (0, 0)) (iB BK304)) : gb304 ≠ gb305)); have n8_ := Aside0.mk ((by rw [hg]; exact Nat.ne_of_gt (blk_lt (g := gb304) (o := .cells #[.slice A0_0 l0_0.length c0_0, .slice A0_1 l0_1.length c0_1] 42 (0, 0)) (iB BK304)) : gb305 ≠ gb304)); clear HO0_0; clear HO0_1; clear BK304; clear HB; have HO0_0 := n0_; have HO0_1 := n1_; have BK304 := n2_; have HB := n3_; have BK305 := n4_; have GW305 := n5_; have GE305 := n6_; have NB304_305 := n7_; have NB305_304 := n8_; clear n0_ n1_ n2_ n3_ n4_ n5_ n6_ n7_ n8_; clear hb hbox hg; have hnb9 := NB304_305.out; have hnc9 := NB305_304.out; have hcz10_0 := cZ BK304 0 (.slice A0_0 l0_0.length c0_0); have hcz10_1 := cZ BK304 1 (.slice A0_1 l0_1.length c0_1); have hfz10_0 := blk_frozen BK304.out 0; have hfz10_1 := blk_frozen BK304.out 1) | ((with_reducible refine gate_callee (f := 54) rfl ?_); refine gL_ (some 12) Try.func54 #[.agg #[.slice A0_0 l0_0.length c0_0, .slice A0_1 l0_1.length c0_1]] ?_; (with_reducible refine (ancepsref57_Valid.calls k _ _ l0_0 _ _ l0_1 t306 _ ?side1 ?side2 ?side3 ?side4 A4.out).mono ?_); (case side1 => repeat (first | exact (Kd.V_reads' HO0_0.out).2.2 | (with_reducible refine Kd.C_alloc ?_ _) | (with_reducible refine Kd.C_drewN ?_ _) | (with_reducible refine Kd.C_drew ?_))); (case side2 => exact (Kd.V_reads' HO0_0.out).2.1); (case side3 => repeat (first | exact (Kd.V_reads' HO0_1.out).2.2 | (with_reducible refine Kd.C_alloc ?_ _) | (with_reducible refine Kd.C_drewN ?_ _) | (with_reducible refine Kd.C_drew ?_))); (case side4 => exact (Kd.V_reads' HO0_1.out).2.1); rintro e w11 ⟨rfl, hb⟩; refine ⟨_, rfl, ?_⟩; have n0_ := Aside0.mk (Kd.V_below (iV HO0_0) hb); have n1_ := Aside0.mk (Kd.V_below (iV HO0_1) hb); have n2_ := jB BK304 hb; have n3_ := jB BK305 hb; have n4_ := jL HB hb; clear HO0_0; clear HO0_1; clear BK304; clear BK305; clear HB; have HO0_0 := n0_; have HO0_1 := n1_; have BK304 := n2_; have BK305 := n3_; have HB := n4_; clear n0_ n1_ n2_ n3_ n4_; (try clear hb)))
  (try simp only [Act.put, List.setIfInBounds_toArray, List.set_cons_zero, List.set_cons_succ])
  go_cut [40] (fun v40 wc => ∃ (kq : Nat) (x40_5 : Bool), v40 = .bool x40_5 ∧ Aside0 (ancepsref57_Choose.j0 kq a1 a2 x40_5 l0_0 l0_1 = some (r1, r2, r3)) ∧ Aside0 (kq ≤ k) ∧ Aside0 (Kd.V Kd.string 9 wc w.heap.size (fun k_ => ((P0_0_ k_ ∨ P0_1_ k_) ∨ w.heap.size ≤ k_) ∧ k_ ≠ gb304 ∧ k_ ≠ gb305) (.slice A0_0 l0_0.length c0_0) l0_0) ∧ Aside0 (Kd.V k65 65 wc w.heap.size (fun k_ => ((P0_0_ k_ ∨ P0_1_ k_) ∨ w.heap.size ≤ k_) ∧ k_ ≠ gb304 ∧ k_ ≠ gb305) (.slice A0_1 l0_1.length c0_1) l0_1) ∧ Aside0 (wc.heap[gb304]? = some (.cells #[(.slice A0_0 l0_0.length c0_0), (.slice A0_1 l0_1.length c0_1)] 42 (0, 0))) ∧ Aside0 (wc.heap[gb305]? = some (.cells #[(.slice none 0 0), (.slice none 0 0)] 42 (0, 0))) ∧ Aside0 (Below w.heap.size w wc))
  case first =>
   have H := HC6.out
   clear HC6
   by_cases c12 : a1 < 0
   ·rw [if_pos c12] at H
    have c12b0 : decide (a1 < 0) = true := decide_eq_true c12
    clear c12
    (first | rw [c12b0] | (simp only [i64_w, i32_w]; rw [c12b0]) | skip)
    have H' := Aside0.mk H
    clear H
    go_wp2
    go_meet
    case rel => exact ⟨_, (true), eV, H', ⟨by first | omega | exact Nat.le_refl _⟩, ⟨by (with_reducible repeat (first | apply Kd.V_alloc | apply Kd.V_drewN | apply Kd.V_drew)); exact Kd.V_mono HO0_0.out (fun _ hk => ⟨hk.1.1, ⟨hk.1.2, hk.2⟩⟩)⟩, ⟨by (with_reducible repeat (first | apply Kd.V_alloc | apply Kd.V_drewN | apply Kd.V_drew)); exact Kd.V_mono HO0_1.out (fun _ hk => ⟨hk.1.1, ⟨hk.1.2, hk.2⟩⟩)⟩, ⟨iB BK304⟩, ⟨iB BK305⟩, ⟨iL HB⟩⟩
   ·rw [if_neg c12] at H
    have c12b0 : decide (a1 < 0) = false := decide_eq_false c12
    clear c12
    (first | rw [c12b0] | (simp only [i64_w, i32_w]; rw [c12b0]) | skip)
    by_cases c13 : a1 ≥ (l0_1.length : Int)
    ·rw [if_pos c13] at H
     have c13b0 : decide ((l0_1.length : Int) ≤ a1) = true := decide_eq_true c13
     clear c13
     have H' := Aside0.mk H
     clear H
     have hnb14 := NB304_305.out
     have hnc14 := NB305_304.out
     have hcz15_0 := cZ BK304 0 (.slice A0_0 l0_0.length c0_0)
     have hcz15_1 := cZ BK304 1 (.slice A0_1 l0_1.length c0_1)
     have hfz15_0 := blk_frozen BK304.out 0
     have hfz15_1 := blk_frozen BK304.out 1
     go_wp2
     go_meet
     case rel => exact ⟨_, (true), eV, H', ⟨by first | omega | exact Nat.le_refl _⟩, ⟨by (with_reducible repeat (first | apply Kd.V_alloc | apply Kd.V_drewN | apply Kd.V_drew)); exact Kd.V_mono HO0_0.out (fun _ hk => ⟨hk.1.1, ⟨hk.1.2, hk.2⟩⟩)⟩, ⟨by (with_reducible repeat (first | apply Kd.V_alloc | apply Kd.V_drewN | apply Kd.V_drew)); exact Kd.V_mono HO0_1.out (fun _ hk => ⟨hk.1.1, ⟨hk.1.2, hk.2⟩⟩)⟩, ⟨iB BK304⟩, ⟨iB BK305⟩, ⟨iL HB⟩⟩
    ·rw [if_neg c13] at H
     have c13b0 : decide ((l0_1.length : Int) ≤ a1) = false := decide_eq_false c13
     clear c13
     by_cases c16 : a2 < 0
     ·rw [if_pos c16] at H
      have c16b0 : decide (a2 < 0) = true := decide_eq_true c16
      clear c16
      have H' := Aside0.mk H
      clear H
      have hnb17 := NB304_305.out
      have hnc17 := NB305_304.out
      have hcz18_0 := cZ BK304 0 (.slice A0_0 l0_0.length c0_0)
      have hcz18_1 := cZ BK304 1 (.slice A0_1 l0_1.length c0_1)
      have hfz18_0 := blk_frozen BK304.out 0
      have hfz18_1 := blk_frozen BK304.out 1
      go_wp2
      go_meet
      case rel => exact ⟨_, (true), eV, H', ⟨by first | omega | exact Nat.le_refl _⟩, ⟨by (with_reducible repeat (first | apply Kd.V_alloc | apply Kd.V_drewN | apply Kd.V_drew)); exact Kd.V_mono HO0_0.out (fun _ hk => ⟨hk.1.1, ⟨hk.1.2, hk.2⟩⟩)⟩, ⟨by (with_reducible repeat (first | apply Kd.V_alloc | apply Kd.V_drewN | apply Kd.V_drew)); exact Kd.V_mono HO0_1.out (fun _ hk => ⟨hk.1.1, ⟨hk.1.2, hk.2⟩⟩)⟩, ⟨iB BK304⟩, ⟨iB BK305⟩, ⟨iL HB⟩⟩
     ·rw [if_neg c16] at H
      have c16b0 : decide (a2 < 0) = false := decide_eq_false c16
      clear c16
      by_cases c19 : 0 ≤ a1
      ·rw [if_pos c19] at H
       have c19b0 : decide (0 ≤ a1) = true := decide_eq_true c19
       clear c19
       by_cases c20 : a1 < (l0_1.length : Int)
       ·rw [if_pos c20] at H
        have c20b0 : decide (a1 < (l0_1.length : Int)) = true := decide_eq_true c20
        clear c20
        have H' := Aside0.mk H
        clear H
        have hnb21 := NB304_305.out
        have hnc21 := NB305_304.out
        have hcz22_0 := cZ BK304 0 (.slice A0_0 l0_0.length c0_0)
        have hcz22_1 := cZ BK304 1 (.slice A0_1 l0_1.length c0_1)
        have hfz22_0 := blk_frozen BK304.out 0
        have hfz22_1 := blk_frozen BK304.out 1
        have p307 := oD (0 ≤ (a1 : Int))
        have q307 := oD (a1 < (l0_1.length : Int))
        obtain ⟨ad307, A307_1, c307_1, e307, hx307_0, hx307_1, hl307_1, hi307_1⟩ := at_T65 (Kd.V_reads' HO0_1.out).2.2 a1 p307 q307
        cases e307
        obtain ⟨ce307, hce307, hMe307, hcc307⟩ := Kd.V_get HO0_1.out z65 a1 p307 (by first | exact q307 | exact of_decide_eq_true (by first | (with_reducible assumption) | assumption) | (have e_ := (Kd.V_reads' HO0_1.out).1; omega))
        obtain ⟨ua307_1, uc307_1, rfl, ul307_1, ge307_1⟩ := k65_openF hMe307
        have hv307_1 := hcc307 1 _ rfl
        rw [add_field _ _ 1 (by omega)] at hv307_1
        replace hv307_1 := Option.some.inj (hv307_1.symm.trans hx307_1)
        injection hv307_1 with hva_ hvn_ hvc_
        rw [hva_] at ge307_1
        rw [hvc_] at ul307_1
        have HL307_1 := Aside0.mk (show Kd.V k67 67 _ w.heap.size _ _ ((rd_T65 l0_1 a1).f1) from Kd.V_mk ul307_1 ge307_1)
        clear hva_ hvn_ hvc_ ge307_1 ul307_1
        clear hcc307 hce307
        have HR307_1 := Aside0.mk hi307_1
        have HC307_1 := Aside0.mk hl307_1
        clear hi307_1 hl307_1
        replace p307 := eq_true p307
        replace q307 := eq_true q307
        go_wp2
        go_meet
        case rel => exact ⟨_, (decide (a2 ≥ (((rd_T65 l0_1 a1).f1).length : Int))), eV, H', ⟨by first | omega | exact Nat.le_refl _⟩, ⟨by (with_reducible repeat (first | apply Kd.V_alloc | apply Kd.V_drewN | apply Kd.V_drew)); exact Kd.V_mono HO0_0.out (fun _ hk => ⟨hk.1.1, ⟨hk.1.2, hk.2⟩⟩)⟩, ⟨by (with_reducible repeat (first | apply Kd.V_alloc | apply Kd.V_drewN | apply Kd.V_drew)); exact Kd.V_mono HO0_1.out (fun _ hk => ⟨hk.1.1, ⟨hk.1.2, hk.2⟩⟩)⟩, ⟨iB BK304⟩, ⟨iB BK305⟩, ⟨iL HB⟩⟩
       ·rw [if_neg c20] at H
        exact absurd H (by simp)
      ·rw [if_neg c19] at H
       exact absurd H (by simp)
  case rest =>
   clear HC6
   (try clear c1); (try clear c2); (try clear p2); (try clear c3); (try clear p3); (try clear q3); (try clear hx3); (try clear c5); (try clear c5b0); (try clear c5b1); (try clear c9); (try clear c12); (try clear c12b0); (try clear c13); (try clear c13b0); (try clear c14); (try clear c16); (try clear c16b0); (try clear c17); (try clear c19); (try clear c19b0); (try clear c20); (try clear c20b0); (try clear c21); (try clear hcz10_0); (try clear hcz10_1); (try clear hcz15_0); (try clear hcz15_1); (try clear hcz18_0); (try clear hcz18_1); (try clear hcz22_0); (try clear hcz22_1); (try clear hfz10_0); (try clear hfz10_1); (try clear hfz15_0); (try clear hfz15_1); (try clear hfz18_0); (try clear hfz18_1); (try clear hfz22_0); (try clear hfz22_1); (try clear hx307_0); (try clear hx307_1); (try clear p307); (try clear q307)
   obtain ⟨kq, x40_5, rfl, HA, HJ5, HO_305000, HO_305001, BK304, BK305, HB⟩ := hcut
   cases kq with
   | zero => exact absurd HA.out (by simp [ancepsref57_Choose.j0])
   | succ kj5 =>
    have H := HA.out
    clear HA
    simp only [ancepsref57_Choose.j0] at H
    by_cases c23 : x40_5 = true
    ·subst c23
     have H1 : (some (([] : List ByteArray), ([] : List (S65)), 6)) = some (r1, r2, r3) := by rw [if_pos rfl] at H; exact H
     clear H
     have H := H1
     clear H1
     simp only [Option.some.injEq, Prod.mk.injEq] at H
     obtain ⟨rfl, rfl, rfl⟩ := H
     have hnb24 := NB305_304.out
     have hnc24 := NB304_305.out
     have hcz25_0 := cZ BK305 0 (.slice none 0 0)
     have hcz25_1 := cZ BK305 1 (.slice none 0 0)
     have hfz25_0 := blk_frozen BK305.out 0
     have hfz25_1 := blk_frozen BK305.out 1
     go_wp2
     refine bodyPost_ret (results_ct rfl _ _ gb305 42 #[.slice none 0 0, .slice none 0 0] (0, 0) _ rfl (by (with_reducible repeat (first | apply blk_drewN | apply blk_drew | apply blk_alloc)); refine blk_put (cs := #[.slice none 0 0, .slice none 0 0]) ?_ 1 _ rfl; (with_reducible repeat (first | apply blk_drewN | apply blk_drew | apply blk_alloc)); refine blk_put (cs := #[.slice none 0 0, .slice none 0 0]) ?_ 0 _ rfl; (with_reducible repeat (first | apply blk_drewN | apply blk_drew | apply blk_alloc)); exact BK305.out) Try.underlying42 rfl (by kernel_rfl)) rfl ?_
     exact ⟨_, _, eV, Kd.V_nil _ _ _ _ _, by first | exact Kd.S_nil _ _ _ _ _ | exact Kd.N_nil _ _ _ _ _ | exact Kd.V_nil _ _ _ _ _ | exact Kd.Q_nil _ _ _ _ _ | exact Kd.R_nil _ _ _ _ _, iL HB⟩
    ·replace c23 := Bool.eq_false_iff.mpr c23
     subst c23
     have H1 : (ancepsref57_Choose.l0 kj5 a1 a2 0 l0_0 l0_1 l0_0 ([] : List (S65))) = some (r1, r2, r3) := by rw [if_neg (show ¬ (false = true) by decide)] at H; exact H
     clear H
     have H := H1
     clear H1
     have H' := Aside0.mk H
     clear H
     have hnb26 := NB304_305.out
     have hnc26 := NB305_304.out
     have hcz27_0 := cZ BK304 0 (.slice A0_0 l0_0.length c0_0)
     have hcz27_1 := cZ BK304 1 (.slice A0_1 l0_1.length c0_1)
     have hfz27_0 := blk_frozen BK304.out 0
     have hfz27_1 := blk_frozen BK304.out 1
     go_wp2_with (first | ((with_reducible refine gate_dst (N := 9) rfl ?_); (try (refine gate_guard (by rfl) ?_; dsimp only)); refine bX 9 #[.slice none 0 0, .slice none 0 0] 42 ?_; intro gb308 hg w28 hbox hb; have n0_ := Aside0.mk (Kd.V_below (Kd.V_elderB (iV HO_305000) gb308 (Nat.le_of_eq hg.symm)) hb); have n1_ := Aside0.mk (Kd.V_below (Kd.V_elderB (iV HO_305001) gb308 (Nat.le_of_eq hg.symm)) hb); have n2_ := jB BK304 hb; have n3_ := jB BK305 hb; have n4_ := jL HB hb; have n5_ := Aside0.mk (hbox); have n6_ := Aside0.mk ((by rw [hg]; exact (below_size (iL HB)) : w.heap.size ≤ gb308)); have n7_ := Aside0.mk ((by rw [hg]; exact (below_size (iL HB)) : w.heap.size ≤ gb308)); have n8_ := Aside0.mk ((by rw [hg]; exact Nat.ne_of_lt (blk_lt (g := gb304) (o := .cells #[.slice A0_0 l0_0.length c0_0, .slice A0_1 l0_1.length c0_1] 42 (0, 0)) (iB BK304)) : gb304 ≠ gb308)); have n9_ := Aside0.mk ((by rw [hg]; exact Nat.ne_of_gt (blk_lt (g := gb304) (o := .cells #[.slice A0_0 l0_0.length c0_0, .slice A0_1 l0_1.length c0_1] 42 (0, 0)) (iB BK304)) : gb308 ≠ gb304)); have n10_ := Aside0.mk ((by rw [hg]; exact Nat.ne_of_lt (blk_lt (g := gb305) (o := .cells #[.slice none 0 0, .slice none 0 0] 42 (0, 0)) (iB BK305)) : gb305 ≠ gb308)); have n11_ := Aside0.mk ((by rw [hg]; exact Nat.ne_of_gt (blk_lt (g := gb305) (o := .cells #[.slice none 0 0, .slice none 0 0] 42 (0, 0)) (iB BK305)) : gb308 ≠ gb305)); clear HO_305000; clear HO_305001; clear BK304; clear BK305; clear HB; have HO_305000 := n0_; have HO_305001 := n1_; have BK304 := n2_; have BK305 := n3_; have HB := n4_; have BK308 := n5_; have GW308 := n6_; have GE308 := n7_; have NB304_308 := n8_; have NB308_304 := n9_; have NB305_308 := n10_; have NB308_305 := n11_; clear n0_ n1_ n2_ n3_ n4_ n5_ n6_ n7_ n8_ n9_ n10_ n11_; clear hb hbox hg; have hnb29 := NB308_304.out; have hnc29 := NB304_308.out; have hnb30 := NB308_305.out; have hnc30 := NB305_308.out; have hcz31_0 := cZ BK308 0 (.slice none 0 0); have hcz31_1 := cZ BK308 1 (.slice none 0 0); have hfz31_0 := blk_frozen BK308.out 0; have hfz31_1 := blk_frozen BK308.out 1))
     go_loopg [10] kj5 (fun kq v10 w' => ∃ (x10_2 : Int) (x309001_2 : List (S65)) (u309001 : Value), v10 = .int .i64 x10_2 ∧ Aside0 (ancepsref57_Choose.l0 kq a1 a2 x10_2 l0_0 l0_1 l0_0 x309001_2 = some (r1, r2, r3)) ∧ Aside0 (kq ≤ kj5) ∧ Aside0 (Kd.V Kd.string 9 w' w.heap.size (fun k_ => ((P0_0_ k_ ∨ P0_1_ k_) ∨ w.heap.size ≤ k_) ∧ some k_ ≠ (u309001 : Value).ownBlock ∧ k_ ≠ gb304 ∧ k_ ≠ gb305 ∧ k_ ≠ gb308) (.slice A0_0 l0_0.length c0_0) l0_0) ∧ Aside0 (Kd.V k65 65 w' w.heap.size (fun k_ => ((P0_0_ k_ ∨ P0_1_ k_) ∨ w.heap.size ≤ k_) ∧ some k_ ≠ (u309001 : Value).ownBlock ∧ k_ ≠ gb304 ∧ k_ ≠ gb305 ∧ k_ ≠ gb308) (.slice A0_1 l0_1.length c0_1) l0_1) ∧ Aside0 (Kd.V Kd.string 9 w' w.heap.size (fun k_ => ((P0_0_ k_ ∨ P0_1_ k_) ∨ w.heap.size ≤ k_) ∧ some k_ ≠ (u309001 : Value).ownBlock ∧ k_ ≠ gb304 ∧ k_ ≠ gb305 ∧ k_ ≠ gb308) (.slice A0_0 l0_0.length c0_0) l0_0) ∧ Aside0 (Kd.N k65 65 w' w.heap.size (fun k_ => ((P0_0_ k_ ∨ P0_1_ k_) ∨ w.heap.size ≤ k_) ∧ k_ ≠ gb304 ∧ k_ ≠ gb305 ∧ k_ ≠ gb308) u309001 x309001_2) ∧ Aside0 (w'.heap[gb304]? = some (.cells #[(.slice A0_0 l0_0.length c0_0), (.slice A0_1 l0_1.length c0_1)] 42 (0, 0))) ∧ Aside0 (w'.heap[gb305]? = some (.cells #[(.slice none 0 0), (.slice none 0 0)] 42 (0, 0))) ∧ Aside0 (w'.heap[gb308]? = some (.cells #[(.slice A0_0 l0_0.length c0_0), u309001] 42 (0, 0))) ∧ Aside0 (Below w.heap.size w w'))
     case atStart => exact ⟨(0), (([] : List (S65))), (.slice none 0 0), eV, H', ⟨Nat.le_refl _⟩, ⟨by (with_reducible repeat (first | apply Kd.V_alloc | apply Kd.V_drewN | apply Kd.V_drew)); exact Kd.V_mono (Kd.V_far (p := ⟨gb308, 1, none⟩) (Kd.V_far (p := ⟨gb308, 0, none⟩) (Kd.V_mono HO_305000.out (fun k_ hk => (⟨hk, hk.2⟩ : _ ∧ k_ ≠ gb308))) (fun _ hk => hk.2) (.slice A0_0 l0_0.length c0_0)) (fun _ hk => hk.2) (.slice none 0 0)) (fun _ hk => ⟨hk.1.1.1, ⟨(by simp [Value.ownBlock]), ⟨hk.1.1.2.1, ⟨hk.1.1.2.2, hk.1.2⟩⟩⟩⟩)⟩, ⟨by (with_reducible repeat (first | apply Kd.V_alloc | apply Kd.V_drewN | apply Kd.V_drew)); exact Kd.V_mono (Kd.V_far (p := ⟨gb308, 1, none⟩) (Kd.V_far (p := ⟨gb308, 0, none⟩) (Kd.V_mono HO_305001.out (fun k_ hk => (⟨hk, hk.2⟩ : _ ∧ k_ ≠ gb308))) (fun _ hk => hk.2) (.slice A0_0 l0_0.length c0_0)) (fun _ hk => hk.2) (.slice none 0 0)) (fun _ hk => ⟨hk.1.1.1, ⟨(by simp [Value.ownBlock]), ⟨hk.1.1.2.1, ⟨hk.1.1.2.2, hk.1.2⟩⟩⟩⟩)⟩, ⟨by (with_reducible repeat (first | apply Kd.V_alloc | apply Kd.V_drewN | apply Kd.V_drew)); exact Kd.V_mono (Kd.V_far (p := ⟨gb308, 1, none⟩) (Kd.V_far (p := ⟨gb308, 0, none⟩) (Kd.V_mono HO_305000.out (fun k_ hk => (⟨hk, hk.2⟩ : _ ∧ k_ ≠ gb308))) (fun _ hk => hk.2) (.slice A0_0 l0_0.length c0_0)) (fun _ hk => hk.2) (.slice none 0 0)) (fun _ hk => ⟨hk.1.1.1, ⟨(by simp [Value.ownBlock]), ⟨hk.1.1.2.1, ⟨hk.1.1.2.2, hk.1.2⟩⟩⟩⟩)⟩, ⟨by first | exact Kd.S_nil _ _ _ _ _ | exact Kd.N_nil _ _ _ _ _ | exact Kd.V_nil _ _ _ _ _ | exact Kd.Q_nil _ _ _ _ _ | exact Kd.R_nil _ _ _ _ _⟩, ⟨by (with_reducible repeat (first | apply blk_drewN | apply blk_drew | apply blk_alloc)); refine blk_far ?_ NB304_308.out _; (with_reducible repeat (first | apply blk_drewN | apply blk_drew | apply blk_alloc)); refine blk_far ?_ NB304_308.out _; (with_reducible repeat (first | apply blk_drewN | apply blk_drew | apply blk_alloc)); exact BK304.out⟩, ⟨by (with_reducible repeat (first | apply blk_drewN | apply blk_drew | apply blk_alloc)); refine blk_far ?_ NB305_308.out _; (with_reducible repeat (first | apply blk_drewN | apply blk_drew | apply blk_alloc)); refine blk_far ?_ NB305_308.out _; (with_reducible repeat (first | apply blk_drewN | apply blk_drew | apply blk_alloc)); exact BK305.out⟩, ⟨by (with_reducible repeat (first | apply blk_drewN | apply blk_drew | apply blk_alloc)); refine blk_put (cs := #[.slice A0_0 l0_0.length c0_0, .slice none 0 0]) ?_ 1 _ rfl; (with_reducible repeat (first | apply blk_drewN | apply blk_drew | apply blk_alloc)); refine blk_put (cs := #[.slice none 0 0, .slice none 0 0]) ?_ 0 _ rfl; (with_reducible repeat (first | apply blk_drewN | apply blk_drew | apply blk_alloc)); exact BK308.out⟩, ⟨iL HB⟩⟩
     case round =>
      clear H'
      (try clear c1); (try clear c2); (try clear p2); (try clear c3); (try clear p3); (try clear q3); (try clear hx3); (try clear c5); (try clear c5b0); (try clear c5b1); (try clear c9); (try clear c12); (try clear c12b0); (try clear c13); (try clear c13b0); (try clear c14); (try clear c16); (try clear c16b0); (try clear c17); (try clear c19); (try clear c19b0); (try clear c20); (try clear c20b0); (try clear c21); (try clear c23); (try clear c24); (try clear c26); (try clear c29); (try clear c30); (try clear p30); (try clear q30); (try clear hx30); (try clear hcz10_0); (try clear hcz10_1); (try clear hcz15_0); (try clear hcz15_1); (try clear hcz18_0); (try clear hcz18_1); (try clear hcz22_0); (try clear hcz22_1); (try clear hcz25_0); (try clear hcz25_1); (try clear hcz27_0); (try clear hcz27_1); (try clear hcz31_0); (try clear hcz31_1); (try clear hfz10_0); (try clear hfz10_1); (try clear hfz15_0); (try clear hfz15_1); (try clear hfz18_0); (try clear hfz18_1); (try clear hfz22_0); (try clear hfz22_1); (try clear hfz25_0); (try clear hfz25_1); (try clear hfz27_0); (try clear hfz27_1); (try clear hfz31_0); (try clear hfz31_1); (try clear hx307_0); (try clear hx307_1); (try clear p2); (try clear p3); (try clear p307); (try clear q3); (try clear q307)
      obtain ⟨x10_2, x309001_2, u309001, rfl, HA, HK2, HO_305000, HO_305001, HO_309000, HO_309001, BK304, BK305, BK308, HB⟩ := hrel
      cases gk with
      | zero => exact absurd HA.out (by simp [ancepsref57_Choose.l0])
      | succ k2 =>
       have H := HA.out
       clear HA
       simp only [ancepsref57_Choose.l0] at H
       by_cases c32 : x10_2 < (l0_1.length : Int)
       ·rw [if_pos c32] at H
        have c32b0 : decide (x10_2 < (l0_1.length : Int)) = true := decide_eq_true c32
        clear c32
        by_cases c33 : x10_2 = a1
        ·rw [if_pos c33] at H
         have c33b0 : (x10_2 == a1) = true := beq_iff_eq.mpr c33
         have c33b1 : (x10_2 != a1) = false := bne_eq_false_iff_eq.mpr c33
         clear c33
         by_cases c34 : 0 ≤ x10_2
         ·rw [if_pos c34] at H
          have c34b0 : decide (0 ≤ x10_2) = true := decide_eq_true c34
          clear c34
          replace H := Option.bind_eq_some_iff.mp H
          obtain ⟨⟨t310, t311⟩, A350, H⟩ := H
          try dsimp only at H
          have A35 := Aside0.mk A350
          clear A350
          by_cases c36 : x309001_2.length < 3518437208883
          ·rw [if_pos c36] at H
           have LMc36 := Aside0.mk c36
           clear c36
           obtain ⟨y314, hy314⟩ : ∃ y_ : List (S65), y_ = (x309001_2 ++ [(⟨t310, t311⟩ : S65)]) := ⟨_, rfl⟩
           replace H : (ancepsref57_Choose.l0 k2 a1 a2 (wrap64 (x10_2 + 1)) l0_0 l0_1 l0_0 y314) = some (r1, r2, r3) := by first | (rw [hy314]; with_reducible exact H) | (have H2_ := (Option.bind_some _ _).symm.trans H; rw [hy314]; with_reducible exact H2_) | (have H2_ := (Option.bind_some _ _).symm.trans H; with_reducible exact H2_) | with_reducible exact H | (rw [hy314]; exact H) | exact H
           have Ny314 := Aside0.mk hy314
           clear hy314
           have H' := Aside0.mk H
           clear H
           have hnb37 := NB304_305.out
           have hnc37 := NB305_304.out
           have hnb38 := NB304_308.out
           have hnc38 := NB308_304.out
           have hcz39_0 := cZ BK304 0 (.slice A0_0 l0_0.length c0_0)
           have hcz39_1 := cZ BK304 1 (.slice A0_1 l0_1.length c0_1)
           have hfz39_0 := blk_frozen BK304.out 0
           have hfz39_1 := blk_frozen BK304.out 1
           try go_wp2
           have n0_ := Aside0.mk (Kd.V_drew HO_305000.out)
           have n1_ := Aside0.mk (Kd.V_drew HO_305001.out)
           have n2_ := Aside0.mk (Kd.V_drew HO_309000.out)
           have n3_ := Aside0.mk (Kd.N_drew HO_309001.out)
           have n4_ := Aside0.mk (blk_drew BK304.out)
           have n5_ := Aside0.mk (blk_drew BK305.out)
           have n6_ := Aside0.mk (blk_drew BK308.out)
           have n7_ := Aside0.mk (below_drew1 HB.out)
           clear HO_305000
           clear HO_305001
           clear HO_309000
           clear HO_309001
           clear BK304
           clear BK305
           clear BK308
           clear HB
           have HO_305000 := n0_
           have HO_305001 := n1_
           have HO_309000 := n2_
           have HO_309001 := n3_
           have BK304 := n4_
           have BK305 := n5_
           have BK308 := n6_
           have HB := n7_
           clear n0_ n1_ n2_ n3_ n4_ n5_ n6_ n7_
           have p309 := oD (0 ≤ (x10_2 : Int))
           have q309 := oD (x10_2 < (l0_1.length : Int))
           obtain ⟨ad309, A309_1, c309_1, e309, hx309_0, hx309_1, hl309_1, hi309_1⟩ := at_T65 (Kd.V_reads' HO_305001.out).2.2 x10_2 p309 q309
           cases e309
           obtain ⟨ce309, hce309, hMe309, hcc309⟩ := Kd.V_get HO_305001.out z65 x10_2 p309 (by first | exact q309 | exact of_decide_eq_true (by first | (with_reducible assumption) | assumption) | (have e_ := (Kd.V_reads' HO_305001.out).1; omega))
           obtain ⟨ua309_1, uc309_1, rfl, ul309_1, ge309_1⟩ := k65_openF hMe309
           have hv309_1 := hcc309 1 _ rfl
           rw [add_field _ _ 1 (by omega)] at hv309_1
           replace hv309_1 := Option.some.inj (hv309_1.symm.trans hx309_1)
           injection hv309_1 with hva_ hvn_ hvc_
           rw [hva_] at ge309_1
           rw [hvc_] at ul309_1
           have HL309_1 := Aside0.mk (show Kd.V k67 67 _ w.heap.size _ _ ((rd_T65 l0_1 x10_2).f1) from Kd.V_mk ul309_1 ge309_1)
           clear hva_ hvn_ hvc_ ge309_1 ul309_1
           clear hcc309 hce309
           have HR309_1 := Aside0.mk hi309_1
           have HC309_1 := Aside0.mk hl309_1
           clear hi309_1 hl309_1
           replace p309 := eq_true p309
           replace q309 := eq_true q309
           refine start_ (n := 16) (S := fun w' => w'.cell? ⟨gb308, 0, none⟩ = some (.slice A0_0 l0_0.length c0_0) ∧ w'.cell? ⟨gb308, 1, none⟩ = some (u309001) ∧ w'.cell? ⟨gb304, 0, none⟩ = some (.slice A0_0 l0_0.length c0_0) ∧ w'.cell? ⟨gb304, 1, none⟩ = some (.slice (some ad309) l0_1.length c0_1) ∧ w'.cell? (ad309.add ((x10_2).toNat * 2)) = some (.string ((rd_T65 l0_1 x10_2).f0)) ∧ w'.cell? ⟨(ad309.add ((x10_2).toNat * 2)).block, (ad309.add ((x10_2).toNat * 2)).off + 1, none⟩ = some (.slice A309_1 ((rd_T65 l0_1 x10_2).f1).length c309_1)) (ds := [13, 15]) #[false, false, false, false, false, false, false, false, false, false, false, false, false, false, false, false] (by kernel_rfl) rfl rfl ⟨(blk_cell BK308.out 0).trans rfl, (blk_cell BK308.out 1).trans rfl, (blk_cell BK304.out 0).trans rfl, (blk_cell BK304.out 1).trans rfl, hx309_0, hx309_1⟩ (fun hHeld => ?_); refine with_tabW ancepsref57_Choose.tab11 ancepsref57_Choose.bits11 (fun HT_ HW_ => ?_)
           generalize wr.drew = w40 at HO_305000 HO_305001 HO_309000 HO_309001 BK304 BK305 BK308 HB HL309_1 HR309_1 hx309_0 hx309_1 hHeld ⊢
           refine pv_ 0 (some 55) HT_ ?_
           refine pv_ 2 (some 57) HT_ ?_
           refine pv_ 4 (some 59) HT_ ?_
           refine pv_ 7 (some 62) HT_ ?_
           refine pv_ 8 (some 63) HT_ ?_
           refine tw_ 1 (some 56) HT_ HW_ hHeld ?_
           refine tw_ 3 (some 58) HT_ HW_ hHeld ?_
           refine pv_ 5 (some 60) HT_ ?_
           refine tw_ 6 (some 61) HT_ HW_ hHeld ?_
           refine tw_ 9 (some 64) HT_ HW_ hHeld ?_
           refine pv_ 10 (some 65) HT_ ?_
           refine one_ (i := 11) (N := some 66) #[true, true, true, true, true, true, true, true, true, true, true, true, false, false, false, false] rfl rfl (one_of HT_.out (by kernel_rfl)) (by decide) (fun K hK => ?_)
           refine goes_ Try.func58 (by kernel_rfl) rfl #[.agg #[.string ((rd_T65 l0_1 x10_2).f0), .slice A309_1 ((rd_T65 l0_1 x10_2).f1).length c309_1], .int .i64 a2, .int .i64 (l0_0.length : Int)] (by rfl) rfl rfl (by (try simp only [List.map_toArray, List.map_cons, List.map_nil]); first | done | rfl | (simp only [List.length_drop, List.length_take]; rfl)) ?_
           with_reducible refine (ancepsref57_chosen.calls k2 ((rd_T65 l0_1 x10_2).f0) _ _ ((rd_T65 l0_1 x10_2).f1) a2 (l0_0.length : Int) t310 t311 _ ?side1 ?side2 A35.out).mono ?_
           (case side1 => repeat (first | exact (cR HR309_1) | (with_reducible refine Kd.C_alloc ?_ _) | (with_reducible refine Kd.C_drewN ?_ _) | (with_reducible refine Kd.C_drew ?_)))
           (case side2 => exact HC309_1.out)
           rintro e w41 ⟨v312, rfl, ho0, hb⟩
           have HS4_ := (hb.cell (World.block_lt_of_cell? _ _ (hHeld.2.2.2.2.1))).trans (hHeld.2.2.2.2.1)
           have HS5_ := (hb.cell (World.block_lt_of_cell? _ _ (hHeld.2.2.2.2.2))).trans (hHeld.2.2.2.2.2)
           refine ⟨_, rfl, ?_⟩
           have n0_ := Aside0.mk (Kd.V_elder' (iV HO_305000) (Kd.R_base ho0) hb)
           have n1_ := Aside0.mk (Kd.V_elder' (iV HO_305001) (Kd.R_base ho0) hb)
           have n2_ := Aside0.mk (Kd.V_elder' (iV HO_309000) (Kd.R_base ho0) hb)
           have n3_ := Aside0.mk (Kd.N_elder' (iN HO_309001) (Kd.R_base ho0) hb)
           have n4_ := Aside0.mk (Kd.V_elder' (iV HL309_1) (Kd.R_base ho0) hb)
           have n5_ := Aside0.mk (Kd.R_lower (Kd.R_newM (M := fun k_ => (w.heap.size ≤ k_)) ho0 (below_size (iL HB)) (fun k_ h_ => h_)) (below_size (iL HB)))
           have n6_ := jB BK304 hb
           have n7_ := jB BK305 hb
           have n8_ := jB BK308 hb
           have n9_ := Aside0.mk (Kd.C_below (cR HR309_1) hb)
           have n10_ := jL HB hb
           clear HO_305000
           clear HO_305001
           clear HO_309000
           clear HO_309001
           clear HL309_1
           clear BK304
           clear BK305
           clear BK308
           clear HR309_1
           clear HB
           have HO_305000 := n0_
           have HO_305001 := n1_
           have HO_309000 := n2_
           have HO_309001 := n3_
           have HL309_1 := n4_
           have HO313 := n5_
           have BK304 := n6_
           have BK305 := n7_
           have BK308 := n8_
           have HR309_1 := n9_
           have HB := n10_
           clear n0_ n1_ n2_ n3_ n4_ n5_ n6_ n7_ n8_ n9_ n10_
           (try clear hb)
           (try clear hb2)
           (try clear hk)
           (try clear hi)
           (try clear ho0)
           obtain ⟨Ao43, co43, eo43⟩ := Kd.R_slice HO313.out
           (first | subst eo43 | (injection eo43 with f1_ f2_ f3_; have f4_ := f1_.symm; have f5_ := f3_.symm; clear f1_ f2_ f3_; subst f4_; subst f5_))
           refine hK.out _ _ ⟨(blk_cell BK308.out 0).trans rfl, (blk_cell BK308.out 1).trans rfl, (blk_cell BK304.out 0).trans rfl, (blk_cell BK304.out 1).trans rfl, HS4_, HS5_⟩ (fun hHeld => ?_)
           clear hK K
           refine norm_ (a' := ?_) ?_ ?_
           rotate_left
           ·show Act.put _ (some 66) _ = _
            simp only [Act.put, List.setIfInBounds_toArray, List.set_cons_zero, List.set_cons_succ, i64_w, i32_w]
            rfl
           refine one_ (i := 12) (N := some 67) #[true, true, true, true, true, true, true, true, true, true, true, true, true, false, false, false] rfl rfl (one_of HT_.out (by kernel_rfl)) (by decide) (fun K hK => ?_)
           refine value_ (w1 := ?_) (v := ?_) (by rfl) rfl ?_ ?_
           rotate_left 2
           ·go_simp
            constructor
            ·rfl
            ·rfl
           refine hK.out _ _ ⟨(blk_cell (blk_alloc BK308.out _) 0).trans rfl, (blk_cell (blk_alloc BK308.out _) 1).trans rfl, (blk_cell (blk_alloc BK304.out _) 0).trans rfl, (blk_cell (blk_alloc BK304.out _) 1).trans rfl, (World.cell?_alloc_lt _ _ _ (World.block_lt_of_cell? _ _ (hHeld.2.2.2.2.1))).trans (hHeld.2.2.2.2.1), (World.cell?_alloc_lt _ _ _ (World.block_lt_of_cell? _ _ (hHeld.2.2.2.2.2))).trans (hHeld.2.2.2.2.2)⟩ (fun hHeld => ?_)
           clear hK K
           refine norm_ (a' := ?_) ?_ ?_
           rotate_left
           ·show Act.put _ (some 67) _ = _
            simp only [Act.put, List.setIfInBounds_toArray, List.set_cons_zero, List.set_cons_succ, i64_w, i32_w]
            rfl
           refine last_ (i := 13) (N := some 68) #[true, true, true, true, true, true, true, true, true, true, true, true, true, true, false, false] rfl rfl (one_of HT_.out (by kernel_rfl)) (by decide) (fun K hK => ?_)
           refine Kd.N_append_step k65 (w0 := w) w.heap.size (by rfl) (.tmp 56) (.tmp 67) 40 65 (.agg #[(.string ⟨#[]⟩), (.slice none 0 0)]) 40 rfl Try.underlying40 info65 rfl (by decide) (by omega) u309001 x309001_2 (⟨t310, t311⟩ : S65) [.string t310, .slice Ao43 t311.length co43] (fun k_ => ((P0_0_ k_ ∨ P0_1_ k_) ∨ w.heap.size ≤ k_) ∧ k_ ≠ gb304 ∧ k_ ≠ gb305 ∧ k_ ≠ gb308) (fun k_ => ((fun k_ => ((P0_0_ k_ ∨ P0_1_ k_) ∨ w.heap.size ≤ k_) ∧ k_ ≠ gb304 ∧ k_ ≠ gb305 ∧ k_ ≠ gb308)) k_ ∧ some k_ ≠ (u309001 : Value).ownBlock) rfl rfl ?aP (fun _ hk => hk) ?aF ?aO ?aB ?aS ?aL ?_
           (case aP => exact (k65_mkF _ _ (⟨t310, t311⟩ : S65) (Kd.R_reads' (Kd.R_mono (ok' := (fun k_ => ((fun k_ => ((P0_0_ k_ ∨ P0_1_ k_) ∨ w.heap.size ≤ k_) ∧ k_ ≠ gb304 ∧ k_ ≠ gb305 ∧ k_ ≠ gb308)) k_ ∧ some k_ ≠ (u309001 : Value).ownBlock)) (Kd.R_types (Kd.R_types (Kd.R_types (Kd.R_apart' (HO313.out) (Kd.N_typed HO_309001.out) (by decide)) BK304.out (by decide)) BK305.out (by decide)) BK308.out (by decide)) (fun k_ hk => ⟨⟨(.inr (hk.1.1.1.1.1)), ⟨hk.1.1.2, ⟨hk.1.2, hk.2⟩⟩⟩, hk.1.1.1.2⟩))).2.1 (Kd.R_F (Kd.R_mono (ok' := (fun k_ => ((fun k_ => ((P0_0_ k_ ∨ P0_1_ k_) ∨ w.heap.size ≤ k_) ∧ k_ ≠ gb304 ∧ k_ ≠ gb305 ∧ k_ ≠ gb308)) k_ ∧ some k_ ≠ (u309001 : Value).ownBlock)) (Kd.R_types (Kd.R_types (Kd.R_types (Kd.R_apart' (HO313.out) (Kd.N_typed HO_309001.out) (by decide)) BK304.out (by decide)) BK305.out (by decide)) BK308.out (by decide)) (fun k_ hk => ⟨⟨(.inr (hk.1.1.1.1.1)), ⟨hk.1.1.2, ⟨hk.1.2, hk.2⟩⟩⟩, hk.1.1.1.2⟩)))))
           (case aB => exact (iL HB))
           (case aF => exact (fun k_ hk => ⟨(.inr (Nat.le_trans (below_size (iL HB)) hk)), Kd.freshB (g := gb304) (o := .cells #[.slice A0_0 l0_0.length c0_0, .slice (some ad309) l0_1.length c0_1] 42 (0, 0)) (iB BK304) k_ hk, Kd.freshB (g := gb305) (o := .cells #[.slice none 0 0, .slice none 0 0] 42 (0, 0)) (iB BK305) k_ hk, Kd.freshB (g := gb308) (o := .cells #[.slice A0_0 l0_0.length c0_0, u309001] 42 (0, 0)) (iB BK308) k_ hk⟩))
           (case aO => exact (by (with_reducible repeat (first | apply Kd.N_alloc | apply Kd.N_drewN | apply Kd.N_drew)); exact Kd.N_mono HO_309001.out (fun _ hk => ⟨hk.1.1, ⟨hk.1.2.1, ⟨hk.1.2.2.1, hk.1.2.2.2⟩⟩⟩)))
           (case aS => exact (below_size (iL HB)))
           (case aL => have := LMc36.out; omega)
           intro v315 w42 ho hb hg hat
           rw [← Ny314.out] at ho
           have n0_ := Aside0.mk (Kd.V_afterv (ok := (fun k_ => ((P0_0_ k_ ∨ P0_1_ k_) ∨ w.heap.size ≤ k_) ∧ some k_ ≠ (.slice Ao43 t311.length co43 : Value).ownBlock ∧ k_ ≠ gb304 ∧ k_ ≠ gb305 ∧ k_ ≠ gb308)) (by (with_reducible repeat (first | apply Kd.V_alloc | apply Kd.V_drewN | apply Kd.V_drew)); exact Kd.V_mono HO_305000.out (fun _ hk => ⟨⟨hk.1.1, ⟨hk.2, ⟨hk.1.2.2.1, ⟨hk.1.2.2.2.1, hk.1.2.2.2.2⟩⟩⟩⟩, hk.1.2.1⟩)) hg hat)
           have n1_ := Aside0.mk (Kd.V_afterv (ok := (fun k_ => ((P0_0_ k_ ∨ P0_1_ k_) ∨ w.heap.size ≤ k_) ∧ some k_ ≠ (.slice Ao43 t311.length co43 : Value).ownBlock ∧ k_ ≠ gb304 ∧ k_ ≠ gb305 ∧ k_ ≠ gb308)) (by (with_reducible repeat (first | apply Kd.V_alloc | apply Kd.V_drewN | apply Kd.V_drew)); exact Kd.V_mono HO_305001.out (fun _ hk => ⟨⟨hk.1.1, ⟨hk.2, ⟨hk.1.2.2.1, ⟨hk.1.2.2.2.1, hk.1.2.2.2.2⟩⟩⟩⟩, hk.1.2.1⟩)) hg hat)
           have n2_ := Aside0.mk (Kd.V_afterv (ok := (fun k_ => ((P0_0_ k_ ∨ P0_1_ k_) ∨ w.heap.size ≤ k_) ∧ some k_ ≠ (.slice Ao43 t311.length co43 : Value).ownBlock ∧ k_ ≠ gb304 ∧ k_ ≠ gb305 ∧ k_ ≠ gb308)) (by (with_reducible repeat (first | apply Kd.V_alloc | apply Kd.V_drewN | apply Kd.V_drew)); exact Kd.V_mono HO_309000.out (fun _ hk => ⟨⟨hk.1.1, ⟨hk.2, ⟨hk.1.2.2.1, ⟨hk.1.2.2.2.1, hk.1.2.2.2.2⟩⟩⟩⟩, hk.1.2.1⟩)) hg hat)
           have n3_ := Aside0.mk (blk_grown (g := gb304) (o := .cells #[.slice A0_0 l0_0.length c0_0, .slice (some ad309) l0_1.length c0_1] 42 (0, 0)) (iB BK304) hg (Kd.N_ne HO_309001.out BK304.out (by decide)))
           have n4_ := Aside0.mk (blk_grown (g := gb305) (o := .cells #[.slice none 0 0, .slice none 0 0] 42 (0, 0)) (iB BK305) hg (Kd.N_ne HO_309001.out BK305.out (by decide)))
           have n5_ := Aside0.mk (blk_grown (g := gb308) (o := .cells #[.slice A0_0 l0_0.length c0_0, u309001] 42 (0, 0)) (iB BK308) hg (Kd.N_ne HO_309001.out BK308.out (by decide)))
           have n6_ := Aside0.mk (Kd.V_afterv (ok := (fun k_ => ((P0_0_ k_ ∨ P0_1_ k_) ∨ w.heap.size ≤ k_) ∧ some k_ ≠ (.slice Ao43 t311.length co43 : Value).ownBlock ∧ k_ ≠ gb304 ∧ k_ ≠ gb305 ∧ k_ ≠ gb308)) (by (with_reducible repeat (first | apply Kd.V_alloc | apply Kd.V_drewN | apply Kd.V_drew)); exact Kd.V_mono HL309_1.out (fun _ hk => ⟨⟨hk.1.1, ⟨hk.2, ⟨hk.1.2.2.1, ⟨hk.1.2.2.2.1, hk.1.2.2.2.2⟩⟩⟩⟩, hk.1.2.1⟩)) hg hat)
           have n7_ := Aside0.mk (hb)
           have n8_ := Aside0.mk (ho)
           clear HO_305000
           clear HO_305001
           clear HO_309000
           clear BK304
           clear BK305
           clear BK308
           clear HL309_1
           clear HB
           clear HO_309001
           clear HO313
           have HO_305000 := n0_
           have HO_305001 := n1_
           have HO_309000 := n2_
           have BK304 := n3_
           have BK305 := n4_
           have BK308 := n5_
           have HL309_1 := n6_
           have HB := n7_
           have HO316 := n8_
           clear n0_ n1_ n2_ n3_ n4_ n5_ n6_ n7_ n8_
           clear ho hb hg hat
           obtain ⟨Ao44, co44, eo44⟩ := Kd.N_slice HO316.out
           (first | subst eo44 | (injection eo44 with f1_ f2_ f3_; have f4_ := f1_.symm; have f5_ := f3_.symm; clear f1_ f2_ f3_; subst f4_; subst f5_))
           refine hK.out _ _ ?_
           clear hK K
           refine norm_ (a' := ?_) ?_ ?_
           rotate_left
           ·show Act.put _ (some 68) _ = _
            simp only [Act.put, List.setIfInBounds_toArray, List.set_cons_zero, List.set_cons_succ, i64_w, i32_w]
            rfl
           refine pv_ 14 (some 69) HT_ ?_
           refine last_ (i := 15) (N := none) #[true, true, true, true, true, true, true, true, true, true, true, true, true, true, true, true] rfl rfl (one_of HT_.out (by kernel_rfl)) (by decide) (fun K hK => ?_)
           have hs45 : w42.cell? ⟨gb308, 1, none⟩ = some (u309001) := (blk_cell BK308.out 1).trans rfl
           have hfs45 := blk_frozen BK308.out 1
           have hns45_0 := NB304_308.out
           have hns45_1 := NB305_308.out
           have hms45_0 := NB308_304.out
           have hms45_1 := NB308_305.out
           refine skip_ (w1 := ?_) (by rfl) rfl ?_ ?_
           rotate_left
           ·go_simp
            rfl
           refine hK.out _ _ ?_
           clear hK K
           refine done_ (done_of HT_.out (by kernel_rfl)) ?_
           try go_wp2
           go_roundg k2
           case measure => have := HJ5.out; have := HK2.out; omega
           case rel => exact ⟨(wrap64 (x10_2 + 1)), (y314), (.slice Ao44 y314.length co44), eV, H', ⟨by have := HJ5.out; have := HK2.out; omega⟩, ⟨by (with_reducible repeat (first | apply Kd.V_alloc | apply Kd.V_drewN | apply Kd.V_drew)); exact Kd.V_mono (Kd.V_far (p := ⟨gb308, 1, none⟩) (Kd.V_mono HO_305000.out (fun k_ hk => (⟨hk, hk.1.2.2.2.2⟩ : _ ∧ k_ ≠ gb308))) (fun _ hk => hk.2) (.slice Ao44 y314.length co44)) (fun _ hk => ⟨hk.1.1.1, ⟨hk.1.2, ⟨hk.1.1.2.2.1, ⟨hk.1.1.2.2.2.1, hk.1.1.2.2.2.2⟩⟩⟩⟩)⟩, ⟨by (with_reducible repeat (first | apply Kd.V_alloc | apply Kd.V_drewN | apply Kd.V_drew)); exact Kd.V_mono (Kd.V_far (p := ⟨gb308, 1, none⟩) (Kd.V_mono HO_305001.out (fun k_ hk => (⟨hk, hk.1.2.2.2.2⟩ : _ ∧ k_ ≠ gb308))) (fun _ hk => hk.2) (.slice Ao44 y314.length co44)) (fun _ hk => ⟨hk.1.1.1, ⟨hk.1.2, ⟨hk.1.1.2.2.1, ⟨hk.1.1.2.2.2.1, hk.1.1.2.2.2.2⟩⟩⟩⟩)⟩, ⟨by (with_reducible repeat (first | apply Kd.V_alloc | apply Kd.V_drewN | apply Kd.V_drew)); exact Kd.V_mono (Kd.V_far (p := ⟨gb308, 1, none⟩) (Kd.V_mono HO_309000.out (fun k_ hk => (⟨hk, hk.1.2.2.2.2⟩ : _ ∧ k_ ≠ gb308))) (fun _ hk => hk.2) (.slice Ao44 y314.length co44)) (fun _ hk => ⟨hk.1.1.1, ⟨hk.1.2, ⟨hk.1.1.2.2.1, ⟨hk.1.1.2.2.2.1, hk.1.1.2.2.2.2⟩⟩⟩⟩)⟩, ⟨by (with_reducible repeat (first | apply Kd.N_alloc | apply Kd.N_drewN | apply Kd.N_drew)); exact Kd.N_mono (Kd.N_far (p := ⟨gb308, 1, none⟩) (Kd.N_mono HO316.out (fun k_ hk => (⟨hk, hk.2.2.2⟩ : _ ∧ k_ ≠ gb308))) (fun _ hk => hk.2) (.slice Ao44 y314.length co44)) (fun _ hk => ⟨hk.1.1, ⟨hk.1.2.1, ⟨hk.1.2.2.1, hk.1.2.2.2⟩⟩⟩)⟩, ⟨by (with_reducible repeat (first | apply blk_drewN | apply blk_drew | apply blk_alloc)); refine blk_far ?_ NB304_308.out _; (with_reducible repeat (first | apply blk_drewN | apply blk_drew | apply blk_alloc)); exact BK304.out⟩, ⟨by (with_reducible repeat (first | apply blk_drewN | apply blk_drew | apply blk_alloc)); refine blk_far ?_ NB305_308.out _; (with_reducible repeat (first | apply blk_drewN | apply blk_drew | apply blk_alloc)); exact BK305.out⟩, ⟨by (with_reducible repeat (first | apply blk_drewN | apply blk_drew | apply blk_alloc)); refine blk_put (cs := #[.slice A0_0 l0_0.length c0_0, u309001]) ?_ 1 _ rfl; (with_reducible repeat (first | apply blk_drewN | apply blk_drew | apply blk_alloc)); exact BK308.out⟩, ⟨iL HB⟩⟩
          ·rw [if_neg c36] at H
           exact absurd H (by simp)
         ·rw [if_neg c34] at H
          exact absurd H (by simp)
        ·rw [if_neg c33] at H
         have c33b0 : (x10_2 == a1) = false := beq_eq_false_iff_ne.mpr c33
         have c33b1 : (x10_2 != a1) = true := bne_iff_ne.mpr c33
         by_cases c46 : 0 ≤ x10_2
         ·rw [if_pos c46] at H
          have c46b0 : decide (0 ≤ x10_2) = true := decide_eq_true c46
          clear c46
          by_cases c47 : x309001_2.length < 3518437208883
          ·rw [if_pos c47] at H
           have LMc47 := Aside0.mk c47
           clear c47
           obtain ⟨y318, hy318⟩ : ∃ y_ : List (S65), y_ = (x309001_2 ++ [(⟨(rd_T65 l0_1 x10_2).f0, (rd_T65 l0_1 x10_2).f1⟩ : S65)]) := ⟨_, rfl⟩
           replace H : (ancepsref57_Choose.l0 k2 a1 a2 (wrap64 (x10_2 + 1)) l0_0 l0_1 l0_0 y318) = some (r1, r2, r3) := by first | (rw [hy318]; with_reducible exact H) | (have H2_ := (Option.bind_some _ _).symm.trans H; rw [hy318]; with_reducible exact H2_) | (have H2_ := (Option.bind_some _ _).symm.trans H; with_reducible exact H2_) | with_reducible exact H | (rw [hy318]; exact H) | exact H
           have Ny318 := Aside0.mk hy318
           clear hy318
           have H' := Aside0.mk H
           clear H
           have hnb48 := NB304_305.out
           have hnc48 := NB305_304.out
           have hnb49 := NB304_308.out
           have hnc49 := NB308_304.out
           have hcz50_0 := cZ BK304 0 (.slice A0_0 l0_0.length c0_0)
           have hcz50_1 := cZ BK304 1 (.slice A0_1 l0_1.length c0_1)
           have hfz50_0 := blk_frozen BK304.out 0
           have hfz50_1 := blk_frozen BK304.out 1
           try go_wp2
           have n0_ := Aside0.mk (Kd.V_drew HO_305000.out)
           have n1_ := Aside0.mk (Kd.V_drew HO_305001.out)
           have n2_ := Aside0.mk (Kd.V_drew HO_309000.out)
           have n3_ := Aside0.mk (Kd.N_drew HO_309001.out)
           have n4_ := Aside0.mk (blk_drew BK304.out)
           have n5_ := Aside0.mk (blk_drew BK305.out)
           have n6_ := Aside0.mk (blk_drew BK308.out)
           have n7_ := Aside0.mk (below_drew1 HB.out)
           clear HO_305000
           clear HO_305001
           clear HO_309000
           clear HO_309001
           clear BK304
           clear BK305
           clear BK308
           clear HB
           have HO_305000 := n0_
           have HO_305001 := n1_
           have HO_309000 := n2_
           have HO_309001 := n3_
           have BK304 := n4_
           have BK305 := n5_
           have BK308 := n6_
           have HB := n7_
           clear n0_ n1_ n2_ n3_ n4_ n5_ n6_ n7_
           have p317 := oD (0 ≤ (x10_2 : Int))
           have q317 := oD (x10_2 < (l0_1.length : Int))
           obtain ⟨ad317, A317_1, c317_1, e317, hx317_0, hx317_1, hl317_1, hi317_1⟩ := at_T65 (Kd.V_reads' HO_305001.out).2.2 x10_2 p317 q317
           cases e317
           obtain ⟨ce317, hce317, hMe317, hcc317⟩ := Kd.V_get HO_305001.out z65 x10_2 p317 (by first | exact q317 | exact of_decide_eq_true (by first | (with_reducible assumption) | assumption) | (have e_ := (Kd.V_reads' HO_305001.out).1; omega))
           obtain ⟨ua317_1, uc317_1, rfl, ul317_1, ge317_1⟩ := k65_openF hMe317
           have hv317_1 := hcc317 1 _ rfl
           rw [add_field _ _ 1 (by omega)] at hv317_1
           replace hv317_1 := Option.some.inj (hv317_1.symm.trans hx317_1)
           injection hv317_1 with hva_ hvn_ hvc_
           rw [hva_] at ge317_1
           rw [hvc_] at ul317_1
           have HL317_1 := Aside0.mk (show Kd.V k67 67 _ w.heap.size _ _ ((rd_T65 l0_1 x10_2).f1) from Kd.V_mk ul317_1 ge317_1)
           clear hva_ hvn_ hvc_ ge317_1 ul317_1
           clear hcc317 hce317
           have HR317_1 := Aside0.mk hi317_1
           have HC317_1 := Aside0.mk hl317_1
           clear hi317_1 hl317_1
           replace p317 := eq_true p317
           replace q317 := eq_true q317
           refine start_ (n := 11) (S := fun w' => w'.cell? ⟨gb308, 0, none⟩ = some (.slice A0_0 l0_0.length c0_0) ∧ w'.cell? ⟨gb308, 1, none⟩ = some (u309001) ∧ w'.cell? ⟨gb304, 0, none⟩ = some (.slice A0_0 l0_0.length c0_0) ∧ w'.cell? ⟨gb304, 1, none⟩ = some (.slice (some ad317) l0_1.length c0_1) ∧ w'.cell? (ad317.add ((x10_2).toNat * 2)) = some (.string ((rd_T65 l0_1 x10_2).f0)) ∧ w'.cell? ⟨(ad317.add ((x10_2).toNat * 2)).block, (ad317.add ((x10_2).toNat * 2)).off + 1, none⟩ = some (.slice A317_1 ((rd_T65 l0_1 x10_2).f1).length c317_1)) (ds := [8, 10]) #[false, false, false, false, false, false, false, false, false, false, false] (by kernel_rfl) rfl rfl ⟨(blk_cell BK308.out 0).trans rfl, (blk_cell BK308.out 1).trans rfl, (blk_cell BK304.out 0).trans rfl, (blk_cell BK304.out 1).trans rfl, hx317_0, hx317_1⟩ (fun hHeld => ?_); refine with_tabW ancepsref57_Choose.tab12 ancepsref57_Choose.bits12 (fun HT_ HW_ => ?_)
           generalize wr.drew = w51 at HO_305000 HO_305001 HO_309000 HO_309001 BK304 BK305 BK308 HB HL317_1 HR317_1 hx317_0 hx317_1 hHeld ⊢
           refine pv_ 0 (some 70) HT_ ?_
           refine pv_ 2 (some 72) HT_ ?_
           refine pv_ 4 (some 74) HT_ ?_
           refine tw_ 1 (some 71) HT_ HW_ hHeld ?_
           refine tw_ 3 (some 73) HT_ HW_ hHeld ?_
           refine pv_ 5 (some 75) HT_ ?_
           refine tw_ 6 (some 76) HT_ HW_ hHeld ?_
           refine one_ (i := 7) (N := some 77) #[true, true, true, true, true, true, true, true, false, false, false] rfl rfl (one_of HT_.out (by kernel_rfl)) (by decide) (fun K hK => ?_)
           refine value_ (w1 := ?_) (v := ?_) (by rfl) rfl ?_ ?_
           rotate_left 2
           ·go_simp
            constructor
            ·rfl
            ·rfl
           refine hK.out _ _ ⟨(blk_cell (blk_alloc BK308.out _) 0).trans rfl, (blk_cell (blk_alloc BK308.out _) 1).trans rfl, (blk_cell (blk_alloc BK304.out _) 0).trans rfl, (blk_cell (blk_alloc BK304.out _) 1).trans rfl, (World.cell?_alloc_lt _ _ _ (World.block_lt_of_cell? _ _ (hHeld.2.2.2.2.1))).trans (hHeld.2.2.2.2.1), (World.cell?_alloc_lt _ _ _ (World.block_lt_of_cell? _ _ (hHeld.2.2.2.2.2))).trans (hHeld.2.2.2.2.2)⟩ (fun hHeld => ?_)
           clear hK K
           refine norm_ (a' := ?_) ?_ ?_
           rotate_left
           ·show Act.put _ (some 77) _ = _
            simp only [Act.put, List.setIfInBounds_toArray, List.set_cons_zero, List.set_cons_succ, i64_w, i32_w]
            rfl
           refine last_ (i := 8) (N := some 78) #[true, true, true, true, true, true, true, true, true, false, false] rfl rfl (one_of HT_.out (by kernel_rfl)) (by decide) (fun K hK => ?_)
           refine Kd.N_append_step k65 (w0 := w) w.heap.size (by rfl) (.tmp 71) (.tmp 77) 40 65 (.agg #[(.string ⟨#[]⟩), (.slice none 0 0)]) 40 rfl Try.underlying40 info65 rfl (by decide) (by omega) u309001 x309001_2 (⟨(rd_T65 l0_1 x10_2).f0, (rd_T65 l0_1 x10_2).f1⟩ : S65) [.string ((rd_T65 l0_1 x10_2).f0), .slice A317_1 ((rd_T65 l0_1 x10_2).f1).length c317_1] (fun k_ => ((P0_0_ k_ ∨ P0_1_ k_) ∨ w.heap.size ≤ k_) ∧ k_ ≠ gb304 ∧ k_ ≠ gb305 ∧ k_ ≠ gb308) (fun k_ => ((fun k_ => ((P0_0_ k_ ∨ P0_1_ k_) ∨ w.heap.size ≤ k_) ∧ k_ ≠ gb304 ∧ k_ ≠ gb305 ∧ k_ ≠ gb308)) k_ ∧ some k_ ≠ (u309001 : Value).ownBlock) rfl rfl ?aP (fun _ hk => hk) ?aF ?aO ?aB ?aS ?aL ?_
           (case aP => exact (k65_mkF _ _ (⟨(rd_T65 l0_1 x10_2).f0, (rd_T65 l0_1 x10_2).f1⟩ : S65) (Kd.V_reads' (Kd.V_mono (ok' := (fun k_ => ((fun k_ => ((P0_0_ k_ ∨ P0_1_ k_) ∨ w.heap.size ≤ k_) ∧ k_ ≠ gb304 ∧ k_ ≠ gb305 ∧ k_ ≠ gb308)) k_ ∧ some k_ ≠ (u309001 : Value).ownBlock)) (HL317_1.out) (fun k_ hk => ⟨⟨hk.1, ⟨hk.2.2.1, ⟨hk.2.2.2.1, hk.2.2.2.2⟩⟩⟩, hk.2.1⟩))).2.1 (Kd.V_F (Kd.V_mono (ok' := (fun k_ => ((fun k_ => ((P0_0_ k_ ∨ P0_1_ k_) ∨ w.heap.size ≤ k_) ∧ k_ ≠ gb304 ∧ k_ ≠ gb305 ∧ k_ ≠ gb308)) k_ ∧ some k_ ≠ (u309001 : Value).ownBlock)) (HL317_1.out) (fun k_ hk => ⟨⟨hk.1, ⟨hk.2.2.1, ⟨hk.2.2.2.1, hk.2.2.2.2⟩⟩⟩, hk.2.1⟩)))))
           (case aB => exact (iL HB))
           (case aF => exact (fun k_ hk => ⟨(.inr (Nat.le_trans (below_size (iL HB)) hk)), Kd.freshB (g := gb304) (o := .cells #[.slice A0_0 l0_0.length c0_0, .slice (some ad317) l0_1.length c0_1] 42 (0, 0)) (iB BK304) k_ hk, Kd.freshB (g := gb305) (o := .cells #[.slice none 0 0, .slice none 0 0] 42 (0, 0)) (iB BK305) k_ hk, Kd.freshB (g := gb308) (o := .cells #[.slice A0_0 l0_0.length c0_0, u309001] 42 (0, 0)) (iB BK308) k_ hk⟩))
           (case aO => exact (iN HO_309001))
           (case aS => exact (below_size (iL HB)))
           (case aL => have := LMc47.out; omega)
           intro v319 w52 ho hb hg hat
           rw [← Ny318.out] at ho
           have n0_ := Aside0.mk (Kd.V_afterv (ok := (fun k_ => ((P0_0_ k_ ∨ P0_1_ k_) ∨ w.heap.size ≤ k_) ∧ k_ ≠ gb304 ∧ k_ ≠ gb305 ∧ k_ ≠ gb308)) (by (with_reducible repeat (first | apply Kd.V_alloc | apply Kd.V_drewN | apply Kd.V_drew)); exact Kd.V_mono HO_305000.out (fun _ hk => ⟨⟨hk.1, ⟨hk.2.2.1, ⟨hk.2.2.2.1, hk.2.2.2.2⟩⟩⟩, hk.2.1⟩)) hg hat)
           have n1_ := Aside0.mk (Kd.V_afterv (ok := (fun k_ => ((P0_0_ k_ ∨ P0_1_ k_) ∨ w.heap.size ≤ k_) ∧ k_ ≠ gb304 ∧ k_ ≠ gb305 ∧ k_ ≠ gb308)) (by (with_reducible repeat (first | apply Kd.V_alloc | apply Kd.V_drewN | apply Kd.V_drew)); exact Kd.V_mono HO_305001.out (fun _ hk => ⟨⟨hk.1, ⟨hk.2.2.1, ⟨hk.2.2.2.1, hk.2.2.2.2⟩⟩⟩, hk.2.1⟩)) hg hat)
           have n2_ := Aside0.mk (Kd.V_afterv (ok := (fun k_ => ((P0_0_ k_ ∨ P0_1_ k_) ∨ w.heap.size ≤ k_) ∧ k_ ≠ gb304 ∧ k_ ≠ gb305 ∧ k_ ≠ gb308)) (by (with_reducible repeat (first | apply Kd.V_alloc | apply Kd.V_drewN | apply Kd.V_drew)); exact Kd.V_mono HO_309000.out (fun _ hk => ⟨⟨hk.1, ⟨hk.2.2.1, ⟨hk.2.2.2.1, hk.2.2.2.2⟩⟩⟩, hk.2.1⟩)) hg hat)
           have n3_ := Aside0.mk (blk_grown (g := gb304) (o := .cells #[.slice A0_0 l0_0.length c0_0, .slice (some ad317) l0_1.length c0_1] 42 (0, 0)) (iB BK304) hg (Kd.N_ne HO_309001.out BK304.out (by decide)))
           have n4_ := Aside0.mk (blk_grown (g := gb305) (o := .cells #[.slice none 0 0, .slice none 0 0] 42 (0, 0)) (iB BK305) hg (Kd.N_ne HO_309001.out BK305.out (by decide)))
           have n5_ := Aside0.mk (blk_grown (g := gb308) (o := .cells #[.slice A0_0 l0_0.length c0_0, u309001] 42 (0, 0)) (iB BK308) hg (Kd.N_ne HO_309001.out BK308.out (by decide)))
           have n6_ := Aside0.mk (Kd.V_afterv (ok := (fun k_ => ((P0_0_ k_ ∨ P0_1_ k_) ∨ w.heap.size ≤ k_) ∧ k_ ≠ gb304 ∧ k_ ≠ gb305 ∧ k_ ≠ gb308)) (by (with_reducible repeat (first | apply Kd.V_alloc | apply Kd.V_drewN | apply Kd.V_drew)); exact Kd.V_mono HL317_1.out (fun _ hk => ⟨⟨hk.1, ⟨hk.2.2.1, ⟨hk.2.2.2.1, hk.2.2.2.2⟩⟩⟩, hk.2.1⟩)) hg hat)
           have n7_ := Aside0.mk (hb)
           have n8_ := Aside0.mk (ho)
           clear HO_305000
           clear HO_305001
           clear HO_309000
           clear BK304
           clear BK305
           clear BK308
           clear HL317_1
           clear HB
           clear HO_309001
           have HO_305000 := n0_
           have HO_305001 := n1_
           have HO_309000 := n2_
           have BK304 := n3_
           have BK305 := n4_
           have BK308 := n5_
           have HL317_1 := n6_
           have HB := n7_
           have HO320 := n8_
           clear n0_ n1_ n2_ n3_ n4_ n5_ n6_ n7_ n8_
           clear ho hb hg hat
           obtain ⟨Ao53, co53, eo53⟩ := Kd.N_slice HO320.out
           (first | subst eo53 | (injection eo53 with f1_ f2_ f3_; have f4_ := f1_.symm; have f5_ := f3_.symm; clear f1_ f2_ f3_; subst f4_; subst f5_))
           refine hK.out _ _ ?_
           clear hK K
           refine norm_ (a' := ?_) ?_ ?_
           rotate_left
           ·show Act.put _ (some 78) _ = _
            simp only [Act.put, List.setIfInBounds_toArray, List.set_cons_zero, List.set_cons_succ, i64_w, i32_w]
            rfl
           refine pv_ 9 (some 79) HT_ ?_
           refine last_ (i := 10) (N := none) #[true, true, true, true, true, true, true, true, true, true, true] rfl rfl (one_of HT_.out (by kernel_rfl)) (by decide) (fun K hK => ?_)
           have hs54 : w52.cell? ⟨gb308, 1, none⟩ = some (u309001) := (blk_cell BK308.out 1).trans rfl
           have hfs54 := blk_frozen BK308.out 1
           have hns54_0 := NB304_308.out
           have hns54_1 := NB305_308.out
           have hms54_0 := NB308_304.out
           have hms54_1 := NB308_305.out
           refine skip_ (w1 := ?_) (by rfl) rfl ?_ ?_
           rotate_left
           ·go_simp
            rfl
           refine hK.out _ _ ?_
           clear hK K
           refine done_ (done_of HT_.out (by kernel_rfl)) ?_
           try go_wp2
           go_roundg k2
           case measure => have := HJ5.out; have := HK2.out; omega
           case rel => exact ⟨(wrap64 (x10_2 + 1)), (y318), (.slice Ao53 y318.length co53), eV, H', ⟨by have := HJ5.out; have := HK2.out; omega⟩, ⟨by (with_reducible repeat (first | apply Kd.V_alloc | apply Kd.V_drewN | apply Kd.V_drew)); exact Kd.V_mono (Kd.V_far (p := ⟨gb308, 1, none⟩) (Kd.V_mono HO_305000.out (fun k_ hk => (⟨hk, hk.1.2.2.2⟩ : _ ∧ k_ ≠ gb308))) (fun _ hk => hk.2) (.slice Ao53 y318.length co53)) (fun _ hk => ⟨hk.1.1.1, ⟨hk.1.2, ⟨hk.1.1.2.1, ⟨hk.1.1.2.2.1, hk.1.1.2.2.2⟩⟩⟩⟩)⟩, ⟨by (with_reducible repeat (first | apply Kd.V_alloc | apply Kd.V_drewN | apply Kd.V_drew)); exact Kd.V_mono (Kd.V_far (p := ⟨gb308, 1, none⟩) (Kd.V_mono HO_305001.out (fun k_ hk => (⟨hk, hk.1.2.2.2⟩ : _ ∧ k_ ≠ gb308))) (fun _ hk => hk.2) (.slice Ao53 y318.length co53)) (fun _ hk => ⟨hk.1.1.1, ⟨hk.1.2, ⟨hk.1.1.2.1, ⟨hk.1.1.2.2.1, hk.1.1.2.2.2⟩⟩⟩⟩)⟩, ⟨by (with_reducible repeat (first | apply Kd.V_alloc | apply Kd.V_drewN | apply Kd.V_drew)); exact Kd.V_mono (Kd.V_far (p := ⟨gb308, 1, none⟩) (Kd.V_mono HO_309000.out (fun k_ hk => (⟨hk, hk.1.2.2.2⟩ : _ ∧ k_ ≠ gb308))) (fun _ hk => hk.2) (.slice Ao53 y318.length co53)) (fun _ hk => ⟨hk.1.1.1, ⟨hk.1.2, ⟨hk.1.1.2.1, ⟨hk.1.1.2.2.1, hk.1.1.2.2.2⟩⟩⟩⟩)⟩, ⟨by (with_reducible repeat (first | apply Kd.N_alloc | apply Kd.N_drewN | apply Kd.N_drew)); exact Kd.N_mono (Kd.N_far (p := ⟨gb308, 1, none⟩) (Kd.N_mono HO320.out (fun k_ hk => (⟨hk, hk.2.2.2⟩ : _ ∧ k_ ≠ gb308))) (fun _ hk => hk.2) (.slice Ao53 y318.length co53)) (fun _ hk => ⟨hk.1.1, ⟨hk.1.2.1, ⟨hk.1.2.2.1, hk.1.2.2.2⟩⟩⟩)⟩, ⟨by (with_reducible repeat (first | apply blk_drewN | apply blk_drew | apply blk_alloc)); refine blk_far ?_ NB304_308.out _; (with_reducible repeat (first | apply blk_drewN | apply blk_drew | apply blk_alloc)); exact BK304.out⟩, ⟨by (with_reducible repeat (first | apply blk_drewN | apply blk_drew | apply blk_alloc)); refine blk_far ?_ NB305_308.out _; (with_reducible repeat (first | apply blk_drewN | apply blk_drew | apply blk_alloc)); exact BK305.out⟩, ⟨by (with_reducible repeat (first | apply blk_drewN | apply blk_drew | apply blk_alloc)); refine blk_put (cs := #[.slice A0_0 l0_0.length c0_0, u309001]) ?_ 1 _ rfl; (with_reducible repeat (first | apply blk_drewN | apply blk_drew | apply blk_alloc)); exact BK308.out⟩, ⟨iL HB⟩⟩
          ·rw [if_neg c47] at H
           exact absurd H (by simp)
         ·rw [if_neg c46] at H
          exact absurd H (by simp)
       ·rw [if_neg c32] at H
        have c32b0 : decide (x10_2 < (l0_1.length : Int)) = false := decide_eq_false c32
        clear c32
        simp only [Option.some.injEq, Prod.mk.injEq] at H
        obtain ⟨rfl, rfl, rfl⟩ := H
        have hnb55 := NB304_305.out
        have hnc55 := NB305_304.out
        have hnb56 := NB304_308.out
        have hnc56 := NB308_304.out
        have hcz57_0 := cZ BK304 0 (.slice A0_0 l0_0.length c0_0)
        have hcz57_1 := cZ BK304 1 (.slice A0_1 l0_1.length c0_1)
        have hfz57_0 := blk_frozen BK304.out 0
        have hfz57_1 := blk_frozen BK304.out 1
        have hnb58 := NB308_305.out
        have hnc58 := NB305_308.out
        have hcz59_0 := cZ BK308 0 (.slice A0_0 l0_0.length c0_0)
        have hcz59_1 := cZ BK308 1 (u309001)
        have hfz59_0 := blk_frozen BK308.out 0
        have hfz59_1 := blk_frozen BK308.out 1
        have hcz60_0 := cZ BK305 0 (.slice none 0 0)
        have hcz60_1 := cZ BK305 1 (.slice none 0 0)
        have hfz60_0 := blk_frozen BK305.out 0
        have hfz60_1 := blk_frozen BK305.out 1
        obtain ⟨Ao61, co61, eo61⟩ := Kd.N_slice HO_309001.out
        subst eo61
        go_wp2
        refine bodyPost_ret (results_ct rfl _ _ gb305 42 #[.slice A0_0 l0_0.length c0_0, .slice Ao61 x309001_2.length co61] (0, 0) _ rfl (by (with_reducible repeat (first | apply blk_drewN | apply blk_drew | apply blk_alloc)); refine blk_put (cs := #[.slice A0_0 l0_0.length c0_0, .slice none 0 0]) ?_ 1 _ rfl; (with_reducible repeat (first | apply blk_drewN | apply blk_drew | apply blk_alloc)); refine blk_put (cs := #[.slice none 0 0, .slice none 0 0]) ?_ 0 _ rfl; (with_reducible repeat (first | apply blk_drewN | apply blk_drew | apply blk_alloc)); exact BK305.out) Try.underlying42 rfl (by kernel_rfl)) rfl ?_
        exact ⟨_, _, eV, by (with_reducible repeat (first | apply Kd.V_alloc | apply Kd.V_drewN | apply Kd.V_drew)); exact Kd.V_mono (Kd.V_far (p := ⟨gb305, 1, none⟩) (Kd.V_far (p := ⟨gb305, 0, none⟩) (Kd.V_mono HO_309000.out (fun k_ hk => (⟨hk, hk.2.2.2.1⟩ : _ ∧ k_ ≠ gb305))) (fun _ hk => hk.2) (.slice A0_0 l0_0.length c0_0)) (fun _ hk => hk.2) (.slice Ao61 x309001_2.length co61)) (fun _ hk => ⟨hk.1.1, hk.1.2.1⟩), by (with_reducible repeat (first | apply Kd.N_alloc | apply Kd.N_drewN | apply Kd.N_drew)); exact Kd.N_mono (Kd.N_far (p := ⟨gb305, 1, none⟩) (Kd.N_far (p := ⟨gb305, 0, none⟩) (Kd.N_mono HO_309001.out (fun k_ hk => (⟨hk, hk.2.2.1⟩ : _ ∧ k_ ≠ gb305))) (fun _ hk => hk.2) (.slice A0_0 l0_0.length c0_0)) (fun _ hk => hk.2) (.slice Ao61 x309001_2.length co61)) (fun _ hk => hk.1.1), iL HB⟩
 ·rw [if_neg c5] at H
  have c5b0 : (t306 == 0) = false := beq_eq_false_iff_ne.mpr c5
  have c5b1 : (t306 != 0) = true := bne_iff_ne.mpr c5
  simp only [Option.some.injEq, Prod.mk.injEq] at H
  obtain ⟨rfl, rfl, rfl⟩ := H
  go_enter Try.func29, Try.ntmps29
  go_wp2_with (first | ((with_reducible refine gate_dst (N := 3) rfl ?_); (try (refine gate_guard (by rfl) ?_; dsimp only)); refine bX 3 #[.slice A0_0 l0_0.length c0_0, .slice A0_1 l0_1.length c0_1] 42 ?_; intro gb304 hg w62 hbox hb; have n0_ := Aside0.mk (Kd.V_below (Kd.V_elderB (iV HO0_0) gb304 (Nat.le_of_eq hg.symm)) hb); have n1_ := Aside0.mk (Kd.V_below (Kd.V_elderB (iV HO0_1) gb304 (Nat.le_of_eq hg.symm)) hb); have n2_ := jL HB hb; have n3_ := Aside0.mk (hbox); have n4_ := Aside0.mk ((by rw [hg]; exact (below_size (iL HB)) : w.heap.size ≤ gb304)); have n5_ := Aside0.mk ((by rw [hg]; exact (below_size (iL HB)) : w.heap.size ≤ gb304)); clear HO0_0; clear HO0_1; clear HB; have HO0_0 := n0_; have HO0_1 := n1_; have HB := n2_; have BK304 := n3_; have GW304 := n4_; have GE304 := n5_; clear n0_ n1_ n2_ n3_ n4_ n5_; clear hb hbox hg) | ((with_reducible refine gate_dst (N := 6) rfl ?_); (try (refine gate_guard (by rfl) ?_; dsimp only)); refine bX 6 #[.slice none 0 0, .slice none 0 0] 42 ?_; intro gb305 hg w63 hbox hb; have n0_ := Aside0.mk (Kd.V_below (Kd.V_elderB (iV HO0_0) gb305 (Nat.le_of_eq hg.symm)) hb); have n1_ := Aside0.mk (Kd.V_below (Kd.V_elderB (iV HO0_1) gb305 (Nat.le_of_eq hg.symm)) hb); have n2_ := jB BK304 hb; have n3_ := jL HB hb; have n4_ := Aside0.mk (hbox); have n5_ := Aside0.mk ((by rw [hg]; exact (below_size (iL HB)) : w.heap.size ≤ gb305)); have n6_ := Aside0.mk ((by rw [hg]; exact (below_size (iL HB)) : w.heap.size ≤ gb305)); have n7_ := Aside0.mk ((by rw [hg]; exact Nat.ne_of_lt (blk_lt (g := gb304) (o := .cells #[.slice A0_0 l0_0.length c0_0, .slice A0_1 l0_1.length c0_1] 42 (0, 0)) (iB BK304)) : gb304 ≠ gb305)); have n8_ := Aside0.mk ((by rw [hg]; exact Nat.ne_of_gt (blk_lt (g := gb304) (o := .cells #[.slice A0_0 l0_0.length c0_0, .slice A0_1 l0_1.length c0_1] 42 (0, 0)) (iB BK304)) : gb305 ≠ gb304)); clear HO0_0; clear HO0_1; clear BK304; clear HB; have HO0_0 := n0_; have HO0_1 := n1_; have BK304 := n2_; have HB := n3_; have BK305 := n4_; have GW305 := n5_; have GE305 := n6_; have NB304_305 := n7_; have NB305_304 := n8_; clear n0_ n1_ n2_ n3_ n4_ n5_ n6_ n7_ n8_; clear hb hbox hg; have hnb64 := NB304_305.out; have hnc64 := NB305_304.out; have hcz65_0 := cZ BK304 0 (.slice A0_0 l0_0.length c0_0); have hcz65_1 := cZ BK304 1 (.slice A0_1 l0_1.length c0_1); have hfz65_0 := blk_frozen BK304.out 0; have hfz65_1 := blk_frozen BK304.out 1) | ((with_reducible refine gate_callee (f := 54) rfl ?_); refine gL_ (some 12) Try.func54 #[.agg #[.slice A0_0 l0_0.length c0_0, .slice A0_1 l0_1.length c0_1]] ?_; (with_reducible refine (ancepsref57_Valid.calls k _ _ l0_0 _ _ l0_1 t306 _ ?side1 ?side2 ?side3 ?side4 A4.out).mono ?_); (case side1 => repeat (first | exact (Kd.V_reads' HO0_0.out).2.2 | (with_reducible refine Kd.C_alloc ?_ _) | (with_reducible refine Kd.C_drewN ?_ _) | (with_reducible refine Kd.C_drew ?_))); (case side2 => exact (Kd.V_reads' HO0_0.out).2.1); (case side3 => repeat (first | exact (Kd.V_reads' HO0_1.out).2.2 | (with_reducible refine Kd.C_alloc ?_ _) | (with_reducible refine Kd.C_drewN ?_ _) | (with_reducible refine Kd.C_drew ?_))); (case side4 => exact (Kd.V_reads' HO0_1.out).2.1); rintro e w66 ⟨rfl, hb⟩; refine ⟨_, rfl, ?_⟩; have n0_ := Aside0.mk (Kd.V_below (iV HO0_0) hb); have n1_ := Aside0.mk (Kd.V_below (iV HO0_1) hb); have n2_ := jB BK304 hb; have n3_ := jB BK305 hb; have n4_ := jL HB hb; clear HO0_0; clear HO0_1; clear BK304; clear BK305; clear HB; have HO0_0 := n0_; have HO0_1 := n1_; have BK304 := n2_; have BK305 := n3_; have HB := n4_; clear n0_ n1_ n2_ n3_ n4_; (try clear hb); have hcz67_0 := cZ BK305 0 (.slice none 0 0); have hcz67_1 := cZ BK305 1 (.slice none 0 0); have hfz67_0 := blk_frozen BK305.out 0; have hfz67_1 := blk_frozen BK305.out 1))
  refine bodyPost_ret (results_ct rfl _ _ gb305 42 #[.slice none 0 0, .slice none 0 0] (0, 0) _ rfl (by (with_reducible repeat (first | apply blk_drewN | apply blk_drew | apply blk_alloc)); refine blk_put (cs := #[.slice none 0 0, .slice none 0 0]) ?_ 1 _ rfl; (with_reducible repeat (first | apply blk_drewN | apply blk_drew | apply blk_alloc)); refine blk_put (cs := #[.slice none 0 0, .slice none 0 0]) ?_ 0 _ rfl; (with_reducible repeat (first | apply blk_drewN | apply blk_drew | apply blk_alloc)); exact BK305.out) Try.underlying42 rfl (by kernel_rfl)) rfl ?_
  exact ⟨_, _, eV, Kd.V_nil _ _ _ _ _, by first | exact Kd.S_nil _ _ _ _ _ | exact Kd.N_nil _ _ _ _ _ | exact Kd.V_nil _ _ _ _ _ | exact Kd.Q_nil _ _ _ _ _ | exact Kd.R_nil _ _ _ _ _, iL HB⟩

end Go.Proofs.Ytmjigfoldeekmaa.X
