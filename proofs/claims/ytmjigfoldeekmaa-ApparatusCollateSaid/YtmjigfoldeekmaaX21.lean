-- shortened
-- thinned
-- halved indents
-- printed by this session's xprint.py: out of the translation, by the kit's print with additions; Lean checks it
import Derived.Test.YtmjigfoldeekmaaWN
import Derived.Test.YtmjigfoldeekmaaWShare
import Derived.Test.YtmjigfoldeekmaaWRepsOne
import Derived.Test.YtmjigfoldeekmaaX0
import Derived.Test.YtmjigfoldeekmaaXA
namespace Go.Proofs.Ytmjigfoldeekmaa.X
open Go.RowKit Go.Proofs.YtmjigfoldeekmaaW.PrintWords Go.Proofs.YtmjigfoldeekmaaW.PrintLast Go.Proofs.YtmjigfoldeekmaaW.PrintMore
attribute [local go_sem] max2_int min2_int max_two min_two max_three min_three max_four min_four isSome_setCell binOp_gtr_str binOp_leq_str binOp_geq_str   -- for this text's walks alone
set_option linter.unusedVariables false
set_option linter.unusedSimpArgs false

/-! ### ancepsref57_with: function 49 -/
def ancepsref57_with.l0 : Nat → ByteArray → Int → Bool → Int → ByteArray → List (S67) → ByteArray → List (S67) → Option (ByteArray × (List (S67)))
 | 0, _, _, _, _, _, _, _, _ => none
 | k + 1, x1, x2, x8, x9, x335000, x335001, x337000, x337001 => if x9 < (x335001.length : Int) then (if 0 ≤ x9 then (if ((rd_T67 x335001 x9).f0).toList = x1.toList then (if 0 ≤ x2 then (if x337001.length < 5864062014805 then (ancepsref57_with.l0 k x1 x2 true (wrap64 (x9 + 1)) x335000 x335001 x337000 (x337001 ++ [(⟨(rd_T67 x335001 x9).f0, Go.bits .or .i64 ((rd_T67 x335001 x9).f1) (shl .i64 1 x2)⟩ : S67)])) else (none)) else (none)) else (if x337001.length < 5864062014805 then (ancepsref57_with.l0 k x1 x2 x8 (wrap64 (x9 + 1)) x335000 x335001 x337000 (x337001 ++ [(⟨(rd_T67 x335001 x9).f0, (rd_T67 x335001 x9).f1⟩ : S67)])) else (none))) else (none)) else (if x8 = true then (some (x337000, x337001)) else (if 0 ≤ x2 then (if x337001.length < 5864062014805 then (some (x337000, (x337001 ++ [(⟨x1, shl .i64 1 x2⟩ : S67)]))) else (none)) else (none)))
def ancepsref57_with.f (k : Nat) (a0_0 : ByteArray) (l0_1 : List (S67)) (a1 : ByteArray) (a2 : Int) : Option (ByteArray × (List (S67))) := if a1.toList = a0_0.toList then (some (a0_0, l0_1)) else (ancepsref57_with.l0 k a1 a2 false 0 a0_0 l0_1 a0_0 ([] : List (S67)))
theorem ancepsref57_with.mono_l : ∀ k, (∀ y0 y1 y2 y3 y4 y5 y6 y7, LeO (ancepsref57_with.l0 k y0 y1 y2 y3 y4 y5 y6 y7) (ancepsref57_with.l0 (k + 1) y0 y1 y2 y3 y4 y5 y6 y7))
 | 0 => fun _ _ _ _ _ _ _ _ r h => by simp [ancepsref57_with.l0] at h
 | k + 1 => by
  have ih0 := ancepsref57_with.mono_l k
  ·intro y0 y1 y2 y3 y4 y5 y6 y7
   unfold ancepsref57_with.l0
   repeat' first
   | (with_reducible exact ih0 _ _ _ _ _ _ _ _)
   | (with_reducible exact LeO.refl _)
   | (with_reducible exact LeO.none _)
   | (with_reducible refine LeO.ite ?_ ?_)
   | (with_reducible refine LeO.bind ?_ (fun _ => ?_))
   | exact ih0 _ _ _ _ _ _ _ _
   | exact LeO.none _
   | refine LeO.ite ?_ ?_
   | refine LeO.bind ?_ (fun _ => ?_)
theorem ancepsref57_with.mono : ∀ a0 a1 a2 a3 k, LeO (ancepsref57_with.f k a0 a1 a2 a3) (ancepsref57_with.f (k + 1) a0 a1 a2 a3) := by
 intro a0 a1 a2 a3 k
 have ih0 := ancepsref57_with.mono_l k
 unfold ancepsref57_with.f
 repeat' first
   | (with_reducible exact ih0 _ _ _ _ _ _ _ _)
   | (with_reducible exact LeO.refl _)
   | (with_reducible exact LeO.none _)
   | (with_reducible refine LeO.ite ?_ ?_)
   | (with_reducible refine LeO.bind ?_ (fun _ => ?_))
   | exact ih0 _ _ _ _ _ _ _ _
   | exact LeO.none _
   | refine LeO.ite ?_ ?_
   | refine LeO.bind ?_ (fun _ => ?_)
def ancepsref57_with.T14 : Bool × List (List Nat × List Nat) := (true, [([], []), ([0], [0]), ([], []), ([], []), ([3], [3]), ([2, 4], [2, 4]), ([5], [5]), ([1, 6], [1, 6]), ([0, 1, 2, 3, 4, 5, 6, 7], []), ([8, 7, 7, 0, 1, 2, 3, 4, 5, 6, 7], [7, 8])])
def ancepsref57_with.B14 : List Nat := [0, 1, 0, 0, 8, 28, 60, 127, 255, 511]
theorem ancepsref57_with.tab14 : rtab .any (opsOf Try.f49 14) = ancepsref57_with.T14 := by kernel_rfl
theorem ancepsref57_with.bits14 : waitsOk ancepsref57_with.T14.2 ancepsref57_with.B14 = true := by kernel_rfl
set_option maxHeartbeats 8000000 in
set_option maxRecDepth 100000 in
theorem ancepsref57_with.calls (k : Nat) (a0_0 : ByteArray) (P0_1_ : Nat → Prop) (u9000_ : Value) (l0_1 : List (S67)) (a1 : ByteArray) (a2 : Int) (r1 : ByteArray) (r2 : List (S67)) (w0 w : World) (hB : Below w0.heap.size w0 w) (ho0_1 : Kd.R k67 67 w w0.heap.size P0_1_ u9000_ l0_1) (h : ancepsref57_with.f k a0_0 l0_1 a1 a2 = some (r1, r2)) :
  Calls Try.prog 49 #[.agg #[.string a0_0, u9000_], .string a1, .int .i64 a2] w fun e w' => ∃ v1_ : Value, e = .returned (.agg #[.string r1, v1_]) ∧ Kd.R k67 67 w' w0.heap.size (fun k_ => (P0_1_ k_ ∨ w.heap.size ≤ k_)) v1_ r2 ∧ Below w0.heap.size w0 w' ∧ Kept w w' (fun k_ => P0_1_ k_) := by
 have hu65 := Try.underlying65
 have hu67 := Try.underlying67
 have HO0_1 := Aside0.mk (show Kd.R k67 67 w w0.heap.size (fun k_ => (P0_1_ k_ ∨ w.heap.size ≤ k_)) u9000_ l0_1 from Kd.R_mono ho0_1 (fun k_ hk => (.inl hk)))
 have HK := Aside0.mk (Kept.refl w (fun k_ => P0_1_ k_))
 have HW0 := Aside0.mk hB.size
 have HB := Aside0.mk hB
 clear hB
 have H : (if a1.toList = a0_0.toList then (some (a0_0, l0_1)) else (ancepsref57_with.l0 k a1 a2 false 0 a0_0 l0_1 a0_0 ([] : List (S67)))) = some (r1, r2) := h
 clear h
 by_cases c4 : a1.toList = a0_0.toList
 ·rw [if_pos c4] at H
  have c4b0 : (a1.toList == a0_0.toList) = true := beq_iff_eq.mpr c4
  have c4b1 : (a1.toList != a0_0.toList) = false := bne_eq_false_iff_eq.mpr c4
  clear c4
  simp only [Option.some.injEq, Prod.mk.injEq] at H
  obtain ⟨rfl, rfl⟩ := H
  obtain ⟨Ao5, co5, eo5⟩ := Kd.R_slice HO0_1.out
  subst eo5
  go_enter Try.func49, Try.ntmps49
  go_wp2_with (first | ((with_reducible refine gate_dst (N := 3) rfl ?_); refine bX 3 #[.string a0_0, .slice Ao5 l0_1.length co5] 65 ?_; intro gb334 hg w6 hbox hb; have n0_ := jR HO0_1 hb; have n1_ := Aside0.mk (Kept.below (S := (fun k_ => P0_1_ k_)) (by repeat (first | (with_reducible first | exact HK.out | apply Kept.alloc | apply Kept.drewN | apply Kept.drew) | exact HK.out)) hb); have n2_ := jL HB hb; have n3_ := Aside0.mk (hbox); have n4_ := Aside0.mk ((by rw [hg]; exact (by first | exact HK.out.1 | exact (show Kept w _ (fun k_ => P0_1_ k_) from by repeat (first | (with_reducible first | exact HK.out | apply Kept.alloc | apply Kept.drewN | apply Kept.drew) | exact HK.out)).1) : w.heap.size ≤ gb334)); have n5_ := Aside0.mk ((by rw [hg]; exact (below_size (iL HB)) : w0.heap.size ≤ gb334)); clear HO0_1; clear HK; clear HB; have HO0_1 := n0_; have HK := n1_; have HB := n2_; have BK334 := n3_; have GW334 := n4_; have GE334 := n5_; clear n0_ n1_ n2_ n3_ n4_ n5_; clear hb hbox hg) | ((with_reducible refine gate_dst (N := 6) rfl ?_); refine bX 6 #[.string (⟨#[]⟩ : ByteArray), .slice none 0 0] 65 ?_; intro gb335 hg w7 hbox hb; have n0_ := jR HO0_1 hb; have n1_ := jB BK334 hb; have n2_ := Aside0.mk (Kept.below (S := (fun k_ => P0_1_ k_)) (by repeat (first | (with_reducible first | exact HK.out | apply Kept.alloc | apply Kept.drewN | apply Kept.drew | refine Kept.setCell ?_ (.inr GW334.out) _) | exact HK.out)) hb); have n3_ := jL HB hb; have n4_ := Aside0.mk (hbox); have n5_ := Aside0.mk ((by rw [hg]; exact (by first | exact HK.out.1 | exact (show Kept w _ (fun k_ => P0_1_ k_) from by repeat (first | (with_reducible first | exact HK.out | apply Kept.alloc | apply Kept.drewN | apply Kept.drew | refine Kept.setCell ?_ (.inr GW334.out) _) | exact HK.out)).1) : w.heap.size ≤ gb335)); have n6_ := Aside0.mk ((by rw [hg]; exact (below_size (iL HB)) : w0.heap.size ≤ gb335)); have n7_ := Aside0.mk ((by rw [hg]; exact Nat.ne_of_lt (blk_lt (g := gb334) (o := .cells #[.string a0_0, .slice Ao5 l0_1.length co5] 65 (0, 0)) (iB BK334)) : gb334 ≠ gb335)); have n8_ := Aside0.mk ((by rw [hg]; exact Nat.ne_of_gt (blk_lt (g := gb334) (o := .cells #[.string a0_0, .slice Ao5 l0_1.length co5] 65 (0, 0)) (iB BK334)) : gb335 ≠ gb334)); clear HO0_1; clear BK334; clear HK; clear HB; have HO0_1 := n0_; have BK334 := n1_; have HK := n2_; have HB := n3_; have BK335 := n4_; have GW335 := n5_; have GE335 := n6_; have NB334_335 := n7_; have NB335_334 := n8_; clear n0_ n1_ n2_ n3_ n4_ n5_ n6_ n7_ n8_; clear hb hbox hg; have hnb8 := NB334_335.out; have hnc8 := NB335_334.out; have hcz9_0 := cZ BK334 0 (.string a0_0); have hcz9_1 := cZ BK334 1 (.slice Ao5 l0_1.length co5); have hfz9_0 := blk_frozen BK334.out 0; have hfz9_1 := blk_frozen BK334.out 1; have hcz10_0 := cZ BK335 0 (.string (⟨#[]⟩ : ByteArray)); have hcz10_1 := cZ BK335 1 (.slice none 0 0); have hfz10_0 := blk_frozen BK335.out 0; have hfz10_1 := blk_frozen BK335.out 1))
  refine bodyPost_ret (results_cell_row rfl _ _ gb335 65 #[.string a0_0, .slice Ao5 l0_1.length co5] (0, 0) _ rfl (by (with_reducible repeat (first | apply blk_drewN | apply blk_drew | apply blk_alloc)); refine blk_put (cs := #[.string a0_0, .slice none 0 0]) ?_ 1 _ rfl; (with_reducible repeat (first | apply blk_drewN | apply blk_drew | apply blk_alloc)); refine blk_put (cs := #[.string (⟨#[]⟩ : ByteArray), .slice none 0 0]) ?_ 0 _ rfl; (with_reducible repeat (first | apply blk_drewN | apply blk_drew | apply blk_alloc)); exact BK335.out) Try.underlying65 rfl (by kernel_rfl)) rfl ?_
  exact ⟨_, by first | rfl | (simp [errW_none, errW_some] <;> rfl) | (simp [*, errW_none, errW_some] <;> rfl), by (with_reducible repeat (first | apply Kd.R_alloc | apply Kd.R_drewN | apply Kd.R_drew)); exact Kd.R_mono (Kd.R_far (p := ⟨gb335, 1, none⟩) (Kd.R_far (p := ⟨gb335, 0, none⟩) (Kd.R_types HO0_1.out BK335.out (by decide)) (fun _ hk => hk.2) (.string a0_0)) (fun _ hk => hk.2) (.slice Ao5 l0_1.length co5)) (fun _ hk => hk.1), by repeat (first | (with_reducible first | exact HB.out | apply below_alloc | apply pw_below_drewN | apply below_drew1 | refine below_set ?_ GE334.out | refine below_set ?_ GE335.out) | exact HB.out), by repeat (first | (with_reducible first | exact HK.out | apply Kept.alloc | apply Kept.drewN | apply Kept.drew | refine Kept.setCell ?_ (.inr GW334.out) _ | refine Kept.setCell ?_ (.inr GW335.out) _) | exact HK.out)⟩
 ·rw [if_neg c4] at H
  have c4b0 : (a1.toList == a0_0.toList) = false := beq_eq_false_iff_ne.mpr c4
  have c4b1 : (a1.toList != a0_0.toList) = true := bne_iff_ne.mpr c4
  have H' := Aside0.mk H
  clear H
  obtain ⟨Ao11, co11, eo11⟩ := Kd.R_slice HO0_1.out
  subst eo11
  go_enter Try.func49, Try.ntmps49
  go_wp2_with (first | ((with_reducible refine gate_dst (N := 3) rfl ?_); refine bX 3 #[.string a0_0, .slice Ao11 l0_1.length co11] 65 ?_; intro gb334 hg w12 hbox hb; have n0_ := jR HO0_1 hb; have n1_ := Aside0.mk (Kept.below (S := (fun k_ => P0_1_ k_)) (by repeat (first | (with_reducible first | exact HK.out | apply Kept.alloc | apply Kept.drewN | apply Kept.drew) | exact HK.out)) hb); have n2_ := jL HB hb; have n3_ := Aside0.mk (hbox); have n4_ := Aside0.mk ((by rw [hg]; exact (by first | exact HK.out.1 | exact (show Kept w _ (fun k_ => P0_1_ k_) from by repeat (first | (with_reducible first | exact HK.out | apply Kept.alloc | apply Kept.drewN | apply Kept.drew) | exact HK.out)).1) : w.heap.size ≤ gb334)); have n5_ := Aside0.mk ((by rw [hg]; exact (below_size (iL HB)) : w0.heap.size ≤ gb334)); clear HO0_1; clear HK; clear HB; have HO0_1 := n0_; have HK := n1_; have HB := n2_; have BK334 := n3_; have GW334 := n4_; have GE334 := n5_; clear n0_ n1_ n2_ n3_ n4_ n5_; clear hb hbox hg) | ((with_reducible refine gate_dst (N := 6) rfl ?_); refine bX 6 #[.string (⟨#[]⟩ : ByteArray), .slice none 0 0] 65 ?_; intro gb335 hg w13 hbox hb; have n0_ := jR HO0_1 hb; have n1_ := jB BK334 hb; have n2_ := Aside0.mk (Kept.below (S := (fun k_ => P0_1_ k_)) (by repeat (first | (with_reducible first | exact HK.out | apply Kept.alloc | apply Kept.drewN | apply Kept.drew | refine Kept.setCell ?_ (.inr GW334.out) _) | exact HK.out)) hb); have n3_ := jL HB hb; have n4_ := Aside0.mk (hbox); have n5_ := Aside0.mk ((by rw [hg]; exact (by first | exact HK.out.1 | exact (show Kept w _ (fun k_ => P0_1_ k_) from by repeat (first | (with_reducible first | exact HK.out | apply Kept.alloc | apply Kept.drewN | apply Kept.drew | refine Kept.setCell ?_ (.inr GW334.out) _) | exact HK.out)).1) : w.heap.size ≤ gb335)); have n6_ := Aside0.mk ((by rw [hg]; exact (below_size (iL HB)) : w0.heap.size ≤ gb335)); have n7_ := Aside0.mk ((by rw [hg]; exact Nat.ne_of_lt (blk_lt (g := gb334) (o := .cells #[.string a0_0, .slice Ao11 l0_1.length co11] 65 (0, 0)) (iB BK334)) : gb334 ≠ gb335)); have n8_ := Aside0.mk ((by rw [hg]; exact Nat.ne_of_gt (blk_lt (g := gb334) (o := .cells #[.string a0_0, .slice Ao11 l0_1.length co11] 65 (0, 0)) (iB BK334)) : gb335 ≠ gb334)); clear HO0_1; clear BK334; clear HK; clear HB; have HO0_1 := n0_; have BK334 := n1_; have HK := n2_; have HB := n3_; have BK335 := n4_; have GW335 := n5_; have GE335 := n6_; have NB334_335 := n7_; have NB335_334 := n8_; clear n0_ n1_ n2_ n3_ n4_ n5_ n6_ n7_ n8_; clear hb hbox hg; have hnb14 := NB334_335.out; have hnc14 := NB335_334.out; have hcz15_0 := cZ BK334 0 (.string a0_0); have hcz15_1 := cZ BK334 1 (.slice Ao11 l0_1.length co11); have hfz15_0 := blk_frozen BK334.out 0; have hfz15_1 := blk_frozen BK334.out 1) | ((with_reducible refine gate_dst (N := 7) rfl ?_); refine bX 7 #[.string (⟨#[]⟩ : ByteArray), .slice none 0 0] 65 ?_; intro gb336 hg w16 hbox hb; have n0_ := jR HO0_1 hb; have n1_ := jB BK334 hb; have n2_ := jB BK335 hb; have n3_ := Aside0.mk (Kept.below (S := (fun k_ => P0_1_ k_)) (by repeat (first | (with_reducible first | exact HK.out | apply Kept.alloc | apply Kept.drewN | apply Kept.drew | refine Kept.setCell ?_ (.inr GW334.out) _ | refine Kept.setCell ?_ (.inr GW335.out) _) | exact HK.out)) hb); have n4_ := jL HB hb; have n5_ := Aside0.mk (hbox); have n6_ := Aside0.mk ((by rw [hg]; exact (by first | exact HK.out.1 | exact (show Kept w _ (fun k_ => P0_1_ k_) from by repeat (first | (with_reducible first | exact HK.out | apply Kept.alloc | apply Kept.drewN | apply Kept.drew | refine Kept.setCell ?_ (.inr GW334.out) _ | refine Kept.setCell ?_ (.inr GW335.out) _) | exact HK.out)).1) : w.heap.size ≤ gb336)); have n7_ := Aside0.mk ((by rw [hg]; exact (below_size (iL HB)) : w0.heap.size ≤ gb336)); have n8_ := Aside0.mk ((by rw [hg]; exact Nat.ne_of_lt (blk_lt (g := gb334) (o := .cells #[.string a0_0, .slice Ao11 l0_1.length co11] 65 (0, 0)) (iB BK334)) : gb334 ≠ gb336)); have n9_ := Aside0.mk ((by rw [hg]; exact Nat.ne_of_gt (blk_lt (g := gb334) (o := .cells #[.string a0_0, .slice Ao11 l0_1.length co11] 65 (0, 0)) (iB BK334)) : gb336 ≠ gb334)); have n10_ := Aside0.mk ((by rw [hg]; exact Nat.ne_of_lt (blk_lt (g := gb335) (o := .cells #[.string (⟨#[]⟩ : ByteArray), .slice none 0 0] 65 (0, 0)) (iB BK335)) : gb335 ≠ gb336)); have n11_ := Aside0.mk ((by rw [hg]; exact Nat.ne_of_gt (blk_lt (g := gb335) (o := .cells #[.string (⟨#[]⟩ : ByteArray), .slice none 0 0] 65 (0, 0)) (iB BK335)) : gb336 ≠ gb335)); clear HO0_1; clear BK334; clear BK335; clear HK; clear HB; have HO0_1 := n0_; have BK334 := n1_; have BK335 := n2_; have HK := n3_; have HB := n4_; have BK336 := n5_; have GW336 := n6_; have GE336 := n7_; have NB334_336 := n8_; have NB336_334 := n9_; have NB335_336 := n10_; have NB336_335 := n11_; clear n0_ n1_ n2_ n3_ n4_ n5_ n6_ n7_ n8_ n9_ n10_ n11_; clear hb hbox hg; have hnb17 := NB336_334.out; have hnc17 := NB334_336.out; have hnb18 := NB336_335.out; have hnc18 := NB335_336.out; have hcz19_0 := cZ BK336 0 (.string (⟨#[]⟩ : ByteArray)); have hcz19_1 := cZ BK336 1 (.slice none 0 0); have hfz19_0 := blk_frozen BK336.out 0; have hfz19_1 := blk_frozen BK336.out 1))
  go_loopg [8, 9] k (fun kq v8 v9 w' => ∃ (x8_1 : Bool) (x9_1 : Int) (x337001_1 : List (S67)) (u337001 : Value), v8 = .bool x8_1 ∧ v9 = .int .i64 x9_1 ∧ Aside0 (ancepsref57_with.l0 kq a1 a2 x8_1 x9_1 a0_0 l0_1 a0_0 x337001_1 = some (r1, r2)) ∧ Aside0 (kq ≤ k) ∧ Aside0 (Kd.R k67 67 w' w0.heap.size (fun k_ => (P0_1_ k_ ∨ w.heap.size ≤ k_) ∧ some k_ ≠ (u337001 : Value).ownBlock) (.slice Ao11 l0_1.length co11) l0_1) ∧ Aside0 (Kd.R k67 67 w' w0.heap.size (fun k_ => (P0_1_ k_ ∨ w.heap.size ≤ k_) ∧ some k_ ≠ ((.slice Ao11 l0_1.length co11) : Value).ownBlock) u337001 x337001_1) ∧ Aside0 (w'.heap[gb334]? = some (.cells #[.string a0_0, (.slice Ao11 l0_1.length co11)] 65 (0, 0))) ∧ Aside0 (w'.heap[gb335]? = some (.cells #[.string (⟨#[]⟩ : ByteArray), (.slice none 0 0)] 65 (0, 0))) ∧ Aside0 (w'.heap[gb336]? = some (.cells #[.string a0_0, u337001] 65 (0, 0))) ∧ Aside0 (Kept w w' (fun k_ => P0_1_ k_)) ∧ Aside0 (Below w0.heap.size w0 w'))
  case atStart => exact ⟨(false), (0), (([] : List (S67))), (.slice none 0 0), (by first | rfl | (simp; done) | (simp [*]; done)), (by first | rfl | (simp; done) | (simp [*]; done)), H', ⟨Nat.le_refl _⟩, ⟨by (with_reducible repeat (first | apply Kd.R_alloc | apply Kd.R_drewN | apply Kd.R_drew)); exact Kd.R_mono (Kd.R_far (p := ⟨gb336, 1, none⟩) (Kd.R_far (p := ⟨gb336, 0, none⟩) (Kd.R_types HO0_1.out BK336.out (by decide)) (fun _ hk => hk.2) (.string a0_0)) (fun _ hk => hk.2) (.slice none 0 0)) (fun _ hk => ⟨hk.1, (by simp [Value.ownBlock])⟩)⟩, ⟨by first | exact Kd.R_nil _ _ _ _ _ | exact Kd.N_nil _ _ _ _ _ | exact Kd.V_nil _ _ _ _ _ | exact Kd.Q_nil _ _ _ _ _ | exact Kd.S_nil _ _ _ _ _⟩, ⟨by (with_reducible repeat (first | apply blk_drewN | apply blk_drew | apply blk_alloc)); refine blk_far ?_ NB334_336.out _; (with_reducible repeat (first | apply blk_drewN | apply blk_drew | apply blk_alloc)); refine blk_far ?_ NB334_336.out _; (with_reducible repeat (first | apply blk_drewN | apply blk_drew | apply blk_alloc)); exact BK334.out⟩, ⟨by (with_reducible repeat (first | apply blk_drewN | apply blk_drew | apply blk_alloc)); refine blk_far ?_ NB335_336.out _; (with_reducible repeat (first | apply blk_drewN | apply blk_drew | apply blk_alloc)); refine blk_far ?_ NB335_336.out _; (with_reducible repeat (first | apply blk_drewN | apply blk_drew | apply blk_alloc)); exact BK335.out⟩, ⟨by (with_reducible repeat (first | apply blk_drewN | apply blk_drew | apply blk_alloc)); refine blk_put (cs := #[.string a0_0, .slice none 0 0]) ?_ 1 _ rfl; (with_reducible repeat (first | apply blk_drewN | apply blk_drew | apply blk_alloc)); refine blk_put (cs := #[.string (⟨#[]⟩ : ByteArray), .slice none 0 0]) ?_ 0 _ rfl; (with_reducible repeat (first | apply blk_drewN | apply blk_drew | apply blk_alloc)); exact BK336.out⟩, ⟨by repeat (first | (with_reducible first | exact HK.out | apply Kept.alloc | apply Kept.drewN | apply Kept.drew | refine Kept.setCell ?_ (.inr GW334.out) _ | refine Kept.setCell ?_ (.inr GW335.out) _ | refine Kept.setCell ?_ (.inr GW336.out) _) | exact HK.out)⟩, ⟨by repeat (first | (with_reducible first | exact HB.out | apply below_alloc | apply pw_below_drewN | apply below_drew1 | refine below_set ?_ GE334.out | refine below_set ?_ GE335.out | refine below_set ?_ GE336.out) | exact HB.out)⟩⟩
  case round =>
   clear H'
   try clear c1
   try clear p2
   try clear c4
   try clear c4b0
   try clear c4b1
   try clear c8
   try clear c14
   try clear c17
   try clear c18
   try clear hcz10_0
   try clear hcz10_1
   try clear hcz15_0
   try clear hcz15_1
   try clear hcz19_0
   try clear hcz19_1
   try clear hcz9_0
   try clear hcz9_1
   try clear hfz10_0
   try clear hfz10_1
   try clear hfz15_0
   try clear hfz15_1
   try clear hfz19_0
   try clear hfz19_1
   try clear hfz9_0
   try clear hfz9_1
   obtain ⟨x8_1, x9_1, x337001_1, u337001, rfl, rfl, HA, HK1, HO_335001, HO_337001, BK334, BK335, BK336, HK, HB⟩ := hrel
   cases gk with
   | zero => exact absurd HA.out (by simp [ancepsref57_with.l0])
   | succ k1 =>
    have H := HA.out
    clear HA
    simp only [ancepsref57_with.l0] at H
    by_cases c20 : x9_1 < (l0_1.length : Int)
    ·rw [if_pos c20] at H
     have c20b0 : decide (x9_1 < (l0_1.length : Int)) = true := decide_eq_true c20
     clear c20
     by_cases c21 : 0 ≤ x9_1
     ·rw [if_pos c21] at H
      have c21b0 : decide (0 ≤ x9_1) = true := decide_eq_true c21
      clear c21
      by_cases c22 : ((rd_T67 l0_1 x9_1).f0).toList = a1.toList
      ·rw [if_pos c22] at H
       have c22b0 : (((rd_T67 l0_1 x9_1).f0).toList == a1.toList) = true := beq_iff_eq.mpr c22
       have c22b1 : (((rd_T67 l0_1 x9_1).f0).toList != a1.toList) = false := bne_eq_false_iff_eq.mpr c22
       clear c22
       by_cases c23 : 0 ≤ a2
       ·rw [if_pos c23] at H
        have c23b0 := eq_true c23
        have c23b1 : decide (0 ≤ a2) = true := decide_eq_true c23
        clear c23
        obtain ⟨ji24, hji24⟩ : ∃ j_ : Int, (shl .i64 1 a2) = j_ := ⟨_, rfl⟩
        replace H : (if x337001_1.length < 5864062014805 then (ancepsref57_with.l0 k1 a1 a2 true (wrap64 (x9_1 + 1)) a0_0 l0_1 a0_0 (x337001_1 ++ [(⟨(rd_T67 l0_1 x9_1).f0, Go.bits .or .i64 ((rd_T67 l0_1 x9_1).f1) (ji24)⟩ : S67)])) else (none)) = some (r1, r2) := by first | (rw [hji24] at H; exact H) | (simp only [hji24] at H ⊢; exact H)
        have hji24_ : (IntKind.i64.wrap (1 * 2 ^ min a2.toNat 64)) = ji24 := hji24
        have hji24z : a2 ≤ 64 → (IntKind.i64.wrap (1 * 2 ^ a2.toNat)) = ji24 := shl_small hji24
        have hji24u : (IntKind.i64.wrap (2 ^ min a2.toNat 64)) = ji24 := by have h_ := hji24_; rw [Int.one_mul] at h_; exact h_
        have hji24v : a2 ≤ 64 → (IntKind.i64.wrap (2 ^ a2.toNat)) = ji24 := fun hle_ => by have h_ := hji24z hle_; rw [Int.one_mul] at h_; exact h_
        have hji24y : (wrap64 (1 * 2 ^ min a2.toNat 64)) = ji24 := (i64_w _).symm.trans hji24_
        have hji24x : a2 ≤ 64 → (wrap64 (1 * 2 ^ a2.toNat)) = ji24 := fun h_ => (i64_w _).symm.trans (hji24z h_)
        by_cases c25 : x337001_1.length < 5864062014805
        ·rw [if_pos c25] at H
         have LMc25 := Aside0.mk c25
         clear c25
         obtain ⟨y339, hy339⟩ : ∃ y_ : List (S67), y_ = (x337001_1 ++ [(⟨(rd_T67 l0_1 x9_1).f0, Go.bits .or .i64 ((rd_T67 l0_1 x9_1).f1) (ji24)⟩ : S67)]) := ⟨_, rfl⟩
         replace H : (ancepsref57_with.l0 k1 a1 a2 true (wrap64 (x9_1 + 1)) a0_0 l0_1 a0_0 y339) = some (r1, r2) := by first | (rw [hy339]; with_reducible exact H) | (have H2_ := (Option.bind_some _ _).symm.trans H; rw [hy339]; with_reducible exact H2_) | (have H2_ := (Option.bind_some _ _).symm.trans H; with_reducible exact H2_) | with_reducible exact H | (rw [hy339]; exact H) | exact H
         have Ny339 := Aside0.mk hy339
         clear hy339
         have H' := Aside0.mk H
         clear H
         have hnb26 := NB334_335.out
         have hnc26 := NB335_334.out
         have hnb27 := NB334_336.out
         have hnc27 := NB336_334.out
         have hcz28_0 := cZ BK334 0 (.string a0_0)
         have hcz28_1 := cZ BK334 1 (.slice Ao11 l0_1.length co11)
         have hfz28_0 := blk_frozen BK334.out 0
         have hfz28_1 := blk_frozen BK334.out 1
         have p337 : 0 ≤ (x9_1 : Int) := of_decide_eq_true (by first | (with_reducible assumption) | assumption)
         have q337 : x9_1 < (l0_1.length : Int) := of_decide_eq_true (by first | (with_reducible assumption) | assumption)
         obtain ⟨ad337, e337, hx337_0, hx337_1⟩ := at_T67 (Kd.R_reads' HO_335001.out).2.2 x9_1 p337 q337
         cases e337
         replace p337 := eq_true p337
         replace q337 := eq_true q337
         try go_wp2_with (first | ((with_reducible refine gate_dst (N := 10) rfl ?_); refine bX 10 #[.string (⟨#[]⟩ : ByteArray), .int .i64 0] 67 ?_; intro gb338 hg w29 hbox hb; have n0_ := Aside0.mk (Kd.R_below (Kd.R_elderB (iR HO_335001) gb338 (Nat.le_of_eq hg.symm)) hb); have n1_ := Aside0.mk (Kd.R_below (Kd.R_elderB (iR HO_337001) gb338 (Nat.le_of_eq hg.symm)) hb); have n2_ := jB BK334 hb; have n3_ := jB BK335 hb; have n4_ := jB BK336 hb; have n5_ := Aside0.mk (Kept.below (S := (fun k_ => P0_1_ k_)) (by repeat (first | (with_reducible first | exact HK.out | apply Kept.alloc | apply Kept.drewN | apply Kept.drew | refine Kept.setCell ?_ (.inr GW334.out) _ | refine Kept.setCell ?_ (.inr GW335.out) _ | refine Kept.setCell ?_ (.inr GW336.out) _) | exact HK.out)) hb); have n6_ := jL HB hb; have n7_ := Aside0.mk (hbox); have n8_ := Aside0.mk ((by rw [hg]; exact (by first | exact HK.out.1 | exact (show Kept w _ (fun k_ => P0_1_ k_) from by repeat (first | (with_reducible first | exact HK.out | apply Kept.alloc | apply Kept.drewN | apply Kept.drew | refine Kept.setCell ?_ (.inr GW334.out) _ | refine Kept.setCell ?_ (.inr GW335.out) _ | refine Kept.setCell ?_ (.inr GW336.out) _) | exact HK.out)).1) : w.heap.size ≤ gb338)); have n9_ := Aside0.mk ((by rw [hg]; exact (below_size (iL HB)) : w0.heap.size ≤ gb338)); have n10_ := Aside0.mk ((by rw [hg]; exact Nat.ne_of_lt (blk_lt (g := gb334) (o := .cells #[.string a0_0, .slice (some ad337) l0_1.length co11] 65 (0, 0)) (iB BK334)) : gb334 ≠ gb338)); have n11_ := Aside0.mk ((by rw [hg]; exact Nat.ne_of_gt (blk_lt (g := gb334) (o := .cells #[.string a0_0, .slice (some ad337) l0_1.length co11] 65 (0, 0)) (iB BK334)) : gb338 ≠ gb334)); have n12_ := Aside0.mk ((by rw [hg]; exact Nat.ne_of_lt (blk_lt (g := gb335) (o := .cells #[.string (⟨#[]⟩ : ByteArray), .slice none 0 0] 65 (0, 0)) (iB BK335)) : gb335 ≠ gb338)); have n13_ := Aside0.mk ((by rw [hg]; exact Nat.ne_of_gt (blk_lt (g := gb335) (o := .cells #[.string (⟨#[]⟩ : ByteArray), .slice none 0 0] 65 (0, 0)) (iB BK335)) : gb338 ≠ gb335)); have n14_ := Aside0.mk ((by rw [hg]; exact Nat.ne_of_lt (blk_lt (g := gb336) (o := .cells #[.string a0_0, u337001] 65 (0, 0)) (iB BK336)) : gb336 ≠ gb338)); have n15_ := Aside0.mk ((by rw [hg]; exact Nat.ne_of_gt (blk_lt (g := gb336) (o := .cells #[.string a0_0, u337001] 65 (0, 0)) (iB BK336)) : gb338 ≠ gb336)); clear HO_335001; clear HO_337001; clear BK334; clear BK335; clear BK336; clear HK; clear HB; have HO_335001 := n0_; have HO_337001 := n1_; have BK334 := n2_; have BK335 := n3_; have BK336 := n4_; have HK := n5_; have HB := n6_; have BK338 := n7_; have GW338 := n8_; have GE338 := n9_; have NB334_338 := n10_; have NB338_334 := n11_; have NB335_338 := n12_; have NB338_335 := n13_; have NB336_338 := n14_; have NB338_336 := n15_; clear n0_ n1_ n2_ n3_ n4_ n5_ n6_ n7_ n8_ n9_ n10_ n11_ n12_ n13_ n14_ n15_; clear hb hbox hg; have hnb30 := NB338_334.out; have hnc30 := NB334_338.out; have hnb31 := NB338_335.out; have hnc31 := NB335_338.out; have hnb32 := NB338_336.out; have hnc32 := NB336_338.out; have hcz33_0 := cZ BK338 0 (.string (⟨#[]⟩ : ByteArray)); have hcz33_1 := cZ BK338 1 (.int .i64 0); have hfz33_0 := blk_frozen BK338.out 0; have hfz33_1 := blk_frozen BK338.out 1))
         have n0_ : Aside0 (Kd.R k67 67 ((w29.setCell ⟨gb338, 0, none⟩ (.string ((rd_T67 l0_1 x9_1).f0))).setCell ⟨gb338, 1, none⟩ (.int .i64 ((rd_T67 l0_1 x9_1).f1))) w0.heap.size (fun k_ => (P0_1_ k_ ∨ w.heap.size ≤ k_) ∧ some k_ ≠ (u337001 : Value).ownBlock ∧ k_ ≠ gb338) (.slice (some ad337) l0_1.length co11) l0_1) := ⟨by (with_reducible repeat (first | apply Kd.R_alloc | apply Kd.R_drewN | apply Kd.R_drew)); exact Kd.R_mono (Kd.R_far (p := ⟨gb338, 1, none⟩) (Kd.R_far (p := ⟨gb338, 0, none⟩) (Kd.R_mono HO_335001.out (fun k_ hk => (⟨hk, hk.2⟩ : _ ∧ k_ ≠ gb338))) (fun _ hk => hk.2) (.string ((rd_T67 l0_1 x9_1).f0))) (fun _ hk => hk.2) (.int .i64 ((rd_T67 l0_1 x9_1).f1))) (fun _ hk => ⟨hk.1.1.1, ⟨hk.1.1.2, hk.1.2⟩⟩)⟩
         have n1_ : Aside0 (Kd.R k67 67 ((w29.setCell ⟨gb338, 0, none⟩ (.string ((rd_T67 l0_1 x9_1).f0))).setCell ⟨gb338, 1, none⟩ (.int .i64 ((rd_T67 l0_1 x9_1).f1))) w0.heap.size (fun k_ => (P0_1_ k_ ∨ w.heap.size ≤ k_) ∧ some k_ ≠ (.slice (some ad337) l0_1.length co11 : Value).ownBlock ∧ k_ ≠ gb338) u337001 x337001_1) := ⟨by (with_reducible repeat (first | apply Kd.R_alloc | apply Kd.R_drewN | apply Kd.R_drew)); exact Kd.R_mono (Kd.R_far (p := ⟨gb338, 1, none⟩) (Kd.R_far (p := ⟨gb338, 0, none⟩) (Kd.R_mono HO_337001.out (fun k_ hk => (⟨hk, hk.2⟩ : _ ∧ k_ ≠ gb338))) (fun _ hk => hk.2) (.string ((rd_T67 l0_1 x9_1).f0))) (fun _ hk => hk.2) (.int .i64 ((rd_T67 l0_1 x9_1).f1))) (fun _ hk => ⟨hk.1.1.1, ⟨hk.1.1.2, hk.1.2⟩⟩)⟩
         have n2_ : Aside0 (((w29.setCell ⟨gb338, 0, none⟩ (.string ((rd_T67 l0_1 x9_1).f0))).setCell ⟨gb338, 1, none⟩ (.int .i64 ((rd_T67 l0_1 x9_1).f1))).heap[gb334]? = some (.cells #[.string a0_0, .slice (some ad337) l0_1.length co11] 65 (0, 0))) := ⟨by (with_reducible repeat (first | apply blk_drewN | apply blk_drew | apply blk_alloc)); refine blk_far ?_ NB334_338.out _; (with_reducible repeat (first | apply blk_drewN | apply blk_drew | apply blk_alloc)); refine blk_far ?_ NB334_338.out _; (with_reducible repeat (first | apply blk_drewN | apply blk_drew | apply blk_alloc)); exact BK334.out⟩
         have n3_ : Aside0 (((w29.setCell ⟨gb338, 0, none⟩ (.string ((rd_T67 l0_1 x9_1).f0))).setCell ⟨gb338, 1, none⟩ (.int .i64 ((rd_T67 l0_1 x9_1).f1))).heap[gb335]? = some (.cells #[.string (⟨#[]⟩ : ByteArray), .slice none 0 0] 65 (0, 0))) := ⟨by (with_reducible repeat (first | apply blk_drewN | apply blk_drew | apply blk_alloc)); refine blk_far ?_ NB335_338.out _; (with_reducible repeat (first | apply blk_drewN | apply blk_drew | apply blk_alloc)); refine blk_far ?_ NB335_338.out _; (with_reducible repeat (first | apply blk_drewN | apply blk_drew | apply blk_alloc)); exact BK335.out⟩
         have n4_ : Aside0 (((w29.setCell ⟨gb338, 0, none⟩ (.string ((rd_T67 l0_1 x9_1).f0))).setCell ⟨gb338, 1, none⟩ (.int .i64 ((rd_T67 l0_1 x9_1).f1))).heap[gb336]? = some (.cells #[.string a0_0, u337001] 65 (0, 0))) := ⟨by (with_reducible repeat (first | apply blk_drewN | apply blk_drew | apply blk_alloc)); refine blk_far ?_ NB336_338.out _; (with_reducible repeat (first | apply blk_drewN | apply blk_drew | apply blk_alloc)); refine blk_far ?_ NB336_338.out _; (with_reducible repeat (first | apply blk_drewN | apply blk_drew | apply blk_alloc)); exact BK336.out⟩
         have n5_ : Aside0 (((w29.setCell ⟨gb338, 0, none⟩ (.string ((rd_T67 l0_1 x9_1).f0))).setCell ⟨gb338, 1, none⟩ (.int .i64 ((rd_T67 l0_1 x9_1).f1))).heap[gb338]? = some (.cells #[.string ((rd_T67 l0_1 x9_1).f0), .int .i64 ((rd_T67 l0_1 x9_1).f1)] 67 (0, 0))) := ⟨by (with_reducible repeat (first | apply blk_drewN | apply blk_drew | apply blk_alloc)); refine blk_put (cs := #[.string ((rd_T67 l0_1 x9_1).f0), .int .i64 0]) ?_ 1 _ rfl; (with_reducible repeat (first | apply blk_drewN | apply blk_drew | apply blk_alloc)); refine blk_put (cs := #[.string (⟨#[]⟩ : ByteArray), .int .i64 0]) ?_ 0 _ rfl; (with_reducible repeat (first | apply blk_drewN | apply blk_drew | apply blk_alloc)); exact BK338.out⟩
         have n6_ : Aside0 (Kept w ((w29.setCell ⟨gb338, 0, none⟩ (.string ((rd_T67 l0_1 x9_1).f0))).setCell ⟨gb338, 1, none⟩ (.int .i64 ((rd_T67 l0_1 x9_1).f1))) (fun k_ => P0_1_ k_)) := ⟨by repeat (first | (with_reducible first | exact HK.out | apply Kept.alloc | apply Kept.drewN | apply Kept.drew | refine Kept.setCell ?_ (.inr GW334.out) _ | refine Kept.setCell ?_ (.inr GW335.out) _ | refine Kept.setCell ?_ (.inr GW336.out) _ | refine Kept.setCell ?_ (.inr GW338.out) _) | exact HK.out)⟩
         have n7_ : Aside0 (Below w0.heap.size w0 ((w29.setCell ⟨gb338, 0, none⟩ (.string ((rd_T67 l0_1 x9_1).f0))).setCell ⟨gb338, 1, none⟩ (.int .i64 ((rd_T67 l0_1 x9_1).f1)))) := ⟨by repeat (first | (with_reducible first | exact HB.out | apply below_alloc | apply pw_below_drewN | apply below_drew1 | refine below_set ?_ GE334.out | refine below_set ?_ GE335.out | refine below_set ?_ GE336.out | refine below_set ?_ GE338.out) | exact HB.out)⟩
         (try clear HO_335001)
         (try clear HO_337001)
         (try clear BK334)
         (try clear BK335)
         (try clear BK336)
         (try clear BK338)
         (try clear HK)
         (try clear HB)
         generalize ((w29.setCell ⟨gb338, 0, none⟩ (.string ((rd_T67 l0_1 x9_1).f0))).setCell ⟨gb338, 1, none⟩ (.int .i64 ((rd_T67 l0_1 x9_1).f1))) = w34 at n0_ n1_ n2_ n3_ n4_ n5_ n6_ n7_ ⊢
         have HO_335001 := n0_
         have HO_337001 := n1_
         have BK334 := n2_
         have BK335 := n3_
         have BK336 := n4_
         have BK338 := n5_
         have HK := n6_
         have HB := n7_
         clear n0_ n1_ n2_ n3_ n4_ n5_ n6_ n7_
         have n0_ := Aside0.mk (Kd.R_drew HO_335001.out)
         have n1_ := Aside0.mk (Kd.R_drew HO_337001.out)
         have n2_ := Aside0.mk (blk_drew BK334.out)
         have n3_ := Aside0.mk (blk_drew BK335.out)
         have n4_ := Aside0.mk (blk_drew BK336.out)
         have n5_ := Aside0.mk (blk_drew BK338.out)
         have n6_ := Aside0.mk (Kept.drew HK.out)
         have n7_ := Aside0.mk (below_drew1 HB.out)
         clear HO_335001
         clear HO_337001
         clear BK334
         clear BK335
         clear BK336
         clear BK338
         clear HK
         clear HB
         have HO_335001 := n0_
         have HO_337001 := n1_
         have BK334 := n2_
         have BK335 := n3_
         have BK336 := n4_
         have BK338 := n5_
         have HK := n6_
         have HB := n7_
         clear n0_ n1_ n2_ n3_ n4_ n5_ n6_ n7_
         refine start_ (n := 7) (S := fun w' => w'.cell? ⟨gb338, 0, none⟩ = some (.string ((rd_T67 l0_1 x9_1).f0)) ∧ w'.cell? ⟨gb338, 1, none⟩ = some (.int .i64 ((rd_T67 l0_1 x9_1).f1))) (ds := [6]) #[false, false, false, false, false, false, false] (by kernel_rfl) rfl rfl ⟨(blk_cell BK338.out 0).trans rfl, (blk_cell BK338.out 1).trans rfl⟩ (fun hHeld => ?_)
         generalize w34.drew = w35 at HO_335001 HO_337001 BK334 BK335 BK336 BK338 HK HB hHeld ⊢
         refine pu_ 0 (some 35) #[true, false, false, false, false, false, false] ?_
         refine pu_ 2 (some 37) #[true, false, true, false, false, false, false] ?_
         refine pu_ 3 (some 38) #[true, false, true, true, false, false, false] ?_
         refine take_ (i := 1) (N := some 36) (v := ?_) (a' := ?_) #[true, true, true, true, false, false, false] rfl rfl (by kernel_rfl) (fun _ _ _ h => h) (Or.inl ⟨by rfl, ?_⟩) hHeld ?_ ?_
         rotate_left
         ·rintro w' ⟨s0, s1⟩
          go_simp
          with_reducible rfl
         rotate_left
         ·simp only [Act.put, List.setIfInBounds_toArray, List.set_cons_zero, List.set_cons_succ, i64_w, i32_w]
          rfl
         refine pu_ 4 (some 39) #[true, true, true, true, true, false, false] ?_
         refine pu_ 5 (some 40) #[true, true, true, true, true, true, false] ?_
         refine last_ (i := 6) (N := none) #[true, true, true, true, true, true, true] rfl rfl (by kernel_rfl) (by decide) (fun K hK => ?_)
         have hs36 : w35.cell? ⟨gb338, 1, none⟩ = some (.int .i64 ((rd_T67 l0_1 x9_1).f1)) := (blk_cell BK338.out 1).trans rfl
         have hfs36 := blk_frozen BK338.out 1
         have hns36_0 := NB334_338.out
         have hns36_1 := NB335_338.out
         have hns36_2 := NB336_338.out
         have hms36_0 := NB338_334.out
         have hms36_1 := NB338_335.out
         have hms36_2 := NB338_336.out
         refine skip_ (w1 := ?_) (by rfl) rfl ?_ ?_
         rotate_left
         ·go_simp
          rfl
         refine hK.out _ _ ?_
         clear hK K
         refine done_ (by kernel_rfl) ?_
         have hnb37 := NB336_335.out
         have hnc37 := NB335_336.out
         have hcz38_0 := cZ BK336 0 (.string a0_0)
         have hcz38_1 := cZ BK336 1 (u337001)
         have hfz38_0 := blk_frozen BK336.out 0
         have hfz38_1 := blk_frozen BK336.out 1
         have hcz39_0 := cZ BK338 0 (.string ((rd_T67 l0_1 x9_1).f0))
         have hcz39_1 := cZ BK338 1 (.int .i64 ((rd_T67 l0_1 x9_1).f1))
         have hfz39_0 := blk_frozen BK338.out 0
         have hfz39_1 := blk_frozen BK338.out 1
         try go_wp2_with (first | ((with_reducible refine gate_builtin (b := .append) (xs := #[.tmp 42, .tmp 44]) rfl ?_); at_builtin; refine Kd.R_append k67 (w0 := w0) w0.heap.size rfl (.tmp 42) (.tmp 44) 63 67 (.agg #[(.string ⟨#[]⟩), (.int .i64 0)]) 24 rfl Try.underlying63 info67 rfl (by decide) (by omega) u337001 x337001_1 (⟨(rd_T67 l0_1 x9_1).f0, Go.bits .or .i64 ((rd_T67 l0_1 x9_1).f1) (ji24)⟩ : S67) [.string ((rd_T67 l0_1 x9_1).f0), .int .i64 (Go.bits .or .i64 ((rd_T67 l0_1 x9_1).f1) (ji24))] (fun k_ => (P0_1_ k_ ∨ w.heap.size ≤ k_) ∧ some k_ ≠ (.slice (some ad337) l0_1.length co11 : Value).ownBlock ∧ k_ ≠ gb338) (fun _ => False) rfl (by first | (go_simp; done) | (go_simp; rfl)) ?aP (fun _ hk => hk.elim) ?aF ?aO ?aB ?aS ?aL ?_; (case aP => exact k67_mkM _ _ _ (⟨(rd_T67 l0_1 x9_1).f0, Go.bits .or .i64 ((rd_T67 l0_1 x9_1).f1) (ji24)⟩ : S67)); (case aB => exact (iL HB)); (case aF => exact (fun k_ hk => ⟨(.inr (Nat.le_trans (show Kept w _ (fun k_ => P0_1_ k_) from by repeat (first | (with_reducible first | exact HK.out | apply Kept.alloc | apply Kept.drewN | apply Kept.drew | refine Kept.setCell ?_ (.inr GW334.out) _ | refine Kept.setCell ?_ (.inr GW335.out) _ | refine Kept.setCell ?_ (.inr GW336.out) _ | refine Kept.setCell ?_ (.inr GW338.out) _) | exact HK.out)).1 hk)), Kd.fresh' (Kd.R_lt (by (with_reducible repeat (first | apply Kd.R_alloc | apply Kd.R_drewN | apply Kd.R_drew)); exact (Kd.R_mono (Kd.R_far (p := ⟨gb338, 1, none⟩) (Kd.R_mono HO_335001.out (fun k_ hk => (⟨hk, hk.2.2⟩ : _ ∧ k_ ≠ gb338))) (fun _ hk => hk.2) (.int .i64 (Go.bits .or .i64 ((rd_T67 l0_1 x9_1).f1) (ji24)))) (fun _ h_ => h_.1)))) k_ hk, Kd.freshB (g := gb338) (o := .cells #[.string ((rd_T67 l0_1 x9_1).f0), .int .i64 (Go.bits .or .i64 ((rd_T67 l0_1 x9_1).f1) (ji24))] 67 (0, 0)) (by (with_reducible repeat (first | apply blk_drewN | apply blk_drew | apply blk_alloc)); refine blk_put (cs := #[.string ((rd_T67 l0_1 x9_1).f0), .int .i64 ((rd_T67 l0_1 x9_1).f1)]) ?_ 1 _ rfl; (with_reducible repeat (first | apply blk_drewN | apply blk_drew | apply blk_alloc)); exact BK338.out) k_ hk⟩)); (case aO => exact (by (with_reducible repeat (first | apply Kd.R_alloc | apply Kd.R_drewN | apply Kd.R_drew)); exact Kd.R_mono (Kd.R_far (p := ⟨gb338, 1, none⟩) (Kd.R_mono HO_337001.out (fun k_ hk => (⟨hk, hk.2.2⟩ : _ ∧ k_ ≠ gb338))) (fun _ hk => hk.2) (.int .i64 (Go.bits .or .i64 ((rd_T67 l0_1 x9_1).f1) (ji24)))) (fun _ hk => ⟨hk.1.1, ⟨hk.1.2.1, hk.1.2.2⟩⟩))); (case aS => exact (below_size (iL HB))); (case aL => have := LMc25.out; omega); intro v340 w40 ho hb hg hat; rw [← Ny339.out] at ho; have n0_ := Aside0.mk (Kd.R_after (ok := (fun k_ => (P0_1_ k_ ∨ w.heap.size ≤ k_) ∧ k_ ≠ gb338)) (by (with_reducible repeat (first | apply Kd.R_alloc | apply Kd.R_drewN | apply Kd.R_drew)); exact Kd.R_mono (Kd.R_far (p := ⟨gb338, 1, none⟩) (Kd.R_mono HO_335001.out (fun k_ hk => (⟨hk, hk.2.2⟩ : _ ∧ k_ ≠ gb338))) (fun _ hk => hk.2) (.int .i64 (Go.bits .or .i64 ((rd_T67 l0_1 x9_1).f1) (ji24)))) (fun _ hk => ⟨⟨hk.1.1, hk.1.2.2⟩, hk.1.2.1⟩)) hg hat); have n1_ := Aside0.mk (blk_grown (g := gb334) (o := .cells #[.string a0_0, .slice (some ad337) l0_1.length co11] 65 (0, 0)) (by (with_reducible repeat (first | apply blk_drewN | apply blk_drew | apply blk_alloc)); refine blk_far ?_ NB334_338.out _; (with_reducible repeat (first | apply blk_drewN | apply blk_drew | apply blk_alloc)); exact BK334.out) hg (Kd.R_ne HO_337001.out BK334.out (by decide))); have n2_ := Aside0.mk (blk_grown (g := gb335) (o := .cells #[.string (⟨#[]⟩ : ByteArray), .slice none 0 0] 65 (0, 0)) (by (with_reducible repeat (first | apply blk_drewN | apply blk_drew | apply blk_alloc)); refine blk_far ?_ NB335_338.out _; (with_reducible repeat (first | apply blk_drewN | apply blk_drew | apply blk_alloc)); exact BK335.out) hg (Kd.R_ne HO_337001.out BK335.out (by decide))); have n3_ := Aside0.mk (blk_grown (g := gb336) (o := .cells #[.string a0_0, u337001] 65 (0, 0)) (by (with_reducible repeat (first | apply blk_drewN | apply blk_drew | apply blk_alloc)); refine blk_far ?_ NB336_338.out _; (with_reducible repeat (first | apply blk_drewN | apply blk_drew | apply blk_alloc)); exact BK336.out) hg (Kd.R_ne HO_337001.out BK336.out (by decide))); have n4_ := Aside0.mk (blk_grown (g := gb338) (o := .cells #[.string ((rd_T67 l0_1 x9_1).f0), .int .i64 (Go.bits .or .i64 ((rd_T67 l0_1 x9_1).f1) (ji24))] 67 (0, 0)) (by (with_reducible repeat (first | apply blk_drewN | apply blk_drew | apply blk_alloc)); refine blk_put (cs := #[.string ((rd_T67 l0_1 x9_1).f0), .int .i64 ((rd_T67 l0_1 x9_1).f1)]) ?_ 1 _ rfl; (with_reducible repeat (first | apply blk_drewN | apply blk_drew | apply blk_alloc)); exact BK338.out) hg (Kd.R_away HO_337001.out (fun _ hk => hk.2.2))); have n5_ := Aside0.mk (hb); have n6_ := Aside0.mk (Kept.of_grown (S := (fun k_ => P0_1_ k_)) hg (by repeat (first | (with_reducible first | exact HK.out | apply Kept.alloc | apply Kept.drewN | apply Kept.drew | refine Kept.setCell ?_ (.inr GW334.out) _ | refine Kept.setCell ?_ (.inr GW335.out) _ | refine Kept.setCell ?_ (.inr GW336.out) _ | refine Kept.setCell ?_ (.inr GW338.out) _) | exact HK.out)) (fun k_ e_ => (HO_337001.out.1 k_ e_).1)); have n7_ := Aside0.mk (ho); clear HO_335001; clear BK334; clear BK335; clear BK336; clear BK338; clear HB; clear HK; clear HO_337001; have HO_335001 := n0_; have BK334 := n1_; have BK335 := n2_; have BK336 := n3_; have BK338 := n4_; have HB := n5_; have HK := n6_; have HO341 := n7_; clear n0_ n1_ n2_ n3_ n4_ n5_ n6_ n7_; clear ho hb hg hat; obtain ⟨Ao41, co41, eo41⟩ := Kd.R_slice HO341.out; subst eo41; have hcz42_0 := cZ BK336 0 (.string a0_0); have hcz42_1 := cZ BK336 1 (u337001); have hfz42_0 := blk_frozen BK336.out 0; have hfz42_1 := blk_frozen BK336.out 1))
         go_roundg k1
         case measure => have := HK1.out; omega
         case rel => exact ⟨(true), (wrap64 (x9_1 + 1)), (y339), (.slice Ao41 y339.length co41), (by first | rfl | (simp; done) | (simp [*]; done)), (by first | rfl | (simp; done) | (simp [*]; done)), H', ⟨by have := HK1.out; omega⟩, ⟨by (with_reducible repeat (first | apply Kd.R_alloc | apply Kd.R_drewN | apply Kd.R_drew)); exact Kd.R_mono (Kd.R_far (p := ⟨gb336, 1, none⟩) (Kd.R_types HO_335001.out BK336.out (by decide)) (fun _ hk => hk.2) (.slice Ao41 y339.length co41)) (fun _ hk => ⟨hk.1.1.1, hk.1.2⟩)⟩, ⟨by (with_reducible repeat (first | apply Kd.R_alloc | apply Kd.R_drewN | apply Kd.R_drew)); exact Kd.R_mono (Kd.R_far (p := ⟨gb336, 1, none⟩) (Kd.R_types HO341.out BK336.out (by decide)) (fun _ hk => hk.2) (.slice Ao41 y339.length co41)) (fun _ hk => ⟨hk.1.1, hk.1.2.1⟩)⟩, ⟨by (with_reducible repeat (first | apply blk_drewN | apply blk_drew | apply blk_alloc)); refine blk_far ?_ NB334_336.out _; (with_reducible repeat (first | apply blk_drewN | apply blk_drew | apply blk_alloc)); exact BK334.out⟩, ⟨by (with_reducible repeat (first | apply blk_drewN | apply blk_drew | apply blk_alloc)); refine blk_far ?_ NB335_336.out _; (with_reducible repeat (first | apply blk_drewN | apply blk_drew | apply blk_alloc)); exact BK335.out⟩, ⟨by (with_reducible repeat (first | apply blk_drewN | apply blk_drew | apply blk_alloc)); refine blk_put (cs := #[.string a0_0, u337001]) ?_ 1 _ rfl; (with_reducible repeat (first | apply blk_drewN | apply blk_drew | apply blk_alloc)); exact BK336.out⟩, ⟨by repeat (first | (with_reducible first | exact HK.out | apply Kept.alloc | apply Kept.drewN | apply Kept.drew | refine Kept.setCell ?_ (.inr GW334.out) _ | refine Kept.setCell ?_ (.inr GW335.out) _ | refine Kept.setCell ?_ (.inr GW336.out) _ | refine Kept.setCell ?_ (.inr GW338.out) _) | exact HK.out)⟩, ⟨by repeat (first | (with_reducible first | exact HB.out | apply below_alloc | apply pw_below_drewN | apply below_drew1 | refine below_set ?_ GE334.out | refine below_set ?_ GE335.out | refine below_set ?_ GE336.out | refine below_set ?_ GE338.out) | exact HB.out)⟩⟩
        ·rw [if_neg c25] at H
         exact absurd H (by simp)
       ·rw [if_neg c23] at H
        exact absurd H (by simp)
      ·rw [if_neg c22] at H
       have c22b0 : (((rd_T67 l0_1 x9_1).f0).toList == a1.toList) = false := beq_eq_false_iff_ne.mpr c22
       have c22b1 : (((rd_T67 l0_1 x9_1).f0).toList != a1.toList) = true := bne_iff_ne.mpr c22
       by_cases c43 : x337001_1.length < 5864062014805
       ·rw [if_pos c43] at H
        have LMc43 := Aside0.mk c43
        clear c43
        obtain ⟨y342, hy342⟩ : ∃ y_ : List (S67), y_ = (x337001_1 ++ [(⟨(rd_T67 l0_1 x9_1).f0, (rd_T67 l0_1 x9_1).f1⟩ : S67)]) := ⟨_, rfl⟩
        replace H : (ancepsref57_with.l0 k1 a1 a2 x8_1 (wrap64 (x9_1 + 1)) a0_0 l0_1 a0_0 y342) = some (r1, r2) := by first | (rw [hy342]; with_reducible exact H) | (have H2_ := (Option.bind_some _ _).symm.trans H; rw [hy342]; with_reducible exact H2_) | (have H2_ := (Option.bind_some _ _).symm.trans H; with_reducible exact H2_) | with_reducible exact H | (rw [hy342]; exact H) | exact H
        have Ny342 := Aside0.mk hy342
        clear hy342
        have H' := Aside0.mk H
        clear H
        have hnb44 := NB334_335.out
        have hnc44 := NB335_334.out
        have hnb45 := NB334_336.out
        have hnc45 := NB336_334.out
        have hcz46_0 := cZ BK334 0 (.string a0_0)
        have hcz46_1 := cZ BK334 1 (.slice Ao11 l0_1.length co11)
        have hfz46_0 := blk_frozen BK334.out 0
        have hfz46_1 := blk_frozen BK334.out 1
        have p337 : 0 ≤ (x9_1 : Int) := of_decide_eq_true (by first | (with_reducible assumption) | assumption)
        have q337 : x9_1 < (l0_1.length : Int) := of_decide_eq_true (by first | (with_reducible assumption) | assumption)
        obtain ⟨ad337, e337, hx337_0, hx337_1⟩ := at_T67 (Kd.R_reads' HO_335001.out).2.2 x9_1 p337 q337
        cases e337
        replace p337 := eq_true p337
        replace q337 := eq_true q337
        go_wp2_with (first | ((with_reducible refine gate_dst (N := 10) rfl ?_); refine bX 10 #[.string (⟨#[]⟩ : ByteArray), .int .i64 0] 67 ?_; intro gb338 hg w47 hbox hb; have n0_ := Aside0.mk (Kd.R_below (Kd.R_elderB (iR HO_335001) gb338 (Nat.le_of_eq hg.symm)) hb); have n1_ := Aside0.mk (Kd.R_below (Kd.R_elderB (iR HO_337001) gb338 (Nat.le_of_eq hg.symm)) hb); have n2_ := jB BK334 hb; have n3_ := jB BK335 hb; have n4_ := jB BK336 hb; have n5_ := Aside0.mk (Kept.below (S := (fun k_ => P0_1_ k_)) (by repeat (first | (with_reducible first | exact HK.out | apply Kept.alloc | apply Kept.drewN | apply Kept.drew | refine Kept.setCell ?_ (.inr GW334.out) _ | refine Kept.setCell ?_ (.inr GW335.out) _ | refine Kept.setCell ?_ (.inr GW336.out) _) | exact HK.out)) hb); have n6_ := jL HB hb; have n7_ := Aside0.mk (hbox); have n8_ := Aside0.mk ((by rw [hg]; exact (by first | exact HK.out.1 | exact (show Kept w _ (fun k_ => P0_1_ k_) from by repeat (first | (with_reducible first | exact HK.out | apply Kept.alloc | apply Kept.drewN | apply Kept.drew | refine Kept.setCell ?_ (.inr GW334.out) _ | refine Kept.setCell ?_ (.inr GW335.out) _ | refine Kept.setCell ?_ (.inr GW336.out) _) | exact HK.out)).1) : w.heap.size ≤ gb338)); have n9_ := Aside0.mk ((by rw [hg]; exact (below_size (iL HB)) : w0.heap.size ≤ gb338)); have n10_ := Aside0.mk ((by rw [hg]; exact Nat.ne_of_lt (blk_lt (g := gb334) (o := .cells #[.string a0_0, .slice (some ad337) l0_1.length co11] 65 (0, 0)) (iB BK334)) : gb334 ≠ gb338)); have n11_ := Aside0.mk ((by rw [hg]; exact Nat.ne_of_gt (blk_lt (g := gb334) (o := .cells #[.string a0_0, .slice (some ad337) l0_1.length co11] 65 (0, 0)) (iB BK334)) : gb338 ≠ gb334)); have n12_ := Aside0.mk ((by rw [hg]; exact Nat.ne_of_lt (blk_lt (g := gb335) (o := .cells #[.string (⟨#[]⟩ : ByteArray), .slice none 0 0] 65 (0, 0)) (iB BK335)) : gb335 ≠ gb338)); have n13_ := Aside0.mk ((by rw [hg]; exact Nat.ne_of_gt (blk_lt (g := gb335) (o := .cells #[.string (⟨#[]⟩ : ByteArray), .slice none 0 0] 65 (0, 0)) (iB BK335)) : gb338 ≠ gb335)); have n14_ := Aside0.mk ((by rw [hg]; exact Nat.ne_of_lt (blk_lt (g := gb336) (o := .cells #[.string a0_0, u337001] 65 (0, 0)) (iB BK336)) : gb336 ≠ gb338)); have n15_ := Aside0.mk ((by rw [hg]; exact Nat.ne_of_gt (blk_lt (g := gb336) (o := .cells #[.string a0_0, u337001] 65 (0, 0)) (iB BK336)) : gb338 ≠ gb336)); clear HO_335001; clear HO_337001; clear BK334; clear BK335; clear BK336; clear HK; clear HB; have HO_335001 := n0_; have HO_337001 := n1_; have BK334 := n2_; have BK335 := n3_; have BK336 := n4_; have HK := n5_; have HB := n6_; have BK338 := n7_; have GW338 := n8_; have GE338 := n9_; have NB334_338 := n10_; have NB338_334 := n11_; have NB335_338 := n12_; have NB338_335 := n13_; have NB336_338 := n14_; have NB338_336 := n15_; clear n0_ n1_ n2_ n3_ n4_ n5_ n6_ n7_ n8_ n9_ n10_ n11_ n12_ n13_ n14_ n15_; clear hb hbox hg; have hnb48 := NB338_334.out; have hnc48 := NB334_338.out; have hnb49 := NB338_335.out; have hnc49 := NB335_338.out; have hnb50 := NB338_336.out; have hnc50 := NB336_338.out; have hcz51_0 := cZ BK338 0 (.string (⟨#[]⟩ : ByteArray)); have hcz51_1 := cZ BK338 1 (.int .i64 0); have hfz51_0 := blk_frozen BK338.out 0; have hfz51_1 := blk_frozen BK338.out 1; have hnb52 := NB336_335.out; have hnc52 := NB335_336.out; have hcz53_0 := cZ BK336 0 (.string a0_0); have hcz53_1 := cZ BK336 1 (u337001); have hfz53_0 := blk_frozen BK336.out 0; have hfz53_1 := blk_frozen BK336.out 1) | ((with_reducible refine gate_builtin (b := .append) (xs := #[.tmp 42, .tmp 44]) rfl ?_); at_builtin; refine Kd.R_append k67 (w0 := w0) w0.heap.size rfl (.tmp 42) (.tmp 44) 63 67 (.agg #[(.string ⟨#[]⟩), (.int .i64 0)]) 24 rfl Try.underlying63 info67 rfl (by decide) (by omega) u337001 x337001_1 (⟨(rd_T67 l0_1 x9_1).f0, (rd_T67 l0_1 x9_1).f1⟩ : S67) [.string ((rd_T67 l0_1 x9_1).f0), .int .i64 ((rd_T67 l0_1 x9_1).f1)] (fun k_ => (P0_1_ k_ ∨ w.heap.size ≤ k_) ∧ some k_ ≠ (.slice (some ad337) l0_1.length co11 : Value).ownBlock ∧ k_ ≠ gb338) (fun _ => False) rfl (by first | (go_simp; done) | (go_simp; rfl)) ?aP (fun _ hk => hk.elim) ?aF ?aO ?aB ?aS ?aL ?_; (case aP => exact k67_mkM _ _ _ (⟨(rd_T67 l0_1 x9_1).f0, (rd_T67 l0_1 x9_1).f1⟩ : S67)); (case aB => exact (iL HB)); (case aF => exact (fun k_ hk => ⟨(.inr (Nat.le_trans (show Kept w _ (fun k_ => P0_1_ k_) from by repeat (first | (with_reducible first | exact HK.out | apply Kept.alloc | apply Kept.drewN | apply Kept.drew | refine Kept.setCell ?_ (.inr GW334.out) _ | refine Kept.setCell ?_ (.inr GW335.out) _ | refine Kept.setCell ?_ (.inr GW336.out) _ | refine Kept.setCell ?_ (.inr GW338.out) _) | exact HK.out)).1 hk)), Kd.fresh' (Kd.R_lt (by (with_reducible repeat (first | apply Kd.R_alloc | apply Kd.R_drewN | apply Kd.R_drew)); exact (Kd.R_mono (Kd.R_far (p := ⟨gb338, 1, none⟩) (Kd.R_far (p := ⟨gb338, 0, none⟩) (Kd.R_mono HO_335001.out (fun k_ hk => (⟨hk, hk.2⟩ : _ ∧ k_ ≠ gb338))) (fun _ hk => hk.2) (.string ((rd_T67 l0_1 x9_1).f0))) (fun _ hk => hk.2) (.int .i64 ((rd_T67 l0_1 x9_1).f1))) (fun _ h_ => h_.1)))) k_ hk, Kd.freshB (g := gb338) (o := .cells #[.string ((rd_T67 l0_1 x9_1).f0), .int .i64 ((rd_T67 l0_1 x9_1).f1)] 67 (0, 0)) (by (with_reducible repeat (first | apply blk_drewN | apply blk_drew | apply blk_alloc)); refine blk_put (cs := #[.string ((rd_T67 l0_1 x9_1).f0), .int .i64 0]) ?_ 1 _ rfl; (with_reducible repeat (first | apply blk_drewN | apply blk_drew | apply blk_alloc)); refine blk_put (cs := #[.string (⟨#[]⟩ : ByteArray), .int .i64 0]) ?_ 0 _ rfl; (with_reducible repeat (first | apply blk_drewN | apply blk_drew | apply blk_alloc)); exact BK338.out) k_ hk⟩)); (case aO => exact (by (with_reducible repeat (first | apply Kd.R_alloc | apply Kd.R_drewN | apply Kd.R_drew)); exact Kd.R_mono (Kd.R_far (p := ⟨gb338, 1, none⟩) (Kd.R_far (p := ⟨gb338, 0, none⟩) (Kd.R_mono HO_337001.out (fun k_ hk => (⟨hk, hk.2⟩ : _ ∧ k_ ≠ gb338))) (fun _ hk => hk.2) (.string ((rd_T67 l0_1 x9_1).f0))) (fun _ hk => hk.2) (.int .i64 ((rd_T67 l0_1 x9_1).f1))) (fun _ hk => ⟨hk.1.1.1, ⟨hk.1.1.2, hk.1.2⟩⟩))); (case aS => exact (below_size (iL HB))); (case aL => have := LMc43.out; omega); intro v343 w54 ho hb hg hat; rw [← Ny342.out] at ho; have n0_ := Aside0.mk (Kd.R_after (ok := (fun k_ => (P0_1_ k_ ∨ w.heap.size ≤ k_) ∧ k_ ≠ gb338)) (by (with_reducible repeat (first | apply Kd.R_alloc | apply Kd.R_drewN | apply Kd.R_drew)); exact Kd.R_mono (Kd.R_far (p := ⟨gb338, 1, none⟩) (Kd.R_far (p := ⟨gb338, 0, none⟩) (Kd.R_mono HO_335001.out (fun k_ hk => (⟨hk, hk.2⟩ : _ ∧ k_ ≠ gb338))) (fun _ hk => hk.2) (.string ((rd_T67 l0_1 x9_1).f0))) (fun _ hk => hk.2) (.int .i64 ((rd_T67 l0_1 x9_1).f1))) (fun _ hk => ⟨⟨hk.1.1.1, hk.1.2⟩, hk.1.1.2⟩)) hg hat); have n1_ := Aside0.mk (blk_grown (g := gb334) (o := .cells #[.string a0_0, .slice (some ad337) l0_1.length co11] 65 (0, 0)) (by (with_reducible repeat (first | apply blk_drewN | apply blk_drew | apply blk_alloc)); refine blk_far ?_ NB334_338.out _; (with_reducible repeat (first | apply blk_drewN | apply blk_drew | apply blk_alloc)); refine blk_far ?_ NB334_338.out _; (with_reducible repeat (first | apply blk_drewN | apply blk_drew | apply blk_alloc)); exact BK334.out) hg (Kd.R_ne HO_337001.out BK334.out (by decide))); have n2_ := Aside0.mk (blk_grown (g := gb335) (o := .cells #[.string (⟨#[]⟩ : ByteArray), .slice none 0 0] 65 (0, 0)) (by (with_reducible repeat (first | apply blk_drewN | apply blk_drew | apply blk_alloc)); refine blk_far ?_ NB335_338.out _; (with_reducible repeat (first | apply blk_drewN | apply blk_drew | apply blk_alloc)); refine blk_far ?_ NB335_338.out _; (with_reducible repeat (first | apply blk_drewN | apply blk_drew | apply blk_alloc)); exact BK335.out) hg (Kd.R_ne HO_337001.out BK335.out (by decide))); have n3_ := Aside0.mk (blk_grown (g := gb336) (o := .cells #[.string a0_0, u337001] 65 (0, 0)) (by (with_reducible repeat (first | apply blk_drewN | apply blk_drew | apply blk_alloc)); refine blk_far ?_ NB336_338.out _; (with_reducible repeat (first | apply blk_drewN | apply blk_drew | apply blk_alloc)); refine blk_far ?_ NB336_338.out _; (with_reducible repeat (first | apply blk_drewN | apply blk_drew | apply blk_alloc)); exact BK336.out) hg (Kd.R_ne HO_337001.out BK336.out (by decide))); have n4_ := Aside0.mk (blk_grown (g := gb338) (o := .cells #[.string ((rd_T67 l0_1 x9_1).f0), .int .i64 ((rd_T67 l0_1 x9_1).f1)] 67 (0, 0)) (by (with_reducible repeat (first | apply blk_drewN | apply blk_drew | apply blk_alloc)); refine blk_put (cs := #[.string ((rd_T67 l0_1 x9_1).f0), .int .i64 0]) ?_ 1 _ rfl; (with_reducible repeat (first | apply blk_drewN | apply blk_drew | apply blk_alloc)); refine blk_put (cs := #[.string (⟨#[]⟩ : ByteArray), .int .i64 0]) ?_ 0 _ rfl; (with_reducible repeat (first | apply blk_drewN | apply blk_drew | apply blk_alloc)); exact BK338.out) hg (Kd.R_away HO_337001.out (fun _ hk => hk.2))); have n5_ := Aside0.mk (hb); have n6_ := Aside0.mk (Kept.of_grown (S := (fun k_ => P0_1_ k_)) hg (by repeat (first | (with_reducible first | exact HK.out | apply Kept.alloc | apply Kept.drewN | apply Kept.drew | refine Kept.setCell ?_ (.inr GW334.out) _ | refine Kept.setCell ?_ (.inr GW335.out) _ | refine Kept.setCell ?_ (.inr GW336.out) _ | refine Kept.setCell ?_ (.inr GW338.out) _) | exact HK.out)) (fun k_ e_ => (HO_337001.out.1 k_ e_).1.1)); have n7_ := Aside0.mk (ho); clear HO_335001; clear BK334; clear BK335; clear BK336; clear BK338; clear HB; clear HK; clear HO_337001; have HO_335001 := n0_; have BK334 := n1_; have BK335 := n2_; have BK336 := n3_; have BK338 := n4_; have HB := n5_; have HK := n6_; have HO344 := n7_; clear n0_ n1_ n2_ n3_ n4_ n5_ n6_ n7_; clear ho hb hg hat; obtain ⟨Ao55, co55, eo55⟩ := Kd.R_slice HO344.out; subst eo55; have hcz56_0 := cZ BK336 0 (.string a0_0); have hcz56_1 := cZ BK336 1 (u337001); have hfz56_0 := blk_frozen BK336.out 0; have hfz56_1 := blk_frozen BK336.out 1))
        go_roundg k1
        case measure => have := HK1.out; omega
        case rel => exact ⟨(x8_1), (wrap64 (x9_1 + 1)), (y342), (.slice Ao55 y342.length co55), (by first | rfl | (simp; done) | (simp [*]; done)), (by first | rfl | (simp; done) | (simp [*]; done)), H', ⟨by have := HK1.out; omega⟩, ⟨by (with_reducible repeat (first | apply Kd.R_alloc | apply Kd.R_drewN | apply Kd.R_drew)); exact Kd.R_mono (Kd.R_far (p := ⟨gb336, 1, none⟩) (Kd.R_types HO_335001.out BK336.out (by decide)) (fun _ hk => hk.2) (.slice Ao55 y342.length co55)) (fun _ hk => ⟨hk.1.1.1, hk.1.2⟩)⟩, ⟨by (with_reducible repeat (first | apply Kd.R_alloc | apply Kd.R_drewN | apply Kd.R_drew)); exact Kd.R_mono (Kd.R_far (p := ⟨gb336, 1, none⟩) (Kd.R_types HO344.out BK336.out (by decide)) (fun _ hk => hk.2) (.slice Ao55 y342.length co55)) (fun _ hk => ⟨hk.1.1, hk.1.2.1⟩)⟩, ⟨by (with_reducible repeat (first | apply blk_drewN | apply blk_drew | apply blk_alloc)); refine blk_far ?_ NB334_336.out _; (with_reducible repeat (first | apply blk_drewN | apply blk_drew | apply blk_alloc)); exact BK334.out⟩, ⟨by (with_reducible repeat (first | apply blk_drewN | apply blk_drew | apply blk_alloc)); refine blk_far ?_ NB335_336.out _; (with_reducible repeat (first | apply blk_drewN | apply blk_drew | apply blk_alloc)); exact BK335.out⟩, ⟨by (with_reducible repeat (first | apply blk_drewN | apply blk_drew | apply blk_alloc)); refine blk_put (cs := #[.string a0_0, u337001]) ?_ 1 _ rfl; (with_reducible repeat (first | apply blk_drewN | apply blk_drew | apply blk_alloc)); exact BK336.out⟩, ⟨by repeat (first | (with_reducible first | exact HK.out | apply Kept.alloc | apply Kept.drewN | apply Kept.drew | refine Kept.setCell ?_ (.inr GW334.out) _ | refine Kept.setCell ?_ (.inr GW335.out) _ | refine Kept.setCell ?_ (.inr GW336.out) _ | refine Kept.setCell ?_ (.inr GW338.out) _) | exact HK.out)⟩, ⟨by repeat (first | (with_reducible first | exact HB.out | apply below_alloc | apply pw_below_drewN | apply below_drew1 | refine below_set ?_ GE334.out | refine below_set ?_ GE335.out | refine below_set ?_ GE336.out | refine below_set ?_ GE338.out) | exact HB.out)⟩⟩
       ·rw [if_neg c43] at H
        exact absurd H (by simp)
     ·rw [if_neg c21] at H
      exact absurd H (by simp)
    ·rw [if_neg c20] at H
     have c20b0 : decide (x9_1 < (l0_1.length : Int)) = false := decide_eq_false c20
     clear c20
     by_cases c57 : x8_1 = true
     ·subst c57
      have H1 : (some (a0_0, x337001_1)) = some (r1, r2) := by rw [if_pos rfl] at H; exact H
      clear H
      have H := H1
      clear H1
      simp only [Option.some.injEq, Prod.mk.injEq] at H
      obtain ⟨rfl, rfl⟩ := H
      have hnb58 := NB334_335.out
      have hnc58 := NB335_334.out
      have hnb59 := NB334_336.out
      have hnc59 := NB336_334.out
      have hcz60_0 := cZ BK334 0 (.string a0_0)
      have hcz60_1 := cZ BK334 1 (.slice Ao11 l0_1.length co11)
      have hfz60_0 := blk_frozen BK334.out 0
      have hfz60_1 := blk_frozen BK334.out 1
      have hnb61 := NB336_335.out
      have hnc61 := NB335_336.out
      have hcz62_0 := cZ BK336 0 (.string a0_0)
      have hcz62_1 := cZ BK336 1 (u337001)
      have hfz62_0 := blk_frozen BK336.out 0
      have hfz62_1 := blk_frozen BK336.out 1
      have hcz63_0 := cZ BK335 0 (.string (⟨#[]⟩ : ByteArray))
      have hcz63_1 := cZ BK335 1 (.slice none 0 0)
      have hfz63_0 := blk_frozen BK335.out 0
      have hfz63_1 := blk_frozen BK335.out 1
      obtain ⟨Ao64, co64, eo64⟩ := Kd.R_slice HO_337001.out
      subst eo64
      go_wp2
      refine bodyPost_ret (results_cell_row rfl _ _ gb335 65 #[.string a0_0, .slice Ao64 x337001_1.length co64] (0, 0) _ rfl (by (with_reducible repeat (first | apply blk_drewN | apply blk_drew | apply blk_alloc)); refine blk_put (cs := #[.string a0_0, .slice none 0 0]) ?_ 1 _ rfl; (with_reducible repeat (first | apply blk_drewN | apply blk_drew | apply blk_alloc)); refine blk_put (cs := #[.string (⟨#[]⟩ : ByteArray), .slice none 0 0]) ?_ 0 _ rfl; (with_reducible repeat (first | apply blk_drewN | apply blk_drew | apply blk_alloc)); exact BK335.out) Try.underlying65 rfl (by kernel_rfl)) rfl ?_
      exact ⟨_, by first | rfl | (simp [errW_none, errW_some] <;> rfl) | (simp [*, errW_none, errW_some] <;> rfl), by (with_reducible repeat (first | apply Kd.R_alloc | apply Kd.R_drewN | apply Kd.R_drew)); exact Kd.R_mono (Kd.R_far (p := ⟨gb335, 1, none⟩) (Kd.R_far (p := ⟨gb335, 0, none⟩) (Kd.R_types HO_337001.out BK335.out (by decide)) (fun _ hk => hk.2) (.string a0_0)) (fun _ hk => hk.2) (.slice Ao64 x337001_1.length co64)) (fun _ hk => hk.1.1), by repeat (first | (with_reducible first | exact HB.out | apply below_alloc | apply pw_below_drewN | apply below_drew1 | refine below_set ?_ GE334.out | refine below_set ?_ GE335.out | refine below_set ?_ GE336.out) | exact HB.out), by repeat (first | (with_reducible first | exact HK.out | apply Kept.alloc | apply Kept.drewN | apply Kept.drew | refine Kept.setCell ?_ (.inr GW334.out) _ | refine Kept.setCell ?_ (.inr GW335.out) _ | refine Kept.setCell ?_ (.inr GW336.out) _) | exact HK.out)⟩
     ·replace c57 := Bool.eq_false_iff.mpr c57
      subst c57
      have H1 : (if 0 ≤ a2 then (if x337001_1.length < 5864062014805 then (some (a0_0, (x337001_1 ++ [(⟨a1, shl .i64 1 a2⟩ : S67)]))) else (none)) else (none)) = some (r1, r2) := by rw [if_neg (show ¬ (false = true) by decide)] at H; exact H
      clear H
      have H := H1
      clear H1
      by_cases c65 : 0 ≤ a2
      ·rw [if_pos c65] at H
       have c65b0 := eq_true c65
       have c65b1 : decide (0 ≤ a2) = true := decide_eq_true c65
       clear c65
       obtain ⟨ji66, hji66⟩ : ∃ j_ : Int, (shl .i64 1 a2) = j_ := ⟨_, rfl⟩
       replace H : (if x337001_1.length < 5864062014805 then (some (a0_0, (x337001_1 ++ [(⟨a1, ji66⟩ : S67)]))) else (none)) = some (r1, r2) := by first | (rw [hji66] at H; exact H) | (simp only [hji66] at H ⊢; exact H)
       have hji66_ : (IntKind.i64.wrap (1 * 2 ^ min a2.toNat 64)) = ji66 := hji66
       have hji66z : a2 ≤ 64 → (IntKind.i64.wrap (1 * 2 ^ a2.toNat)) = ji66 := shl_small hji66
       have hji66u : (IntKind.i64.wrap (2 ^ min a2.toNat 64)) = ji66 := by have h_ := hji66_; rw [Int.one_mul] at h_; exact h_
       have hji66v : a2 ≤ 64 → (IntKind.i64.wrap (2 ^ a2.toNat)) = ji66 := fun hle_ => by have h_ := hji66z hle_; rw [Int.one_mul] at h_; exact h_
       have hji66y : (wrap64 (1 * 2 ^ min a2.toNat 64)) = ji66 := (i64_w _).symm.trans hji66_
       have hji66x : a2 ≤ 64 → (wrap64 (1 * 2 ^ a2.toNat)) = ji66 := fun h_ => (i64_w _).symm.trans (hji66z h_)
       by_cases c67 : x337001_1.length < 5864062014805
       ·rw [if_pos c67] at H
        have LMc67 := Aside0.mk c67
        clear c67
        obtain ⟨y345, hy345⟩ : ∃ y_ : List (S67), y_ = (x337001_1 ++ [(⟨a1, ji66⟩ : S67)]) := ⟨_, rfl⟩
        replace H : (some (a0_0, y345)) = some (r1, r2) := by first | (rw [hy345]; with_reducible exact H) | (have H2_ := (Option.bind_some _ _).symm.trans H; rw [hy345]; with_reducible exact H2_) | (have H2_ := (Option.bind_some _ _).symm.trans H; with_reducible exact H2_) | with_reducible exact H | (rw [hy345]; exact H) | exact H
        have Ny345 := Aside0.mk hy345
        clear hy345
        simp only [Option.some.injEq, Prod.mk.injEq] at H
        obtain ⟨rfl, rfl⟩ := H
        have hnb68 := NB334_335.out
        have hnc68 := NB335_334.out
        have hnb69 := NB334_336.out
        have hnc69 := NB336_334.out
        have hcz70_0 := cZ BK334 0 (.string a0_0)
        have hcz70_1 := cZ BK334 1 (.slice Ao11 l0_1.length co11)
        have hfz70_0 := blk_frozen BK334.out 0
        have hfz70_1 := blk_frozen BK334.out 1
        try go_wp2
        have n0_ := Aside0.mk (Kd.R_drew HO_335001.out)
        have n1_ := Aside0.mk (Kd.R_drew HO_337001.out)
        have n2_ := Aside0.mk (blk_drew BK334.out)
        have n3_ := Aside0.mk (blk_drew BK335.out)
        have n4_ := Aside0.mk (blk_drew BK336.out)
        have n5_ := Aside0.mk (Kept.drew HK.out)
        have n6_ := Aside0.mk (below_drew1 HB.out)
        clear HO_335001
        clear HO_337001
        clear BK334
        clear BK335
        clear BK336
        clear HK
        clear HB
        have HO_335001 := n0_
        have HO_337001 := n1_
        have BK334 := n2_
        have BK335 := n3_
        have BK336 := n4_
        have HK := n5_
        have HB := n6_
        clear n0_ n1_ n2_ n3_ n4_ n5_ n6_
        refine start_ (n := 10) (S := fun w' => w'.cell? ⟨gb336, 0, none⟩ = some (.string a0_0) ∧ w'.cell? ⟨gb336, 1, none⟩ = some (u337001)) (ds := [9]) #[false, false, false, false, false, false, false, false, false, false] (by kernel_rfl) rfl rfl ⟨(blk_cell BK336.out 0).trans rfl, (blk_cell BK336.out 1).trans rfl⟩ (fun hHeld => ?_); refine with_tabW ancepsref57_with.tab14 ancepsref57_with.bits14 (fun HT_ HW_ => ?_)
        generalize wr.drew = w71 at HO_335001 HO_337001 BK334 BK335 BK336 HK HB hHeld ⊢
        refine pure_ (i := 0) (N := some 49) (v := ?_) (a' := ?_) #[true, false, false, false, false, false, false, false, false, false] rfl rfl (any_of HT_.out (by kernel_rfl)) (fun _ _ _ h => h) (Or.inl ⟨by rfl, ?_⟩) ?_ ?_
        rotate_left
        ·intro w'
         go_simp
         with_reducible rfl
        rotate_left
        ·simp only [Act.put, List.setIfInBounds_toArray, List.set_cons_zero, List.set_cons_succ, i64_w, i32_w]
         rfl
        refine pure_ (i := 2) (N := some 51) (v := ?_) (a' := ?_) #[true, false, true, false, false, false, false, false, false, false] rfl rfl (any_of HT_.out (by kernel_rfl)) (fun _ _ _ h => h) (Or.inl ⟨by rfl, ?_⟩) ?_ ?_
        rotate_left
        ·intro w'
         go_simp
         with_reducible rfl
        rotate_left
        ·simp only [Act.put, List.setIfInBounds_toArray, List.set_cons_zero, List.set_cons_succ, i64_w, i32_w]
         rfl
        refine pure_ (i := 3) (N := some 52) (v := ?_) (a' := ?_) #[true, false, true, true, false, false, false, false, false, false] rfl rfl (any_of HT_.out (by kernel_rfl)) (fun _ _ _ h => h) (Or.inl ⟨by rfl, ?_⟩) ?_ ?_
        rotate_left
        ·intro w'
         go_simp
         with_reducible rfl
        rotate_left
        ·simp only [Act.put, List.setIfInBounds_toArray, List.set_cons_zero, List.set_cons_succ, i64_w, i32_w]
         rfl
        refine pure_ (i := 4) (N := some 53) (v := ?_) (a' := ?_) #[true, false, true, true, true, false, false, false, false, false] rfl rfl (any_of HT_.out (by kernel_rfl)) (fun _ _ _ h => h) (Or.inl ⟨by rfl, ?_⟩) ?_ ?_
        rotate_left
        ·intro w'
         go_simp
         with_reducible rfl
        rotate_left
        ·simp only [Act.put, List.setIfInBounds_toArray, List.set_cons_zero, List.set_cons_succ, i64_w, i32_w]
         rfl
        refine pure_ (i := 5) (N := some 54) (v := ?_) (a' := ?_) #[true, false, true, true, true, true, false, false, false, false] rfl rfl (any_of HT_.out (by kernel_rfl)) (fun _ _ _ h => h) (Or.inl ⟨by rfl, ?_⟩) ?_ ?_
        rotate_left
        ·intro w'
         go_simp
         with_reducible rfl
        rotate_left
        ·simp only [Act.put, List.setIfInBounds_toArray, List.set_cons_zero, List.set_cons_succ, i64_w, i32_w]
         rfl
        refine take_ (i := 1) (N := some 50) (v := ?_) (a' := ?_) #[true, true, true, true, true, true, false, false, false, false] rfl rfl (take_ofW HT_.out HW_.out (by kernel_rfl)) (fun _ _ _ h => h) (Or.inl ⟨by rfl, ?_⟩) hHeld ?_ ?_
        rotate_left
        ·rintro w' ⟨s0, s1⟩
         go_simp
         with_reducible rfl
        rotate_left
        ·simp only [Act.put, List.setIfInBounds_toArray, List.set_cons_zero, List.set_cons_succ, i64_w, i32_w]
         rfl
        refine one_ (i := 6) (N := some 55) #[true, true, true, true, true, true, true, false, false, false] rfl rfl (one_of HT_.out (by kernel_rfl)) (by decide) (fun K hK => ?_)
        refine value_ (w1 := ?_) (v := ?_) (by rfl) rfl ?_ ?_
        rotate_left 2
        ·go_simp
         constructor
         ·rfl
         ·rfl
        refine hK.out _ _ ⟨(blk_cell (blk_alloc BK336.out _) 0).trans rfl, (blk_cell (blk_alloc BK336.out _) 1).trans rfl⟩ (fun hHeld => ?_)
        clear hK K
        refine norm_ (a' := ?_) ?_ ?_
        rotate_left
        ·show Act.put _ (some 55) _ = _
         simp only [Act.put, List.setIfInBounds_toArray, List.set_cons_zero, List.set_cons_succ, i64_w, i32_w]
         rfl
        refine one_ (i := 7) (N := some 56) #[true, true, true, true, true, true, true, true, false, false] rfl rfl (one_of HT_.out (by kernel_rfl)) (by decide) (fun K hK => ?_)
        refine Kd.R_append_step k67 (w0 := w0) w0.heap.size (by rfl) (.tmp 50) (.tmp 55) 63 67 (.agg #[(.string ⟨#[]⟩), (.int .i64 0)]) 24 rfl Try.underlying63 info67 rfl (by decide) (by omega) u337001 x337001_1 (⟨a1, ji66⟩ : S67) [.string a1, .int .i64 ji66] (fun k_ => (P0_1_ k_ ∨ w.heap.size ≤ k_) ∧ some k_ ≠ (.slice Ao11 l0_1.length co11 : Value).ownBlock) (fun _ => False) rfl rfl ?aP (fun _ hk => hk.elim) ?aF ?aO ?aB ?aS ?aL ?_
        (case aP => exact k67_mkM _ _ _ (⟨a1, ji66⟩ : S67))
        (case aB => exact (iL HB))
        (case aF => exact (fun k_ hk => ⟨(.inr (Nat.le_trans (by first | exact HK.out.1 | exact (show Kept w _ (fun k_ => P0_1_ k_) from by repeat (first | (with_reducible first | exact HK.out | apply Kept.alloc | apply Kept.drewN | apply Kept.drew | refine Kept.setCell ?_ (.inr GW334.out) _ | refine Kept.setCell ?_ (.inr GW335.out) _ | refine Kept.setCell ?_ (.inr GW336.out) _) | exact HK.out)).1) hk)), Kd.fresh' (Kd.R_lt (iR HO_335001)) k_ hk⟩))
        (case aO => exact (iR HO_337001))
        (case aS => exact (below_size (iL HB)))
        (case aL => have := LMc67.out; omega)
        intro v346 w72 ho hb hg hat
        rw [← Ny345.out] at ho
        have n0_ := Aside0.mk (Kd.R_after (ok := (fun k_ => (P0_1_ k_ ∨ w.heap.size ≤ k_))) (iR HO_335001) hg hat)
        have n1_ := Aside0.mk (blk_grown (g := gb334) (o := .cells #[.string a0_0, .slice Ao11 l0_1.length co11] 65 (0, 0)) (iB BK334) hg (Kd.R_ne HO_337001.out BK334.out (by decide)))
        have n2_ := Aside0.mk (blk_grown (g := gb335) (o := .cells #[.string (⟨#[]⟩ : ByteArray), .slice none 0 0] 65 (0, 0)) (iB BK335) hg (Kd.R_ne HO_337001.out BK335.out (by decide)))
        have n3_ := Aside0.mk (blk_grown (g := gb336) (o := .cells #[.string a0_0, u337001] 65 (0, 0)) (iB BK336) hg (Kd.R_ne HO_337001.out BK336.out (by decide)))
        have n4_ := Aside0.mk (hb)
        have n5_ := Aside0.mk (Kept.of_grown (S := (fun k_ => P0_1_ k_)) hg (by repeat (first | (with_reducible first | exact HK.out | apply Kept.alloc | apply Kept.drewN | apply Kept.drew | refine Kept.setCell ?_ (.inr GW334.out) _ | refine Kept.setCell ?_ (.inr GW335.out) _ | refine Kept.setCell ?_ (.inr GW336.out) _) | exact HK.out)) (fun k_ e_ => (HO_337001.out.1 k_ e_).1))
        have n6_ := Aside0.mk (ho)
        clear HO_335001
        clear BK334
        clear BK335
        clear BK336
        clear HB
        clear HK
        clear HO_337001
        have HO_335001 := n0_
        have BK334 := n1_
        have BK335 := n2_
        have BK336 := n3_
        have HB := n4_
        have HK := n5_
        have HO347 := n6_
        clear n0_ n1_ n2_ n3_ n4_ n5_ n6_
        clear ho hb hg hat
        obtain ⟨Ao73, co73, eo73⟩ := Kd.R_slice HO347.out
        (first | subst eo73 | (injection eo73 with f1_ f2_ f3_; have f4_ := f1_.symm; have f5_ := f3_.symm; clear f1_ f2_ f3_; subst f4_; subst f5_))
        refine hK.out _ _ ⟨(blk_cell BK336.out 0).trans rfl, (blk_cell BK336.out 1).trans rfl⟩ (fun hHeld => ?_)
        clear hK K
        refine norm_ (a' := ?_) ?_ ?_
        rotate_left
        ·show Act.put _ (some 56) _ = _
         simp only [Act.put, List.setIfInBounds_toArray, List.set_cons_zero, List.set_cons_succ, i64_w, i32_w]
         rfl
        refine pure_ (i := 8) (N := some 57) (v := ?_) (a' := ?_) #[true, true, true, true, true, true, true, true, true, false] rfl rfl (any_of HT_.out (by kernel_rfl)) (fun _ _ _ h => h) (Or.inl ⟨by rfl, ?_⟩) ?_ ?_
        rotate_left
        ·intro w'
         go_simp
         with_reducible rfl
        rotate_left
        ·simp only [Act.put, List.setIfInBounds_toArray, List.set_cons_zero, List.set_cons_succ, i64_w, i32_w]
         rfl
        refine last_ (i := 9) (N := none) #[true, true, true, true, true, true, true, true, true, true] rfl rfl (one_of HT_.out (by kernel_rfl)) (by decide) (fun K hK => ?_)
        have hs74 : w72.cell? ⟨gb336, 1, none⟩ = some (u337001) := (blk_cell BK336.out 1).trans rfl
        have hfs74 := blk_frozen BK336.out 1
        have hns74_0 := NB334_336.out
        have hns74_1 := NB335_336.out
        have hms74_0 := NB336_334.out
        have hms74_1 := NB336_335.out
        refine skip_ (w1 := ?_) (by rfl) rfl ?_ ?_
        rotate_left
        ·go_simp
         rfl
        refine hK.out _ _ ?_
        clear hK K
        refine done_ (done_of HT_.out (by kernel_rfl)) ?_
        have hnb75 := NB336_335.out
        have hnc75 := NB335_336.out
        have hcz76_0 := cZ BK336 0 (.string a0_0)
        have hcz76_1 := cZ BK336 1 (u337001)
        have hfz76_0 := blk_frozen BK336.out 0
        have hfz76_1 := blk_frozen BK336.out 1
        have hcz77_0 := cZ BK335 0 (.string (⟨#[]⟩ : ByteArray))
        have hcz77_1 := cZ BK335 1 (.slice none 0 0)
        have hfz77_0 := blk_frozen BK335.out 0
        have hfz77_1 := blk_frozen BK335.out 1
        try go_wp2
        refine bodyPost_ret (results_cell_row rfl _ _ gb335 65 #[.string a0_0, .slice Ao73 y345.length co73] (0, 0) _ rfl (by (with_reducible repeat (first | apply blk_drewN | apply blk_drew | apply blk_alloc)); refine blk_put (cs := #[.string a0_0, .slice none 0 0]) ?_ 1 _ rfl; (with_reducible repeat (first | apply blk_drewN | apply blk_drew | apply blk_alloc)); refine blk_put (cs := #[.string (⟨#[]⟩ : ByteArray), .slice none 0 0]) ?_ 0 _ rfl; (with_reducible repeat (first | apply blk_drewN | apply blk_drew | apply blk_alloc)); refine blk_far ?_ NB335_336.out _; (with_reducible repeat (first | apply blk_drewN | apply blk_drew | apply blk_alloc)); exact BK335.out) Try.underlying65 rfl (by kernel_rfl)) rfl ?_
        exact ⟨_, by first | rfl | (simp [errW_none, errW_some] <;> rfl) | (simp only [← hji66]; first | rfl | (simp [errW_none, errW_some] <;> rfl)) | (simp [*, errW_none, errW_some] <;> rfl), by (with_reducible repeat (first | apply Kd.R_alloc | apply Kd.R_drewN | apply Kd.R_drew)); exact Kd.R_mono (Kd.R_far (p := ⟨gb335, 1, none⟩) (Kd.R_far (p := ⟨gb335, 0, none⟩) (Kd.R_far (p := ⟨gb336, 1, none⟩) (Kd.R_types (Kd.R_types HO347.out BK336.out (by decide)) BK335.out (by decide)) (fun _ hk => hk.1.2) (.slice Ao73 y345.length co73)) (fun _ hk => hk.2) (.string a0_0)) (fun _ hk => hk.2) (.slice Ao73 y345.length co73)) (fun _ hk => hk.1.1.1), by repeat (first | (with_reducible first | exact HB.out | apply below_alloc | apply pw_below_drewN | apply below_drew1 | refine below_set ?_ GE334.out | refine below_set ?_ GE335.out | refine below_set ?_ GE336.out) | exact HB.out), by repeat (first | (with_reducible first | exact HK.out | apply Kept.alloc | apply Kept.drewN | apply Kept.drew | refine Kept.setCell ?_ (.inr GW334.out) _ | refine Kept.setCell ?_ (.inr GW335.out) _ | refine Kept.setCell ?_ (.inr GW336.out) _) | exact HK.out)⟩
       ·rw [if_neg c67] at H
        exact absurd H (by simp)
      ·rw [if_neg c65] at H
       exact absurd H (by simp)

end Go.Proofs.Ytmjigfoldeekmaa.X
