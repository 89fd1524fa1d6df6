-- and more
-- shortened
-- thinned
-- halved indents
-- printed by this session's xprint.py: out of the translation, by the kit's print with additions; Lean checks it
import Derived.Test.YtmjigfoldeekmaaXE
import Derived.Test.YtmjigfoldeekmaaWN
import Derived.Test.YtmjigfoldeekmaaWShare
import Derived.Test.YtmjigfoldeekmaaWRepsOne
import Derived.Test.YtmjigfoldeekmaaX0
import Derived.Test.YtmjigfoldeekmaaX15
import Derived.Test.YtmjigfoldeekmaaXA
namespace Go.Proofs.Ytmjigfoldeekmaa.X
open Go.RowKit Go.Proofs.YtmjigfoldeekmaaW.PrintWords Go.Proofs.YtmjigfoldeekmaaW.PrintLast Go.Proofs.YtmjigfoldeekmaaW.PrintMore
attribute [local go_sem] max2_int min2_int max_two min_two max_three min_three max_four min_four isSome_setCell binOp_gtr_str binOp_leq_str binOp_geq_str   -- for this text's walks alone
set_option linter.unusedVariables false
set_option linter.unusedSimpArgs false

/-! ### ancepsref57_row: function 70 -/
mutual
def ancepsref57_row.l0 : Nat → Int → Int → Int → ByteArray → List (S67) → Option (Int)
 | 0, _, _, _, _, _ => none
 | k + 1, x1, x6, x7, x282000, x282001 => if x7 < (x282001.length : Int) then (if 0 ≤ x7 then ((ancepsref01_Valid.f k ((rd_T67 x282001 x7).f0)).bind fun t285 => (if t285 = 0 then (if ((rd_T67 x282001 x7).f0).toList = x282000.toList then (some 5) else (ancepsref57_row.l1 k x1 x6 x7 0 x282000 x282001 ((rd_T67 x282001 x7).f0) ((rd_T67 x282001 x7).f1))) else (some t285))) else (none)) else (some 0)
def ancepsref57_row.l1 : Nat → Int → Int → Int → Int → ByteArray → List (S67) → ByteArray → Int → Option (Int)
 | 0, _, _, _, _, _, _, _, _ => none
 | k + 1, x1, x6, x7, x10, x282000, x282001, x285000, x285001 => if x10 < x7 then (if 0 ≤ x10 then (if x10 < (x282001.length : Int) then (if ((rd_T67 x282001 x10).f0).toList = x285000.toList then (some 5) else (ancepsref57_row.l1 k x1 x6 x7 (wrap64 (x10 + 1)) x282000 x282001 x285000 x285001)) else (none)) else (none)) else (if x285001 < 0 then (ancepsref57_row.j2 k x1 x6 x7 true x282000 x282001 x285000 x285001) else (if 0 ≤ x1 then (ancepsref57_row.j2 k x1 x6 x7 (decide (x285001 ≥ (shl .i64 1 x1))) x282000 x282001 x285000 x285001) else (none)))
def ancepsref57_row.j2 : Nat → Int → Int → Int → Bool → ByteArray → List (S67) → ByteArray → Int → Option (Int)
 | 0, _, _, _, _, _, _, _, _ => none
 | k + 1, x1, x6, x7, x67, x282000, x282001, x285000, x285001 => if x67 = true then (some 6) else (if (Go.bits .and .i64 x285001 x6) = 0 then (ancepsref57_row.l0 k x1 (Go.bits .or .i64 x6 x285001) (wrap64 (x7 + 1)) x282000 x282001) else (some 12))
end
def ancepsref57_row.f (k : Nat) (a0_0 : ByteArray) (l0_1 : List (S67)) (a1 : Int) : Option (Int) := (ancepsref01_Valid.f k a0_0).bind fun t282 => (if t282 = 0 then (if (l0_1.length : Int) > 8 then (some 3) else (ancepsref57_row.l0 k a1 0 0 a0_0 l0_1)) else (some t282))
theorem ancepsref57_row.mono_l : ∀ k, (∀ y0 y1 y2 y3 y4, LeO (ancepsref57_row.l0 k y0 y1 y2 y3 y4) (ancepsref57_row.l0 (k + 1) y0 y1 y2 y3 y4)) ∧ (∀ y0 y1 y2 y3 y4 y5 y6 y7, LeO (ancepsref57_row.l1 k y0 y1 y2 y3 y4 y5 y6 y7) (ancepsref57_row.l1 (k + 1) y0 y1 y2 y3 y4 y5 y6 y7)) ∧ (∀ y0 y1 y2 y3 y4 y5 y6 y7, LeO (ancepsref57_row.j2 k y0 y1 y2 y3 y4 y5 y6 y7) (ancepsref57_row.j2 (k + 1) y0 y1 y2 y3 y4 y5 y6 y7))
 | 0 => ⟨fun _ _ _ _ _ r h => by simp [ancepsref57_row.l0] at h, fun _ _ _ _ _ _ _ _ r h => by simp [ancepsref57_row.l1] at h, fun _ _ _ _ _ _ _ _ r h => by simp [ancepsref57_row.j2] at h⟩
 | k + 1 => by
  obtain ⟨ih0, ih1, ih2⟩ := ancepsref57_row.mono_l k
  refine ⟨?_, ?_, ?_⟩
  ·intro y0 y1 y2 y3 y4
   unfold ancepsref57_row.l0
   repeat' first
   | (with_reducible exact ih0 _ _ _ _ _)
   | (with_reducible exact ih1 _ _ _ _ _ _ _ _)
   | (with_reducible exact ih2 _ _ _ _ _ _ _ _)
   | (with_reducible exact ancepsref01_Valid.mono _ _)
   | (with_reducible exact LeO.refl _)
   | (with_reducible exact LeO.none _)
   | (with_reducible refine LeO.ite ?_ ?_)
   | (with_reducible refine LeO.bind ?_ (fun _ => ?_))
   | exact ih0 _ _ _ _ _
   | exact ih1 _ _ _ _ _ _ _ _
   | exact ih2 _ _ _ _ _ _ _ _
   | exact ancepsref01_Valid.mono _ _
   | exact LeO.none _
   | refine LeO.ite ?_ ?_
   | refine LeO.bind ?_ (fun _ => ?_)
  ·intro y0 y1 y2 y3 y4 y5 y6 y7
   unfold ancepsref57_row.l1
   repeat' first
   | (with_reducible exact ih0 _ _ _ _ _)
   | (with_reducible exact ih1 _ _ _ _ _ _ _ _)
   | (with_reducible exact ih2 _ _ _ _ _ _ _ _)
   | (with_reducible exact ancepsref01_Valid.mono _ _)
   | (with_reducible exact LeO.refl _)
   | (with_reducible exact LeO.none _)
   | (with_reducible refine LeO.ite ?_ ?_)
   | (with_reducible refine LeO.bind ?_ (fun _ => ?_))
   | exact ih0 _ _ _ _ _
   | exact ih1 _ _ _ _ _ _ _ _
   | exact ih2 _ _ _ _ _ _ _ _
   | exact ancepsref01_Valid.mono _ _
   | exact LeO.none _
   | refine LeO.ite ?_ ?_
   | refine LeO.bind ?_ (fun _ => ?_)
  ·intro y0 y1 y2 y3 y4 y5 y6 y7
   unfold ancepsref57_row.j2
   repeat' first
   | (with_reducible exact ih0 _ _ _ _ _)
   | (with_reducible exact ih1 _ _ _ _ _ _ _ _)
   | (with_reducible exact ih2 _ _ _ _ _ _ _ _)
   | (with_reducible exact ancepsref01_Valid.mono _ _)
   | (with_reducible exact LeO.refl _)
   | (with_reducible exact LeO.none _)
   | (with_reducible refine LeO.ite ?_ ?_)
   | (with_reducible refine LeO.bind ?_ (fun _ => ?_))
   | exact ih0 _ _ _ _ _
   | exact ih1 _ _ _ _ _ _ _ _
   | exact ih2 _ _ _ _ _ _ _ _
   | exact ancepsref01_Valid.mono _ _
   | exact LeO.none _
   | refine LeO.ite ?_ ?_
   | refine LeO.bind ?_ (fun _ => ?_)
theorem ancepsref57_row.mono : ∀ a0 a1 a2 k, LeO (ancepsref57_row.f k a0 a1 a2) (ancepsref57_row.f (k + 1) a0 a1 a2) := by
 intro a0 a1 a2 k
 obtain ⟨ih0, ih1, ih2⟩ := ancepsref57_row.mono_l k
 unfold ancepsref57_row.f
 repeat' first
   | (with_reducible exact ih0 _ _ _ _ _)
   | (with_reducible exact ih1 _ _ _ _ _ _ _ _)
   | (with_reducible exact ih2 _ _ _ _ _ _ _ _)
   | (with_reducible exact ancepsref01_Valid.mono _ _)
   | (with_reducible exact LeO.refl _)
   | (with_reducible exact LeO.none _)
   | (with_reducible refine LeO.ite ?_ ?_)
   | (with_reducible refine LeO.bind ?_ (fun _ => ?_))
   | exact ih0 _ _ _ _ _
   | exact ih1 _ _ _ _ _ _ _ _
   | exact ih2 _ _ _ _ _ _ _ _
   | exact ancepsref01_Valid.mono _ _
   | exact LeO.none _
   | refine LeO.ite ?_ ?_
   | refine LeO.bind ?_ (fun _ => ?_)
set_option maxHeartbeats 8000000 in
set_option maxRecDepth 100000 in
theorem ancepsref57_row.calls (k : Nat) (a0_0 : ByteArray) (A0_1 : Option Addr) (c0_1 : Nat) (l0_1 : List (S67)) (a1 : Int) (r : Int) (w : World) (hr0_1 : Kd.C k67 w A0_1 l0_1.length l0_1) (hc0_1 : l0_1.length ≤ c0_1) (h : ancepsref57_row.f k a0_0 l0_1 a1 = some r) :
  Calls Try.prog 70 #[.agg #[.string a0_0, .slice A0_1 l0_1.length c0_1], .int .i64 a1] w fun e w' => e = .returned (.int .i64 r) ∧ Below w.heap.size w w' := by
 have hu65 := Try.underlying65
 have hu67 := Try.underlying67
 have HR0_1 := Aside0.mk hr0_1
 have HC0_1 := Aside0.mk hc0_1
 clear hr0_1 hc0_1
 have HB := Aside0.mk (Below.refl w.heap.size w)
 have H : ((ancepsref01_Valid.f k a0_0).bind fun t282 => (if t282 = 0 then (if (l0_1.length : Int) > 8 then (some 3) else (ancepsref57_row.l0 k a1 0 0 a0_0 l0_1)) else (some t282))) = some r := h
 clear h
 replace H := Option.bind_eq_some_iff.mp H
 obtain ⟨t282, A30, H⟩ := H
 try dsimp only at H
 have A3 := Aside0.mk A30
 clear A30
 by_cases c4 : t282 = 0
 ·rw [if_pos c4] at H
  have c4b0 : (t282 == 0) = true := beq_iff_eq.mpr c4
  have c4b1 : (t282 != 0) = false := bne_eq_false_iff_eq.mpr c4
  clear c4
  by_cases c5 : (l0_1.length : Int) > 8
  ·rw [if_pos c5] at H
   have c5b0 : decide (8 < (l0_1.length : Int)) = true := decide_eq_true c5
   have c5b1 : decide (8 < l0_1.length) = true := decide_eq_true (by omega)
   clear c5
   obtain rfl := Option.some.inj H
   go_enter Try.func70, Try.ntmps70
   go_wp2_with (first | ((with_reducible refine gate_dst (N := 2) rfl ?_); refine bX 2 #[.string a0_0, .slice A0_1 l0_1.length c0_1] 65 ?_; intro gb281 hg w6 hbox hb; have n0_ := jL HB hb; have n1_ := Aside0.mk (hbox); have n2_ := Aside0.mk ((by rw [hg]; exact (below_size (iL HB)) : w.heap.size ≤ gb281)); have n3_ := Aside0.mk ((by rw [hg]; exact (below_size (iL HB)) : w.heap.size ≤ gb281)); clear HB; have HB := n0_; have BK281 := n1_; have GW281 := n2_; have GE281 := n3_; clear n0_ n1_ n2_ n3_; clear hb hbox hg; have hcz7_0 := cZ BK281 0 (.string a0_0); have hcz7_1 := cZ BK281 1 (.slice A0_1 l0_1.length c0_1); have hfz7_0 := blk_frozen BK281.out 0; have hfz7_1 := blk_frozen BK281.out 1) | (go_at_call 39; (with_reducible refine (ancepsref01_Valid.calls k a0_0 t282 _ A3.out).mono ?_); rintro e w' ⟨rfl, ⟨nd, rfl⟩⟩; (try first | exact ⟨rfl, _, World.drewN_drewN _ _ _⟩ | exact ⟨rfl, _, Eq.trans (World.drewN_drewN _ _ _) (congrArg (World.drewN _) (Nat.add_assoc _ _ _))⟩)))
   repeat (go_quiet (first | ((with_reducible refine gate_dst (N := 2) rfl ?_); refine bX 2 #[.string a0_0, .slice A0_1 l0_1.length c0_1] 65 ?_; intro gb281 hg w6 hbox hb; have n0_ := jL HB hb; have n1_ := Aside0.mk (hbox); have n2_ := Aside0.mk ((by rw [hg]; exact (below_size (iL HB)) : w.heap.size ≤ gb281)); have n3_ := Aside0.mk ((by rw [hg]; exact (below_size (iL HB)) : w.heap.size ≤ gb281)); clear HB; have HB := n0_; have BK281 := n1_; have GW281 := n2_; have GE281 := n3_; clear n0_ n1_ n2_ n3_; clear hb hbox hg; have hcz7_0 := cZ BK281 0 (.string a0_0); have hcz7_1 := cZ BK281 1 (.slice A0_1 l0_1.length c0_1); have hfz7_0 := blk_frozen BK281.out 0; have hfz7_1 := blk_frozen BK281.out 1) | (go_at_call 39; (with_reducible refine (ancepsref01_Valid.calls k a0_0 t282 _ A3.out).mono ?_); (try clear A3); rintro e w' ⟨rfl, ⟨nd, rfl⟩⟩; (try first | exact ⟨rfl, _, World.drewN_drewN _ _ _⟩ | exact ⟨rfl, _, Eq.trans (World.drewN_drewN _ _ _) (congrArg (World.drewN _) (Nat.add_assoc _ _ _))⟩))); try go_wp2_with (first | ((with_reducible refine gate_dst (N := 2) rfl ?_); refine bX 2 #[.string a0_0, .slice A0_1 l0_1.length c0_1] 65 ?_; intro gb281 hg w6 hbox hb; have n0_ := jL HB hb; have n1_ := Aside0.mk (hbox); have n2_ := Aside0.mk ((by rw [hg]; exact (below_size (iL HB)) : w.heap.size ≤ gb281)); have n3_ := Aside0.mk ((by rw [hg]; exact (below_size (iL HB)) : w.heap.size ≤ gb281)); clear HB; have HB := n0_; have BK281 := n1_; have GW281 := n2_; have GE281 := n3_; clear n0_ n1_ n2_ n3_; clear hb hbox hg; have hcz7_0 := cZ BK281 0 (.string a0_0); have hcz7_1 := cZ BK281 1 (.slice A0_1 l0_1.length c0_1); have hfz7_0 := blk_frozen BK281.out 0; have hfz7_1 := blk_frozen BK281.out 1) | (go_at_call 39; (with_reducible refine (ancepsref01_Valid.calls k a0_0 t282 _ A3.out).mono ?_); (try clear A3); rintro e w' ⟨rfl, ⟨nd, rfl⟩⟩; (try first | exact ⟨rfl, _, World.drewN_drewN _ _ _⟩ | exact ⟨rfl, _, Eq.trans (World.drewN_drewN _ _ _) (congrArg (World.drewN _) (Nat.add_assoc _ _ _))⟩))))
   go_ret
   exact ⟨eV, iL HB⟩
  ·rw [if_neg c5] at H
   have c5b0 : decide (8 < (l0_1.length : Int)) = false := decide_eq_false c5
   have c5b1 : decide (8 < l0_1.length) = false := decide_eq_false (by omega)
   clear c5
   have H' := Aside0.mk H
   clear H
   go_enter Try.func70, Try.ntmps70
   go_wp2_with (first | ((with_reducible refine gate_dst (N := 2) rfl ?_); refine bX 2 #[.string a0_0, .slice A0_1 l0_1.length c0_1] 65 ?_; intro gb281 hg w8 hbox hb; have n0_ := jL HB hb; have n1_ := Aside0.mk (hbox); have n2_ := Aside0.mk ((by rw [hg]; exact (below_size (iL HB)) : w.heap.size ≤ gb281)); have n3_ := Aside0.mk ((by rw [hg]; exact (below_size (iL HB)) : w.heap.size ≤ gb281)); clear HB; have HB := n0_; have BK281 := n1_; have GW281 := n2_; have GE281 := n3_; clear n0_ n1_ n2_ n3_; clear hb hbox hg; have hcz9_0 := cZ BK281 0 (.string a0_0); have hcz9_1 := cZ BK281 1 (.slice A0_1 l0_1.length c0_1); have hfz9_0 := blk_frozen BK281.out 0; have hfz9_1 := blk_frozen BK281.out 1) | (go_at_call 39; (with_reducible refine (ancepsref01_Valid.calls k a0_0 t282 _ A3.out).mono ?_); rintro e w' ⟨rfl, ⟨nd, rfl⟩⟩; (try first | exact ⟨rfl, _, World.drewN_drewN _ _ _⟩ | exact ⟨rfl, _, Eq.trans (World.drewN_drewN _ _ _) (congrArg (World.drewN _) (Nat.add_assoc _ _ _))⟩)))
   repeat (go_quiet (first | ((with_reducible refine gate_dst (N := 2) rfl ?_); refine bX 2 #[.string a0_0, .slice A0_1 l0_1.length c0_1] 65 ?_; intro gb281 hg w8 hbox hb; have n0_ := jL HB hb; have n1_ := Aside0.mk (hbox); have n2_ := Aside0.mk ((by rw [hg]; exact (below_size (iL HB)) : w.heap.size ≤ gb281)); have n3_ := Aside0.mk ((by rw [hg]; exact (below_size (iL HB)) : w.heap.size ≤ gb281)); clear HB; have HB := n0_; have BK281 := n1_; have GW281 := n2_; have GE281 := n3_; clear n0_ n1_ n2_ n3_; clear hb hbox hg; have hcz9_0 := cZ BK281 0 (.string a0_0); have hcz9_1 := cZ BK281 1 (.slice A0_1 l0_1.length c0_1); have hfz9_0 := blk_frozen BK281.out 0; have hfz9_1 := blk_frozen BK281.out 1) | (go_at_call 39; (with_reducible refine (ancepsref01_Valid.calls k a0_0 t282 _ A3.out).mono ?_); (try clear A3); rintro e w' ⟨rfl, ⟨nd, rfl⟩⟩; (try first | exact ⟨rfl, _, World.drewN_drewN _ _ _⟩ | exact ⟨rfl, _, Eq.trans (World.drewN_drewN _ _ _) (congrArg (World.drewN _) (Nat.add_assoc _ _ _))⟩))); try go_wp2_with (first | ((with_reducible refine gate_dst (N := 2) rfl ?_); refine bX 2 #[.string a0_0, .slice A0_1 l0_1.length c0_1] 65 ?_; intro gb281 hg w8 hbox hb; have n0_ := jL HB hb; have n1_ := Aside0.mk (hbox); have n2_ := Aside0.mk ((by rw [hg]; exact (below_size (iL HB)) : w.heap.size ≤ gb281)); have n3_ := Aside0.mk ((by rw [hg]; exact (below_size (iL HB)) : w.heap.size ≤ gb281)); clear HB; have HB := n0_; have BK281 := n1_; have GW281 := n2_; have GE281 := n3_; clear n0_ n1_ n2_ n3_; clear hb hbox hg; have hcz9_0 := cZ BK281 0 (.string a0_0); have hcz9_1 := cZ BK281 1 (.slice A0_1 l0_1.length c0_1); have hfz9_0 := blk_frozen BK281.out 0; have hfz9_1 := blk_frozen BK281.out 1) | (go_at_call 39; (with_reducible refine (ancepsref01_Valid.calls k a0_0 t282 _ A3.out).mono ?_); (try clear A3); rintro e w' ⟨rfl, ⟨nd, rfl⟩⟩; (try first | exact ⟨rfl, _, World.drewN_drewN _ _ _⟩ | exact ⟨rfl, _, Eq.trans (World.drewN_drewN _ _ _) (congrArg (World.drewN _) (Nat.add_assoc _ _ _))⟩))))
   go_loopg [6, 7] k (fun kq v6 v7 w' => ∃ (x6_1 : Int) (x7_1 : Int), v6 = .int .i64 x6_1 ∧ v7 = .int .i64 x7_1 ∧ Aside0 (ancepsref57_row.l0 kq a1 x6_1 x7_1 a0_0 l0_1 = some r) ∧ Aside0 (kq ≤ k) ∧ Aside0 (w'.heap[gb281]? = some (.cells #[.string a0_0, (.slice A0_1 l0_1.length c0_1)] 65 (0, 0))) ∧ Aside0 (Below w.heap.size w w'))
   case atStart => exact ⟨(0), (0), eV, eV, H', ⟨Nat.le_refl _⟩, ⟨iB BK281⟩, ⟨iL HB⟩⟩
   case round =>
    clear H'
    (try clear p2); (try clear c4); (try clear c4b0); (try clear c4b1); (try clear c5); (try clear c5b0); (try clear c5b1); (try clear c7); (try clear hcz7_0); (try clear hcz7_1); (try clear hcz9_0); (try clear hcz9_1); (try clear hfz7_0); (try clear hfz7_1); (try clear hfz9_0); (try clear hfz9_1)
    obtain ⟨x6_1, x7_1, rfl, rfl, HA, HK1, BK281, HB⟩ := hrel
    cases gk with
    | zero => exact absurd HA.out (by simp [ancepsref57_row.l0])
    | succ k1 =>
     have H := HA.out
     clear HA
     simp only [ancepsref57_row.l0] at H
     by_cases c10 : x7_1 < (l0_1.length : Int)
     ·rw [if_pos c10] at H
      have c10b0 : decide (x7_1 < (l0_1.length : Int)) = true := decide_eq_true c10
      clear c10
      by_cases c11 : 0 ≤ x7_1
      ·rw [if_pos c11] at H
       have c11b0 : decide (0 ≤ x7_1) = true := decide_eq_true c11
       clear c11
       replace H := Option.bind_eq_some_iff.mp H
       obtain ⟨t285, A120, H⟩ := H
       try dsimp only at H
       have A12 := Aside0.mk A120
       clear A120
       by_cases c13 : t285 = 0
       ·rw [if_pos c13] at H
        have c13b0 : (t285 == 0) = true := beq_iff_eq.mpr c13
        have c13b1 : (t285 != 0) = false := bne_eq_false_iff_eq.mpr c13
        clear c13
        by_cases c14 : ((rd_T67 l0_1 x7_1).f0).toList = a0_0.toList
        ·rw [if_pos c14] at H
         have c14b0 : (((rd_T67 l0_1 x7_1).f0).toList == a0_0.toList) = true := beq_iff_eq.mpr c14
         have c14b1 : (((rd_T67 l0_1 x7_1).f0).toList != a0_0.toList) = false := bne_eq_false_iff_eq.mpr c14
         clear c14
         obtain rfl := Option.some.inj H
         have hcz15_0 := cZ BK281 0 (.string a0_0)
         have hcz15_1 := cZ BK281 1 (.slice A0_1 l0_1.length c0_1)
         have hfz15_0 := blk_frozen BK281.out 0
         have hfz15_1 := blk_frozen BK281.out 1
         have p283 := oD (0 ≤ (x7_1 : Int))
         have q283 := oD (x7_1 < (l0_1.length : Int))
         obtain ⟨ad283, e283, hx283_0, hx283_1⟩ := at_T67 HR0_1.out x7_1 p283 q283
         cases e283
         replace hx283_0 := (HB.out.cell (World.block_lt_of_cell? w _ hx283_0)).trans hx283_0
         replace hx283_1 := (HB.out.cell (World.block_lt_of_cell? w _ hx283_1)).trans hx283_1
         replace p283 := eq_true p283
         replace q283 := eq_true q283
         go_wp2_with (first | ((with_reducible refine gate_dst (N := 8) rfl ?_); refine bX 8 #[.string (⟨#[]⟩ : ByteArray), .int .i64 0] 67 ?_; intro gb284 hg w16 hbox hb; have n0_ := jB BK281 hb; have n1_ := jL HB hb; have n2_ := Aside0.mk (hbox); have n3_ := Aside0.mk ((by rw [hg]; exact (below_size (iL HB)) : w.heap.size ≤ gb284)); have n4_ := Aside0.mk ((by rw [hg]; exact (below_size (iL HB)) : w.heap.size ≤ gb284)); have n5_ := Aside0.mk ((by rw [hg]; exact Nat.ne_of_lt (blk_lt (g := gb281) (o := .cells #[.string a0_0, .slice (some ad283) l0_1.length c0_1] 65 (0, 0)) (iB BK281)) : gb281 ≠ gb284)); have n6_ := Aside0.mk ((by rw [hg]; exact Nat.ne_of_gt (blk_lt (g := gb281) (o := .cells #[.string a0_0, .slice (some ad283) l0_1.length c0_1] 65 (0, 0)) (iB BK281)) : gb284 ≠ gb281)); clear BK281; clear HB; have BK281 := n0_; have HB := n1_; have BK284 := n2_; have GW284 := n3_; have GE284 := n4_; have NB281_284 := n5_; have NB284_281 := n6_; clear n0_ n1_ n2_ n3_ n4_ n5_ n6_; clear hb hbox hg; have hnb17 := NB284_281.out; have hnc17 := NB281_284.out; have hcz18_0 := cZ BK284 0 (.string (⟨#[]⟩ : ByteArray)); have hcz18_1 := cZ BK284 1 (.int .i64 0); have hfz18_0 := blk_frozen BK284.out 0; have hfz18_1 := blk_frozen BK284.out 1) | (go_at_call 39; (with_reducible refine (ancepsref01_Valid.calls k1 ((rd_T67 l0_1 x7_1).f0) t285 _ A12.out).mono ?_); rintro e w' ⟨rfl, ⟨nd, rfl⟩⟩; (try first | exact ⟨rfl, _, World.drewN_drewN _ _ _⟩ | exact ⟨rfl, _, Eq.trans (World.drewN_drewN _ _ _) (congrArg (World.drewN _) (Nat.add_assoc _ _ _))⟩); have hcz19_0 := cZ BK281 0 (.string a0_0); have hcz19_1 := cZ BK281 1 (.slice (some ad283) l0_1.length c0_1); have hfz19_0 := blk_frozen BK281.out 0; have hfz19_1 := blk_frozen BK281.out 1))
         repeat (go_quiet (first | ((with_reducible refine gate_dst (N := 8) rfl ?_); refine bX 8 #[.string (⟨#[]⟩ : ByteArray), .int .i64 0] 67 ?_; intro gb284 hg w16 hbox hb; have n0_ := jB BK281 hb; have n1_ := jL HB hb; have n2_ := Aside0.mk (hbox); have n3_ := Aside0.mk ((by rw [hg]; exact (below_size (iL HB)) : w.heap.size ≤ gb284)); have n4_ := Aside0.mk ((by rw [hg]; exact (below_size (iL HB)) : w.heap.size ≤ gb284)); have n5_ := Aside0.mk ((by rw [hg]; exact Nat.ne_of_lt (blk_lt (g := gb281) (o := .cells #[.string a0_0, .slice (some ad283) l0_1.length c0_1] 65 (0, 0)) (iB BK281)) : gb281 ≠ gb284)); have n6_ := Aside0.mk ((by rw [hg]; exact Nat.ne_of_gt (blk_lt (g := gb281) (o := .cells #[.string a0_0, .slice (some ad283) l0_1.length c0_1] 65 (0, 0)) (iB BK281)) : gb284 ≠ gb281)); clear BK281; clear HB; have BK281 := n0_; have HB := n1_; have BK284 := n2_; have GW284 := n3_; have GE284 := n4_; have NB281_284 := n5_; have NB284_281 := n6_; clear n0_ n1_ n2_ n3_ n4_ n5_ n6_; clear hb hbox hg; have hnb17 := NB284_281.out; have hnc17 := NB281_284.out; have hcz18_0 := cZ BK284 0 (.string (⟨#[]⟩ : ByteArray)); have hcz18_1 := cZ BK284 1 (.int .i64 0); have hfz18_0 := blk_frozen BK284.out 0; have hfz18_1 := blk_frozen BK284.out 1) | (go_at_call 39; (with_reducible refine (ancepsref01_Valid.calls k1 ((rd_T67 l0_1 x7_1).f0) t285 _ A12.out).mono ?_); (try clear A12); rintro e w' ⟨rfl, ⟨nd, rfl⟩⟩; (try first | exact ⟨rfl, _, World.drewN_drewN _ _ _⟩ | exact ⟨rfl, _, Eq.trans (World.drewN_drewN _ _ _) (congrArg (World.drewN _) (Nat.add_assoc _ _ _))⟩); have hcz19_0 := cZ BK281 0 (.string a0_0); have hcz19_1 := cZ BK281 1 (.slice (some ad283) l0_1.length c0_1); have hfz19_0 := blk_frozen BK281.out 0; have hfz19_1 := blk_frozen BK281.out 1)); try go_wp2_with (first | ((with_reducible refine gate_dst (N := 8) rfl ?_); refine bX 8 #[.string (⟨#[]⟩ : ByteArray), .int .i64 0] 67 ?_; intro gb284 hg w16 hbox hb; have n0_ := jB BK281 hb; have n1_ := jL HB hb; have n2_ := Aside0.mk (hbox); have n3_ := Aside0.mk ((by rw [hg]; exact (below_size (iL HB)) : w.heap.size ≤ gb284)); have n4_ := Aside0.mk ((by rw [hg]; exact (below_size (iL HB)) : w.heap.size ≤ gb284)); have n5_ := Aside0.mk ((by rw [hg]; exact Nat.ne_of_lt (blk_lt (g := gb281) (o := .cells #[.string a0_0, .slice (some ad283) l0_1.length c0_1] 65 (0, 0)) (iB BK281)) : gb281 ≠ gb284)); have n6_ := Aside0.mk ((by rw [hg]; exact Nat.ne_of_gt (blk_lt (g := gb281) (o := .cells #[.string a0_0, .slice (some ad283) l0_1.length c0_1] 65 (0, 0)) (iB BK281)) : gb284 ≠ gb281)); clear BK281; clear HB; have BK281 := n0_; have HB := n1_; have BK284 := n2_; have GW284 := n3_; have GE284 := n4_; have NB281_284 := n5_; have NB284_281 := n6_; clear n0_ n1_ n2_ n3_ n4_ n5_ n6_; clear hb hbox hg; have hnb17 := NB284_281.out; have hnc17 := NB281_284.out; have hcz18_0 := cZ BK284 0 (.string (⟨#[]⟩ : ByteArray)); have hcz18_1 := cZ BK284 1 (.int .i64 0); have hfz18_0 := blk_frozen BK284.out 0; have hfz18_1 := blk_frozen BK284.out 1) | (go_at_call 39; (with_reducible refine (ancepsref01_Valid.calls k1 ((rd_T67 l0_1 x7_1).f0) t285 _ A12.out).mono ?_); (try clear A12); rintro e w' ⟨rfl, ⟨nd, rfl⟩⟩; (try first | exact ⟨rfl, _, World.drewN_drewN _ _ _⟩ | exact ⟨rfl, _, Eq.trans (World.drewN_drewN _ _ _) (congrArg (World.drewN _) (Nat.add_assoc _ _ _))⟩); have hcz19_0 := cZ BK281 0 (.string a0_0); have hcz19_1 := cZ BK281 1 (.slice (some ad283) l0_1.length c0_1); have hfz19_0 := blk_frozen BK281.out 0; have hfz19_1 := blk_frozen BK281.out 1)))
         go_ret
         exact ⟨eV, iL HB⟩
        ·rw [if_neg c14] at H
         have c14b0 : (((rd_T67 l0_1 x7_1).f0).toList == a0_0.toList) = false := beq_eq_false_iff_ne.mpr c14
         have c14b1 : (((rd_T67 l0_1 x7_1).f0).toList != a0_0.toList) = true := bne_iff_ne.mpr c14
         have H' := Aside0.mk H
         clear H
         have hcz20_0 := cZ BK281 0 (.string a0_0)
         have hcz20_1 := cZ BK281 1 (.slice A0_1 l0_1.length c0_1)
         have hfz20_0 := blk_frozen BK281.out 0
         have hfz20_1 := blk_frozen BK281.out 1
         have p283 := oD (0 ≤ (x7_1 : Int))
         have q283 := oD (x7_1 < (l0_1.length : Int))
         obtain ⟨ad283, e283, hx283_0, hx283_1⟩ := at_T67 HR0_1.out x7_1 p283 q283
         cases e283
         replace hx283_0 := (HB.out.cell (World.block_lt_of_cell? w _ hx283_0)).trans hx283_0
         replace hx283_1 := (HB.out.cell (World.block_lt_of_cell? w _ hx283_1)).trans hx283_1
         replace p283 := eq_true p283
         replace q283 := eq_true q283
         go_wp2_with (first | ((with_reducible refine gate_dst (N := 8) rfl ?_); refine bX 8 #[.string (⟨#[]⟩ : ByteArray), .int .i64 0] 67 ?_; intro gb284 hg w21 hbox hb; have n0_ := jB BK281 hb; have n1_ := jL HB hb; have n2_ := Aside0.mk (hbox); have n3_ := Aside0.mk ((by rw [hg]; exact (below_size (iL HB)) : w.heap.size ≤ gb284)); have n4_ := Aside0.mk ((by rw [hg]; exact (below_size (iL HB)) : w.heap.size ≤ gb284)); have n5_ := Aside0.mk ((by rw [hg]; exact Nat.ne_of_lt (blk_lt (g := gb281) (o := .cells #[.string a0_0, .slice (some ad283) l0_1.length c0_1] 65 (0, 0)) (iB BK281)) : gb281 ≠ gb284)); have n6_ := Aside0.mk ((by rw [hg]; exact Nat.ne_of_gt (blk_lt (g := gb281) (o := .cells #[.string a0_0, .slice (some ad283) l0_1.length c0_1] 65 (0, 0)) (iB BK281)) : gb284 ≠ gb281)); clear BK281; clear HB; have BK281 := n0_; have HB := n1_; have BK284 := n2_; have GW284 := n3_; have GE284 := n4_; have NB281_284 := n5_; have NB284_281 := n6_; clear n0_ n1_ n2_ n3_ n4_ n5_ n6_; clear hb hbox hg; have hnb22 := NB284_281.out; have hnc22 := NB281_284.out; have hcz23_0 := cZ BK284 0 (.string (⟨#[]⟩ : ByteArray)); have hcz23_1 := cZ BK284 1 (.int .i64 0); have hfz23_0 := blk_frozen BK284.out 0; have hfz23_1 := blk_frozen BK284.out 1) | (go_at_call 39; (with_reducible refine (ancepsref01_Valid.calls k1 ((rd_T67 l0_1 x7_1).f0) t285 _ A12.out).mono ?_); rintro e w' ⟨rfl, ⟨nd, rfl⟩⟩; (try first | exact ⟨rfl, _, World.drewN_drewN _ _ _⟩ | exact ⟨rfl, _, Eq.trans (World.drewN_drewN _ _ _) (congrArg (World.drewN _) (Nat.add_assoc _ _ _))⟩); have hcz24_0 := cZ BK281 0 (.string a0_0); have hcz24_1 := cZ BK281 1 (.slice (some ad283) l0_1.length c0_1); have hfz24_0 := blk_frozen BK281.out 0; have hfz24_1 := blk_frozen BK281.out 1))
         repeat (go_quiet (first | ((with_reducible refine gate_dst (N := 8) rfl ?_); refine bX 8 #[.string (⟨#[]⟩ : ByteArray), .int .i64 0] 67 ?_; intro gb284 hg w21 hbox hb; have n0_ := jB BK281 hb; have n1_ := jL HB hb; have n2_ := Aside0.mk (hbox); have n3_ := Aside0.mk ((by rw [hg]; exact (below_size (iL HB)) : w.heap.size ≤ gb284)); have n4_ := Aside0.mk ((by rw [hg]; exact (below_size (iL HB)) : w.heap.size ≤ gb284)); have n5_ := Aside0.mk ((by rw [hg]; exact Nat.ne_of_lt (blk_lt (g := gb281) (o := .cells #[.string a0_0, .slice (some ad283) l0_1.length c0_1] 65 (0, 0)) (iB BK281)) : gb281 ≠ gb284)); have n6_ := Aside0.mk ((by rw [hg]; exact Nat.ne_of_gt (blk_lt (g := gb281) (o := .cells #[.string a0_0, .slice (some ad283) l0_1.length c0_1] 65 (0, 0)) (iB BK281)) : gb284 ≠ gb281)); clear BK281; clear HB; have BK281 := n0_; have HB := n1_; have BK284 := n2_; have GW284 := n3_; have GE284 := n4_; have NB281_284 := n5_; have NB284_281 := n6_; clear n0_ n1_ n2_ n3_ n4_ n5_ n6_; clear hb hbox hg; have hnb22 := NB284_281.out; have hnc22 := NB281_284.out; have hcz23_0 := cZ BK284 0 (.string (⟨#[]⟩ : ByteArray)); have hcz23_1 := cZ BK284 1 (.int .i64 0); have hfz23_0 := blk_frozen BK284.out 0; have hfz23_1 := blk_frozen BK284.out 1) | (go_at_call 39; (with_reducible refine (ancepsref01_Valid.calls k1 ((rd_T67 l0_1 x7_1).f0) t285 _ A12.out).mono ?_); (try clear A12); rintro e w' ⟨rfl, ⟨nd, rfl⟩⟩; (try first | exact ⟨rfl, _, World.drewN_drewN _ _ _⟩ | exact ⟨rfl, _, Eq.trans (World.drewN_drewN _ _ _) (congrArg (World.drewN _) (Nat.add_assoc _ _ _))⟩); have hcz24_0 := cZ BK281 0 (.string a0_0); have hcz24_1 := cZ BK281 1 (.slice (some ad283) l0_1.length c0_1); have hfz24_0 := blk_frozen BK281.out 0; have hfz24_1 := blk_frozen BK281.out 1)); try go_wp2_with (first | ((with_reducible refine gate_dst (N := 8) rfl ?_); refine bX 8 #[.string (⟨#[]⟩ : ByteArray), .int .i64 0] 67 ?_; intro gb284 hg w21 hbox hb; have n0_ := jB BK281 hb; have n1_ := jL HB hb; have n2_ := Aside0.mk (hbox); have n3_ := Aside0.mk ((by rw [hg]; exact (below_size (iL HB)) : w.heap.size ≤ gb284)); have n4_ := Aside0.mk ((by rw [hg]; exact (below_size (iL HB)) : w.heap.size ≤ gb284)); have n5_ := Aside0.mk ((by rw [hg]; exact Nat.ne_of_lt (blk_lt (g := gb281) (o := .cells #[.string a0_0, .slice (some ad283) l0_1.length c0_1] 65 (0, 0)) (iB BK281)) : gb281 ≠ gb284)); have n6_ := Aside0.mk ((by rw [hg]; exact Nat.ne_of_gt (blk_lt (g := gb281) (o := .cells #[.string a0_0, .slice (some ad283) l0_1.length c0_1] 65 (0, 0)) (iB BK281)) : gb284 ≠ gb281)); clear BK281; clear HB; have BK281 := n0_; have HB := n1_; have BK284 := n2_; have GW284 := n3_; have GE284 := n4_; have NB281_284 := n5_; have NB284_281 := n6_; clear n0_ n1_ n2_ n3_ n4_ n5_ n6_; clear hb hbox hg; have hnb22 := NB284_281.out; have hnc22 := NB281_284.out; have hcz23_0 := cZ BK284 0 (.string (⟨#[]⟩ : ByteArray)); have hcz23_1 := cZ BK284 1 (.int .i64 0); have hfz23_0 := blk_frozen BK284.out 0; have hfz23_1 := blk_frozen BK284.out 1) | (go_at_call 39; (with_reducible refine (ancepsref01_Valid.calls k1 ((rd_T67 l0_1 x7_1).f0) t285 _ A12.out).mono ?_); (try clear A12); rintro e w' ⟨rfl, ⟨nd, rfl⟩⟩; (try first | exact ⟨rfl, _, World.drewN_drewN _ _ _⟩ | exact ⟨rfl, _, Eq.trans (World.drewN_drewN _ _ _) (congrArg (World.drewN _) (Nat.add_assoc _ _ _))⟩); have hcz24_0 := cZ BK281 0 (.string a0_0); have hcz24_1 := cZ BK281 1 (.slice (some ad283) l0_1.length c0_1); have hfz24_0 := blk_frozen BK281.out 0; have hfz24_1 := blk_frozen BK281.out 1)))
         go_loopg [10] k1 (fun kq v10 w' => ∃ (x10_2 : Int), v10 = .int .i64 x10_2 ∧ Aside0 (ancepsref57_row.l1 kq a1 x6_1 x7_1 x10_2 a0_0 l0_1 ((rd_T67 l0_1 x7_1).f0) ((rd_T67 l0_1 x7_1).f1) = some r) ∧ Aside0 (kq ≤ k1) ∧ Aside0 (w'.heap[gb281]? = some (.cells #[.string a0_0, (.slice (some ad283) l0_1.length c0_1)] 65 (0, 0))) ∧ Aside0 (w'.heap[gb284]? = some (.cells #[.string ((rd_T67 l0_1 x7_1).f0), .int .i64 ((rd_T67 l0_1 x7_1).f1)] 67 (0, 0))) ∧ Aside0 (Below w.heap.size w w'))
         case atStart => exact ⟨(0), eV, H', ⟨Nat.le_refl _⟩, ⟨by (with_reducible repeat (first | apply blk_drewN | apply blk_drew | apply blk_alloc)); refine blk_far ?_ NB281_284.out _; (with_reducible repeat (first | apply blk_drewN | apply blk_drew | apply blk_alloc)); refine blk_far ?_ NB281_284.out _; (with_reducible repeat (first | apply blk_drewN | apply blk_drew | apply blk_alloc)); exact BK281.out⟩, ⟨by (with_reducible repeat (first | apply blk_drewN | apply blk_drew | apply blk_alloc)); refine blk_put (cs := #[.string ((rd_T67 l0_1 x7_1).f0), .int .i64 0]) ?_ 1 _ rfl; (with_reducible repeat (first | apply blk_drewN | apply blk_drew | apply blk_alloc)); refine blk_put (cs := #[.string (⟨#[]⟩ : ByteArray), .int .i64 0]) ?_ 0 _ rfl; (with_reducible repeat (first | apply blk_drewN | apply blk_drew | apply blk_alloc)); exact BK284.out⟩, ⟨iL HB⟩⟩
         case round =>
          clear H'
          (try clear c1); (try clear c2); (try clear p2); (try clear q2); (try clear hx2); (try clear c4); (try clear c4b0); (try clear c4b1); (try clear c5); (try clear c5b0); (try clear c5b1); (try clear c7); (try clear c10); (try clear c10b0); (try clear c11); (try clear c11b0); (try clear c13); (try clear c13b0); (try clear c13b1); (try clear c14); (try clear c14b0); (try clear c14b1); (try clear c17); (try clear c22); (try clear hcz15_0); (try clear hcz15_1); (try clear hcz18_0); (try clear hcz18_1); (try clear hcz19_0); (try clear hcz19_1); (try clear hcz20_0); (try clear hcz20_1); (try clear hcz23_0); (try clear hcz23_1); (try clear hcz24_0); (try clear hcz24_1); (try clear hcz7_0); (try clear hcz7_1); (try clear hcz9_0); (try clear hcz9_1); (try clear hfz15_0); (try clear hfz15_1); (try clear hfz18_0); (try clear hfz18_1); (try clear hfz19_0); (try clear hfz19_1); (try clear hfz20_0); (try clear hfz20_1); (try clear hfz23_0); (try clear hfz23_1); (try clear hfz24_0); (try clear hfz24_1); (try clear hfz7_0); (try clear hfz7_1); (try clear hfz9_0); (try clear hfz9_1); (try clear hx283_0); (try clear hx283_1); (try clear p2); (try clear p283); (try clear q283)
          obtain ⟨x10_2, rfl, HA, HK2, BK281, BK284, HB⟩ := hrel
          cases gk with
          | zero => exact absurd HA.out (by simp [ancepsref57_row.l1])
          | succ k2 =>
           have H := HA.out
           clear HA
           simp only [ancepsref57_row.l1] at H
           by_cases c25 : x10_2 < x7_1
           ·rw [if_pos c25] at H
            have c25b0 : decide (x10_2 < x7_1) = true := decide_eq_true c25
            clear c25
            by_cases c26 : 0 ≤ x10_2
            ·rw [if_pos c26] at H
             have c26b0 : decide (0 ≤ x10_2) = true := decide_eq_true c26
             clear c26
             by_cases c27 : x10_2 < (l0_1.length : Int)
             ·rw [if_pos c27] at H
              have c27b0 : decide (x10_2 < (l0_1.length : Int)) = true := decide_eq_true c27
              clear c27
              by_cases c28 : ((rd_T67 l0_1 x10_2).f0).toList = ((rd_T67 l0_1 x7_1).f0).toList
              ·rw [if_pos c28] at H
               have c28b0 : (((rd_T67 l0_1 x10_2).f0).toList == ((rd_T67 l0_1 x7_1).f0).toList) = true := beq_iff_eq.mpr c28
               have c28b1 : (((rd_T67 l0_1 x10_2).f0).toList != ((rd_T67 l0_1 x7_1).f0).toList) = false := bne_eq_false_iff_eq.mpr c28
               clear c28
               obtain rfl := Option.some.inj H
               have hnb29 := NB281_284.out
               have hnc29 := NB284_281.out
               have hcz30_0 := cZ BK281 0 (.string a0_0)
               have hcz30_1 := cZ BK281 1 (.slice (some ad283) l0_1.length c0_1)
               have hfz30_0 := blk_frozen BK281.out 0
               have hfz30_1 := blk_frozen BK281.out 1
               have p286 := oD (0 ≤ (x10_2 : Int))
               have q286 := oD (x10_2 < (l0_1.length : Int))
               obtain ⟨ad286, e286, hx286_0, hx286_1⟩ := at_T67 HR0_1.out x10_2 p286 q286
               obtain rfl : ad283 = ad286 := (by injection e286)
               replace hx286_0 := (HB.out.cell (World.block_lt_of_cell? w _ hx286_0)).trans hx286_0
               replace hx286_1 := (HB.out.cell (World.block_lt_of_cell? w _ hx286_1)).trans hx286_1
               replace p286 := eq_true p286
               replace q286 := eq_true q286
               have hcz31_0 := cZ BK284 0 (.string ((rd_T67 l0_1 x7_1).f0))
               have hcz31_1 := cZ BK284 1 (.int .i64 ((rd_T67 l0_1 x7_1).f1))
               have hfz31_0 := blk_frozen BK284.out 0
               have hfz31_1 := blk_frozen BK284.out 1
               go_wp2
               repeat (go_quiet (fail); try go_wp2)
               go_ret
               exact ⟨eV, iL HB⟩
              ·rw [if_neg c28] at H
               have c28b0 : (((rd_T67 l0_1 x10_2).f0).toList == ((rd_T67 l0_1 x7_1).f0).toList) = false := beq_eq_false_iff_ne.mpr c28
               have c28b1 : (((rd_T67 l0_1 x10_2).f0).toList != ((rd_T67 l0_1 x7_1).f0).toList) = true := bne_iff_ne.mpr c28
               have H' := Aside0.mk H
               clear H
               have hnb32 := NB281_284.out
               have hnc32 := NB284_281.out
               have hcz33_0 := cZ BK281 0 (.string a0_0)
               have hcz33_1 := cZ BK281 1 (.slice (some ad283) l0_1.length c0_1)
               have hfz33_0 := blk_frozen BK281.out 0
               have hfz33_1 := blk_frozen BK281.out 1
               have p286 := oD (0 ≤ (x10_2 : Int))
               have q286 := oD (x10_2 < (l0_1.length : Int))
               obtain ⟨ad286, e286, hx286_0, hx286_1⟩ := at_T67 HR0_1.out x10_2 p286 q286
               obtain rfl : ad283 = ad286 := (by injection e286)
               replace hx286_0 := (HB.out.cell (World.block_lt_of_cell? w _ hx286_0)).trans hx286_0
               replace hx286_1 := (HB.out.cell (World.block_lt_of_cell? w _ hx286_1)).trans hx286_1
               replace p286 := eq_true p286
               replace q286 := eq_true q286
               have hcz34_0 := cZ BK284 0 (.string ((rd_T67 l0_1 x7_1).f0))
               have hcz34_1 := cZ BK284 1 (.int .i64 ((rd_T67 l0_1 x7_1).f1))
               have hfz34_0 := blk_frozen BK284.out 0
               have hfz34_1 := blk_frozen BK284.out 1
               go_wp2
               repeat (go_quiet (fail); try go_wp2)
               go_roundg k2
               case measure => have := HK1.out; have := HK2.out; omega
               case rel => exact ⟨(wrap64 (x10_2 + 1)), eV, H', ⟨by have := HK1.out; have := HK2.out; omega⟩, ⟨iB BK281⟩, ⟨iB BK284⟩, ⟨iL HB⟩⟩
             ·rw [if_neg c27] at H
              exact absurd H (by simp)
            ·rw [if_neg c26] at H
             exact absurd H (by simp)
           ·rw [if_neg c25] at H
            have c25b0 : decide (x10_2 < x7_1) = false := decide_eq_false c25
            clear c25
            have HC35 := Aside0.mk H
            clear H
            go_upto_region 21 with (fail)
            repeat (go_quiet (fail); go_upto_region 21 with (fail))
            go_cut [67] (fun v67 wc => ∃ (kq : Nat) (x67_34 : Bool), v67 = .bool x67_34 ∧ Aside0 (ancepsref57_row.j2 kq a1 x6_1 x7_1 x67_34 a0_0 l0_1 ((rd_T67 l0_1 x7_1).f0) ((rd_T67 l0_1 x7_1).f1) = some r) ∧ Aside0 (kq ≤ k2) ∧ Aside0 (wc.heap[gb281]? = some (.cells #[.string a0_0, (.slice (some ad283) l0_1.length c0_1)] 65 (0, 0))) ∧ Aside0 (wc.heap[gb284]? = some (.cells #[.string ((rd_T67 l0_1 x7_1).f0), .int .i64 ((rd_T67 l0_1 x7_1).f1)] 67 (0, 0))) ∧ Aside0 (Below w.heap.size w wc))
            case first =>
             have H := HC35.out
             clear HC35
             by_cases c36 : ((rd_T67 l0_1 x7_1).f1) < 0
             ·rw [if_pos c36] at H
              have c36b0 : decide (((rd_T67 l0_1 x7_1).f1) < 0) = true := decide_eq_true c36
              clear c36
              (first | rw [c36b0] | (simp only [i64_w, i32_w]; rw [c36b0]) | skip)
              have H' := Aside0.mk H
              clear H
              have hnb37 := NB284_281.out
              have hnc37 := NB281_284.out
              have hcz38_0 := cZ BK284 0 (.string ((rd_T67 l0_1 x7_1).f0))
              have hcz38_1 := cZ BK284 1 (.int .i64 ((rd_T67 l0_1 x7_1).f1))
              have hfz38_0 := blk_frozen BK284.out 0
              have hfz38_1 := blk_frozen BK284.out 1
              go_wp2
              repeat (go_quiet (fail); try go_wp2)
              go_meet
              case rel => exact ⟨_, (true), eV, H', ⟨by have := HK1.out; have := HK2.out; first | omega | exact Nat.le_refl _⟩, ⟨iB BK281⟩, ⟨iB BK284⟩, ⟨iL HB⟩⟩
             ·rw [if_neg c36] at H
              have c36b0 : decide (((rd_T67 l0_1 x7_1).f1) < 0) = false := decide_eq_false c36
              clear c36
              (first | rw [c36b0] | (simp only [i64_w, i32_w]; rw [c36b0]) | skip)
              by_cases c39 : 0 ≤ a1
              ·rw [if_pos c39] at H
               have c39b0 := eq_true c39
               have c39b1 : decide (0 ≤ a1) = true := decide_eq_true c39
               clear c39
               obtain ⟨ji40, hji40⟩ : ∃ j_ : Int, (shl .i64 1 a1) = j_ := ⟨_, rfl⟩
               replace H : (ancepsref57_row.j2 k2 a1 x6_1 x7_1 (decide (((rd_T67 l0_1 x7_1).f1) ≥ (ji40))) a0_0 l0_1 ((rd_T67 l0_1 x7_1).f0) ((rd_T67 l0_1 x7_1).f1)) = some r := by first | (rw [hji40] at H; exact H) | (simp only [hji40] at H ⊢; exact H)
               have hji40_ : (IntKind.i64.wrap (1 * 2 ^ min a1.toNat 64)) = ji40 := hji40
               have hji40z : a1 ≤ 64 → (IntKind.i64.wrap (1 * 2 ^ a1.toNat)) = ji40 := shl_small hji40
               have hji40u : (IntKind.i64.wrap (2 ^ min a1.toNat 64)) = ji40 := by have h_ := hji40_; rw [Int.one_mul] at h_; exact h_
               have hji40v : a1 ≤ 64 → (IntKind.i64.wrap (2 ^ a1.toNat)) = ji40 := fun hle_ => by have h_ := hji40z hle_; rw [Int.one_mul] at h_; exact h_
               have hji40y : (wrap64 (1 * 2 ^ min a1.toNat 64)) = ji40 := (i64_w _).symm.trans hji40_
               have hji40x : a1 ≤ 64 → (wrap64 (1 * 2 ^ a1.toNat)) = ji40 := fun h_ => (i64_w _).symm.trans (hji40z h_)
               have H' := Aside0.mk H
               clear H
               have hnb41 := NB284_281.out
               have hnc41 := NB281_284.out
               have hcz42_0 := cZ BK284 0 (.string ((rd_T67 l0_1 x7_1).f0))
               have hcz42_1 := cZ BK284 1 (.int .i64 ((rd_T67 l0_1 x7_1).f1))
               have hfz42_0 := blk_frozen BK284.out 0
               have hfz42_1 := blk_frozen BK284.out 1
               go_wp2
               repeat (go_quiet (fail); try go_wp2)
               go_meet
               case rel => exact ⟨_, (decide (((rd_T67 l0_1 x7_1).f1) ≥ (ji40))), (by first | rfl | (simp; done) | (simp only [← hji40] <;> (first | rfl | simp)) | (simp [*]; done)), H', ⟨by have := HK1.out; have := HK2.out; first | omega | exact Nat.le_refl _⟩, ⟨iB BK281⟩, ⟨iB BK284⟩, ⟨iL HB⟩⟩
              ·rw [if_neg c39] at H
               exact absurd H (by simp)
            case rest =>
             clear HC35
             (try clear c1); (try clear c2); (try clear p2); (try clear q2); (try clear hx2); (try clear c3); (try clear c4); (try clear c4b0); (try clear c4b1); (try clear c5); (try clear c5b0); (try clear c5b1); (try clear p6); (try clear c7); (try clear c10); (try clear c10b0); (try clear c11); (try clear c11b0); (try clear c13); (try clear c13b0); (try clear c13b1); (try clear c14); (try clear c14b0); (try clear c14b1); (try clear c17); (try clear c22); (try clear c25); (try clear c25b0); (try clear c26); (try clear c26b0); (try clear c27); (try clear c27b0); (try clear c28); (try clear c28b0); (try clear c28b1); (try clear p28); (try clear q28); (try clear hx28); (try clear c29); (try clear c32); (try clear c36); (try clear c36b0); (try clear c37); (try clear c39); (try clear c39b0); (try clear c39b1); (try clear c41); (try clear hcz15_0); (try clear hcz15_1); (try clear hcz18_0); (try clear hcz18_1); (try clear hcz19_0); (try clear hcz19_1); (try clear hcz20_0); (try clear hcz20_1); (try clear hcz23_0); (try clear hcz23_1); (try clear hcz24_0); (try clear hcz24_1); (try clear hcz30_0); (try clear hcz30_1); (try clear hcz31_0); (try clear hcz31_1); (try clear hcz33_0); (try clear hcz33_1); (try clear hcz34_0); (try clear hcz34_1); (try clear hcz38_0); (try clear hcz38_1); (try clear hcz42_0); (try clear hcz42_1); (try clear hcz7_0); (try clear hcz7_1); (try clear hcz9_0); (try clear hcz9_1); (try clear hfz15_0); (try clear hfz15_1); (try clear hfz18_0); (try clear hfz18_1); (try clear hfz19_0); (try clear hfz19_1); (try clear hfz20_0); (try clear hfz20_1); (try clear hfz23_0); (try clear hfz23_1); (try clear hfz24_0); (try clear hfz24_1); (try clear hfz30_0); (try clear hfz30_1); (try clear hfz31_0); (try clear hfz31_1); (try clear hfz33_0); (try clear hfz33_1); (try clear hfz34_0); (try clear hfz34_1); (try clear hfz38_0); (try clear hfz38_1); (try clear hfz42_0); (try clear hfz42_1); (try clear hfz7_0); (try clear hfz7_1); (try clear hfz9_0); (try clear hfz9_1); (try clear hx283_0); (try clear hx283_1); (try clear hx286_0); (try clear hx286_1); (try clear p2); (try clear p283); (try clear p286); (try clear q2); (try clear q283); (try clear q286)
             obtain ⟨kq, x67_34, rfl, HA, HJ34, BK281, BK284, HB⟩ := hcut
             cases kq with
             | zero => exact absurd HA.out (by simp [ancepsref57_row.j2])
             | succ kj34 =>
              have H := HA.out
              clear HA
              simp only [ancepsref57_row.j2] at H
              by_cases c43 : x67_34 = true
              ·subst c43
               have H1 : (some 6) = some r := by rw [if_pos rfl] at H; exact H
               clear H
               have H := H1
               clear H1
               obtain rfl := Option.some.inj H
               go_wp2
               repeat (go_quiet (fail); try go_wp2)
               go_ret
               exact ⟨eV, iL HB⟩
              ·replace c43 := Bool.eq_false_iff.mpr c43
               subst c43
               have H1 : (if (Go.bits .and .i64 ((rd_T67 l0_1 x7_1).f1) x6_1) = 0 then (ancepsref57_row.l0 kj34 a1 (Go.bits .or .i64 x6_1 ((rd_T67 l0_1 x7_1).f1)) (wrap64 (x7_1 + 1)) a0_0 l0_1) else (some 12)) = some r := by rw [if_neg (show ¬ (false = true) by decide)] at H; exact H
               clear H
               have H := H1
               clear H1
               by_cases c44 : (Go.bits .and .i64 ((rd_T67 l0_1 x7_1).f1) x6_1) = 0
               ·rw [if_pos c44] at H
                have c44b0 : ((Go.bits .and .i64 ((rd_T67 l0_1 x7_1).f1) x6_1) == 0) = true := beq_iff_eq.mpr c44
                have c44b1 : ((Go.bits .and .i64 ((rd_T67 l0_1 x7_1).f1) x6_1) != 0) = false := bne_eq_false_iff_eq.mpr c44
                clear c44
                have H' := Aside0.mk H
                clear H
                have hnb45 := NB284_281.out
                have hnc45 := NB281_284.out
                have hcz46_0 := cZ BK284 0 (.string ((rd_T67 l0_1 x7_1).f0))
                have hcz46_1 := cZ BK284 1 (.int .i64 ((rd_T67 l0_1 x7_1).f1))
                have hfz46_0 := blk_frozen BK284.out 0
                have hfz46_1 := blk_frozen BK284.out 1
                go_wp2
                repeat (go_quiet (fail); try go_wp2)
                go_roundg kj34
                case measure => have := HK1.out; have := HK2.out; have := HJ34.out; omega
                case rel => exact ⟨(Go.bits .or .i64 x6_1 ((rd_T67 l0_1 x7_1).f1)), (wrap64 (x7_1 + 1)), eV, eV, H', ⟨by have := HK1.out; have := HK2.out; have := HJ34.out; omega⟩, ⟨iB BK281⟩, ⟨iL HB⟩⟩
               ·rw [if_neg c44] at H
                have c44b0 : ((Go.bits .and .i64 ((rd_T67 l0_1 x7_1).f1) x6_1) == 0) = false := beq_eq_false_iff_ne.mpr c44
                have c44b1 : ((Go.bits .and .i64 ((rd_T67 l0_1 x7_1).f1) x6_1) != 0) = true := bne_iff_ne.mpr c44
                obtain rfl := Option.some.inj H
                have hnb47 := NB284_281.out
                have hnc47 := NB281_284.out
                have hcz48_0 := cZ BK284 0 (.string ((rd_T67 l0_1 x7_1).f0))
                have hcz48_1 := cZ BK284 1 (.int .i64 ((rd_T67 l0_1 x7_1).f1))
                have hfz48_0 := blk_frozen BK284.out 0
                have hfz48_1 := blk_frozen BK284.out 1
                go_wp2
                repeat (go_quiet (fail); try go_wp2)
                go_ret
                exact ⟨eV, iL HB⟩
       ·rw [if_neg c13] at H
        have c13b0 : (t285 == 0) = false := beq_eq_false_iff_ne.mpr c13
        have c13b1 : (t285 != 0) = true := bne_iff_ne.mpr c13
        obtain rfl := Option.some.inj H
        have hcz49_0 := cZ BK281 0 (.string a0_0)
        have hcz49_1 := cZ BK281 1 (.slice A0_1 l0_1.length c0_1)
        have hfz49_0 := blk_frozen BK281.out 0
        have hfz49_1 := blk_frozen BK281.out 1
        have p283 := oD (0 ≤ (x7_1 : Int))
        have q283 := oD (x7_1 < (l0_1.length : Int))
        obtain ⟨ad283, e283, hx283_0, hx283_1⟩ := at_T67 HR0_1.out x7_1 p283 q283
        cases e283
        replace hx283_0 := (HB.out.cell (World.block_lt_of_cell? w _ hx283_0)).trans hx283_0
        replace hx283_1 := (HB.out.cell (World.block_lt_of_cell? w _ hx283_1)).trans hx283_1
        replace p283 := eq_true p283
        replace q283 := eq_true q283
        go_wp2_with (first | ((with_reducible refine gate_dst (N := 8) rfl ?_); refine bX 8 #[.string (⟨#[]⟩ : ByteArray), .int .i64 0] 67 ?_; intro gb284 hg w50 hbox hb; have n0_ := jB BK281 hb; have n1_ := jL HB hb; have n2_ := Aside0.mk (hbox); have n3_ := Aside0.mk ((by rw [hg]; exact (below_size (iL HB)) : w.heap.size ≤ gb284)); have n4_ := Aside0.mk ((by rw [hg]; exact (below_size (iL HB)) : w.heap.size ≤ gb284)); have n5_ := Aside0.mk ((by rw [hg]; exact Nat.ne_of_lt (blk_lt (g := gb281) (o := .cells #[.string a0_0, .slice (some ad283) l0_1.length c0_1] 65 (0, 0)) (iB BK281)) : gb281 ≠ gb284)); have n6_ := Aside0.mk ((by rw [hg]; exact Nat.ne_of_gt (blk_lt (g := gb281) (o := .cells #[.string a0_0, .slice (some ad283) l0_1.length c0_1] 65 (0, 0)) (iB BK281)) : gb284 ≠ gb281)); clear BK281; clear HB; have BK281 := n0_; have HB := n1_; have BK284 := n2_; have GW284 := n3_; have GE284 := n4_; have NB281_284 := n5_; have NB284_281 := n6_; clear n0_ n1_ n2_ n3_ n4_ n5_ n6_; clear hb hbox hg; have hnb51 := NB284_281.out; have hnc51 := NB281_284.out; have hcz52_0 := cZ BK284 0 (.string (⟨#[]⟩ : ByteArray)); have hcz52_1 := cZ BK284 1 (.int .i64 0); have hfz52_0 := blk_frozen BK284.out 0; have hfz52_1 := blk_frozen BK284.out 1) | (go_at_call 39; (with_reducible refine (ancepsref01_Valid.calls k1 ((rd_T67 l0_1 x7_1).f0) t285 _ A12.out).mono ?_); rintro e w' ⟨rfl, ⟨nd, rfl⟩⟩; (try first | exact ⟨rfl, _, World.drewN_drewN _ _ _⟩ | exact ⟨rfl, _, Eq.trans (World.drewN_drewN _ _ _) (congrArg (World.drewN _) (Nat.add_assoc _ _ _))⟩)))
        repeat (go_quiet (first | ((with_reducible refine gate_dst (N := 8) rfl ?_); refine bX 8 #[.string (⟨#[]⟩ : ByteArray), .int .i64 0] 67 ?_; intro gb284 hg w50 hbox hb; have n0_ := jB BK281 hb; have n1_ := jL HB hb; have n2_ := Aside0.mk (hbox); have n3_ := Aside0.mk ((by rw [hg]; exact (below_size (iL HB)) : w.heap.size ≤ gb284)); have n4_ := Aside0.mk ((by rw [hg]; exact (below_size (iL HB)) : w.heap.size ≤ gb284)); have n5_ := Aside0.mk ((by rw [hg]; exact Nat.ne_of_lt (blk_lt (g := gb281) (o := .cells #[.string a0_0, .slice (some ad283) l0_1.length c0_1] 65 (0, 0)) (iB BK281)) : gb281 ≠ gb284)); have n6_ := Aside0.mk ((by rw [hg]; exact Nat.ne_of_gt (blk_lt (g := gb281) (o := .cells #[.string a0_0, .slice (some ad283) l0_1.length c0_1] 65 (0, 0)) (iB BK281)) : gb284 ≠ gb281)); clear BK281; clear HB; have BK281 := n0_; have HB := n1_; have BK284 := n2_; have GW284 := n3_; have GE284 := n4_; have NB281_284 := n5_; have NB284_281 := n6_; clear n0_ n1_ n2_ n3_ n4_ n5_ n6_; clear hb hbox hg; have hnb51 := NB284_281.out; have hnc51 := NB281_284.out; have hcz52_0 := cZ BK284 0 (.string (⟨#[]⟩ : ByteArray)); have hcz52_1 := cZ BK284 1 (.int .i64 0); have hfz52_0 := blk_frozen BK284.out 0; have hfz52_1 := blk_frozen BK284.out 1) | (go_at_call 39; (with_reducible refine (ancepsref01_Valid.calls k1 ((rd_T67 l0_1 x7_1).f0) t285 _ A12.out).mono ?_); (try clear A12); rintro e w' ⟨rfl, ⟨nd, rfl⟩⟩; (try first | exact ⟨rfl, _, World.drewN_drewN _ _ _⟩ | exact ⟨rfl, _, Eq.trans (World.drewN_drewN _ _ _) (congrArg (World.drewN _) (Nat.add_assoc _ _ _))⟩))); try go_wp2_with (first | ((with_reducible refine gate_dst (N := 8) rfl ?_); refine bX 8 #[.string (⟨#[]⟩ : ByteArray), .int .i64 0] 67 ?_; intro gb284 hg w50 hbox hb; have n0_ := jB BK281 hb; have n1_ := jL HB hb; have n2_ := Aside0.mk (hbox); have n3_ := Aside0.mk ((by rw [hg]; exact (below_size (iL HB)) : w.heap.size ≤ gb284)); have n4_ := Aside0.mk ((by rw [hg]; exact (below_size (iL HB)) : w.heap.size ≤ gb284)); have n5_ := Aside0.mk ((by rw [hg]; exact Nat.ne_of_lt (blk_lt (g := gb281) (o := .cells #[.string a0_0, .slice (some ad283) l0_1.length c0_1] 65 (0, 0)) (iB BK281)) : gb281 ≠ gb284)); have n6_ := Aside0.mk ((by rw [hg]; exact Nat.ne_of_gt (blk_lt (g := gb281) (o := .cells #[.string a0_0, .slice (some ad283) l0_1.length c0_1] 65 (0, 0)) (iB BK281)) : gb284 ≠ gb281)); clear BK281; clear HB; have BK281 := n0_; have HB := n1_; have BK284 := n2_; have GW284 := n3_; have GE284 := n4_; have NB281_284 := n5_; have NB284_281 := n6_; clear n0_ n1_ n2_ n3_ n4_ n5_ n6_; clear hb hbox hg; have hnb51 := NB284_281.out; have hnc51 := NB281_284.out; have hcz52_0 := cZ BK284 0 (.string (⟨#[]⟩ : ByteArray)); have hcz52_1 := cZ BK284 1 (.int .i64 0); have hfz52_0 := blk_frozen BK284.out 0; have hfz52_1 := blk_frozen BK284.out 1) | (go_at_call 39; (with_reducible refine (ancepsref01_Valid.calls k1 ((rd_T67 l0_1 x7_1).f0) t285 _ A12.out).mono ?_); (try clear A12); rintro e w' ⟨rfl, ⟨nd, rfl⟩⟩; (try first | exact ⟨rfl, _, World.drewN_drewN _ _ _⟩ | exact ⟨rfl, _, Eq.trans (World.drewN_drewN _ _ _) (congrArg (World.drewN _) (Nat.add_assoc _ _ _))⟩))))
        go_ret
        exact ⟨eV, iL HB⟩
      ·rw [if_neg c11] at H
       exact absurd H (by simp)
     ·rw [if_neg c10] at H
      have c10b0 : decide (x7_1 < (l0_1.length : Int)) = false := decide_eq_false c10
      clear c10
      obtain rfl := Option.some.inj H
      have hcz53_0 := cZ BK281 0 (.string a0_0)
      have hcz53_1 := cZ BK281 1 (.slice A0_1 l0_1.length c0_1)
      have hfz53_0 := blk_frozen BK281.out 0
      have hfz53_1 := blk_frozen BK281.out 1
      go_wp2
      repeat (go_quiet (fail); try go_wp2)
      go_ret
      exact ⟨eV, iL HB⟩
 ·rw [if_neg c4] at H
  have c4b0 : (t282 == 0) = false := beq_eq_false_iff_ne.mpr c4
  have c4b1 : (t282 != 0) = true := bne_iff_ne.mpr c4
  obtain rfl := Option.some.inj H
  go_enter Try.func70, Try.ntmps70
  go_wp2_with (first | ((with_reducible refine gate_dst (N := 2) rfl ?_); refine bX 2 #[.string a0_0, .slice A0_1 l0_1.length c0_1] 65 ?_; intro gb281 hg w54 hbox hb; have n0_ := jL HB hb; have n1_ := Aside0.mk (hbox); have n2_ := Aside0.mk ((by rw [hg]; exact (below_size (iL HB)) : w.heap.size ≤ gb281)); have n3_ := Aside0.mk ((by rw [hg]; exact (below_size (iL HB)) : w.heap.size ≤ gb281)); clear HB; have HB := n0_; have BK281 := n1_; have GW281 := n2_; have GE281 := n3_; clear n0_ n1_ n2_ n3_; clear hb hbox hg; have hcz55_0 := cZ BK281 0 (.string a0_0); have hcz55_1 := cZ BK281 1 (.slice A0_1 l0_1.length c0_1); have hfz55_0 := blk_frozen BK281.out 0; have hfz55_1 := blk_frozen BK281.out 1) | (go_at_call 39; (with_reducible refine (ancepsref01_Valid.calls k a0_0 t282 _ A3.out).mono ?_); rintro e w' ⟨rfl, ⟨nd, rfl⟩⟩; (try first | exact ⟨rfl, _, World.drewN_drewN _ _ _⟩ | exact ⟨rfl, _, Eq.trans (World.drewN_drewN _ _ _) (congrArg (World.drewN _) (Nat.add_assoc _ _ _))⟩)))
  repeat (go_quiet (first | ((with_reducible refine gate_dst (N := 2) rfl ?_); refine bX 2 #[.string a0_0, .slice A0_1 l0_1.length c0_1] 65 ?_; intro gb281 hg w54 hbox hb; have n0_ := jL HB hb; have n1_ := Aside0.mk (hbox); have n2_ := Aside0.mk ((by rw [hg]; exact (below_size (iL HB)) : w.heap.size ≤ gb281)); have n3_ := Aside0.mk ((by rw [hg]; exact (below_size (iL HB)) : w.heap.size ≤ gb281)); clear HB; have HB := n0_; have BK281 := n1_; have GW281 := n2_; have GE281 := n3_; clear n0_ n1_ n2_ n3_; clear hb hbox hg; have hcz55_0 := cZ BK281 0 (.string a0_0); have hcz55_1 := cZ BK281 1 (.slice A0_1 l0_1.length c0_1); have hfz55_0 := blk_frozen BK281.out 0; have hfz55_1 := blk_frozen BK281.out 1) | (go_at_call 39; (with_reducible refine (ancepsref01_Valid.calls k a0_0 t282 _ A3.out).mono ?_); (try clear A3); rintro e w' ⟨rfl, ⟨nd, rfl⟩⟩; (try first | exact ⟨rfl, _, World.drewN_drewN _ _ _⟩ | exact ⟨rfl, _, Eq.trans (World.drewN_drewN _ _ _) (congrArg (World.drewN _) (Nat.add_assoc _ _ _))⟩))); try go_wp2_with (first | ((with_reducible refine gate_dst (N := 2) rfl ?_); refine bX 2 #[.string a0_0, .slice A0_1 l0_1.length c0_1] 65 ?_; intro gb281 hg w54 hbox hb; have n0_ := jL HB hb; have n1_ := Aside0.mk (hbox); have n2_ := Aside0.mk ((by rw [hg]; exact (below_size (iL HB)) : w.heap.size ≤ gb281)); have n3_ := Aside0.mk ((by rw [hg]; exact (below_size (iL HB)) : w.heap.size ≤ gb281)); clear HB; have HB := n0_; have BK281 := n1_; have GW281 := n2_; have GE281 := n3_; clear n0_ n1_ n2_ n3_; clear hb hbox hg; have hcz55_0 := cZ BK281 0 (.string a0_0); have hcz55_1 := cZ BK281 1 (.slice A0_1 l0_1.length c0_1); have hfz55_0 := blk_frozen BK281.out 0; have hfz55_1 := blk_frozen BK281.out 1) | (go_at_call 39; (with_reducible refine (ancepsref01_Valid.calls k a0_0 t282 _ A3.out).mono ?_); (try clear A3); rintro e w' ⟨rfl, ⟨nd, rfl⟩⟩; (try first | exact ⟨rfl, _, World.drewN_drewN _ _ _⟩ | exact ⟨rfl, _, Eq.trans (World.drewN_drewN _ _ _) (congrArg (World.drewN _) (Nat.add_assoc _ _ _))⟩))))
  go_ret
  exact ⟨eV, iL HB⟩

end Go.Proofs.Ytmjigfoldeekmaa.X
