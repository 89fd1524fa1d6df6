-- and more
-- shortened
-- thinned
-- halved indents
-- printed by this session's xprint.py: out of the translation, by the kit's print with additions; Lean checks it
import Derived.Test.YtmjigfoldeekmaaXE
import Derived.Test.YtmjigfoldeekmaaXD
import Derived.Test.YtmjigfoldeekmaaWN
import Derived.Test.YtmjigfoldeekmaaWShare
import Derived.Test.YtmjigfoldeekmaaWRepsOne
import Derived.Test.YtmjigfoldeekmaaWGuard
import Derived.Test.YtmjigfoldeekmaaX0
import Derived.Test.YtmjigfoldeekmaaX8
import Derived.Test.YtmjigfoldeekmaaXA
namespace Go.Proofs.Ytmjigfoldeekmaa.X
open Go.RowKit Go.Proofs.YtmjigfoldeekmaaW.PrintWords Go.Proofs.YtmjigfoldeekmaaW.PrintLast Go.Proofs.YtmjigfoldeekmaaW.PrintMore
attribute [local go_sem] max2_int min2_int max_two min_two max_three min_three max_four min_four isSome_setCell binOp_gtr_str binOp_leq_str binOp_geq_str   -- for this text's walks alone
set_option linter.unusedVariables false
set_option linter.unusedSimpArgs false

/-! ### apparatus_agree: function 53 -/
def apparatus_agree.l0 : Nat → Int → Int → Int → List (S65) → Int → Int → Option (Int)
 | 0, _, _, _, _, _, _ => none
 | k + 1, x1, x2, x7, x11, x12, x13 => if x13 < x12 then (if 0 ≤ x13 then (if x13 < (x11.length : Int) then ((apparatus_has.f k ((rd_T65 x11 x13).f0) ((rd_T65 x11 x13).f1) x1).bind fun t170 => ((apparatus_has.f k ((rd_T65 x11 x13).f0) ((rd_T65 x11 x13).f1) x2).bind fun t171 => (if t170.toList = t171.toList then (apparatus_agree.l0 k x1 x2 (wrap64 (x7 + 1)) x11 x12 (wrap64 (x13 + 1))) else (apparatus_agree.l0 k x1 x2 x7 x11 x12 (wrap64 (x13 + 1)))))) else (none)) else (none)) else (some x7)
def apparatus_agree.f (k : Nat) (l0_0 : List ByteArray) (l0_1 : List (S65)) (a1 : Int) (a2 : Int) : Option (Int) := apparatus_agree.l0 k a1 a2 0 l0_1 (l0_1.length : Int) 0
theorem apparatus_agree.mono_l : ∀ k, (∀ y0 y1 y2 y3 y4 y5, LeO (apparatus_agree.l0 k y0 y1 y2 y3 y4 y5) (apparatus_agree.l0 (k + 1) y0 y1 y2 y3 y4 y5))
 | 0 => fun _ _ _ _ _ _ r h => by simp [apparatus_agree.l0] at h
 | k + 1 => by
  have ih0 := apparatus_agree.mono_l k
  ·intro y0 y1 y2 y3 y4 y5
   unfold apparatus_agree.l0
   repeat' first
   | (with_reducible exact ih0 _ _ _ _ _ _)
   | (with_reducible exact apparatus_has.mono _ _ _ _)
   | (with_reducible exact LeO.refl _)
   | (with_reducible exact LeO.none _)
   | (with_reducible refine LeO.ite ?_ ?_)
   | (with_reducible refine LeO.bind ?_ (fun _ => ?_))
   | exact ih0 _ _ _ _ _ _
   | exact apparatus_has.mono _ _ _ _
   | exact LeO.none _
   | refine LeO.ite ?_ ?_
   | refine LeO.bind ?_ (fun _ => ?_)
theorem apparatus_agree.mono : ∀ a0 a1 a2 a3 k, LeO (apparatus_agree.f k a0 a1 a2 a3) (apparatus_agree.f (k + 1) a0 a1 a2 a3) := by
 intro a0 a1 a2 a3 k
 have ih0 := apparatus_agree.mono_l k
 unfold apparatus_agree.f
 repeat' first
   | (with_reducible exact ih0 _ _ _ _ _ _)
   | (with_reducible exact apparatus_has.mono _ _ _ _)
   | (with_reducible exact LeO.refl _)
   | (with_reducible exact LeO.none _)
   | (with_reducible refine LeO.ite ?_ ?_)
   | (with_reducible refine LeO.bind ?_ (fun _ => ?_))
   | exact ih0 _ _ _ _ _ _
   | exact apparatus_has.mono _ _ _ _
   | exact LeO.none _
   | refine LeO.ite ?_ ?_
   | refine LeO.bind ?_ (fun _ => ?_)
set_option maxHeartbeats 8000000 in
set_option maxRecDepth 100000 in
theorem apparatus_agree.calls (k : Nat) (A0_0 : Option Addr) (c0_0 : Nat) (l0_0 : List ByteArray) (A0_1 : Option Addr) (c0_1 : Nat) (l0_1 : List (S65)) (a1 : Int) (a2 : Int) (r : Int) (w : World) (hr0_0 : Kd.C Kd.string w A0_0 l0_0.length l0_0) (hc0_0 : l0_0.length ≤ c0_0) (hr0_1 : Kd.C k65 w A0_1 l0_1.length l0_1) (hc0_1 : l0_1.length ≤ c0_1) (h : apparatus_agree.f k l0_0 l0_1 a1 a2 = some r) :
  Calls Try.prog 53 #[.agg #[.slice A0_0 l0_0.length c0_0, .slice A0_1 l0_1.length c0_1], .int .i64 a1, .int .i64 a2] w fun e w' => e = .returned (.int .i64 r) ∧ Below w.heap.size w w' := by
 have hu42 := Try.underlying42
 have hu65 := Try.underlying65
 have HR0_0 := Aside0.mk hr0_0
 have HC0_0 := Aside0.mk hc0_0
 clear hr0_0 hc0_0
 have HR0_1 := Aside0.mk hr0_1
 have HC0_1 := Aside0.mk hc0_1
 clear hr0_1 hc0_1
 have HB := Aside0.mk (Below.refl w.heap.size w)
 have H : (apparatus_agree.l0 k a1 a2 0 l0_1 (l0_1.length : Int) 0) = some r := h
 clear h
 have H' := Aside0.mk H
 clear H
 go_enter Try.func53, Try.ntmps53
 go_wp2_with (first | ((with_reducible refine gate_dst (N := 3) rfl ?_); refine bX 3 #[.slice A0_0 l0_0.length c0_0, .slice A0_1 l0_1.length c0_1] 42 ?_; intro gb167 hg w4 hbox hb; have n0_ := jL HB hb; have n1_ := Aside0.mk (hbox); have n2_ := Aside0.mk ((by rw [hg]; exact (below_size (iL HB)) : w.heap.size ≤ gb167)); have n3_ := Aside0.mk ((by rw [hg]; exact (below_size (iL HB)) : w.heap.size ≤ gb167)); clear HB; have HB := n0_; have BK167 := n1_; have GW167 := n2_; have GE167 := n3_; clear n0_ n1_ n2_ n3_; clear hb hbox hg; have hcz5_0 := cZ BK167 0 (.slice A0_0 l0_0.length c0_0); have hcz5_1 := cZ BK167 1 (.slice A0_1 l0_1.length c0_1); have hfz5_0 := blk_frozen BK167.out 0; have hfz5_1 := blk_frozen BK167.out 1))
 go_loopg [7, 13] k (fun kq v7 v13 w' => ∃ (x7_1 : Int) (x13_1 : Int), v7 = .int .i64 x7_1 ∧ v13 = .int .i64 x13_1 ∧ Aside0 (apparatus_agree.l0 kq a1 a2 x7_1 l0_1 (l0_1.length : Int) x13_1 = some r) ∧ Aside0 (kq ≤ k) ∧ Aside0 (w'.heap[gb167]? = some (.cells #[(.slice A0_0 l0_0.length c0_0), (.slice A0_1 l0_1.length c0_1)] 42 (0, 0))) ∧ Aside0 (Below w.heap.size w w'))
 case atStart => exact ⟨(0), (0), eV, eV, H', ⟨Nat.le_refl _⟩, ⟨by (with_reducible repeat (first | apply blk_drewN | apply blk_drew | apply blk_alloc)); exact BK167.out⟩, ⟨by repeat (first | (with_reducible first | exact HB.out | apply below_alloc | apply pw_below_drewN | apply below_drew1 | refine below_set ?_ GE167.out) | exact HB.out)⟩⟩
 case round =>
  clear H'
  (try clear p2); (try clear c5); (try clear hcz5_0); (try clear hcz5_1); (try clear hfz5_0); (try clear hfz5_1)
  obtain ⟨x7_1, x13_1, rfl, rfl, HA, HK1, BK167, HB⟩ := hrel
  cases gk with
  | zero => exact absurd HA.out (by simp [apparatus_agree.l0])
  | succ k1 =>
   have H := HA.out
   clear HA
   simp only [apparatus_agree.l0] at H
   by_cases c6 : x13_1 < (l0_1.length : Int)
   ·rw [if_pos c6] at H
    have c6b0 : decide (x13_1 < (l0_1.length : Int)) = true := decide_eq_true c6
    clear c6
    by_cases c7 : 0 ≤ x13_1
    ·rw [if_pos c7] at H
     have c7b0 : decide (0 ≤ x13_1) = true := decide_eq_true c7
     clear c7
     by_cases c8 : x13_1 < (l0_1.length : Int)
     ·rw [if_pos c8] at H
      have c8b0 : decide (x13_1 < (l0_1.length : Int)) = true := decide_eq_true c8
      clear c8
      replace H := Option.bind_eq_some_iff.mp H
      obtain ⟨t170, A90, H⟩ := H
      try dsimp only at H
      have A9 := Aside0.mk A90
      clear A90
      replace H := Option.bind_eq_some_iff.mp H
      obtain ⟨t171, A100, H⟩ := H
      try dsimp only at H
      have A10 := Aside0.mk A100
      clear A100
      by_cases c11 : t170.toList = t171.toList
      ·rw [if_pos c11] at H
       have c11b0 : (t170.toList == t171.toList) = true := beq_iff_eq.mpr c11
       have c11b1 : (t170.toList != t171.toList) = false := bne_eq_false_iff_eq.mpr c11
       clear c11
       have H' := Aside0.mk H
       clear H
       have p168 := oD (0 ≤ (x13_1 : Int))
       have q168 := oD (x13_1 < (l0_1.length : Int))
       obtain ⟨ad168, A168_1, c168_1, e168, hx168_0, hx168_1, hl168_1, hi168_1⟩ := at_T65 HR0_1.out x13_1 p168 q168
       cases e168
       replace hx168_0 := (HB.out.cell (World.block_lt_of_cell? w _ hx168_0)).trans hx168_0
       replace hx168_1 := (HB.out.cell (World.block_lt_of_cell? w _ hx168_1)).trans hx168_1
       have HR168_1 := Aside0.mk hi168_1
       have HC168_1 := Aside0.mk hl168_1
       clear hi168_1 hl168_1
       replace p168 := eq_true p168
       replace q168 := eq_true q168
       try go_wp2_with (first | ((with_reducible refine gate_dst (N := 9) rfl ?_); refine bX 9 #[.string (⟨#[]⟩ : ByteArray), .slice none 0 0] 65 ?_; intro gb169 hg w12 hbox hb; have n0_ := jB BK167 hb; have n1_ := jL HB hb; have n2_ := Aside0.mk (hbox); have n3_ := Aside0.mk ((by rw [hg]; exact (below_size (iL HB)) : w.heap.size ≤ gb169)); have n4_ := Aside0.mk ((by rw [hg]; exact (below_size (iL HB)) : w.heap.size ≤ gb169)); have n5_ := Aside0.mk ((by rw [hg]; exact Nat.ne_of_lt (blk_lt (g := gb167) (o := .cells #[.slice A0_0 l0_0.length c0_0, .slice (some ad168) l0_1.length c0_1] 42 (0, 0)) (iB BK167)) : gb167 ≠ gb169)); have n6_ := Aside0.mk ((by rw [hg]; exact Nat.ne_of_gt (blk_lt (g := gb167) (o := .cells #[.slice A0_0 l0_0.length c0_0, .slice (some ad168) l0_1.length c0_1] 42 (0, 0)) (iB BK167)) : gb169 ≠ gb167)); clear BK167; clear HB; have BK167 := n0_; have HB := n1_; have BK169 := n2_; have GW169 := n3_; have GE169 := n4_; have NB167_169 := n5_; have NB169_167 := n6_; clear n0_ n1_ n2_ n3_ n4_ n5_ n6_; clear hb hbox hg; have hnb13 := NB169_167.out; have hnc13 := NB167_169.out; have hcz14_0 := cZ BK169 0 (.string (⟨#[]⟩ : ByteArray)); have hcz14_1 := cZ BK169 1 (.slice none 0 0); have hfz14_0 := blk_frozen BK169.out 0; have hfz14_1 := blk_frozen BK169.out 1))
       have n0_ : Aside0 (((w12.setCell ⟨gb169, 0, none⟩ (.string ((rd_T65 l0_1 x13_1).f0))).setCell ⟨gb169, 1, none⟩ (.slice A168_1 ((rd_T65 l0_1 x13_1).f1).length c168_1)).heap[gb167]? = some (.cells #[.slice A0_0 l0_0.length c0_0, .slice (some ad168) l0_1.length c0_1] 42 (0, 0))) := ⟨by (with_reducible repeat (first | apply blk_drewN | apply blk_drew | apply blk_alloc)); refine blk_far ?_ NB167_169.out _; (with_reducible repeat (first | apply blk_drewN | apply blk_drew | apply blk_alloc)); refine blk_far ?_ NB167_169.out _; (with_reducible repeat (first | apply blk_drewN | apply blk_drew | apply blk_alloc)); exact BK167.out⟩
       have n1_ : Aside0 (((w12.setCell ⟨gb169, 0, none⟩ (.string ((rd_T65 l0_1 x13_1).f0))).setCell ⟨gb169, 1, none⟩ (.slice A168_1 ((rd_T65 l0_1 x13_1).f1).length c168_1)).heap[gb169]? = some (.cells #[.string ((rd_T65 l0_1 x13_1).f0), .slice A168_1 ((rd_T65 l0_1 x13_1).f1).length c168_1] 65 (0, 0))) := ⟨by (with_reducible repeat (first | apply blk_drewN | apply blk_drew | apply blk_alloc)); refine blk_put (cs := #[.string ((rd_T65 l0_1 x13_1).f0), .slice none 0 0]) ?_ 1 _ rfl; (with_reducible repeat (first | apply blk_drewN | apply blk_drew | apply blk_alloc)); refine blk_put (cs := #[.string (⟨#[]⟩ : ByteArray), .slice none 0 0]) ?_ 0 _ rfl; (with_reducible repeat (first | apply blk_drewN | apply blk_drew | apply blk_alloc)); exact BK169.out⟩
       have n2_ : Aside0 (Below w.heap.size w ((w12.setCell ⟨gb169, 0, none⟩ (.string ((rd_T65 l0_1 x13_1).f0))).setCell ⟨gb169, 1, none⟩ (.slice A168_1 ((rd_T65 l0_1 x13_1).f1).length c168_1))) := ⟨by repeat (first | (with_reducible first | exact HB.out | apply below_alloc | apply pw_below_drewN | apply below_drew1 | refine below_set ?_ GE167.out | refine below_set ?_ GE169.out) | exact HB.out)⟩
       (try clear BK167)
       (try clear BK169)
       (try clear HB)
       generalize ((w12.setCell ⟨gb169, 0, none⟩ (.string ((rd_T65 l0_1 x13_1).f0))).setCell ⟨gb169, 1, none⟩ (.slice A168_1 ((rd_T65 l0_1 x13_1).f1).length c168_1)) = w15 at n0_ n1_ n2_ ⊢
       have BK167 := n0_
       have BK169 := n1_
       have HB := n2_
       clear n0_ n1_ n2_
       have n0_ := Aside0.mk (blk_drew BK167.out)
       have n1_ := Aside0.mk (blk_drew BK169.out)
       have n2_ := Aside0.mk (below_drew1 HB.out)
       clear BK167
       clear BK169
       clear HB
       have BK167 := n0_
       have BK169 := n1_
       have HB := n2_
       clear n0_ n1_ n2_
       refine start_ (n := 7) (S := fun w' => w'.cell? ⟨gb169, 0, none⟩ = some (.string ((rd_T65 l0_1 x13_1).f0)) ∧ w'.cell? ⟨gb169, 1, none⟩ = some (.slice A168_1 ((rd_T65 l0_1 x13_1).f1).length c168_1)) (ds := []) #[false, false, false, false, false, false, false] (by kernel_rfl) rfl rfl ⟨(blk_cell BK169.out 0).trans rfl, (blk_cell BK169.out 1).trans rfl⟩ (fun hHeld => ?_)
       generalize w15.drew = w16 at BK167 BK169 HB hHeld ⊢
       refine ph_ 1 (some 18) ?_
       refine ph_ 4 (some 21) ?_
       refine th_ 0 (some 17) hHeld ?_
       refine th_ 3 (some 20) hHeld ?_
       refine one_ (i := 2) (N := some 19) #[true, true, true, true, true, false, false] rfl rfl (by kernel_rfl) (by decide) (fun K hK => ?_)
       refine goes_ Try.func51 (by kernel_rfl) rfl #[.agg #[.string ((rd_T65 l0_1 x13_1).f0), .slice A168_1 ((rd_T65 l0_1 x13_1).f1).length c168_1], .int .i64 a1] (by rfl) rfl rfl (by (try simp only [List.map_toArray, List.map_cons, List.map_nil]); first | done | rfl | (simp only [List.length_drop, List.length_take]; rfl)) ?_
       with_reducible refine (apparatus_has.calls k1 ((rd_T65 l0_1 x13_1).f0) _ _ ((rd_T65 l0_1 x13_1).f1) a1 t170 _ ?side1 ?side2 A9.out).mono ?_
       (case side1 => exact iC HR168_1 HB)
       (case side2 => exact HC168_1.out)
       rintro e w17 ⟨rfl, hb⟩
       refine ⟨_, rfl, ?_⟩
       have n0_ := jB BK167 hb
       have n1_ := jB BK169 hb
       have n2_ := jL HB hb
       clear BK167
       clear BK169
       clear HB
       have BK167 := n0_
       have BK169 := n1_
       have HB := n2_
       clear n0_ n1_ n2_
       (try clear hb)
       (try clear hb2)
       (try clear hk)
       (try clear hi)
       refine hK.out _ _ ⟨(blk_cell BK169.out 0).trans rfl, (blk_cell BK169.out 1).trans rfl⟩ (fun hHeld => ?_)
       clear hK K
       refine norm_ (a' := ?_) ?_ ?_
       rotate_left
       ·show Act.put _ (some 19) _ = _
        simp only [Act.put, List.setIfInBounds_toArray, List.set_cons_zero, List.set_cons_succ, i64_w, i32_w]
        rfl
       refine one_ (i := 5) (N := some 22) #[true, true, true, true, true, true, false] rfl rfl (by kernel_rfl) (by decide) (fun K hK => ?_)
       refine goes_ Try.func51 (by kernel_rfl) rfl #[.agg #[.string ((rd_T65 l0_1 x13_1).f0), .slice A168_1 ((rd_T65 l0_1 x13_1).f1).length c168_1], .int .i64 a2] (by rfl) rfl rfl (by (try simp only [List.map_toArray, List.map_cons, List.map_nil]); first | done | rfl | (simp only [List.length_drop, List.length_take]; rfl)) ?_
       with_reducible refine (apparatus_has.calls k1 ((rd_T65 l0_1 x13_1).f0) _ _ ((rd_T65 l0_1 x13_1).f1) a2 t171 _ ?side1 ?side2 A10.out).mono ?_
       (case side1 => exact iC HR168_1 HB)
       (case side2 => exact HC168_1.out)
       rintro e w18 ⟨rfl, hb⟩
       refine ⟨_, rfl, ?_⟩
       have n0_ := jB BK167 hb
       have n1_ := jB BK169 hb
       have n2_ := jL HB hb
       clear BK167
       clear BK169
       clear HB
       have BK167 := n0_
       have BK169 := n1_
       have HB := n2_
       clear n0_ n1_ n2_
       (try clear hb)
       (try clear hb2)
       (try clear hk)
       (try clear hi)
       refine hK.out _ _ ⟨(blk_cell BK169.out 0).trans rfl, (blk_cell BK169.out 1).trans rfl⟩ (fun hHeld => ?_)
       clear hK K
       refine norm_ (a' := ?_) ?_ ?_
       rotate_left
       ·show Act.put _ (some 22) _ = _
        simp only [Act.put, List.setIfInBounds_toArray, List.set_cons_zero, List.set_cons_succ, i64_w, i32_w]
        rfl
       refine ph_ 6 (some 23) ?_
       refine done_ (by kernel_rfl) ?_
       try go_wp2
       go_roundg k1
       case measure => have := HK1.out; omega
       case rel => exact ⟨(wrap64 (x7_1 + 1)), (wrap64 (x13_1 + 1)), eV, eV, H', ⟨by have := HK1.out; omega⟩, ⟨by (with_reducible repeat (first | apply blk_drewN | apply blk_drew | apply blk_alloc)); exact BK167.out⟩, ⟨by repeat (first | (with_reducible first | exact HB.out | apply below_alloc | apply pw_below_drewN | apply below_drew1 | refine below_set ?_ GE167.out | refine below_set ?_ GE169.out) | exact HB.out)⟩⟩
      ·rw [if_neg c11] at H
       have c11b0 : (t170.toList == t171.toList) = false := beq_eq_false_iff_ne.mpr c11
       have c11b1 : (t170.toList != t171.toList) = true := bne_iff_ne.mpr c11
       have H' := Aside0.mk H
       clear H
       have p168 := oD (0 ≤ (x13_1 : Int))
       have q168 := oD (x13_1 < (l0_1.length : Int))
       obtain ⟨ad168, A168_1, c168_1, e168, hx168_0, hx168_1, hl168_1, hi168_1⟩ := at_T65 HR0_1.out x13_1 p168 q168
       cases e168
       replace hx168_0 := (HB.out.cell (World.block_lt_of_cell? w _ hx168_0)).trans hx168_0
       replace hx168_1 := (HB.out.cell (World.block_lt_of_cell? w _ hx168_1)).trans hx168_1
       have HR168_1 := Aside0.mk hi168_1
       have HC168_1 := Aside0.mk hl168_1
       clear hi168_1 hl168_1
       replace p168 := eq_true p168
       replace q168 := eq_true q168
       try go_wp2_with (first | ((with_reducible refine gate_dst (N := 9) rfl ?_); refine bX 9 #[.string (⟨#[]⟩ : ByteArray), .slice none 0 0] 65 ?_; intro gb169 hg w19 hbox hb; have n0_ := jB BK167 hb; have n1_ := jL HB hb; have n2_ := Aside0.mk (hbox); have n3_ := Aside0.mk ((by rw [hg]; exact (below_size (iL HB)) : w.heap.size ≤ gb169)); have n4_ := Aside0.mk ((by rw [hg]; exact (below_size (iL HB)) : w.heap.size ≤ gb169)); have n5_ := Aside0.mk ((by rw [hg]; exact Nat.ne_of_lt (blk_lt (g := gb167) (o := .cells #[.slice A0_0 l0_0.length c0_0, .slice (some ad168) l0_1.length c0_1] 42 (0, 0)) (iB BK167)) : gb167 ≠ gb169)); have n6_ := Aside0.mk ((by rw [hg]; exact Nat.ne_of_gt (blk_lt (g := gb167) (o := .cells #[.slice A0_0 l0_0.length c0_0, .slice (some ad168) l0_1.length c0_1] 42 (0, 0)) (iB BK167)) : gb169 ≠ gb167)); clear BK167; clear HB; have BK167 := n0_; have HB := n1_; have BK169 := n2_; have GW169 := n3_; have GE169 := n4_; have NB167_169 := n5_; have NB169_167 := n6_; clear n0_ n1_ n2_ n3_ n4_ n5_ n6_; clear hb hbox hg; have hnb20 := NB169_167.out; have hnc20 := NB167_169.out; have hcz21_0 := cZ BK169 0 (.string (⟨#[]⟩ : ByteArray)); have hcz21_1 := cZ BK169 1 (.slice none 0 0); have hfz21_0 := blk_frozen BK169.out 0; have hfz21_1 := blk_frozen BK169.out 1))
       have n0_ : Aside0 (((w19.setCell ⟨gb169, 0, none⟩ (.string ((rd_T65 l0_1 x13_1).f0))).setCell ⟨gb169, 1, none⟩ (.slice A168_1 ((rd_T65 l0_1 x13_1).f1).length c168_1)).heap[gb167]? = some (.cells #[.slice A0_0 l0_0.length c0_0, .slice (some ad168) l0_1.length c0_1] 42 (0, 0))) := ⟨by (with_reducible repeat (first | apply blk_drewN | apply blk_drew | apply blk_alloc)); refine blk_far ?_ NB167_169.out _; (with_reducible repeat (first | apply blk_drewN | apply blk_drew | apply blk_alloc)); refine blk_far ?_ NB167_169.out _; (with_reducible repeat (first | apply blk_drewN | apply blk_drew | apply blk_alloc)); exact BK167.out⟩
       have n1_ : Aside0 (((w19.setCell ⟨gb169, 0, none⟩ (.string ((rd_T65 l0_1 x13_1).f0))).setCell ⟨gb169, 1, none⟩ (.slice A168_1 ((rd_T65 l0_1 x13_1).f1).length c168_1)).heap[gb169]? = some (.cells #[.string ((rd_T65 l0_1 x13_1).f0), .slice A168_1 ((rd_T65 l0_1 x13_1).f1).length c168_1] 65 (0, 0))) := ⟨by (with_reducible repeat (first | apply blk_drewN | apply blk_drew | apply blk_alloc)); refine blk_put (cs := #[.string ((rd_T65 l0_1 x13_1).f0), .slice none 0 0]) ?_ 1 _ rfl; (with_reducible repeat (first | apply blk_drewN | apply blk_drew | apply blk_alloc)); refine blk_put (cs := #[.string (⟨#[]⟩ : ByteArray), .slice none 0 0]) ?_ 0 _ rfl; (with_reducible repeat (first | apply blk_drewN | apply blk_drew | apply blk_alloc)); exact BK169.out⟩
       have n2_ : Aside0 (Below w.heap.size w ((w19.setCell ⟨gb169, 0, none⟩ (.string ((rd_T65 l0_1 x13_1).f0))).setCell ⟨gb169, 1, none⟩ (.slice A168_1 ((rd_T65 l0_1 x13_1).f1).length c168_1))) := ⟨by repeat (first | (with_reducible first | exact HB.out | apply below_alloc | apply pw_below_drewN | apply below_drew1 | refine below_set ?_ GE167.out | refine below_set ?_ GE169.out) | exact HB.out)⟩
       (try clear BK167)
       (try clear BK169)
       (try clear HB)
       generalize ((w19.setCell ⟨gb169, 0, none⟩ (.string ((rd_T65 l0_1 x13_1).f0))).setCell ⟨gb169, 1, none⟩ (.slice A168_1 ((rd_T65 l0_1 x13_1).f1).length c168_1)) = w22 at n0_ n1_ n2_ ⊢
       have BK167 := n0_
       have BK169 := n1_
       have HB := n2_
       clear n0_ n1_ n2_
       have n0_ := Aside0.mk (blk_drew BK167.out)
       have n1_ := Aside0.mk (blk_drew BK169.out)
       have n2_ := Aside0.mk (below_drew1 HB.out)
       clear BK167
       clear BK169
       clear HB
       have BK167 := n0_
       have BK169 := n1_
       have HB := n2_
       clear n0_ n1_ n2_
       refine start_ (n := 7) (S := fun w' => w'.cell? ⟨gb169, 0, none⟩ = some (.string ((rd_T65 l0_1 x13_1).f0)) ∧ w'.cell? ⟨gb169, 1, none⟩ = some (.slice A168_1 ((rd_T65 l0_1 x13_1).f1).length c168_1)) (ds := []) #[false, false, false, false, false, false, false] (by kernel_rfl) rfl rfl ⟨(blk_cell BK169.out 0).trans rfl, (blk_cell BK169.out 1).trans rfl⟩ (fun hHeld => ?_)
       generalize w22.drew = w23 at BK167 BK169 HB hHeld ⊢
       refine ph_ 1 (some 18) ?_
       refine ph_ 4 (some 21) ?_
       refine th_ 0 (some 17) hHeld ?_
       refine th_ 3 (some 20) hHeld ?_
       refine one_ (i := 2) (N := some 19) #[true, true, true, true, true, false, false] rfl rfl (by kernel_rfl) (by decide) (fun K hK => ?_)
       refine goes_ Try.func51 (by kernel_rfl) rfl #[.agg #[.string ((rd_T65 l0_1 x13_1).f0), .slice A168_1 ((rd_T65 l0_1 x13_1).f1).length c168_1], .int .i64 a1] (by rfl) rfl rfl (by (try simp only [List.map_toArray, List.map_cons, List.map_nil]); first | done | rfl | (simp only [List.length_drop, List.length_take]; rfl)) ?_
       with_reducible refine (apparatus_has.calls k1 ((rd_T65 l0_1 x13_1).f0) _ _ ((rd_T65 l0_1 x13_1).f1) a1 t170 _ ?side1 ?side2 A9.out).mono ?_
       (case side1 => exact iC HR168_1 HB)
       (case side2 => exact HC168_1.out)
       rintro e w24 ⟨rfl, hb⟩
       refine ⟨_, rfl, ?_⟩
       have n0_ := jB BK167 hb
       have n1_ := jB BK169 hb
       have n2_ := jL HB hb
       clear BK167
       clear BK169
       clear HB
       have BK167 := n0_
       have BK169 := n1_
       have HB := n2_
       clear n0_ n1_ n2_
       (try clear hb)
       (try clear hb2)
       (try clear hk)
       (try clear hi)
       refine hK.out _ _ ⟨(blk_cell BK169.out 0).trans rfl, (blk_cell BK169.out 1).trans rfl⟩ (fun hHeld => ?_)
       clear hK K
       refine norm_ (a' := ?_) ?_ ?_
       rotate_left
       ·show Act.put _ (some 19) _ = _
        simp only [Act.put, List.setIfInBounds_toArray, List.set_cons_zero, List.set_cons_succ, i64_w, i32_w]
        rfl
       refine one_ (i := 5) (N := some 22) #[true, true, true, true, true, true, false] rfl rfl (by kernel_rfl) (by decide) (fun K hK => ?_)
       refine goes_ Try.func51 (by kernel_rfl) rfl #[.agg #[.string ((rd_T65 l0_1 x13_1).f0), .slice A168_1 ((rd_T65 l0_1 x13_1).f1).length c168_1], .int .i64 a2] (by rfl) rfl rfl (by (try simp only [List.map_toArray, List.map_cons, List.map_nil]); first | done | rfl | (simp only [List.length_drop, List.length_take]; rfl)) ?_
       with_reducible refine (apparatus_has.calls k1 ((rd_T65 l0_1 x13_1).f0) _ _ ((rd_T65 l0_1 x13_1).f1) a2 t171 _ ?side1 ?side2 A10.out).mono ?_
       (case side1 => exact iC HR168_1 HB)
       (case side2 => exact HC168_1.out)
       rintro e w25 ⟨rfl, hb⟩
       refine ⟨_, rfl, ?_⟩
       have n0_ := jB BK167 hb
       have n1_ := jB BK169 hb
       have n2_ := jL HB hb
       clear BK167
       clear BK169
       clear HB
       have BK167 := n0_
       have BK169 := n1_
       have HB := n2_
       clear n0_ n1_ n2_
       (try clear hb)
       (try clear hb2)
       (try clear hk)
       (try clear hi)
       refine hK.out _ _ ⟨(blk_cell BK169.out 0).trans rfl, (blk_cell BK169.out 1).trans rfl⟩ (fun hHeld => ?_)
       clear hK K
       refine norm_ (a' := ?_) ?_ ?_
       rotate_left
       ·show Act.put _ (some 22) _ = _
        simp only [Act.put, List.setIfInBounds_toArray, List.set_cons_zero, List.set_cons_succ, i64_w, i32_w]
        rfl
       refine ph_ 6 (some 23) ?_
       refine done_ (by kernel_rfl) ?_
       try go_wp2
       go_roundg k1
       case measure => have := HK1.out; omega
       case rel => exact ⟨(x7_1), (wrap64 (x13_1 + 1)), eV, eV, H', ⟨by have := HK1.out; omega⟩, ⟨by (with_reducible repeat (first | apply blk_drewN | apply blk_drew | apply blk_alloc)); exact BK167.out⟩, ⟨by repeat (first | (with_reducible first | exact HB.out | apply below_alloc | apply pw_below_drewN | apply below_drew1 | refine below_set ?_ GE167.out | refine below_set ?_ GE169.out) | exact HB.out)⟩⟩
     ·rw [if_neg c8] at H
      exact absurd H (by simp)
    ·rw [if_neg c7] at H
     exact absurd H (by simp)
   ·rw [if_neg c6] at H
    have c6b0 : decide (x13_1 < (l0_1.length : Int)) = false := decide_eq_false c6
    clear c6
    obtain rfl := Option.some.inj H
    go_wp2
    go_ret
    exact ⟨eV, by repeat (first | (with_reducible first | exact HB.out | apply below_alloc | apply pw_below_drewN | apply below_drew1 | refine below_set ?_ GE167.out) | exact HB.out)⟩

/-! ### apparatus_Groups: function 23 -/
def apparatus_Groups.n0 : Nat → List ByteArray → List S65 → List Int → Int → Int → Option Int
 | 0, _, _, _, _, _ => none
 | k + 1, l0, l1, F, w, i => if i < (F.length : Int) then (if 0 ≤ i then ((apparatus_agree.f k l0 l1 (rd F i) w).bind fun n => if n = (l1.length : Int) then some i else apparatus_Groups.n0 k l0 l1 F w (wrap64 (i + 1))) else none) else some (-1)
def apparatus_Groups.m0 : Nat → List ByteArray → List S65 → List Int → List (List ByteArray) → Int → Option (List (List ByteArray))
 | 0, _, _, _, _, _ => none
 | k + 1, l0, l1, F, out, w => if w < (l0.length : Int) then (if 0 ≤ w ∧ out.length ≤ 1000000 ∧ F.length ≤ 1000000 then ((apparatus_Groups.n0 k l0 l1 F w 0).bind fun g => if 0 ≤ g then (if g < (out.length : Int) ∧ (out.getD g.toNat []).length ≤ 1000000 then apparatus_Groups.m0 k l0 l1 F (out.set g.toNat (out.getD g.toNat [] ++ [rdOf ByteArray.empty l0 w])) (wrap64 (w + 1)) else none) else apparatus_Groups.m0 k l0 l1 (F ++ [w]) (out ++ [[rdOf ByteArray.empty l0 w]]) (wrap64 (w + 1))) else none) else some out
def apparatus_Groups.f (k : Nat) (l0 : List ByteArray) (l1 : List S65) : Option (List (List ByteArray) × Int) := (apparatus_Valid.f k l0 l1).bind fun e => if e = 0 then ((apparatus_Groups.m0 k l0 l1 [] [] 0).bind fun out => some (out, 0)) else some ([], e)
theorem apparatus_Groups.mono_n : ∀ k y0 y1 y2 y3 y4, LeO (apparatus_Groups.n0 k y0 y1 y2 y3 y4) (apparatus_Groups.n0 (k + 1) y0 y1 y2 y3 y4)
 | 0 => fun _ _ _ _ _ r h => by simp [apparatus_Groups.n0] at h
 | k + 1 => by
  have ih := apparatus_Groups.mono_n k
  intro y0 y1 y2 y3 y4
  rw [apparatus_Groups.n0, apparatus_Groups.n0]
  exact LeO.ite (LeO.ite (LeO.bind (apparatus_agree.mono _ _ _ _ _) fun _ => LeO.ite (LeO.refl _) (ih _ _ _ _ _)) (LeO.refl _)) (LeO.refl _)
theorem apparatus_Groups.mono_m : ∀ k y0 y1 y2 y3 y4, LeO (apparatus_Groups.m0 k y0 y1 y2 y3 y4) (apparatus_Groups.m0 (k + 1) y0 y1 y2 y3 y4)
 | 0 => fun _ _ _ _ _ r h => by simp [apparatus_Groups.m0] at h
 | k + 1 => by
  have ih := apparatus_Groups.mono_m k
  intro y0 y1 y2 y3 y4
  rw [apparatus_Groups.m0, apparatus_Groups.m0]
  exact LeO.ite (LeO.ite (LeO.bind (apparatus_Groups.mono_n _ _ _ _ _ _) fun _ => LeO.ite (LeO.ite (ih _ _ _ _ _) (LeO.refl _)) (ih _ _ _ _ _)) (LeO.refl _)) (LeO.refl _)
theorem apparatus_Groups.mono : ∀ a0 a1 k, LeO (apparatus_Groups.f k a0 a1) (apparatus_Groups.f (k + 1) a0 a1) := by
 intro a0 a1 k
 unfold apparatus_Groups.f
 exact LeO.bind (apparatus_Valid.mono _ _ _) fun _ => LeO.ite (LeO.bind (apparatus_Groups.mono_m _ _ _ _ _ _) fun _ => LeO.refl _) (LeO.refl _)
set_option maxHeartbeats 4000000 in
set_option maxRecDepth 100000 in
theorem apparatus_Groups.calls (k : Nat) (A0_0 : Option Addr) (c0_0 : Nat) (l0_0 : List ByteArray) (A0_1 : Option Addr) (c0_1 : Nat) (l0_1 : List (S65)) (r1 : List (List ByteArray)) (r2 : Int) (w : World) (hr0_0 : Kd.C Kd.string w A0_0 l0_0.length l0_0) (hc0_0 : l0_0.length ≤ c0_0) (hr0_1 : Kd.C k65 w A0_1 l0_1.length l0_1) (hc0_1 : l0_1.length ≤ c0_1) (h : apparatus_Groups.f k l0_0 l0_1 = some (r1, r2)) :
  Calls Try.prog 23 #[.agg #[.slice A0_0 l0_0.length c0_0, .slice A0_1 l0_1.length c0_1]] w fun e w' => ∃ v0_ : Value, e = .returned (.tuple #[v0_, .int .i64 r2]) ∧ Kd.S (Kd.slice 9 Kd.string) 34 w' w.heap.size (fun _ => True) v0_ r1 ∧ Below w.heap.size w w' := by
 have hu42 := Try.underlying42
 unfold apparatus_Groups.f at h
 obtain ⟨e0, he, h1⟩ := Option.bind_eq_some_iff.1 h
 have HV := Lib.hid he; have HR0 := Lib.hid hr0_0; have HC0 := Lib.hid hc0_0; have HR1 := Lib.hid hr0_1; have HC1 := Lib.hid hc0_1; have H1 := Lib.hid h1
 clear h he hr0_0 hc0_0 hr0_1 hc0_1 h1
 go_enter Try.func23, Try.ntmps23
 go_wp2_with (first | ((with_reducible refine gate_dst (N := 1) rfl ?_); (try (refine gate_guard (by rfl) ?_; dsimp only)); refine bX 1 #[.slice A0_0 l0_0.length c0_0, .slice A0_1 l0_1.length c0_1] 42 ?_; intro b1 hb1 w1 hbox hbb; have Q1 := Lib.hid hbox; have B1 := Lib.hid hbb; have N1 := Lib.hid (show w.heap.size ≤ b1 from Nat.le_of_eq hb1.symm); clear hb1 hbox hbb; have hcx0 := (blk_cell Q1.out 0).trans (show _ = some (Value.slice A0_0 l0_0.length c0_0) from rfl); have hcx1 := (blk_cell Q1.out 1).trans (show _ = some (Value.slice A0_1 l0_1.length c0_1) from rfl)))
 apply wp_scope_straight
 go_wp2_with (fail)
 refine (apparatus_Valid.calls k A0_0 c0_0 l0_0 A0_1 c0_1 l0_1 e0 _ (Kd.C_below HR0.out B1.out) HC0.out (Kd.C_below HR1.out B1.out) HC1.out HV.out).mono ?_
 rintro e w2 ⟨rfl, hb⟩
 have B2 := Lib.hid (B1.out.trans (hb.mono B1.out.size))
 have Q2 := Lib.hid (blk_below Q1.out hb)
 clear hb hcx0 hcx1 Q1 B1
 have h1 := H1.out
 clear H1
 by_cases c0' : e0 = 0
 ·subst c0'
  rw [if_pos rfl] at h1
  obtain ⟨out, ho, h2⟩ := Option.bind_eq_some_iff.1 h1
  obtain ⟨rfl, rfl⟩ := Prod.mk.inj (Option.some.inj h2)
  have HM := Lib.hid ho
  clear h1 h2 ho
  go_wp2_with (fail)
  apply wp_label
  have hcx0 := (blk_cell Q2.out 0).trans (show _ = some (Value.slice A0_0 l0_0.length c0_0) from rfl)
  go_wp2_with (fail)
  clear hcx0
  go_loopg [5, 6, 19] k (fun kq v5 v6 v19 wr => ∃ (i : Int) (F : List Int) (o : List (List ByteArray)), v19 = .int .i64 i ∧ Hid (apparatus_Groups.m0 kq l0_0 l0_1 F o i = some out) ∧ Hid (kq ≤ k) ∧ Hid (Below w2.heap.size w2 wr) ∧ Hid (Kd.R (Kd.int .i64) 3 wr w2.heap.size (fun _ => True) v6 F) ∧ Hid (Kd.S (Kd.slice 9 Kd.string) 34 wr w2.heap.size (fun _ => True) v5 o))
  case atStart => exact ⟨0, [], [], rfl, HM, Lib.hid (Nat.le_refl _), Lib.hid (Below.refl _ _), Lib.hid (Kd.R_nil _ _ _ _ _), Lib.hid (Kd.S_nil _ _ _ _ _)⟩
  case round =>
   clear HM
   obtain ⟨i, F, o, rfl, HA, HK, HB, HF, HS⟩ := hrel
   have BW := Lib.hid (B2.out.trans (HB.out.mono B2.out.size))
   obtain ⟨AF, cF, rfl⟩ := Kd.R_slice HF.out
   obtain ⟨AO, cO, rfl⟩ := Kd.S_slice HS.out
   cases gk with
   | zero => exact absurd HA.out (by simp [apparatus_Groups.m0])
   | succ k1 =>
    have H := HA.out
    clear HA
    rw [apparatus_Groups.m0] at H
    by_cases c1 : i < (l0_0.length : Int)
    ·rw [if_pos c1] at H
     by_cases c2 : 0 ≤ i ∧ o.length ≤ 1000000 ∧ F.length ≤ 1000000
     ·rw [if_pos c2] at H
      obtain ⟨g, hg, H'⟩ := Option.bind_eq_some_iff.1 H
      have HG := Lib.hid hg; have HE := Lib.hid H'; have HC2 := Lib.hid c2
      obtain ⟨an, rfl, hx⟩ := Kd.at_string (Kd.C_below HR0.out BW.out) i c2.1 c1
      obtain ⟨nm, hnm⟩ : ∃ nm, rdOf ByteArray.empty l0_0 i = nm := ⟨_, rfl⟩
      rw [hnm] at hx
      have HN := Lib.hid hnm
      have b1' : decide (i < (l0_0.length : Int)) = true := decide_eq_true c1
      have q1 := eq_true c1
      have q2 := eq_true c2.1
      clear H H' hg c1 c2 hnm
      obtain ⟨wo, rfl⟩ : ∃ x, x = wr := ⟨_, rfl⟩
      go_wp2_with (fail)
      clear hx
      go_loopg [26] k1 (fun kq v26 wr => ∃ (j : Int), v26 = .int .i64 j ∧ Hid (apparatus_Groups.n0 kq l0_0 l0_1 F i j = some g) ∧ Hid (kq ≤ k1) ∧ Hid (Below wo.heap.size wo wr))
      case atStart => exact ⟨0, rfl, HG, Lib.hid (Nat.le_refl _), Lib.hid (Below.refl _ _)⟩
      case round =>
       clear HG
       obtain ⟨j, rfl, HA, HKi, HBi⟩ := hrel
       have BI := Lib.hid (BW.out.trans (HBi.out.mono BW.out.size))
       have QI := Lib.hid (blk_below (blk_below Q2.out HB.out) HBi.out)
       cases gk with
       | zero => exact absurd HA.out (by simp [apparatus_Groups.n0])
       | succ k2 =>
        have H := HA.out
        clear HA
        rw [apparatus_Groups.n0] at H
        by_cases d1 : j < (F.length : Int)
        ·rw [if_pos d1] at H
         by_cases d2 : 0 ≤ j
         ·rw [if_pos d2] at H
          obtain ⟨n, hn, H'⟩ := Option.bind_eq_some_iff.1 H
          have HNN := Lib.hid hn; have HE2 := Lib.hid H'
          obtain ⟨aj, rfl, hy⟩ := Kd.at_int (Kd.C_below (Kd.R_reads' HF.out).2.2 HBi.out) j d2 d1
          have b2' : decide (j < (F.length : Int)) = true := decide_eq_true d1
          have q3 := eq_true d1
          have q4 := eq_true d2
          have hb0 := (blk_cell QI.out 0).trans (show _ = some (Value.slice (some an) l0_0.length c0_0) from rfl)
          have hb1 := (blk_cell QI.out 1).trans (show _ = some (Value.slice A0_1 l0_1.length c0_1) from rfl)
          obtain ⟨x, hx⟩ : ∃ x, rd F j = x := ⟨_, rfl⟩
          rw [hx] at hy HNN
          clear H H' hn d1 d2 hx
          go_wp2_with (fail)
          refine start_ (n := 8) (S := fun w' => w'.cell? ⟨b1, 0, none⟩ = some (.slice (some an) l0_0.length c0_0) ∧ w'.cell? ⟨b1, 1, none⟩ = some (.slice A0_1 l0_1.length c0_1)) (ds := [7]) #[false, false, false, false, false, false, false, false] (by kernel_rfl) rfl rfl ⟨hb0, hb1⟩ (fun hHeld => ?_)
          have Q9 := Lib.hid (blk_drew QI.out); have B9 := Lib.hid (below_drew1 BI.out); have HB9 := Lib.hid (below_drew1 HBi.out)
          clear QI BI HBi hb0 hb1 hy
          generalize wr.drew = w9 at Q9 B9 HB9 hHeld ⊢
          refine th_ 0 (some 31) hHeld ?_
          refine ph_ 1 (some 32) ?_
          refine ph_ 2 (some 33) ?_
          refine ph_ 4 (some 35) ?_
          refine th_ 5 (some 36) hHeld ?_
          refine ph_ 6 (some 37) ?_
          refine one_ (i := 3) (N := (some 34)) #[true, true, true, true, true, true, true, false] rfl rfl (by kernel_rfl) (by decide) (fun K hK => ?_)
          refine goes_ Try.func53 (by kernel_rfl) rfl #[.agg #[.slice (some an) l0_0.length c0_0, .slice A0_1 l0_1.length c0_1], .int .i64 x, .int .i64 i] (by rfl) rfl rfl (by (try simp only [List.map_toArray, List.map_cons, List.map_nil]); first | done | rfl) ?_
          refine (apparatus_agree.calls k2 (some an) c0_0 l0_0 A0_1 c0_1 l0_1 x i n _ (Kd.C_below HR0.out B9.out) HC0.out (Kd.C_below HR1.out B9.out) HC1.out HNN.out).mono ?_
          rintro e w10 ⟨rfl, hb⟩
          refine ⟨_, rfl, ?_⟩
          have Q10 := Lib.hid (blk_below Q9.out hb)
          have B10 := Lib.hid (B9.out.trans (hb.mono B9.out.size))
          have HB10 := Lib.hid (HB9.out.trans (hb.mono HB9.out.size))
          refine hK.out _ _ ⟨(blk_cell Q10.out 0).trans rfl, (blk_cell Q10.out 1).trans rfl⟩ (fun hHeld => ?_)
          clear hK K hb Q9 B9 HB9
          refine norm_ (a' := ?_) ?_ ?_
          rotate_left
          ·show Act.put _ (some 34) _ = _
           simp only [Act.put, List.setIfInBounds_toArray, List.set_cons_zero, List.set_cons_succ, i64_w, i32_w]
           rfl
          refine ph_ 7 (some 38) ?_
          refine done_ (by kernel_rfl) ?_
          clear hHeld
          by_cases c4 : n = (l0_1.length : Int)
          ·have h5 := HE2.out
           rw [if_pos c4] at h5
           obtain rfl := Option.some.inj h5
           have b4 : (n == (l0_1.length : Int)) = true := beq_iff_eq.2 c4
           have h6 := HE.out
           have hj : 0 ≤ j := of_eq_true q4
           rw [if_pos hj] at h6
           by_cases c5 : j < (o.length : Int) ∧ (o.getD j.toNat []).length ≤ 1000000
           ·rw [if_pos c5] at h6
            have HE4 := Lib.hid h6; have HC5 := Lib.hid c5; have HJ := Lib.hid hj
            clear h5 h6 HE HE2 c4 hj
            have HB4 := Lib.hid (HB.out.trans (HB10.out.mono HB.out.size))
            have S10 := Lib.hid (Kd.S_below (Kd.S_mono (Kd.S_bound HS.out) (ok' := fun q => True ∧ ¬ w10.heap.size ≤ q) (fun q hq => ⟨trivial, by have := hq.2.2.1; have := HB10.out.size; omega⟩)) HB10.out)
            have F10 := Lib.hid (Kd.R_below HF.out HB10.out)
            obtain ⟨go, cg, eg, hg1, hg2, cl, hg3⟩ := Kd.S_form S10.out (by have := c5.1; have := HJ.out; omega)
            injection eg with e1 e2 e3
            subst e1; subst e3; clear e2
            obtain ⟨oki, ce, hcl, hM, hcc, hfr, hoki, hH⟩ := Kd.S_elem S10.out ([] : List ByteArray) j HJ.out c5.1
            obtain ⟨vr, rfl, hR⟩ := hM
            obtain ⟨xr, hxr⟩ : ∃ xr, o.getD j.toNat [] = xr := ⟨_, rfl⟩
            rw [hxr] at hR
            obtain ⟨Ar, cr, rfl⟩ := Kd.R_slice hR
            have hc2 := hcc 0 _ rfl
            have hf2 := hfr 0
            have hsz : (Kd.slice 9 Kd.string).sz = 1 := rfl
            rw [hsz, Nat.mul_one, Nat.add_zero] at hc2 hf2
            have GB := Lib.hid hg1; have GT := Lib.hid hg2; have GC := Lib.hid hg3
            have HRK := Lib.hid hR; have HH := Lib.hid hH; have HXR := Lib.hid hxr; have HOI := Lib.hid hoki; have HFR := Lib.hid hfr
            have q5 := eq_true HJ.out
            have q6 := eq_true c5.1
            clear hcc hfr hoki hH hR hcl hg1 hg2 hg3 c5 hxr
            have hno : ∀ q, (Value.slice Ar xr.length cr).ownBlock = some q → q ≠ go := fun q hq => (HOI.out q (HRK.out.1 q hq)).2
            go_wp2_with (first | ((with_reducible refine gate_builtin (b := .append) (xs := #[.tmp 44, .tmp 46]) rfl ?_); at_builtin; refine Kd.R_append Kd.string (w0 := w2) w2.heap.size rfl (.tmp 44) (.tmp 46) 34 9 (.string ⟨#[]⟩) 16 rfl Try.underlying34 info9 rfl (by decide) (by omega) (.slice Ar xr.length cr) xr nm [.string nm] (fun q => oki q ∨ w10.heap.size ≤ q) (fun _ => False) rfl rfl ?aP (fun _ hk => hk.elim) ?aF ?aO ?aB ?aS ?aL ?_; (case aP => exact rfl); (case aF => exact fun q hq => Or.inr hq); (case aO => exact Kd.R_mono HRK.out (fun _ hk => .inl hk)); (case aB => exact HB4.out); (case aS => exact HB4.out.size); (case aL => have := HC5.out.2; rw [HXR.out] at this; omega); intro v1 w5 ho hb hg hat; obtain ⟨A5, c5, rfl⟩ := Kd.R_slice ho; rw [List.length_append, List.length_singleton] at ho hat ⊢; have R5 := Lib.hid ho; have B5 := Lib.hid hb; have F5 := Lib.hid (Kd.R_over' F10.out (Kd.R_typed HRK.out) (by decide) hg); have H5 := Lib.hid (Kd.H_grown HH.out hg (fun q hq => HRK.out.1 q hq)); have T5 := Lib.hid (hg.block go GT.out (fun e => hno go e.symm rfl)); clear ho hb hg hat hc2 hf2; have hc5 := (Kd.H_at H5.out HJ.out HC5.out.1).1 0 _ rfl; have hf5 := (Kd.H_at H5.out HJ.out HC5.out.1).2 0; rw [show (Kd.slice 9 Kd.string).sz = 1 from rfl, Nat.mul_one, Nat.add_zero] at hc5 hf5))
            have P6 := Kd.S_seg (ok := fun _ => True) (okg := fun q => w10.heap.size ≤ q) H5.out HJ.out HC5.out.1 (seg := [.slice A5 (xr.length + 1) c5]) (j := 0) (Nat.le_refl 1) (x' := xr ++ [nm]) (okp := fun q => oki q ∨ w10.heap.size ≤ q) ⟨_, rfl, R5.out⟩ (fun q hq => hq) (fun q hq => ⟨trivial, fun e => by have := GT.out; omega⟩)
            rw [hsz, Nat.mul_one, Nat.add_zero] at P6
            have S6 := Lib.hid (show Kd.S (Kd.slice 9 Kd.string) 34 (w5.setCell ⟨go, j.toNat, none⟩ (.slice A5 (xr.length + 1) c5)) w2.heap.size (fun _ => True) (.slice (some ⟨go, 0, none⟩) o.length cO) (o.set j.toNat (xr ++ [nm])) from P6.1)
            have F6 := Lib.hid (show Kd.R (Kd.int .i64) 3 (w5.setCell ⟨go, j.toNat, none⟩ (.slice A5 (xr.length + 1) c5)) w2.heap.size (fun _ => True) (.slice (some aj) F.length cF) F from Kd.R_mono (Kd.R_far (Kd.R_types F5.out (T5.out.trans GC.out) (by decide)) (p := ⟨go, j.toNat, none⟩) (fun q hq => hq.2) _) (fun _ _ => trivial))
            have B6 := Lib.hid (below_set B5.out GB.out (j := j.toNat) (v := .slice A5 (xr.length + 1) c5))
            clear P6
            go_roundg k1
            case measure => have := HK.out; omega
            case rel => exact ⟨wrap64 (i + 1), F, o.set j.toNat (xr ++ [nm]), rfl, Lib.hid (by have h := HE4.out; rw [HN.out, HXR.out] at h; exact h), Lib.hid (by have := HK.out; omega), B6, F6, S6⟩
           ·rw [if_neg c5] at h6; cases h6
          ·have h5 := HE2.out
           rw [if_neg c4] at h5
           have H5 := Lib.hid h5
           have b4 : (n == (l0_1.length : Int)) = false := beq_eq_false_iff_ne.2 c4
           clear h5 HE2 c4
           go_wp2_with (fail)
           go_roundg k2
           case measure => have := HKi.out; omega
           case rel => exact ⟨wrap64 (j + 1), rfl, H5, Lib.hid (by have := HKi.out; omega), HB10⟩
         ·rw [if_neg d2] at H; cases H
        ·rw [if_neg d1] at H
         obtain rfl := Option.some.inj H
         have b2' : decide (j < (F.length : Int)) = false := decide_eq_false d1
         have hE := HE.out
         rw [if_neg (by decide)] at hE
         have HE3 := Lib.hid hE
         clear H d1 hE HE
         have HB4 := Lib.hid (HB.out.trans (HBi.out.mono HB.out.size))
         go_wp2_with (first
          | ((with_reducible refine gate_builtin (b := .append) (xs := #[.tmp 50, .tmp 52]) rfl ?_); at_builtin; refine Kd.R_append (Kd.int .i64) (w0 := w2) w2.heap.size rfl (.tmp 50) (.tmp 52) 52 3 (.int .i64 0) 8 rfl Try.underlying52 info3 rfl (by decide) (by omega) (.slice AF F.length cF) F i [.int .i64 i] (fun _ => True) (fun _ => False) rfl rfl ?aP (fun _ hk => hk.elim) ?aF ?aO ?aB ?aS ?aL ?_; (case aP => exact rfl); (case aF => exact fun _ _ => trivial); (case aO => exact Kd.R_below HF.out HBi.out); (case aB => exact HB4.out); (case aS => exact HB4.out.size); (case aL => have := HC2.out.2.2; omega); intro v1 w5 ho hb hg hat; obtain ⟨A5, c5, rfl⟩ := Kd.R_slice ho; rw [List.length_append, List.length_singleton] at ho hat ⊢; have F5 := Lib.hid ho; have B5 := Lib.hid hb; have S5 := Lib.hid (Kd.S_over' (Kd.S_below HS.out HBi.out) (Kd.R_typed (Kd.R_below HF.out HBi.out)) (by decide) hg); clear ho hb hg hat)
          | ((with_reducible refine gate_builtin (b := .append) (xs := #[.tmp 54, .tmp 57]) rfl ?_); at_builtin; refine Kd.S_append (Kd.slice 9 Kd.string) (w0 := w2) (W := w5.alloc (.cells #[.string nm] 9)) w2.heap.size rfl (.tmp 54) (.tmp 57) 37 34 (.slice none 0 0) 24 rfl Try.underlying37 info34 rfl (by decide) (by omega) (.slice AO o.length cO) o [nm] [.slice (some ⟨w5.heap.size, 0, none⟩) 1 1] (fun _ => True) (fun q => q = w5.heap.size) rfl ?hx ?aP ?aK ?aF ?aO ?aB ?aS ?aL ?_; (case hx => first | rfl | (rw [show (w5.alloc (.cells #[.string nm] 9)).heap.size = w5.heap.size + 1 from by simp [World.alloc_eq]]; rfl)); (case aP => exact ⟨_, rfl, Kd.R_of_own (enc := Value.string) (show (w5.alloc (.cells #[.string nm] 9)).ownsRow w2.heap.size 9 1 (.slice (some ⟨w5.heap.size, 0, none⟩) 1 1) 1 [.string nm] from ⟨rfl, .inr ⟨w5.heap.size, 1, #[.string nm], rfl, B5.out.size, blk_new _ _, Nat.le_refl _, by decide, rfl, rfl⟩⟩) (fun q hq => by simpa [Value.ownBlock] using hq.symm)⟩); (case aK => exact fun q hq => ⟨trivial, fun e => by have := Kd.S_lt S5.out q e.symm; omega⟩); (case aF => exact fun _ _ => trivial); (case aO => exact Kd.S_alloc (Kd.S_mono (Kd.S_bound S5.out) (fun q hq => ⟨trivial, fun e => by have := hq.2.2.1; omega⟩)) _); (case aB => exact below_alloc B5.out _); (case aS => exact (below_alloc B5.out _).size); (case aL => have := HC2.out.2.1; omega); intro v1 w6 hS6 hB6 hg6 hat6; obtain ⟨A6, c6, rfl⟩ := Kd.S_slice hS6; rw [List.length_append, List.length_singleton] at hS6 hat6 ⊢; have S6 := Lib.hid hS6; have B6 := Lib.hid hB6; have F6 := Lib.hid (Kd.R_over' (Kd.R_alloc F5.out _) (Kd.S_typed (Kd.S_alloc S5.out _)) (by decide) hg6); clear hS6 hB6 hg6 hat6))
         go_roundg k1
         case measure => have := HK.out; omega
         case rel => exact ⟨wrap64 (i + 1), F ++ [i], o ++ [[nm]], rfl, Lib.hid (by have h := HE3.out; rw [HN.out] at h; exact h), Lib.hid (by have := HK.out; omega), B6, F6, S6⟩
     ·rw [if_neg c2] at H; cases H
    ·rw [if_neg c1] at H
     obtain rfl := Option.some.inj H
     have b1' : decide (i < (l0_0.length : Int)) = false := decide_eq_false c1
     clear H c1
     go_wp2_with (fail)
     (first | rw [Exit.noGoto_ret] | skip)
     go_ret2
     exact ⟨_, rfl, Kd.S_lower HS.out B2.out.size, BW.out⟩
 ·rw [if_neg c0'] at h1
  obtain ⟨rfl, rfl⟩ := Prod.mk.inj (Option.some.inj h1)
  have b2 : (e0 != 0) = true := by simpa using c0'
  have b3 : (e0 == 0) = false := by simpa using c0'
  clear h1 c0'
  go_wp2_with (fail)
  (first | rw [Exit.noGoto_ret] | skip)
  go_ret2
  exact ⟨_, rfl, Kd.S_nil _ _ _ _ _, B2.out⟩

/-! ### api_Variant_56: function 56 -/
def api_Variant_56.f (l0 : List (S67)) : Option ((List (S67))) := (some (([] : List (S67)) : List (S67))).bind fun y172 => (if y172.length + l0.length < 5864062014805 then (some (y172 ++ l0)) else (none))
set_option maxHeartbeats 8000000 in
set_option maxRecDepth 100000 in
theorem api_Variant_56.calls (A0 : Option Addr) (c0 : Nat) (l0 : List (S67)) (r : List (S67)) (w : World) (hr0 : Kd.C k67 w A0 l0.length l0) (hc0 : l0.length ≤ c0) (h : api_Variant_56.f l0 = some r) :
  Calls Try.prog 56 #[.slice A0 l0.length c0] w fun e w' => ∃ v0_ : Value, e = .returned (v0_) ∧ Kd.R k67 67 w' w.heap.size (fun _ => True) v0_ r ∧ Below w.heap.size w w' := by
 cases A0 with
 | none =>
  have hl_ := Kd.C_none hr0
  subst hl_
  have hr_ : r = [] := by (have h_ := h; simp [api_Variant_56.f] at h_; first | exact h_ | exact h_.symm | exact h_.2 | exact h_.2.symm)
  subst hr_
  have hn_ := fun (W : World) => Go.Lib.run_eql_slice_nil (P := Try.prog) W 63 67 none 0 c0 0 0 Try.underlying63
  clear hr0 hc0 h
  go_enter Try.func56, Try.ntmps56
  (try simp only [List.length_nil])
  go_wp2
  go_ret
  exact ⟨_, rfl, Kd.R_nil _ _ _ _ _, Below.refl _ _⟩
 | some a0_ =>
  have hn_ := fun (W : World) => Go.Lib.run_eql_slice_nil (P := Try.prog) W 63 67 (some a0_) l0.length c0 0 0 Try.underlying63
  have HR0 := Aside0.mk hr0
  have HC0 := Aside0.mk hc0
  clear hr0 hc0
  have HB := Aside0.mk (Below.refl w.heap.size w)
  have H : ((some (([] : List (S67)) : List (S67))).bind fun y172 => (if y172.length + l0.length < 5864062014805 then (some (y172 ++ l0)) else (none))) = some r := h
  clear h
  obtain ⟨y172, hy172⟩ : ∃ y_ : List (S67), y_ = (([] : List (S67))) := ⟨_, rfl⟩
  replace H : (if y172.length + l0.length < 5864062014805 then (some (y172 ++ l0)) else (none)) = some r := by first | (rw [hy172]; with_reducible exact H) | (have H2_ := (Option.bind_some _ _).symm.trans H; rw [hy172]; with_reducible exact H2_) | (have H2_ := (Option.bind_some _ _).symm.trans H; with_reducible exact H2_) | with_reducible exact H | (rw [hy172]; exact H) | exact H
  have Ny172 := Aside0.mk hy172
  clear hy172
  by_cases c2 : y172.length + l0.length < 5864062014805
  ·rw [if_pos c2] at H
   have LMc2 := Aside0.mk c2
   clear c2
   obtain ⟨y175, hy175⟩ : ∃ y_ : List (S67), y_ = (y172 ++ l0) := ⟨_, rfl⟩
   replace H : (some y175) = some r := by first | (rw [hy175]; with_reducible exact H) | (have H2_ := (Option.bind_some _ _).symm.trans H; rw [hy175]; with_reducible exact H2_) | (have H2_ := (Option.bind_some _ _).symm.trans H; with_reducible exact H2_) | with_reducible exact H | (rw [hy175]; exact H) | exact H
   have Ny175 := Aside0.mk hy175
   clear hy175
   obtain rfl := Option.some.inj H
   go_enter Try.func56, Try.ntmps56
   go_wp2_with (first | ((with_reducible refine gate_dst (N := 5) rfl ?_); refine Kd.R_lit k67 _ 67 ?hg (N := 5) ?hd (xs := ([] : List (S67))) (inner := []) (ok := fun _ => True) (okp := fun _ => True) ?hr ?hp (fun _ hk => hk) trivial (Below.refl _ _) (Nat.le_refl _) (by simp) ?_; (case hd | hg => rfl); (case hr => first | (go_simp; done) | (go_simp; rfl)); (case hp => exact (Reps.none _ _)); intro v173 w3 ho4 hb hg_ hnew_; clear hg_ hnew_; (first | rw [← Ny172.out] at ho4 | (simp only [Int.reduceToNat] at ho4; rw [← Ny172.out] at ho4)); have n0_ := Aside0.mk (Kd.R_lower ho4 (below_size (by repeat (first | (with_reducible first | exact HB.out | apply below_alloc | apply pw_below_drewN | apply below_drew1) | exact HB.out)))); have n1_ := Aside0.mk (below_step (by repeat (first | (with_reducible first | exact HB.out | apply below_alloc | apply pw_below_drewN | apply below_drew1) | exact HB.out)) hb); clear HB; have HO174 := n0_; have HB := n1_; clear n0_ n1_; clear hb ho4) | ((with_reducible refine gate_builtin (b := .append) (xs := #[.tmp 5, .tmp 6]) rfl ?_); at_builtin; refine Kd.R_append_rows k67 (w0 := w) w.heap.size rfl (.tmp 5) (.tmp 6) 63 67 (.agg #[(.string ⟨#[]⟩), (.int .i64 0)]) 24 rfl Try.underlying63 info67 rfl (by decide) (by omega) v173 y172 l0 _ _ _ (fun _ => True) (fun _ => False) rfl rfl ?aO ?aR (fun _ _ h => h) (fun _ h => h.elim) ?aF ?aB ?aS ?aL ?_; (case aR => repeat (first | exact (Kd.C_below HR0.out HB.out) | (with_reducible refine Kd.C_alloc ?_ _) | (with_reducible refine Kd.C_drewN ?_ _) | (with_reducible refine Kd.C_drew ?_))); (case aB => exact (by repeat (first | (with_reducible first | exact HB.out | apply below_alloc | apply pw_below_drewN | apply below_drew1) | exact HB.out))); (case aF => exact (fun _ _ => trivial)); (case aO => exact (by (with_reducible repeat (first | apply Kd.R_alloc | apply Kd.R_drewN | apply Kd.R_drew)); exact HO174.out)); (case aS => exact (below_size (by repeat (first | (with_reducible first | exact HB.out | apply below_alloc | apply pw_below_drewN | apply below_drew1) | exact HB.out)))); (case aL => have := LMc2.out; omega); intro v176 w5 ho hb hg hat; rw [← Ny175.out] at ho; have n0_ := Aside0.mk (hb); have n1_ := Aside0.mk (ho); clear HB; clear HO174; have HB := n0_; have HO177 := n1_; clear n0_ n1_; clear ho hb hg hat))
   go_ret
   exact ⟨_, eV, by (with_reducible repeat (first | apply Kd.R_alloc | apply Kd.R_drewN | apply Kd.R_drew)); exact HO177.out, by repeat (first | (with_reducible first | exact HB.out | apply below_alloc | apply pw_below_drewN | apply below_drew1) | exact HB.out)⟩
  ·rw [if_neg c2] at H
   exact absurd H (by simp)


end Go.Proofs.Ytmjigfoldeekmaa.X
