-- and more
-- shortened
-- thinned
-- halved indents
-- printed by this session's xprint.py: out of the translation, by the kit's print with additions; Lean checks it
import Derived.Test.YtdaooagikacboaaXE
import Derived.Test.YtdaooagikacboaaXC
import Derived.Test.YtdaooagikacboaaWN
import Derived.Test.YtdaooagikacboaaWShare
import Derived.Test.YtdaooagikacboaaWRepsOne
import Derived.Test.YtdaooagikacboaaWGuard
import Derived.Test.YtdaooagikacboaaX0
import Derived.Test.YtdaooagikacboaaX6
import Derived.Test.YtdaooagikacboaaX7
import Derived.Test.YtdaooagikacboaaX8
import Derived.Test.YtdaooagikacboaaX10
import Derived.Test.YtdaooagikacboaaXA
namespace Go.Proofs.Ytdaooagikacboaa.X
open Go.RowKit Go.Proofs.YtdaooagikacboaaW.PrintWords Go.Proofs.YtdaooagikacboaaW.PrintLast Go.Proofs.YtdaooagikacboaaW.PrintMore
attribute [local go_sem] max2_int min2_int max_two min_two max_three min_three max_four min_four isSome_setCell binOp_gtr_str binOp_leq_str binOp_geq_str   -- for this text's walks alone
set_option linter.unusedVariables false
set_option linter.unusedSimpArgs false

/-! ### ancepslaw54_WordlistChecks: function 6 -/
mutual
def ancepslaw54_WordlistChecks.l0 : Nat → List (S46) → Int → List (S46) → Int → Int → List ByteArray → Option (Bool)
 | 0, _, _, _, _, _, _ => none
 | k + 1, x1, x5, x11, x12, x13, x306000 => if x13 < x12 then (if 0 ≤ x13 then (if x13 < (x11.length : Int) then (ancepslaw54_WordlistChecks.l0 k x1 (wrap64 (x5 + (((rd_T46 x11 x13).f2).length : Int))) x11 x12 (wrap64 (x13 + 1)) x306000) else (none)) else (none)) else ((ancepslaw54_awake.f k).bind fun t308 => (if t308 = true then ((ancepsref54_Few.f k x306000).bind fun t309 => (if t309 = true then (if (x1.length : Int) > 420 then (ancepslaw54_WordlistChecks.j1 k x1 true x306000) else (ancepslaw54_WordlistChecks.j1 k x1 (decide (x5 > 2000)) x306000)) else (ancepslaw54_WordlistChecks.j1 k x1 true x306000))) else (ancepslaw54_WordlistChecks.j1 k x1 true x306000)))
def ancepslaw54_WordlistChecks.j1 : Nat → List (S46) → Bool → List ByteArray → Option (Bool)
 | 0, _, _, _ => none
 | k + 1, x1, x38, x306000 => if x38 = true then ((ancepslaw54_awake.f k).bind fun t310 => (some t310)) else (ancepslaw54_WordlistChecks.l1 k x1 ([] : List (S46)) x1 (x1.length : Int) 0 x306000)
def ancepslaw54_WordlistChecks.l1 : Nat → List (S46) → List (S46) → List (S46) → Int → Int → List ByteArray → Option (Bool)
 | 0, _, _, _, _, _, _ => none
 | k + 1, x1, x8, x40, x41, x42, x306000 => if x42 < x41 then (if 0 ≤ x42 then (if x42 < (x40.length : Int) then ((slices_Clone_int_int.f ((rd_T46 x40 x42).f2)).bind fun t313 => (if x8.length < 3518437208883 then (ancepslaw54_WordlistChecks.l1 k x1 (x8 ++ [(⟨(rd_T46 x40 x42).f0, (rd_T46 x40 x42).f1, t313⟩ : S46)]) x40 x41 (wrap64 (x42 + 1)) x306000) else (none))) else (none)) else (none)) else ((ancepslaw54_copied.f x306000).bind fun t319 => ((wordlist_CheckTree.f k t319 x8).bind fun t322 => ((ancepsref54_CheckTree.f k x306000 x1).bind fun t323 => (some (t322 == t323)))))
end
def ancepslaw54_WordlistChecks.f (k : Nat) (l0_0 : List ByteArray) (l1 : List (S46)) : Option (Bool) := ancepslaw54_WordlistChecks.l0 k l1 0 l1 (l1.length : Int) 0 l0_0
theorem ancepslaw54_WordlistChecks.mono_l : ∀ k, (∀ y0 y1 y2 y3 y4 y5, LeO (ancepslaw54_WordlistChecks.l0 k y0 y1 y2 y3 y4 y5) (ancepslaw54_WordlistChecks.l0 (k + 1) y0 y1 y2 y3 y4 y5)) ∧ (∀ y0 y1 y2, LeO (ancepslaw54_WordlistChecks.j1 k y0 y1 y2) (ancepslaw54_WordlistChecks.j1 (k + 1) y0 y1 y2)) ∧ (∀ y0 y1 y2 y3 y4 y5, LeO (ancepslaw54_WordlistChecks.l1 k y0 y1 y2 y3 y4 y5) (ancepslaw54_WordlistChecks.l1 (k + 1) y0 y1 y2 y3 y4 y5))
 | 0 => ⟨fun _ _ _ _ _ _ r h => by simp [ancepslaw54_WordlistChecks.l0] at h, fun _ _ _ r h => by simp [ancepslaw54_WordlistChecks.j1] at h, fun _ _ _ _ _ _ r h => by simp [ancepslaw54_WordlistChecks.l1] at h⟩
 | k + 1 => by
  obtain ⟨ih0, ih1, ih2⟩ := ancepslaw54_WordlistChecks.mono_l k
  refine ⟨?_, ?_, ?_⟩
  ·intro y0 y1 y2 y3 y4 y5
   unfold ancepslaw54_WordlistChecks.l0
   repeat' first
   | (with_reducible exact ih0 _ _ _ _ _ _)
   | (with_reducible exact ih1 _ _ _)
   | (with_reducible exact ih2 _ _ _ _ _ _)
   | (with_reducible exact ancepslaw54_awake.mono _)
   | (with_reducible exact ancepsref54_CheckTree.mono _ _ _)
   | (with_reducible exact ancepsref54_Few.mono _ _)
   | (with_reducible exact wordlist_CheckTree.mono _ _ _)
   | (with_reducible exact LeO.refl _)
   | (with_reducible exact LeO.none _)
   | (with_reducible refine LeO.ite ?_ ?_)
   | (with_reducible refine LeO.bind ?_ (fun _ => ?_))
   | exact ih0 _ _ _ _ _ _
   | exact ih1 _ _ _
   | exact ih2 _ _ _ _ _ _
   | exact ancepslaw54_awake.mono _
   | exact ancepsref54_CheckTree.mono _ _ _
   | exact ancepsref54_Few.mono _ _
   | exact wordlist_CheckTree.mono _ _ _
   | exact LeO.none _
   | refine LeO.ite ?_ ?_
   | refine LeO.bind ?_ (fun _ => ?_)
  ·intro y0 y1 y2
   unfold ancepslaw54_WordlistChecks.j1
   repeat' first
   | (with_reducible exact ih0 _ _ _ _ _ _)
   | (with_reducible exact ih1 _ _ _)
   | (with_reducible exact ih2 _ _ _ _ _ _)
   | (with_reducible exact ancepslaw54_awake.mono _)
   | (with_reducible exact ancepsref54_CheckTree.mono _ _ _)
   | (with_reducible exact ancepsref54_Few.mono _ _)
   | (with_reducible exact wordlist_CheckTree.mono _ _ _)
   | (with_reducible exact LeO.refl _)
   | (with_reducible exact LeO.none _)
   | (with_reducible refine LeO.ite ?_ ?_)
   | (with_reducible refine LeO.bind ?_ (fun _ => ?_))
   | exact ih0 _ _ _ _ _ _
   | exact ih1 _ _ _
   | exact ih2 _ _ _ _ _ _
   | exact ancepslaw54_awake.mono _
   | exact ancepsref54_CheckTree.mono _ _ _
   | exact ancepsref54_Few.mono _ _
   | exact wordlist_CheckTree.mono _ _ _
   | exact LeO.none _
   | refine LeO.ite ?_ ?_
   | refine LeO.bind ?_ (fun _ => ?_)
  ·intro y0 y1 y2 y3 y4 y5
   unfold ancepslaw54_WordlistChecks.l1
   repeat' first
   | (with_reducible exact ih0 _ _ _ _ _ _)
   | (with_reducible exact ih1 _ _ _)
   | (with_reducible exact ih2 _ _ _ _ _ _)
   | (with_reducible exact ancepslaw54_awake.mono _)
   | (with_reducible exact ancepsref54_CheckTree.mono _ _ _)
   | (with_reducible exact ancepsref54_Few.mono _ _)
   | (with_reducible exact wordlist_CheckTree.mono _ _ _)
   | (with_reducible exact LeO.refl _)
   | (with_reducible exact LeO.none _)
   | (with_reducible refine LeO.ite ?_ ?_)
   | (with_reducible refine LeO.bind ?_ (fun _ => ?_))
   | exact ih0 _ _ _ _ _ _
   | exact ih1 _ _ _
   | exact ih2 _ _ _ _ _ _
   | exact ancepslaw54_awake.mono _
   | exact ancepsref54_CheckTree.mono _ _ _
   | exact ancepsref54_Few.mono _ _
   | exact wordlist_CheckTree.mono _ _ _
   | exact LeO.none _
   | refine LeO.ite ?_ ?_
   | refine LeO.bind ?_ (fun _ => ?_)
theorem ancepslaw54_WordlistChecks.mono : ∀ a0 a1 k, LeO (ancepslaw54_WordlistChecks.f k a0 a1) (ancepslaw54_WordlistChecks.f (k + 1) a0 a1) := by
 intro a0 a1 k
 obtain ⟨ih0, ih1, ih2⟩ := ancepslaw54_WordlistChecks.mono_l k
 unfold ancepslaw54_WordlistChecks.f
 repeat' first
   | (with_reducible exact ih0 _ _ _ _ _ _)
   | (with_reducible exact ih1 _ _ _)
   | (with_reducible exact ih2 _ _ _ _ _ _)
   | (with_reducible exact ancepslaw54_awake.mono _)
   | (with_reducible exact ancepsref54_CheckTree.mono _ _ _)
   | (with_reducible exact ancepsref54_Few.mono _ _)
   | (with_reducible exact wordlist_CheckTree.mono _ _ _)
   | (with_reducible exact LeO.refl _)
   | (with_reducible exact LeO.none _)
   | (with_reducible refine LeO.ite ?_ ?_)
   | (with_reducible refine LeO.bind ?_ (fun _ => ?_))
   | exact ih0 _ _ _ _ _ _
   | exact ih1 _ _ _
   | exact ih2 _ _ _ _ _ _
   | exact ancepslaw54_awake.mono _
   | exact ancepsref54_CheckTree.mono _ _ _
   | exact ancepsref54_Few.mono _ _
   | exact wordlist_CheckTree.mono _ _ _
   | exact LeO.none _
   | refine LeO.ite ?_ ?_
   | refine LeO.bind ?_ (fun _ => ?_)
def ancepslaw54_WordlistChecks.T16 : Bool × List (List Nat × List Nat) := (true, [([], []), ([0], [0]), ([], []), ([1, 2, 1], [1, 2]), ([], []), ([], []), ([4, 5, 3], [4, 5]), ([3, 6], [3, 6]), ([7, 6, 0, 1, 2, 3, 4, 5, 6, 7], [7])])
def ancepslaw54_WordlistChecks.B16 : List Nat := [0, 1, 0, 7, 0, 0, 63, 127, 255]
theorem ancepslaw54_WordlistChecks.tab16 : rtab .any (opsOf Try.f6 16) = ancepslaw54_WordlistChecks.T16 := by kernel_rfl
theorem ancepslaw54_WordlistChecks.bits16 : waitsOk ancepslaw54_WordlistChecks.T16.2 ancepslaw54_WordlistChecks.B16 = true := by kernel_rfl
set_option maxHeartbeats 8000000 in
set_option maxRecDepth 100000 in
theorem ancepslaw54_WordlistChecks.calls (k : Nat) (A0_0 : Option Addr) (c0_0 : Nat) (l0_0 : List ByteArray) (A1 : Option Addr) (c1 : Nat) (l1 : List (S46)) (r : Bool) (w : World) (hr0_0 : Kd.C Kd.string w A0_0 l0_0.length l0_0) (hc0_0 : l0_0.length ≤ c0_0) (hr1 : Kd.C k46 w A1 l1.length l1) (hc1 : l1.length ≤ c1) (h : ancepslaw54_WordlistChecks.f k l0_0 l1 = some r) :
  Calls Try.prog 6 #[.agg #[.slice A0_0 l0_0.length c0_0], .slice A1 l1.length c1] w fun e w' => e = .returned (.bool r) ∧ Below w.heap.size w w' := by
 have hu26 := Try.underlying26
 have hu46 := Try.underlying46
 have HR0_0 := Aside0.mk hr0_0
 have HC0_0 := Aside0.mk hc0_0
 clear hr0_0 hc0_0
 have HR1 := Aside0.mk hr1
 have HC1 := Aside0.mk hc1
 clear hr1 hc1
 have HB := Aside0.mk (Below.refl w.heap.size w)
 have H : (ancepslaw54_WordlistChecks.l0 k l1 0 l1 (l1.length : Int) 0 l0_0) = some r := h
 clear h
 have H' := Aside0.mk H
 clear H
 go_enter Try.func6, Try.ntmps6
 go_wp2_with (first | ((with_reducible refine gate_dst (N := 2) rfl ?_); (try (refine gate_guard (by rfl) ?_; dsimp only)); refine bX 2 #[.slice A0_0 l0_0.length c0_0] 26 ?_; intro gb305 hg w3 hbox hb; have n0_ := jL HB hb; have n1_ := Aside0.mk (hbox); have n2_ := Aside0.mk ((by rw [hg]; exact (below_size (iL HB)) : w.heap.size ≤ gb305)); have n3_ := Aside0.mk ((by rw [hg]; exact (below_size (iL HB)) : w.heap.size ≤ gb305)); clear HB; have HB := n0_; have BK305 := n1_; have GW305 := n2_; have GE305 := n3_; clear n0_ n1_ n2_ n3_; clear hb hbox hg))
 go_loopg [5, 13] k (fun kq v5 v13 w' => ∃ (x5_1 : Int) (x13_1 : Int), v5 = .int .i64 x5_1 ∧ v13 = .int .i64 x13_1 ∧ Aside0 (ancepslaw54_WordlistChecks.l0 kq l1 x5_1 l1 (l1.length : Int) x13_1 l0_0 = some r) ∧ Aside0 (kq ≤ k) ∧ Aside0 (w'.heap[gb305]? = some (.cells #[(.slice A0_0 l0_0.length c0_0)] 26 (0, 0))) ∧ Aside0 (Below w.heap.size w w'))
 case atStart => exact ⟨(0), (0), eV, eV, H', ⟨Nat.le_refl _⟩, ⟨iB BK305⟩, ⟨iL HB⟩⟩
 case round =>
  clear H'
  (try clear c1); (try clear p2)
  obtain ⟨x5_1, x13_1, rfl, rfl, HA, HK1, BK305, HB⟩ := hrel
  cases gk with
  | zero => exact absurd HA.out (by simp [ancepslaw54_WordlistChecks.l0])
  | succ k1 =>
   have H := HA.out
   clear HA
   simp only [ancepslaw54_WordlistChecks.l0] at H
   by_cases c4 : x13_1 < (l1.length : Int)
   ·rw [if_pos c4] at H
    have c4b0 : decide (x13_1 < (l1.length : Int)) = true := decide_eq_true c4
    clear c4
    by_cases c5 : 0 ≤ x13_1
    ·rw [if_pos c5] at H
     have c5b0 : decide (0 ≤ x13_1) = true := decide_eq_true c5
     clear c5
     by_cases c6 : x13_1 < (l1.length : Int)
     ·rw [if_pos c6] at H
      have c6b0 : decide (x13_1 < (l1.length : Int)) = true := decide_eq_true c6
      clear c6
      have H' := Aside0.mk H
      clear H
      have p306 := oD (0 ≤ (x13_1 : Int))
      have q306 := oD (x13_1 < (l1.length : Int))
      obtain ⟨ad306, A306_2, c306_2, e306, hx306_0, hx306_1, hx306_2, hl306_2, hi306_2⟩ := at_T46 HR1.out x13_1 p306 q306
      cases e306
      replace hx306_0 := (HB.out.cell (World.block_lt_of_cell? w _ hx306_0)).trans hx306_0
      replace hx306_1 := (HB.out.cell (World.block_lt_of_cell? w _ hx306_1)).trans hx306_1
      replace hx306_2 := (HB.out.cell (World.block_lt_of_cell? w _ hx306_2)).trans hx306_2
      have HR306_2 := Aside0.mk hi306_2
      have HC306_2 := Aside0.mk hl306_2
      clear hi306_2 hl306_2
      replace p306 := eq_true p306
      replace q306 := eq_true q306
      go_wp2_with (first | ((with_reducible refine gate_dst (N := 7) rfl ?_); (try (refine gate_guard (by rfl) ?_; dsimp only)); refine bX 7 #[.int .i64 0, .bool false, .slice none 0 0] 46 ?_; intro gb307 hg w7 hbox hb; have n0_ := jB BK305 hb; have n1_ := jL HB hb; have n2_ := Aside0.mk (hbox); have n3_ := Aside0.mk ((by rw [hg]; exact (below_size (iL HB)) : w.heap.size ≤ gb307)); have n4_ := Aside0.mk ((by rw [hg]; exact (below_size (iL HB)) : w.heap.size ≤ gb307)); have n5_ := Aside0.mk ((by rw [hg]; exact Nat.ne_of_lt (blk_lt (g := gb305) (o := .cells #[.slice A0_0 l0_0.length c0_0] 26 (0, 0)) (iB BK305)) : gb305 ≠ gb307)); have n6_ := Aside0.mk ((by rw [hg]; exact Nat.ne_of_gt (blk_lt (g := gb305) (o := .cells #[.slice A0_0 l0_0.length c0_0] 26 (0, 0)) (iB BK305)) : gb307 ≠ gb305)); clear BK305; clear HB; have BK305 := n0_; have HB := n1_; have BK307 := n2_; have GW307 := n3_; have GE307 := n4_; have NB305_307 := n5_; have NB307_305 := n6_; clear n0_ n1_ n2_ n3_ n4_ n5_ n6_; clear hb hbox hg; have hnb8 := NB307_305.out; have hnc8 := NB305_307.out; have hcz9_0 := cZ BK307 0 (.int .i64 0); have hcz9_1 := cZ BK307 1 (.bool false); have hcz9_2 := cZ BK307 2 (.slice none 0 0); have hfz9_0 := blk_frozen BK307.out 0; have hfz9_1 := blk_frozen BK307.out 1; have hfz9_2 := blk_frozen BK307.out 2))
      go_roundg k1
      case measure => have := HK1.out; omega
      case rel => exact ⟨(wrap64 (x5_1 + (((rd_T46 l1 x13_1).f2).length : Int))), (wrap64 (x13_1 + 1)), eV, eV, H', ⟨by have := HK1.out; omega⟩, ⟨by (with_reducible repeat (first | apply blk_drewN | apply blk_drew | apply blk_alloc)); refine blk_far ?_ NB305_307.out _; (with_reducible repeat (first | apply blk_drewN | apply blk_drew | apply blk_alloc)); refine blk_far ?_ NB305_307.out _; (with_reducible repeat (first | apply blk_drewN | apply blk_drew | apply blk_alloc)); refine blk_far ?_ NB305_307.out _; (with_reducible repeat (first | apply blk_drewN | apply blk_drew | apply blk_alloc)); exact BK305.out⟩, ⟨iL HB⟩⟩
     ·rw [if_neg c6] at H
      exact absurd H (by simp)
    ·rw [if_neg c5] at H
     exact absurd H (by simp)
   ·rw [if_neg c4] at H
    have c4b0 : decide (x13_1 < (l1.length : Int)) = false := decide_eq_false c4
    clear c4
    have HC10 := Aside0.mk H
    clear H
    go_upto_region 7 with (fail)
    go_cut [38] (fun v38 wc => ∃ (kq : Nat) (x38_9 : Bool), v38 = .bool x38_9 ∧ Aside0 (ancepslaw54_WordlistChecks.j1 kq l1 x38_9 l0_0 = some r) ∧ Aside0 (kq ≤ k1) ∧ Aside0 (wc.heap[gb305]? = some (.cells #[(.slice A0_0 l0_0.length c0_0)] 26 (0, 0))) ∧ Aside0 (Below w.heap.size w wc))
    case first =>
     have H := HC10.out
     clear HC10
     replace H := Option.bind_eq_some_iff.mp H
     obtain ⟨t308, A110, H⟩ := H
     try dsimp only at H
     have A11 := Aside0.mk A110
     clear A110
     by_cases c12 : t308 = true
     ·subst c12
      have H1 : ((ancepsref54_Few.f k1 l0_0).bind fun t309 => (if t309 = true then (if (l1.length : Int) > 420 then (ancepslaw54_WordlistChecks.j1 k1 l1 true l0_0) else (ancepslaw54_WordlistChecks.j1 k1 l1 (decide (x5_1 > 2000)) l0_0)) else (ancepslaw54_WordlistChecks.j1 k1 l1 true l0_0))) = some r := by rw [if_pos rfl] at H; exact H
      clear H
      have H := H1
      clear H1
      replace H := Option.bind_eq_some_iff.mp H
      obtain ⟨t309, A130, H⟩ := H
      try dsimp only at H
      have A13 := Aside0.mk A130
      clear A130
      by_cases c14 : t309 = true
      ·subst c14
       have H1 : (if (l1.length : Int) > 420 then (ancepslaw54_WordlistChecks.j1 k1 l1 true l0_0) else (ancepslaw54_WordlistChecks.j1 k1 l1 (decide (x5_1 > 2000)) l0_0)) = some r := by rw [if_pos rfl] at H; exact H
       clear H
       have H := H1
       clear H1
       by_cases c15 : (l1.length : Int) > 420
       ·rw [if_pos c15] at H
        have c15b0 : decide (420 < (l1.length : Int)) = true := decide_eq_true c15
        have c15b1 : decide (420 < l1.length) = true := decide_eq_true (by omega)
        clear c15
        (first | rw [c15b0] | (simp only [i64_w, i32_w]; rw [c15b0]) | skip)
        have H' := Aside0.mk H
        clear H
        go_wp2_with (first | ((with_reducible refine gate_callee (f := 8) rfl ?_); refine gL_ (some 23) Try.func8 #[] ?_; (with_reducible refine (ancepslaw54_awake.calls k1  true _ A11.out).mono ?_); rintro e w16 ⟨rfl, hb⟩; refine ⟨_, rfl, ?_⟩; have n0_ := jB BK305 hb; have n1_ := jL HB hb; clear BK305; clear HB; have BK305 := n0_; have HB := n1_; clear n0_ n1_; (try clear hb); have hcz17_0 := cZ BK305 0 (.slice A0_0 l0_0.length c0_0); have hfz17_0 := blk_frozen BK305.out 0) | (go_at_call 15; (with_reducible refine (ancepsref54_Few.calls k1 _ _ l0_0 true _ ?side1 ?side2 A13.out).mono ?_); (case side1 => exact iC HR0_0 HB); (case side2 => exact HC0_0.out); rintro e w18 ⟨rfl, hb⟩; have n0_ := jB BK305 hb; have n1_ := jL HB hb; clear BK305; clear HB; have BK305 := n0_; have HB := n1_; clear n0_ n1_; (try clear hb)))
        go_meet
        case rel => exact ⟨_, (true), eV, H', ⟨by have := HK1.out; first | omega | exact Nat.le_refl _⟩, ⟨iB BK305⟩, ⟨iL HB⟩⟩
       ·rw [if_neg c15] at H
        have c15b0 : decide (420 < (l1.length : Int)) = false := decide_eq_false c15
        have c15b1 : decide (420 < l1.length) = false := decide_eq_false (by omega)
        clear c15
        (first | rw [c15b0] | (simp only [i64_w, i32_w]; rw [c15b0]) | skip)
        have H' := Aside0.mk H
        clear H
        go_wp2_with (first | ((with_reducible refine gate_callee (f := 8) rfl ?_); refine gL_ (some 23) Try.func8 #[] ?_; (with_reducible refine (ancepslaw54_awake.calls k1  true _ A11.out).mono ?_); rintro e w19 ⟨rfl, hb⟩; refine ⟨_, rfl, ?_⟩; have n0_ := jB BK305 hb; have n1_ := jL HB hb; clear BK305; clear HB; have BK305 := n0_; have HB := n1_; clear n0_ n1_; (try clear hb); have hcz20_0 := cZ BK305 0 (.slice A0_0 l0_0.length c0_0); have hfz20_0 := blk_frozen BK305.out 0) | (go_at_call 15; (with_reducible refine (ancepsref54_Few.calls k1 _ _ l0_0 true _ ?side1 ?side2 A13.out).mono ?_); (case side1 => exact iC HR0_0 HB); (case side2 => exact HC0_0.out); rintro e w21 ⟨rfl, hb⟩; have n0_ := jB BK305 hb; have n1_ := jL HB hb; clear BK305; clear HB; have BK305 := n0_; have HB := n1_; clear n0_ n1_; (try clear hb)))
        go_meet
        case rel => exact ⟨_, (decide (x5_1 > 2000)), eV, H', ⟨by have := HK1.out; first | omega | exact Nat.le_refl _⟩, ⟨iB BK305⟩, ⟨iL HB⟩⟩
      ·replace c14 := Bool.eq_false_iff.mpr c14
       subst c14
       have H1 : (ancepslaw54_WordlistChecks.j1 k1 l1 true l0_0) = some r := by rw [if_neg (show ¬ (false = true) by decide)] at H; exact H
       clear H
       have H := H1
       clear H1
       have H' := Aside0.mk H
       clear H
       go_wp2_with (first | ((with_reducible refine gate_callee (f := 8) rfl ?_); refine gL_ (some 23) Try.func8 #[] ?_; (with_reducible refine (ancepslaw54_awake.calls k1  true _ A11.out).mono ?_); rintro e w22 ⟨rfl, hb⟩; refine ⟨_, rfl, ?_⟩; have n0_ := jB BK305 hb; have n1_ := jL HB hb; clear BK305; clear HB; have BK305 := n0_; have HB := n1_; clear n0_ n1_; (try clear hb); have hcz23_0 := cZ BK305 0 (.slice A0_0 l0_0.length c0_0); have hfz23_0 := blk_frozen BK305.out 0) | (go_at_call 15; (with_reducible refine (ancepsref54_Few.calls k1 _ _ l0_0 false _ ?side1 ?side2 A13.out).mono ?_); (case side1 => exact iC HR0_0 HB); (case side2 => exact HC0_0.out); rintro e w24 ⟨rfl, hb⟩; have n0_ := jB BK305 hb; have n1_ := jL HB hb; clear BK305; clear HB; have BK305 := n0_; have HB := n1_; clear n0_ n1_; (try clear hb)))
       go_meet
       case rel => exact ⟨_, (true), eV, H', ⟨by have := HK1.out; first | omega | exact Nat.le_refl _⟩, ⟨iB BK305⟩, ⟨iL HB⟩⟩
     ·replace c12 := Bool.eq_false_iff.mpr c12
      subst c12
      have H1 : (ancepslaw54_WordlistChecks.j1 k1 l1 true l0_0) = some r := by rw [if_neg (show ¬ (false = true) by decide)] at H; exact H
      clear H
      have H := H1
      clear H1
      have H' := Aside0.mk H
      clear H
      go_wp2_with (first | ((with_reducible refine gate_callee (f := 8) rfl ?_); refine gL_ (some 23) Try.func8 #[] ?_; (with_reducible refine (ancepslaw54_awake.calls k1  false _ A11.out).mono ?_); rintro e w25 ⟨rfl, hb⟩; refine ⟨_, rfl, ?_⟩; have n0_ := jB BK305 hb; have n1_ := jL HB hb; clear BK305; clear HB; have BK305 := n0_; have HB := n1_; clear n0_ n1_; (try clear hb)))
      go_meet
      case rel => exact ⟨_, (true), eV, H', ⟨by have := HK1.out; first | omega | exact Nat.le_refl _⟩, ⟨iB BK305⟩, ⟨iL HB⟩⟩
    case rest =>
     clear HC10
     (try clear c1); (try clear p2); (try clear c3); (try clear p3); (try clear q3); (try clear hx3); (try clear c4); (try clear c4b0); (try clear c5); (try clear c5b0); (try clear c6); (try clear c6b0); (try clear p6); (try clear c8); (try clear c12); (try clear c14); (try clear c15); (try clear c15b0); (try clear c15b1); (try clear hcz17_0); (try clear hcz20_0); (try clear hcz23_0); (try clear hcz9_0); (try clear hcz9_1); (try clear hcz9_2); (try clear hfz17_0); (try clear hfz20_0); (try clear hfz23_0); (try clear hfz9_0); (try clear hfz9_1); (try clear hfz9_2); (try clear hx306_0); (try clear hx306_1); (try clear hx306_2); (try clear p2); (try clear p306); (try clear q306)
     obtain ⟨kq, x38_9, rfl, HA, HJ9, BK305, HB⟩ := hcut
     cases kq with
     | zero => exact absurd HA.out (by simp [ancepslaw54_WordlistChecks.j1])
     | succ kj9 =>
      have H := HA.out
      clear HA
      simp only [ancepslaw54_WordlistChecks.j1] at H
      by_cases c26 : x38_9 = true
      ·subst c26
       have H1 : ((ancepslaw54_awake.f kj9).bind fun t310 => (some t310)) = some r := by rw [if_pos rfl] at H; exact H
       clear H
       have H := H1
       clear H1
       replace H := Option.bind_eq_some_iff.mp H
       obtain ⟨t310, A270, H⟩ := H
       replace H : (some t310) = some r := H
       have A27 := Aside0.mk A270
       clear A270
       obtain rfl := Option.some.inj H
       go_wp2_with (first | ((with_reducible refine gate_callee (f := 8) rfl ?_); refine gL_ (some 39) Try.func8 #[] ?_; (with_reducible refine (ancepslaw54_awake.calls kj9  t310 _ A27.out).mono ?_); rintro e w28 ⟨rfl, hb⟩; refine ⟨_, rfl, ?_⟩; have n0_ := jB BK305 hb; have n1_ := jL HB hb; clear BK305; clear HB; have BK305 := n0_; have HB := n1_; clear n0_ n1_; (try clear hb)))
       go_ret
       exact ⟨eV, iL HB⟩
      ·replace c26 := Bool.eq_false_iff.mpr c26
       subst c26
       have H1 : (ancepslaw54_WordlistChecks.l1 kj9 l1 ([] : List (S46)) l1 (l1.length : Int) 0 l0_0) = some r := by rw [if_neg (show ¬ (false = true) by decide)] at H; exact H
       clear H
       have H := H1
       clear H1
       have H' := Aside0.mk H
       clear H
       go_wp2
       go_loopg [8, 42] kj9 (fun kq v8 v42 w' => ∃ (x8_3 : List (S46)) (x42_3 : Int), v42 = .int .i64 x42_3 ∧ Aside0 (ancepslaw54_WordlistChecks.l1 kq l1 x8_3 l1 (l1.length : Int) x42_3 l0_0 = some r) ∧ Aside0 (kq ≤ kj9) ∧ Aside0 (Kd.S k46 46 w' w.heap.size (fun _ => True) v8 x8_3) ∧ Aside0 (w'.heap[gb305]? = some (.cells #[(.slice A0_0 l0_0.length c0_0)] 26 (0, 0))) ∧ Aside0 (Below w.heap.size w w'))
       case atStart => exact ⟨(([] : List (S46))), (0), eV, H', ⟨Nat.le_refl _⟩, ⟨by first | exact Kd.S_nil _ _ _ _ _ | exact Kd.N_nil _ _ _ _ _ | exact Kd.V_nil _ _ _ _ _ | exact Kd.Q_nil _ _ _ _ _ | exact Kd.R_nil _ _ _ _ _⟩, ⟨iB BK305⟩, ⟨iL HB⟩⟩
       case round =>
        clear H'
        (try clear c1); (try clear c2); (try clear p2); (try clear c3); (try clear p3); (try clear q3); (try clear hx3); (try clear c4); (try clear c4b0); (try clear c5); (try clear c5b0); (try clear c6); (try clear c6b0); (try clear p6); (try clear c8); (try clear c12); (try clear c14); (try clear c15); (try clear c15b0); (try clear c15b1); (try clear c26); (try clear hcz17_0); (try clear hcz20_0); (try clear hcz23_0); (try clear hcz9_0); (try clear hcz9_1); (try clear hcz9_2); (try clear hfz17_0); (try clear hfz20_0); (try clear hfz23_0); (try clear hfz9_0); (try clear hfz9_1); (try clear hfz9_2); (try clear hx306_0); (try clear hx306_1); (try clear hx306_2); (try clear p2); (try clear p3); (try clear p306); (try clear p6); (try clear q3); (try clear q306)
        obtain ⟨x8_3, x42_3, rfl, HA, HK3, HO_8, BK305, HB⟩ := hrel
        cases gk with
        | zero => exact absurd HA.out (by simp [ancepslaw54_WordlistChecks.l1])
        | succ k3 =>
         have H := HA.out
         clear HA
         simp only [ancepslaw54_WordlistChecks.l1] at H
         by_cases c29 : x42_3 < (l1.length : Int)
         ·rw [if_pos c29] at H
          have c29b0 : decide (x42_3 < (l1.length : Int)) = true := decide_eq_true c29
          clear c29
          by_cases c30 : 0 ≤ x42_3
          ·rw [if_pos c30] at H
           have c30b0 : decide (0 ≤ x42_3) = true := decide_eq_true c30
           clear c30
           by_cases c31 : x42_3 < (l1.length : Int)
           ·rw [if_pos c31] at H
            have c31b0 : decide (x42_3 < (l1.length : Int)) = true := decide_eq_true c31
            clear c31
            replace H := Option.bind_eq_some_iff.mp H
            obtain ⟨t313, A320, H⟩ := H
            try dsimp only at H
            have A32 := Aside0.mk A320
            clear A320
            by_cases c33 : x8_3.length < 3518437208883
            ·rw [if_pos c33] at H
             have LMc33 := Aside0.mk c33
             clear c33
             obtain ⟨y316, hy316⟩ : ∃ y_ : List (S46), y_ = (x8_3 ++ [(⟨(rd_T46 l1 x42_3).f0, (rd_T46 l1 x42_3).f1, t313⟩ : S46)]) := ⟨_, rfl⟩
             replace H : (ancepslaw54_WordlistChecks.l1 k3 l1 y316 l1 (l1.length : Int) (wrap64 (x42_3 + 1)) l0_0) = some r := by first | (rw [hy316]; with_reducible exact H) | (have H2_ := (Option.bind_some _ _).symm.trans H; rw [hy316]; with_reducible exact H2_) | (have H2_ := (Option.bind_some _ _).symm.trans H; with_reducible exact H2_) | with_reducible exact H | (rw [hy316]; exact H) | exact H
             have Ny316 := Aside0.mk hy316
             clear hy316
             have H' := Aside0.mk H
             clear H
             have p311 := oD (0 ≤ (x42_3 : Int))
             have q311 := oD (x42_3 < (l1.length : Int))
             obtain ⟨ad311, A311_2, c311_2, e311, hx311_0, hx311_1, hx311_2, hl311_2, hi311_2⟩ := at_T46 HR1.out x42_3 p311 q311
             cases e311
             replace hx311_0 := (HB.out.cell (World.block_lt_of_cell? w _ hx311_0)).trans hx311_0
             replace hx311_1 := (HB.out.cell (World.block_lt_of_cell? w _ hx311_1)).trans hx311_1
             replace hx311_2 := (HB.out.cell (World.block_lt_of_cell? w _ hx311_2)).trans hx311_2
             have HR311_2 := Aside0.mk hi311_2
             have HC311_2 := Aside0.mk hl311_2
             clear hi311_2 hl311_2
             replace p311 := eq_true p311
             replace q311 := eq_true q311
             go_wp2_with (first | ((with_reducible refine gate_dst (N := 10) rfl ?_); (try (refine gate_guard (by rfl) ?_; dsimp only)); refine bX 10 #[.int .i64 0, .bool false, .slice none 0 0] 46 ?_; intro gb312 hg w34 hbox hb; have n0_ := Aside0.mk (Kd.S_below (Kd.S_elderB (iS HO_8) gb312 (Nat.le_of_eq hg.symm)) hb); have n1_ := jB BK305 hb; have n2_ := jL HB hb; have n3_ := Aside0.mk (hbox); have n4_ := Aside0.mk ((by rw [hg]; exact (below_size (iL HB)) : w.heap.size ≤ gb312)); have n5_ := Aside0.mk ((by rw [hg]; exact (below_size (iL HB)) : w.heap.size ≤ gb312)); have n6_ := Aside0.mk ((by rw [hg]; exact Nat.ne_of_lt (blk_lt (g := gb305) (o := .cells #[.slice A0_0 l0_0.length c0_0] 26 (0, 0)) (iB BK305)) : gb305 ≠ gb312)); have n7_ := Aside0.mk ((by rw [hg]; exact Nat.ne_of_gt (blk_lt (g := gb305) (o := .cells #[.slice A0_0 l0_0.length c0_0] 26 (0, 0)) (iB BK305)) : gb312 ≠ gb305)); clear HO_8; clear BK305; clear HB; have HO_8 := n0_; have BK305 := n1_; have HB := n2_; have BK312 := n3_; have GW312 := n4_; have GE312 := n5_; have NB305_312 := n6_; have NB312_305 := n7_; clear n0_ n1_ n2_ n3_ n4_ n5_ n6_ n7_; clear hb hbox hg; have hnb35 := NB312_305.out; have hnc35 := NB305_312.out; have hcz36_0 := cZ BK312 0 (.int .i64 0); have hcz36_1 := cZ BK312 1 (.bool false); have hcz36_2 := cZ BK312 2 (.slice none 0 0); have hfz36_0 := blk_frozen BK312.out 0; have hfz36_1 := blk_frozen BK312.out 1; have hfz36_2 := blk_frozen BK312.out 2) | ((with_reducible refine gate_callee (f := 20) rfl ?_); refine gL_ (some 48) Try.func20 #[.slice A311_2 ((rd_T46 l1 x42_3).f2).length c311_2] ?_; (with_reducible refine (slices_Clone_int_int.calls _ _ ((rd_T46 l1 x42_3).f2) t313 _ ?side1 ?side2 A32.out).mono ?_); (case side1 => exact Kd.C_below HR311_2.out (iL HB)); (case side2 => exact HC311_2.out); rintro e w37 ⟨v314, rfl, ho0, hb⟩; refine ⟨_, rfl, ?_⟩; have n0_ := Aside0.mk (Kd.S_elder' (by (with_reducible repeat (first | apply Kd.S_alloc | apply Kd.S_drewN | apply Kd.S_drew)); exact (Kd.S_mono (Kd.S_far (p := ⟨gb312, 2, none⟩) (Kd.S_far (p := ⟨gb312, 1, none⟩) (Kd.S_far (p := ⟨gb312, 0, none⟩) (Kd.S_mono HO_8.out (fun k_ hk => (⟨hk, hk.2⟩ : _ ∧ k_ ≠ gb312))) (fun _ hk => hk.2) (.int .i64 ((rd_T46 l1 x42_3).f0))) (fun _ hk => hk.2) (.bool ((rd_T46 l1 x42_3).f1))) (fun _ hk => hk.2) (.slice A311_2 ((rd_T46 l1 x42_3).f2).length c311_2)) (fun _ h_ => h_.1))) (Kd.R_base ho0) hb); have n1_ := Aside0.mk (Kd.R_lower ho0 (below_size (iL HB))); have n2_ := Aside0.mk (blk_below (g := gb305) (o := .cells #[.slice A0_0 l0_0.length c0_0] 26 (0, 0)) (by (with_reducible repeat (first | apply blk_drewN | apply blk_drew | apply blk_alloc)); refine blk_far ?_ NB305_312.out _; (with_reducible repeat (first | apply blk_drewN | apply blk_drew | apply blk_alloc)); refine blk_far ?_ NB305_312.out _; (with_reducible repeat (first | apply blk_drewN | apply blk_drew | apply blk_alloc)); refine blk_far ?_ NB305_312.out _; (with_reducible repeat (first | apply blk_drewN | apply blk_drew | apply blk_alloc)); exact BK305.out) hb); have n3_ := Aside0.mk (blk_below (g := gb312) (o := .cells #[.int .i64 ((rd_T46 l1 x42_3).f0), .bool ((rd_T46 l1 x42_3).f1), .slice A311_2 ((rd_T46 l1 x42_3).f2).length c311_2] 46 (0, 0)) (by (with_reducible repeat (first | apply blk_drewN | apply blk_drew | apply blk_alloc)); refine blk_put (cs := #[.int .i64 ((rd_T46 l1 x42_3).f0), .bool ((rd_T46 l1 x42_3).f1), .slice none 0 0]) ?_ 2 _ rfl; (with_reducible repeat (first | apply blk_drewN | apply blk_drew | apply blk_alloc)); refine blk_put (cs := #[.int .i64 ((rd_T46 l1 x42_3).f0), .bool false, .slice none 0 0]) ?_ 1 _ rfl; (with_reducible repeat (first | apply blk_drewN | apply blk_drew | apply blk_alloc)); refine blk_put (cs := #[.int .i64 0, .bool false, .slice none 0 0]) ?_ 0 _ rfl; (with_reducible repeat (first | apply blk_drewN | apply blk_drew | apply blk_alloc)); exact BK312.out) hb); have n4_ := jL HB hb; clear HO_8; clear BK305; clear BK312; clear HB; have HO_8 := n0_; have HO315 := n1_; have BK305 := n2_; have BK312 := n3_; have HB := n4_; clear n0_ n1_ n2_ n3_ n4_; (try clear hb); (try clear ho0); obtain ⟨Ao38, co38, eo38⟩ := Kd.R_slice HO315.out; subst eo38; have hcz39_0 := cZ BK312 0 (.int .i64 ((rd_T46 l1 x42_3).f0)); have hcz39_1 := cZ BK312 1 (.bool ((rd_T46 l1 x42_3).f1)); have hcz39_2 := cZ BK312 2 (.slice A311_2 ((rd_T46 l1 x42_3).f2).length c311_2); have hfz39_0 := blk_frozen BK312.out 0; have hfz39_1 := blk_frozen BK312.out 1; have hfz39_2 := blk_frozen BK312.out 2) | ((with_reducible refine gate_store (t := 44) (p := 49) rfl ?_); refine store_event (t := 44) (p := 49) (v := ?vo_w40) (w1 := (w37.setCell ⟨gb312, 2, none⟩ (.slice Ao38 t313.length co38))) ?hg ?ho ?hn ?hr ?_; (case ho => rfl); (case hg => rfl); (case hn => rfl); (case hr => first | (go_simp; done) | (go_simp; rfl)); intro w40 hw; have n0_ : Aside0 (Kd.S k46 46 w40 w.heap.size (fun k_ => some k_ ≠ (.slice Ao38 t313.length co38 : Value).ownBlock ∧ k_ ≠ gb312) u8 x8_3) := ⟨(by rw [hw]; exact (by (with_reducible repeat (first | apply Kd.S_alloc | apply Kd.S_drewN | apply Kd.S_drew)); exact Kd.S_mono (Kd.S_far (p := ⟨gb312, 2, none⟩) (Kd.S_mono HO_8.out (fun k_ hk => (⟨hk, hk.1.2⟩ : _ ∧ k_ ≠ gb312))) (fun _ hk => hk.2) (.slice Ao38 t313.length co38)) (fun _ hk => ⟨hk.1.2, hk.1.1.2⟩)))⟩; have n1_ : Aside0 (Kd.R (Kd.int .i64) 3 w40 w.heap.size (fun _ => True) (.slice Ao38 t313.length co38) t313) := ⟨(by rw [hw]; exact (by (with_reducible repeat (first | apply Kd.R_alloc | apply Kd.R_drewN | apply Kd.R_drew)); exact Kd.R_mono (Kd.R_far (p := ⟨gb312, 2, none⟩) (Kd.R_types HO315.out BK312.out (by decide)) (fun _ hk => hk.2) (.slice Ao38 t313.length co38)) (fun _ hk => trivial)))⟩; have n2_ : Aside0 (w40.heap[gb305]? = some (.cells #[.slice A0_0 l0_0.length c0_0] 26 (0, 0))) := ⟨(by rw [hw]; exact (by (with_reducible repeat (first | apply blk_drewN | apply blk_drew | apply blk_alloc)); refine blk_far ?_ NB305_312.out _; (with_reducible repeat (first | apply blk_drewN | apply blk_drew | apply blk_alloc)); exact BK305.out))⟩; have n3_ : Aside0 (w40.heap[gb312]? = some (.cells #[.int .i64 ((rd_T46 l1 x42_3).f0), .bool ((rd_T46 l1 x42_3).f1), .slice Ao38 t313.length co38] 46 (0, 0))) := ⟨(by rw [hw]; exact (by (with_reducible repeat (first | apply blk_drewN | apply blk_drew | apply blk_alloc)); refine blk_put (cs := #[.int .i64 ((rd_T46 l1 x42_3).f0), .bool ((rd_T46 l1 x42_3).f1), .slice A311_2 ((rd_T46 l1 x42_3).f2).length c311_2]) ?_ 2 _ rfl; (with_reducible repeat (first | apply blk_drewN | apply blk_drew | apply blk_alloc)); exact BK312.out))⟩; have n4_ : Aside0 (Below w.heap.size w w40) := ⟨(by rw [hw]; exact (iL HB))⟩; clear hw; clear HO_8; clear HO315; clear BK305; clear BK312; clear HB; have HO_8 := n0_; have HO315 := n1_; have BK305 := n2_; have BK312 := n3_; have HB := n4_; clear n0_ n1_ n2_ n3_ n4_; have hcz41_0 := cZ BK312 0 (.int .i64 ((rd_T46 l1 x42_3).f0)); have hcz41_1 := cZ BK312 1 (.bool ((rd_T46 l1 x42_3).f1)); have hcz41_2 := cZ BK312 2 (.slice Ao38 t313.length co38); have hfz41_0 := blk_frozen BK312.out 0; have hfz41_1 := blk_frozen BK312.out 1; have hfz41_2 := blk_frozen BK312.out 2) | ((with_reducible refine gate_builtin (b := .append) (xs := #[.tmp 50, .tmp 52]) rfl ?_); (try (refine gate_guard (by rfl) ?_; dsimp only)); at_builtin; refine Kd.S_append k46 (w0 := w) w.heap.size rfl (.tmp 50) (.tmp 52) 38 46 (.agg #[(.int .i64 0), (.bool false), (.slice none 0 0)]) 40 rfl Try.underlying38 info46 rfl (by decide) (by omega) u8 x8_3 (⟨(rd_T46 l1 x42_3).f0, (rd_T46 l1 x42_3).f1, t313⟩ : S46) [.int .i64 ((rd_T46 l1 x42_3).f0), .bool ((rd_T46 l1 x42_3).f1), .slice Ao38 t313.length co38] (fun k_ => k_ ≠ gb312) (fun k_ => some k_ = (.slice Ao38 t313.length co38 : Value).ownBlock) rfl rfl ?aP (fun k_ hk_ => ((Kd.R_mono (ok' := fun k_ => ((fun k_ => k_ ≠ gb312)) k_ ∧ some k_ ≠ (u8 : Value).ownBlock) (Kd.R_types (Kd.R_apart' (HO315.out) (Kd.S_typed HO_8.out) (by decide)) BK312.out (by decide)) (fun k_ hk => ⟨hk.2, hk.1.2⟩))).1 k_ hk_.symm) ?aF ?aO ?aB ?aS ?aL ?_; (case aP => exact k46_mkM _ _ _ (⟨(rd_T46 l1 x42_3).f0, (rd_T46 l1 x42_3).f1, t313⟩ : S46) (Kd.R_mono (Kd.R_tight rfl (Kd.R_mono (ok' := fun k_ => ((fun k_ => k_ ≠ gb312)) k_ ∧ some k_ ≠ (u8 : Value).ownBlock) (Kd.R_types (Kd.R_apart' (HO315.out) (Kd.S_typed HO_8.out) (by decide)) BK312.out (by decide)) (fun k_ hk => ⟨hk.2, hk.1.2⟩))) (fun _ h_ => h_))); (case aB => exact (iL HB)); (case aF => exact (fun k_ hk => Kd.freshB (g := gb312) (o := .cells #[.int .i64 ((rd_T46 l1 x42_3).f0), .bool ((rd_T46 l1 x42_3).f1), .slice Ao38 t313.length co38] 46 (0, 0)) (iB BK312) k_ hk)); (case aO => exact (by (with_reducible repeat (first | apply Kd.S_alloc | apply Kd.S_drewN | apply Kd.S_drew)); exact Kd.S_mono HO_8.out (fun k_ hk => ⟨hk.2, fun e_ => hk.1 e_⟩))); (case aS => exact (below_size (iL HB))); (case aL => have := LMc33.out; omega); intro v317 w42 ho hb hg hat; rw [← Ny316.out] at ho; have n0_ := Aside0.mk (blk_grown (g := gb305) (o := .cells #[.slice A0_0 l0_0.length c0_0] 26 (0, 0)) (iB BK305) hg (Kd.S_ne HO_8.out BK305.out (by decide))); have n1_ := Aside0.mk (blk_grown (g := gb312) (o := .cells #[.int .i64 ((rd_T46 l1 x42_3).f0), .bool ((rd_T46 l1 x42_3).f1), .slice Ao38 t313.length co38] 46 (0, 0)) (iB BK312) hg (Kd.S_away HO_8.out (fun _ hk => hk.2))); have n2_ := Aside0.mk (hb); have n3_ := Aside0.mk (ho); clear BK305; clear BK312; clear HB; clear HO_8; clear HO315; have BK305 := n0_; have BK312 := n1_; have HB := n2_; have HO318 := n3_; clear n0_ n1_ n2_ n3_; clear ho hb hg hat))
             go_roundg k3
             case measure => have := HK1.out; have := HJ9.out; have := HK3.out; omega
             case rel => exact ⟨(y316), (wrap64 (x42_3 + 1)), eV, H', ⟨by have := HK1.out; have := HJ9.out; have := HK3.out; omega⟩, ⟨by (with_reducible repeat (first | apply Kd.S_alloc | apply Kd.S_drewN | apply Kd.S_drew)); exact Kd.S_mono HO318.out (fun _ hk => trivial)⟩, ⟨iB BK305⟩, ⟨iL HB⟩⟩
            ·rw [if_neg c33] at H
             exact absurd H (by simp)
           ·rw [if_neg c31] at H
            exact absurd H (by simp)
          ·rw [if_neg c30] at H
           exact absurd H (by simp)
         ·rw [if_neg c29] at H
          have c29b0 : decide (x42_3 < (l1.length : Int)) = false := decide_eq_false c29
          clear c29
          replace H := Option.bind_eq_some_iff.mp H
          obtain ⟨t319, A430, H⟩ := H
          try dsimp only at H
          have A43 := Aside0.mk A430
          clear A430
          replace H := Option.bind_eq_some_iff.mp H
          obtain ⟨t322, A440, H⟩ := H
          try dsimp only at H
          have A44 := Aside0.mk A440
          clear A440
          replace H := Option.bind_eq_some_iff.mp H
          obtain ⟨t323, A450, H⟩ := H
          replace H : (some (t322 == t323)) = some r := H
          have A45 := Aside0.mk A450
          clear A450
          obtain rfl := Option.some.inj H
          try go_wp2
          have n0_ := Aside0.mk (Kd.S_drew HO_8.out)
          have n1_ := Aside0.mk (blk_drew BK305.out)
          have n2_ := Aside0.mk (below_drew1 HB.out)
          clear HO_8
          clear BK305
          clear HB
          have HO_8 := n0_
          have BK305 := n1_
          have HB := n2_
          clear n0_ n1_ n2_
          refine start_ (n := 9) (S := fun w' => w'.cell? ⟨gb305, 0, none⟩ = some (.slice A0_0 l0_0.length c0_0)) (ds := []) #[false, false, false, false, false, false, false, false, false] (by kernel_rfl) rfl rfl ((blk_cell BK305.out 0).trans rfl) (fun hHeld => ?_); refine with_tabW ancepslaw54_WordlistChecks.tab16 ancepslaw54_WordlistChecks.bits16 (fun HT_ HW_ => ?_)
          generalize wr.drew = w46 at HO_8 BK305 HB hHeld ⊢
          refine pv_ 2 (some 57) HT_ ?_
          refine pv_ 5 (some 60) HT_ ?_
          refine take_ (i := 0) (N := some 55) (v := ?_) (a' := ?_) #[true, false, true, false, false, true, false, false, false] rfl rfl (take_ofW HT_.out HW_.out (by kernel_rfl)) (fun _ _ _ h => h) (Or.inl ⟨by rfl, ?_⟩) hHeld ?_ ?_
          rotate_left
          ·intro w' s0
           go_simp
           with_reducible rfl
          rotate_left
          ·simp only [Act.put, List.setIfInBounds_toArray, List.set_cons_zero, List.set_cons_succ, i64_w, i32_w]
           rfl
          refine take_ (i := 4) (N := some 59) (v := ?_) (a' := ?_) #[true, false, true, false, true, true, false, false, false] rfl rfl (take_ofW HT_.out HW_.out (by kernel_rfl)) (fun _ _ _ h => h) (Or.inl ⟨by rfl, ?_⟩) hHeld ?_ ?_
          rotate_left
          ·intro w' s0
           go_simp
           with_reducible rfl
          rotate_left
          ·simp only [Act.put, List.setIfInBounds_toArray, List.set_cons_zero, List.set_cons_succ, i64_w, i32_w]
           rfl
          refine one_ (i := 1) (N := some 56) #[true, true, true, false, true, true, false, false, false] rfl rfl (one_of HT_.out (by kernel_rfl)) (by decide) (fun K hK => ?_)
          refine goes_ Try.func13 (by kernel_rfl) rfl #[.agg #[.slice A0_0 l0_0.length c0_0]] (by rfl) rfl rfl (by (try simp only [List.map_toArray, List.map_cons, List.map_nil]); first | done | rfl | (simp only [List.length_drop, List.length_take]; rfl)) ?_
          with_reducible refine (ancepslaw54_copied.calls _ _ l0_0 t319 _ ?side1 ?side2 A43.out).mono ?_
          (case side1 => exact iC HR0_0 HB)
          (case side2 => exact HC0_0.out)
          rintro e w47 ⟨v320, rfl, ho0, hb⟩
          refine ⟨_, rfl, ?_⟩
          have n0_ := Aside0.mk (Kd.S_below (iS HO_8) hb)
          have n1_ := Aside0.mk (Kd.R_lower ho0 (below_size (iL HB)))
          have n2_ := jB BK305 hb
          have n3_ := jL HB hb
          clear HO_8
          clear BK305
          clear HB
          have HO_8 := n0_
          have HO321 := n1_
          have BK305 := n2_
          have HB := n3_
          clear n0_ n1_ n2_ n3_
          (try clear hb)
          (try clear hb2)
          (try clear hk)
          (try clear hi)
          (try clear ho0)
          obtain ⟨Ao48, co48, eo48⟩ := Kd.R_slice HO321.out
          (first | subst eo48 | (injection eo48 with f1_ f2_ f3_; have f4_ := f1_.symm; have f5_ := f3_.symm; clear f1_ f2_ f3_; subst f4_; subst f5_))
          obtain ⟨Ao49, co49, eo49⟩ := Kd.S_slice HO_8.out
          (first | subst eo49 | (injection eo49 with f1_ f2_ f3_; have f4_ := f1_.symm; have f5_ := f3_.symm; clear f1_ f2_ f3_; subst f4_; subst f5_))
          refine hK.out _ _ ((blk_cell BK305.out 0).trans rfl) (fun hHeld => ?_)
          clear hK K
          refine norm_ (a' := ?_) ?_ ?_
          rotate_left
          ·show Act.put _ (some 56) _ = _
           simp only [Act.put, List.setIfInBounds_toArray, List.set_cons_zero, List.set_cons_succ, i64_w, i32_w]
           rfl
          refine one_ (i := 3) (N := some 58) #[true, true, true, true, true, true, false, false, false] rfl rfl (one_of HT_.out (by kernel_rfl)) (by decide) (fun K hK => ?_)
          refine goes_ Try.func19 (by kernel_rfl) rfl #[.agg #[.slice Ao48 t319.length co48], .slice Ao49 x8_3.length co49] (by rfl) rfl rfl (by (try simp only [List.map_toArray, List.map_cons, List.map_nil]); first | done | rfl | (simp only [List.length_drop, List.length_take]; rfl)) ?_
          with_reducible refine (wordlist_CheckTree.calls k3 _ _ t319 _ _ x8_3 t322 _ ?side1 ?side2 ?side3 ?side4 A44.out).mono ?_
          (case side1 => repeat (first | exact (Kd.R_reads' HO321.out).2.2 | (with_reducible refine Kd.C_alloc ?_ _) | (with_reducible refine Kd.C_drewN ?_ _) | (with_reducible refine Kd.C_drew ?_)))
          (case side2 => exact (Kd.R_reads' HO321.out).2.1)
          (case side3 => repeat (first | exact (Kd.S_reads' HO_8.out).2.2 | (with_reducible refine Kd.C_alloc ?_ _) | (with_reducible refine Kd.C_drewN ?_ _) | (with_reducible refine Kd.C_drew ?_)))
          (case side4 => exact (Kd.S_reads' HO_8.out).2.1)
          rintro e w50 ⟨rfl, hb⟩
          refine ⟨_, rfl, ?_⟩
          have n0_ := Aside0.mk (Kd.S_below (iS HO_8) hb)
          have n1_ := jR HO321 hb
          have n2_ := jB BK305 hb
          have n3_ := jL HB hb
          clear HO_8
          clear HO321
          clear BK305
          clear HB
          have HO_8 := n0_
          have HO321 := n1_
          have BK305 := n2_
          have HB := n3_
          clear n0_ n1_ n2_ n3_
          (try clear hb)
          (try clear hb2)
          (try clear hk)
          (try clear hi)
          refine hK.out _ _ ((blk_cell BK305.out 0).trans rfl) (fun hHeld => ?_)
          clear hK K
          refine norm_ (a' := ?_) ?_ ?_
          rotate_left
          ·show Act.put _ (some 58) _ = _
           simp only [Act.put, List.setIfInBounds_toArray, List.set_cons_zero, List.set_cons_succ, i64_w, i32_w]
           rfl
          refine one_ (i := 6) (N := some 61) #[true, true, true, true, true, true, true, false, false] rfl rfl (one_of HT_.out (by kernel_rfl)) (by decide) (fun K hK => ?_)
          refine goes_ Try.func21 (by kernel_rfl) rfl #[.agg #[.slice A0_0 l0_0.length c0_0], .slice A1 l1.length c1] (by rfl) rfl rfl (by (try simp only [List.map_toArray, List.map_cons, List.map_nil]); first | done | rfl | (simp only [List.length_drop, List.length_take]; rfl)) ?_
          with_reducible refine (ancepsref54_CheckTree.calls k3 _ _ l0_0 _ _ l1 t323 _ ?side1 ?side2 ?side3 ?side4 A45.out).mono ?_
          (case side1 => exact iC HR0_0 HB)
          (case side2 => exact HC0_0.out)
          (case side3 => exact iC HR1 HB)
          (case side4 => exact HC1.out)
          rintro e w51 ⟨rfl, hb⟩
          refine ⟨_, rfl, ?_⟩
          have n0_ := Aside0.mk (Kd.S_below (iS HO_8) hb)
          have n1_ := jR HO321 hb
          have n2_ := jB BK305 hb
          have n3_ := jL HB hb
          clear HO_8
          clear HO321
          clear BK305
          clear HB
          have HO_8 := n0_
          have HO321 := n1_
          have BK305 := n2_
          have HB := n3_
          clear n0_ n1_ n2_ n3_
          (try clear hb)
          (try clear hb2)
          (try clear hk)
          (try clear hi)
          refine hK.out _ _ ((blk_cell BK305.out 0).trans rfl) (fun hHeld => ?_)
          clear hK K
          refine norm_ (a' := ?_) ?_ ?_
          rotate_left
          ·show Act.put _ (some 61) _ = _
           simp only [Act.put, List.setIfInBounds_toArray, List.set_cons_zero, List.set_cons_succ, i64_w, i32_w]
           rfl
          refine pv_ 7 (some 62) HT_ ?_
          refine pv_ 8 (some 4) HT_ ?_
          refine done_ (done_of HT_.out (by kernel_rfl)) ?_
          try go_wp2
          go_ret
          exact ⟨eV, iL HB⟩

/-- THE ONE PURE STATEMENT of ancepslaw54_WordlistChecks: yours. -/
def ancepslaw54_WordlistChecks.Pure : Prop := ∀ (l0_0 : List ByteArray) (l1 : List (S46)), l0_0.length ≤ maxLen → l0_0.length * 16 ≤ 140737488351232 → (∀ x ∈ l0_0, x.size ≤ 140737488351232) → l1.length ≤ maxLen → l1.length * 40 ≤ 140737488351232 → (∀ x ∈ l1, (Lit.int .i64 x.f0).wf = true ∧ True ∧ (x.f2.length ≤ maxLen ∧ x.f2.length * 8 ≤ 140737488351232 ∧ ∀ y0 ∈ x.f2, (Lit.int .i64 y0).wf = true)) → ∃ k, ancepslaw54_WordlistChecks.f k l0_0 l1 = some true
theorem ancepslaw54_WordlistChecks.walk (P : ancepslaw54_WordlistChecks.Pure) (A0_0 : Option Addr) (c0_0 : Nat) (l0_0 : List ByteArray) (a1 : Option Addr) (cap1 : Nat) (l1 : List (S46)) (w : World) (hr0_0 : Kd.C Kd.string w A0_0 l0_0.length l0_0) (hc0_0 : l0_0.length ≤ c0_0) (hm0_0 : l0_0.length ≤ maxLen) (y0_0 : l0_0.length * 16 ≤ 140737488351232) (hw0_0 : ∀ x ∈ l0_0, x.size ≤ 140737488351232) (hr1 : Kd.C k46 w a1 l1.length l1) (hc1 : l1.length ≤ cap1) (hm1 : l1.length ≤ maxLen) (y1 : l1.length * 40 ≤ 140737488351232) (hw1 : ∀ x ∈ l1, (Lit.int .i64 x.f0).wf = true ∧ True ∧ (x.f2.length ≤ maxLen ∧ x.f2.length * 8 ≤ 140737488351232 ∧ ∀ y0 ∈ x.f2, (Lit.int .i64 y0).wf = true)) :
  Calls Try.prog 6 #[.agg #[.slice A0_0 l0_0.length c0_0], .slice a1 l1.length cap1] w fun e w' => e = .returned (.bool true) ∧ Below w.heap.size w w' := by
 obtain ⟨k, h⟩ := P l0_0 l1 hm0_0 y0_0 hw0_0 hm1 y1 hw1
 refine (ancepslaw54_WordlistChecks.calls k _ _ l0_0 _ _ l1 true w hr0_0 hc0_0 hr1 hc1 h).mono ?_
 rintro e w' ⟨rfl, hd⟩
 exact ⟨rfl, hd⟩

end Go.Proofs.Ytdaooagikacboaa.X
