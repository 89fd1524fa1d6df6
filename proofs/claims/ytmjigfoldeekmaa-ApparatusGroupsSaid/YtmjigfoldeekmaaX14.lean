-- shortened
-- thinned
-- halved indents
-- printed by this session's xprint.py: out of the translation, by the kit's print with additions; Lean checks it
import Derived.Test.YtmjigfoldeekmaaWN
import Derived.Test.YtmjigfoldeekmaaWShare
import Derived.Test.YtmjigfoldeekmaaWRepsOne
import Derived.Test.YtmjigfoldeekmaaWGuard
import Derived.Test.YtmjigfoldeekmaaX0
import Derived.Test.YtmjigfoldeekmaaX12
import Derived.Test.YtmjigfoldeekmaaXA
namespace Go.Proofs.Ytmjigfoldeekmaa.X
open Go.RowKit Go.Proofs.YtmjigfoldeekmaaW.PrintWords Go.Proofs.YtmjigfoldeekmaaW.PrintLast Go.Proofs.YtmjigfoldeekmaaW.PrintMore
attribute [local go_sem] max2_int min2_int max_two min_two max_three min_three max_four min_four isSome_setCell binOp_gtr_str binOp_leq_str binOp_geq_str   -- for this text's walks alone
set_option linter.unusedVariables false
set_option linter.unusedSimpArgs false

/-! ### ancepsref57_Few: function 22 -/
mutual
def ancepsref57_Few.l0 : Nat → Int → Int → List ByteArray → List (S65) → Option (Bool)
 | 0, _, _, _, _ => none
 | k + 1, x3, x4, x243000, x243001 => if x4 < (x243001.length : Int) then (ancepsref57_Few.j1 k x3 x4 (decide (x3 ≤ 4000)) x243000 x243001) else (ancepsref57_Few.j1 k x3 x4 false x243000 x243001)
def ancepsref57_Few.j1 : Nat → Int → Int → Bool → List ByteArray → List (S65) → Option (Bool)
 | 0, _, _, _, _, _ => none
 | k + 1, x3, x4, x17, x243000, x243001 => if x17 = true then (if 0 ≤ x4 then (if x4 < (x243001.length : Int) then (ancepsref57_Few.l1 k (wrap64 ((wrap64 (x3 + 1)) + (((rd_T65 x243001 x4).f0).size : Int))) x4 0 x243000 x243001) else (none)) else (none)) else (if (x243000.length : Int) ≤ 12 then (if (x243001.length : Int) ≤ 210 then (some (decide (x3 ≤ 4000))) else (some false)) else (some false))
def ancepsref57_Few.l1 : Nat → Int → Int → Int → List ByteArray → List (S65) → Option (Bool)
 | 0, _, _, _, _, _ => none
 | k + 1, x3, x4, x5, x243000, x243001 => if 0 ≤ x4 then (if x4 < (x243001.length : Int) then (if x5 < (((rd_T65 x243001 x4).f1).length : Int) then (if x3 ≤ 4000 then (if 0 ≤ x5 then (ancepsref57_Few.l1 k (wrap64 ((wrap64 (x3 + 1)) + (((rd_T67 ((rd_T65 x243001 x4).f1) x5).f0).size : Int))) x4 (wrap64 (x5 + 1)) x243000 x243001) else (none)) else (ancepsref57_Few.l0 k x3 (wrap64 (x4 + 1)) x243000 x243001)) else (ancepsref57_Few.l0 k x3 (wrap64 (x4 + 1)) x243000 x243001)) else (none)) else (none)
end
def ancepsref57_Few.f (k : Nat) (l0_0 : List ByteArray) (l0_1 : List (S65)) : Option (Bool) := (ancepsref01_Sum.f k l0_0 4000).bind fun t243 => (ancepsref57_Few.l0 k t243 0 l0_0 l0_1)
theorem ancepsref57_Few.mono_l : ∀ k, (∀ y0 y1 y2 y3, LeO (ancepsref57_Few.l0 k y0 y1 y2 y3) (ancepsref57_Few.l0 (k + 1) y0 y1 y2 y3)) ∧ (∀ y0 y1 y2 y3 y4, LeO (ancepsref57_Few.j1 k y0 y1 y2 y3 y4) (ancepsref57_Few.j1 (k + 1) y0 y1 y2 y3 y4)) ∧ (∀ y0 y1 y2 y3 y4, LeO (ancepsref57_Few.l1 k y0 y1 y2 y3 y4) (ancepsref57_Few.l1 (k + 1) y0 y1 y2 y3 y4))
 | 0 => ⟨fun _ _ _ _ r h => by simp [ancepsref57_Few.l0] at h, fun _ _ _ _ _ r h => by simp [ancepsref57_Few.j1] at h, fun _ _ _ _ _ r h => by simp [ancepsref57_Few.l1] at h⟩
 | k + 1 => by
  obtain ⟨ih0, ih1, ih2⟩ := ancepsref57_Few.mono_l k
  refine ⟨?_, ?_, ?_⟩
  ·intro y0 y1 y2 y3
   unfold ancepsref57_Few.l0
   repeat' first
   | (with_reducible exact ih0 _ _ _ _)
   | (with_reducible exact ih1 _ _ _ _ _)
   | (with_reducible exact ih2 _ _ _ _ _)
   | (with_reducible exact ancepsref01_Sum.mono _ _ _)
   | (with_reducible exact LeO.refl _)
   | (with_reducible exact LeO.none _)
   | (with_reducible refine LeO.ite ?_ ?_)
   | (with_reducible refine LeO.bind ?_ (fun _ => ?_))
   | exact ih0 _ _ _ _
   | exact ih1 _ _ _ _ _
   | exact ih2 _ _ _ _ _
   | exact ancepsref01_Sum.mono _ _ _
   | exact LeO.none _
   | refine LeO.ite ?_ ?_
   | refine LeO.bind ?_ (fun _ => ?_)
  ·intro y0 y1 y2 y3 y4
   unfold ancepsref57_Few.j1
   repeat' first
   | (with_reducible exact ih0 _ _ _ _)
   | (with_reducible exact ih1 _ _ _ _ _)
   | (with_reducible exact ih2 _ _ _ _ _)
   | (with_reducible exact ancepsref01_Sum.mono _ _ _)
   | (with_reducible exact LeO.refl _)
   | (with_reducible exact LeO.none _)
   | (with_reducible refine LeO.ite ?_ ?_)
   | (with_reducible refine LeO.bind ?_ (fun _ => ?_))
   | exact ih0 _ _ _ _
   | exact ih1 _ _ _ _ _
   | exact ih2 _ _ _ _ _
   | exact ancepsref01_Sum.mono _ _ _
   | exact LeO.none _
   | refine LeO.ite ?_ ?_
   | refine LeO.bind ?_ (fun _ => ?_)
  ·intro y0 y1 y2 y3 y4
   unfold ancepsref57_Few.l1
   repeat' first
   | (with_reducible exact ih0 _ _ _ _)
   | (with_reducible exact ih1 _ _ _ _ _)
   | (with_reducible exact ih2 _ _ _ _ _)
   | (with_reducible exact ancepsref01_Sum.mono _ _ _)
   | (with_reducible exact LeO.refl _)
   | (with_reducible exact LeO.none _)
   | (with_reducible refine LeO.ite ?_ ?_)
   | (with_reducible refine LeO.bind ?_ (fun _ => ?_))
   | exact ih0 _ _ _ _
   | exact ih1 _ _ _ _ _
   | exact ih2 _ _ _ _ _
   | exact ancepsref01_Sum.mono _ _ _
   | exact LeO.none _
   | refine LeO.ite ?_ ?_
   | refine LeO.bind ?_ (fun _ => ?_)
theorem ancepsref57_Few.mono : ∀ a0 a1 k, LeO (ancepsref57_Few.f k a0 a1) (ancepsref57_Few.f (k + 1) a0 a1) := by
 intro a0 a1 k
 obtain ⟨ih0, ih1, ih2⟩ := ancepsref57_Few.mono_l k
 unfold ancepsref57_Few.f
 repeat' first
   | (with_reducible exact ih0 _ _ _ _)
   | (with_reducible exact ih1 _ _ _ _ _)
   | (with_reducible exact ih2 _ _ _ _ _)
   | (with_reducible exact ancepsref01_Sum.mono _ _ _)
   | (with_reducible exact LeO.refl _)
   | (with_reducible exact LeO.none _)
   | (with_reducible refine LeO.ite ?_ ?_)
   | (with_reducible refine LeO.bind ?_ (fun _ => ?_))
   | exact ih0 _ _ _ _
   | exact ih1 _ _ _ _ _
   | exact ih2 _ _ _ _ _
   | exact ancepsref01_Sum.mono _ _ _
   | exact LeO.none _
   | refine LeO.ite ?_ ?_
   | refine LeO.bind ?_ (fun _ => ?_)
set_option maxHeartbeats 8000000 in
set_option maxRecDepth 100000 in
theorem ancepsref57_Few.calls (k : Nat) (A0_0 : Option Addr) (c0_0 : Nat) (l0_0 : List ByteArray) (A0_1 : Option Addr) (c0_1 : Nat) (l0_1 : List (S65)) (r : Bool) (w : World) (hr0_0 : Kd.C Kd.string w A0_0 l0_0.length l0_0) (hc0_0 : l0_0.length ≤ c0_0) (hr0_1 : Kd.C k65 w A0_1 l0_1.length l0_1) (hc0_1 : l0_1.length ≤ c0_1) (h : ancepsref57_Few.f k l0_0 l0_1 = some r) :
  Calls Try.prog 22 #[.agg #[.slice A0_0 l0_0.length c0_0, .slice A0_1 l0_1.length c0_1]] w fun e w' => e = .returned (.bool r) ∧ Below w.heap.size w w' := by
 have hu42 := Try.underlying42
 have HR0_0 := Aside0.mk hr0_0
 have HC0_0 := Aside0.mk hc0_0
 clear hr0_0 hc0_0
 have HR0_1 := Aside0.mk hr0_1
 have HC0_1 := Aside0.mk hc0_1
 clear hr0_1 hc0_1
 have HB := Aside0.mk (Below.refl w.heap.size w)
 have H : ((ancepsref01_Sum.f k l0_0 4000).bind fun t243 => (ancepsref57_Few.l0 k t243 0 l0_0 l0_1)) = some r := h
 clear h
 replace H := Option.bind_eq_some_iff.mp H
 obtain ⟨t243, A20, H⟩ := H
 try dsimp only at H
 have A2 := Aside0.mk A20
 clear A20
 have H' := Aside0.mk H
 clear H
 go_enter Try.func22, Try.ntmps22
 go_wp2_with (first | ((with_reducible refine gate_dst (N := 1) rfl ?_); (try (refine gate_guard (by rfl) ?_; dsimp only)); refine bX 1 #[.slice A0_0 l0_0.length c0_0, .slice A0_1 l0_1.length c0_1] 42 ?_; intro gb242 hg w3 hbox hb; have n0_ := jL HB hb; have n1_ := Aside0.mk (hbox); have n2_ := Aside0.mk ((by rw [hg]; exact (below_size (iL HB)) : w.heap.size ≤ gb242)); have n3_ := Aside0.mk ((by rw [hg]; exact (below_size (iL HB)) : w.heap.size ≤ gb242)); clear HB; have HB := n0_; have BK242 := n1_; have GW242 := n2_; have GE242 := n3_; clear n0_ n1_ n2_ n3_; clear hb hbox hg; have hcz4_0 := cZ BK242 0 (.slice A0_0 l0_0.length c0_0); have hcz4_1 := cZ BK242 1 (.slice A0_1 l0_1.length c0_1); have hfz4_0 := blk_frozen BK242.out 0; have hfz4_1 := blk_frozen BK242.out 1) | ((with_reducible refine gate_callee (f := 15) rfl ?_); refine gL_ (some 8) Try.func15 #[.slice A0_0 l0_0.length c0_0, .int .i64 4000] ?_; (with_reducible refine (ancepsref01_Sum.calls k _ _ l0_0 4000 t243 _ ?side1 ?side2 A2.out).mono ?_); (case side1 => exact iC HR0_0 HB); (case side2 => exact HC0_0.out); rintro e w' ⟨rfl, ⟨nd, rfl⟩⟩; refine ⟨_, rfl, ?_⟩))
 go_loopg [3, 4] k (fun kq v3 v4 w' => ∃ (x3_1 : Int) (x4_1 : Int), v3 = .int .i64 x3_1 ∧ v4 = .int .i64 x4_1 ∧ Aside0 (ancepsref57_Few.l0 kq x3_1 x4_1 l0_0 l0_1 = some r) ∧ Aside0 (kq ≤ k) ∧ Aside0 (w'.heap[gb242]? = some (.cells #[(.slice A0_0 l0_0.length c0_0), (.slice A0_1 l0_1.length c0_1)] 42 (0, 0))) ∧ Aside0 (Below w.heap.size w w'))
 case atStart => exact ⟨(t243), (0), (by first | rfl | (simp; done) | (simp [*]; done)), (by first | rfl | (simp; done) | (simp [*]; done)), H', ⟨Nat.le_refl _⟩, ⟨by (with_reducible repeat (first | apply blk_drewN | apply blk_drew | apply blk_alloc)); exact BK242.out⟩, ⟨by repeat (first | (with_reducible first | exact HB.out | apply below_alloc | apply pw_below_drewN | apply below_drew1 | refine below_set ?_ GE242.out) | exact HB.out)⟩⟩
 case round =>
  clear H'
  try clear c1
  try clear c2
  try clear p2
  try clear hcz4_0
  try clear hcz4_1
  try clear hfz4_0
  try clear hfz4_1
  obtain ⟨x3_1, x4_1, rfl, rfl, HA, HK1, BK242, HB⟩ := hrel
  cases gk with
  | zero => exact absurd HA.out (by simp [ancepsref57_Few.l0])
  | succ k1 =>
   have H := HA.out
   clear HA
   simp only [ancepsref57_Few.l0] at H
   have HC5 := Aside0.mk H
   clear H
   go_upto_region 3 with (fail)
   go_cut [17] (fun v17 wc => ∃ (kq : Nat) (x17_4 : Bool), v17 = .bool x17_4 ∧ Aside0 (ancepsref57_Few.j1 kq x3_1 x4_1 x17_4 l0_0 l0_1 = some r) ∧ Aside0 (kq ≤ k1) ∧ Aside0 (wc.heap[gb242]? = some (.cells #[(.slice A0_0 l0_0.length c0_0), (.slice A0_1 l0_1.length c0_1)] 42 (0, 0))) ∧ Aside0 (Below w.heap.size w wc))
   case first =>
    have H := HC5.out
    clear HC5
    by_cases c6 : x4_1 < (l0_1.length : Int)
    ·rw [if_pos c6] at H
     have c6b0 : decide (x4_1 < (l0_1.length : Int)) = true := decide_eq_true c6
     clear c6
     (first | rw [c6b0] | (simp only [i64_w, i32_w]; rw [c6b0]) | skip)
     have H' := Aside0.mk H
     clear H
     have hcz7_0 := cZ BK242 0 (.slice A0_0 l0_0.length c0_0)
     have hcz7_1 := cZ BK242 1 (.slice A0_1 l0_1.length c0_1)
     have hfz7_0 := blk_frozen BK242.out 0
     have hfz7_1 := blk_frozen BK242.out 1
     go_wp2
     go_meet
     case rel => exact ⟨_, (decide (x3_1 ≤ 4000)), (by first | rfl | (simp; done) | (simp [*]; done)), H', ⟨by have := HK1.out; first | omega | exact Nat.le_refl _⟩, ⟨by (with_reducible repeat (first | apply blk_drewN | apply blk_drew | apply blk_alloc)); exact BK242.out⟩, ⟨by repeat (first | (with_reducible first | exact HB.out | apply below_alloc | apply pw_below_drewN | apply below_drew1 | refine below_set ?_ GE242.out) | exact HB.out)⟩⟩
    ·rw [if_neg c6] at H
     have c6b0 : decide (x4_1 < (l0_1.length : Int)) = false := decide_eq_false c6
     clear c6
     (first | rw [c6b0] | (simp only [i64_w, i32_w]; rw [c6b0]) | skip)
     have H' := Aside0.mk H
     clear H
     have hcz8_0 := cZ BK242 0 (.slice A0_0 l0_0.length c0_0)
     have hcz8_1 := cZ BK242 1 (.slice A0_1 l0_1.length c0_1)
     have hfz8_0 := blk_frozen BK242.out 0
     have hfz8_1 := blk_frozen BK242.out 1
     go_wp2
     go_meet
     case rel => exact ⟨_, (false), (by first | rfl | (simp; done) | (simp [*]; done)), H', ⟨by have := HK1.out; first | omega | exact Nat.le_refl _⟩, ⟨by (with_reducible repeat (first | apply blk_drewN | apply blk_drew | apply blk_alloc)); exact BK242.out⟩, ⟨by repeat (first | (with_reducible first | exact HB.out | apply below_alloc | apply pw_below_drewN | apply below_drew1 | refine below_set ?_ GE242.out) | exact HB.out)⟩⟩
   case rest =>
    clear HC5
    try clear c1
    try clear c2
    try clear p2
    try clear c6
    try clear c6b0
    try clear hcz4_0
    try clear hcz4_1
    try clear hcz7_0
    try clear hcz7_1
    try clear hcz8_0
    try clear hcz8_1
    try clear hfz4_0
    try clear hfz4_1
    try clear hfz7_0
    try clear hfz7_1
    try clear hfz8_0
    try clear hfz8_1
    try clear p2
    obtain ⟨kq, x17_4, rfl, HA, HJ4, BK242, HB⟩ := hcut
    cases kq with
    | zero => exact absurd HA.out (by simp [ancepsref57_Few.j1])
    | succ kj4 =>
     have H := HA.out
     clear HA
     simp only [ancepsref57_Few.j1] at H
     by_cases c9 : x17_4 = true
     ·subst c9
      have H1 : (if 0 ≤ x4_1 then (if x4_1 < (l0_1.length : Int) then (ancepsref57_Few.l1 kj4 (wrap64 ((wrap64 (x3_1 + 1)) + (((rd_T65 l0_1 x4_1).f0).size : Int))) x4_1 0 l0_0 l0_1) else (none)) else (none)) = some r := by rw [if_pos rfl] at H; exact H
      clear H
      have H := H1
      clear H1
      by_cases c10 : 0 ≤ x4_1
      ·rw [if_pos c10] at H
       have c10b0 : decide (0 ≤ x4_1) = true := decide_eq_true c10
       clear c10
       by_cases c11 : x4_1 < (l0_1.length : Int)
       ·rw [if_pos c11] at H
        have c11b0 : decide (x4_1 < (l0_1.length : Int)) = true := decide_eq_true c11
        clear c11
        have H' := Aside0.mk H
        clear H
        have hcz12_0 := cZ BK242 0 (.slice A0_0 l0_0.length c0_0)
        have hcz12_1 := cZ BK242 1 (.slice A0_1 l0_1.length c0_1)
        have hfz12_0 := blk_frozen BK242.out 0
        have hfz12_1 := blk_frozen BK242.out 1
        have p244 : 0 ≤ (x4_1 : Int) := of_decide_eq_true (by first | (with_reducible assumption) | assumption)
        have q244 : x4_1 < (l0_1.length : Int) := of_decide_eq_true (by first | (with_reducible assumption) | assumption)
        obtain ⟨ad244, A244_1, c244_1, e244, hx244_0, hx244_1, hl244_1, hi244_1⟩ := at_T65 HR0_1.out x4_1 p244 q244
        cases e244
        replace hx244_0 := (HB.out.cell (World.block_lt_of_cell? w _ hx244_0)).trans hx244_0
        replace hx244_1 := (HB.out.cell (World.block_lt_of_cell? w _ hx244_1)).trans hx244_1
        have HR244_1 := Aside0.mk hi244_1
        have HC244_1 := Aside0.mk hl244_1
        clear hi244_1 hl244_1
        replace p244 := eq_true p244
        replace q244 := eq_true q244
        go_wp2
        go_loopg [3, 5] kj4 (fun kq v3 v5 w' => ∃ (x3_3 : Int) (x5_3 : Int), v3 = .int .i64 x3_3 ∧ v5 = .int .i64 x5_3 ∧ Aside0 (ancepsref57_Few.l1 kq x3_3 x4_1 x5_3 l0_0 l0_1 = some r) ∧ Aside0 (kq ≤ kj4) ∧ Aside0 (w'.heap[gb242]? = some (.cells #[(.slice A0_0 l0_0.length c0_0), (.slice (some ad244) l0_1.length c0_1)] 42 (0, 0))) ∧ Aside0 (Below w.heap.size w w'))
        case atStart => exact ⟨(wrap64 ((wrap64 (x3_1 + 1)) + (((rd_T65 l0_1 x4_1).f0).size : Int))), (0), (by first | rfl | (simp; done) | (simp [*]; done)), (by first | rfl | (simp; done) | (simp [*]; done)), H', ⟨Nat.le_refl _⟩, ⟨by (with_reducible repeat (first | apply blk_drewN | apply blk_drew | apply blk_alloc)); exact BK242.out⟩, ⟨by repeat (first | (with_reducible first | exact HB.out | apply below_alloc | apply pw_below_drewN | apply below_drew1 | refine below_set ?_ GE242.out) | exact HB.out)⟩⟩
        case round =>
         clear H'
         try clear c1
         try clear c2
         try clear p2
         try clear q2
         try clear hx2
         try clear c6
         try clear c6b0
         try clear p6
         try clear c9
         try clear c10
         try clear c10b0
         try clear c11
         try clear c11b0
         try clear hcz12_0
         try clear hcz12_1
         try clear hcz4_0
         try clear hcz4_1
         try clear hcz7_0
         try clear hcz7_1
         try clear hcz8_0
         try clear hcz8_1
         try clear hfz12_0
         try clear hfz12_1
         try clear hfz4_0
         try clear hfz4_1
         try clear hfz7_0
         try clear hfz7_1
         try clear hfz8_0
         try clear hfz8_1
         try clear hx244_0
         try clear hx244_1
         try clear p2
         try clear p244
         try clear q244
         obtain ⟨x3_3, x5_3, rfl, rfl, HA, HK3, BK242, HB⟩ := hrel
         cases gk with
         | zero => exact absurd HA.out (by simp [ancepsref57_Few.l1])
         | succ k3 =>
          have H := HA.out
          clear HA
          simp only [ancepsref57_Few.l1] at H
          by_cases c13 : 0 ≤ x4_1
          ·rw [if_pos c13] at H
           have c13b0 : decide (0 ≤ x4_1) = true := decide_eq_true c13
           clear c13
           by_cases c14 : x4_1 < (l0_1.length : Int)
           ·rw [if_pos c14] at H
            have c14b0 : decide (x4_1 < (l0_1.length : Int)) = true := decide_eq_true c14
            clear c14
            by_cases c15 : x5_3 < (((rd_T65 l0_1 x4_1).f1).length : Int)
            ·rw [if_pos c15] at H
             have c15b0 : decide (x5_3 < (((rd_T65 l0_1 x4_1).f1).length : Int)) = true := decide_eq_true c15
             clear c15
             by_cases c16 : x3_3 ≤ 4000
             ·rw [if_pos c16] at H
              have c16b0 : decide (x3_3 ≤ 4000) = true := decide_eq_true c16
              clear c16
              by_cases c17 : 0 ≤ x5_3
              ·rw [if_pos c17] at H
               have c17b0 : decide (0 ≤ x5_3) = true := decide_eq_true c17
               clear c17
               have H' := Aside0.mk H
               clear H
               have hcz18_0 := cZ BK242 0 (.slice A0_0 l0_0.length c0_0)
               have hcz18_1 := cZ BK242 1 (.slice (some ad244) l0_1.length c0_1)
               have hfz18_0 := blk_frozen BK242.out 0
               have hfz18_1 := blk_frozen BK242.out 1
               have p245 : 0 ≤ (x4_1 : Int) := of_decide_eq_true (by first | (with_reducible assumption) | assumption)
               have q245 : x4_1 < (l0_1.length : Int) := of_decide_eq_true (by first | (with_reducible assumption) | assumption)
               obtain ⟨ad245, A245_1, c245_1, e245, hx245_0, hx245_1, hl245_1, hi245_1⟩ := at_T65 HR0_1.out x4_1 p245 q245
               obtain rfl : ad244 = ad245 := (by injection e245)
               replace hx245_0 := (HB.out.cell (World.block_lt_of_cell? w _ hx245_0)).trans hx245_0
               replace hx245_1 := (HB.out.cell (World.block_lt_of_cell? w _ hx245_1)).trans hx245_1
               have HR245_1 := Aside0.mk hi245_1
               have HC245_1 := Aside0.mk hl245_1
               clear hi245_1 hl245_1
               replace p245 := eq_true p245
               replace q245 := eq_true q245
               have p246 : 0 ≤ (x4_1 : Int) := of_decide_eq_true (by first | (with_reducible assumption) | assumption)
               have q246 : x4_1 < (l0_1.length : Int) := of_decide_eq_true (by first | (with_reducible assumption) | assumption)
               obtain ⟨ad246, A246_1, c246_1, e246, hx246_0, hx246_1, hl246_1, hi246_1⟩ := at_T65 HR0_1.out x4_1 p246 q246
               obtain rfl : ad244 = ad246 := (by injection e246)
               replace hx246_0 := (HB.out.cell (World.block_lt_of_cell? w _ hx246_0)).trans hx246_0
               replace hx246_1 := (HB.out.cell (World.block_lt_of_cell? w _ hx246_1)).trans hx246_1
               have HR246_1 := Aside0.mk hi246_1
               have HC246_1 := Aside0.mk hl246_1
               clear hi246_1 hl246_1
               replace p246 := eq_true p246
               replace q246 := eq_true q246
               have ea_ := Option.some.inj (hx245_1.symm.trans hx246_1)
               injection ea_ with ea_ en_ ec_
               subst ea_
               subst ec_
               clear en_
               have p247 : 0 ≤ (x5_3 : Int) := of_decide_eq_true (by first | (with_reducible assumption) | assumption)
               have q247 : x5_3 < (((rd_T65 l0_1 x4_1).f1).length : Int) := of_decide_eq_true (by first | (with_reducible assumption) | assumption)
               obtain ⟨ad247, e247, hx247_0, hx247_1⟩ := at_T67 HR246_1.out x5_3 p247 q247
               cases e247
               replace hx247_0 := (HB.out.cell (World.block_lt_of_cell? w _ hx247_0)).trans hx247_0
               replace hx247_1 := (HB.out.cell (World.block_lt_of_cell? w _ hx247_1)).trans hx247_1
               replace p247 := eq_true p247
               replace q247 := eq_true q247
               go_wp2
               go_roundg k3
               case measure => have := HK1.out; have := HJ4.out; have := HK3.out; omega
               case rel => exact ⟨(wrap64 ((wrap64 (x3_3 + 1)) + (((rd_T67 ((rd_T65 l0_1 x4_1).f1) x5_3).f0).size : Int))), (wrap64 (x5_3 + 1)), (by first | rfl | (simp; done) | (simp [*]; done)), (by first | rfl | (simp; done) | (simp [*]; done)), H', ⟨by have := HK1.out; have := HJ4.out; have := HK3.out; omega⟩, ⟨by (with_reducible repeat (first | apply blk_drewN | apply blk_drew | apply blk_alloc)); exact BK242.out⟩, ⟨by repeat (first | (with_reducible first | exact HB.out | apply below_alloc | apply pw_below_drewN | apply below_drew1 | refine below_set ?_ GE242.out) | exact HB.out)⟩⟩
              ·rw [if_neg c17] at H
               exact absurd H (by simp)
             ·rw [if_neg c16] at H
              have c16b0 : decide (x3_3 ≤ 4000) = false := decide_eq_false c16
              clear c16
              have H' := Aside0.mk H
              clear H
              have hcz19_0 := cZ BK242 0 (.slice A0_0 l0_0.length c0_0)
              have hcz19_1 := cZ BK242 1 (.slice (some ad244) l0_1.length c0_1)
              have hfz19_0 := blk_frozen BK242.out 0
              have hfz19_1 := blk_frozen BK242.out 1
              have p245 : 0 ≤ (x4_1 : Int) := of_decide_eq_true (by first | (with_reducible assumption) | assumption)
              have q245 : x4_1 < (l0_1.length : Int) := of_decide_eq_true (by first | (with_reducible assumption) | assumption)
              obtain ⟨ad245, A245_1, c245_1, e245, hx245_0, hx245_1, hl245_1, hi245_1⟩ := at_T65 HR0_1.out x4_1 p245 q245
              obtain rfl : ad244 = ad245 := (by injection e245)
              replace hx245_0 := (HB.out.cell (World.block_lt_of_cell? w _ hx245_0)).trans hx245_0
              replace hx245_1 := (HB.out.cell (World.block_lt_of_cell? w _ hx245_1)).trans hx245_1
              have HR245_1 := Aside0.mk hi245_1
              have HC245_1 := Aside0.mk hl245_1
              clear hi245_1 hl245_1
              replace p245 := eq_true p245
              replace q245 := eq_true q245
              go_wp2
              go_roundg k3
              case measure => have := HK1.out; have := HJ4.out; have := HK3.out; omega
              case rel => exact ⟨(x3_3), (wrap64 (x4_1 + 1)), (by first | rfl | (simp; done) | (simp [*]; done)), (by first | rfl | (simp; done) | (simp [*]; done)), H', ⟨by have := HK1.out; have := HJ4.out; have := HK3.out; omega⟩, ⟨by (with_reducible repeat (first | apply blk_drewN | apply blk_drew | apply blk_alloc)); exact BK242.out⟩, ⟨by repeat (first | (with_reducible first | exact HB.out | apply below_alloc | apply pw_below_drewN | apply below_drew1 | refine below_set ?_ GE242.out) | exact HB.out)⟩⟩
            ·rw [if_neg c15] at H
             have c15b0 : decide (x5_3 < (((rd_T65 l0_1 x4_1).f1).length : Int)) = false := decide_eq_false c15
             clear c15
             have H' := Aside0.mk H
             clear H
             have hcz20_0 := cZ BK242 0 (.slice A0_0 l0_0.length c0_0)
             have hcz20_1 := cZ BK242 1 (.slice (some ad244) l0_1.length c0_1)
             have hfz20_0 := blk_frozen BK242.out 0
             have hfz20_1 := blk_frozen BK242.out 1
             have p245 : 0 ≤ (x4_1 : Int) := of_decide_eq_true (by first | (with_reducible assumption) | assumption)
             have q245 : x4_1 < (l0_1.length : Int) := of_decide_eq_true (by first | (with_reducible assumption) | assumption)
             obtain ⟨ad245, A245_1, c245_1, e245, hx245_0, hx245_1, hl245_1, hi245_1⟩ := at_T65 HR0_1.out x4_1 p245 q245
             obtain rfl : ad244 = ad245 := (by injection e245)
             replace hx245_0 := (HB.out.cell (World.block_lt_of_cell? w _ hx245_0)).trans hx245_0
             replace hx245_1 := (HB.out.cell (World.block_lt_of_cell? w _ hx245_1)).trans hx245_1
             have HR245_1 := Aside0.mk hi245_1
             have HC245_1 := Aside0.mk hl245_1
             clear hi245_1 hl245_1
             replace p245 := eq_true p245
             replace q245 := eq_true q245
             go_wp2
             go_roundg k3
             case measure => have := HK1.out; have := HJ4.out; have := HK3.out; omega
             case rel => exact ⟨(x3_3), (wrap64 (x4_1 + 1)), (by first | rfl | (simp; done) | (simp [*]; done)), (by first | rfl | (simp; done) | (simp [*]; done)), H', ⟨by have := HK1.out; have := HJ4.out; have := HK3.out; omega⟩, ⟨by (with_reducible repeat (first | apply blk_drewN | apply blk_drew | apply blk_alloc)); exact BK242.out⟩, ⟨by repeat (first | (with_reducible first | exact HB.out | apply below_alloc | apply pw_below_drewN | apply below_drew1 | refine below_set ?_ GE242.out) | exact HB.out)⟩⟩
           ·rw [if_neg c14] at H
            exact absurd H (by simp)
          ·rw [if_neg c13] at H
           exact absurd H (by simp)
       ·rw [if_neg c11] at H
        exact absurd H (by simp)
      ·rw [if_neg c10] at H
       exact absurd H (by simp)
     ·replace c9 := Bool.eq_false_iff.mpr c9
      subst c9
      have H1 : (if (l0_0.length : Int) ≤ 12 then (if (l0_1.length : Int) ≤ 210 then (some (decide (x3_1 ≤ 4000))) else (some false)) else (some false)) = some r := by rw [if_neg (show ¬ (false = true) by decide)] at H; exact H
      clear H
      have H := H1
      clear H1
      by_cases c21 : (l0_0.length : Int) ≤ 12
      ·rw [if_pos c21] at H
       have c21b0 : decide ((l0_0.length : Int) ≤ 12) = true := decide_eq_true c21
       have c21b1 : decide (l0_0.length ≤ 12) = true := decide_eq_true (by omega)
       clear c21
       by_cases c22 : (l0_1.length : Int) ≤ 210
       ·rw [if_pos c22] at H
        have c22b0 : decide ((l0_1.length : Int) ≤ 210) = true := decide_eq_true c22
        have c22b1 : decide (l0_1.length ≤ 210) = true := decide_eq_true (by omega)
        clear c22
        obtain rfl := Option.some.inj H
        have hcz23_0 := cZ BK242 0 (.slice A0_0 l0_0.length c0_0)
        have hcz23_1 := cZ BK242 1 (.slice A0_1 l0_1.length c0_1)
        have hfz23_0 := blk_frozen BK242.out 0
        have hfz23_1 := blk_frozen BK242.out 1
        go_wp2
        go_ret
        exact ⟨by first | rfl | (simp [errW_none, errW_some] <;> rfl) | (simp [*, errW_none, errW_some] <;> rfl), by repeat (first | (with_reducible first | exact HB.out | apply below_alloc | apply pw_below_drewN | apply below_drew1 | refine below_set ?_ GE242.out) | exact HB.out)⟩
       ·rw [if_neg c22] at H
        have c22b0 : decide ((l0_1.length : Int) ≤ 210) = false := decide_eq_false c22
        have c22b1 : decide (l0_1.length ≤ 210) = false := decide_eq_false (by omega)
        clear c22
        obtain rfl := Option.some.inj H
        have hcz24_0 := cZ BK242 0 (.slice A0_0 l0_0.length c0_0)
        have hcz24_1 := cZ BK242 1 (.slice A0_1 l0_1.length c0_1)
        have hfz24_0 := blk_frozen BK242.out 0
        have hfz24_1 := blk_frozen BK242.out 1
        go_wp2
        go_ret
        exact ⟨by first | rfl | (simp [errW_none, errW_some] <;> rfl) | (simp [*, errW_none, errW_some] <;> rfl), by repeat (first | (with_reducible first | exact HB.out | apply below_alloc | apply pw_below_drewN | apply below_drew1 | refine below_set ?_ GE242.out) | exact HB.out)⟩
      ·rw [if_neg c21] at H
       have c21b0 : decide ((l0_0.length : Int) ≤ 12) = false := decide_eq_false c21
       have c21b1 : decide (l0_0.length ≤ 12) = false := decide_eq_false (by omega)
       clear c21
       obtain rfl := Option.some.inj H
       have hcz25_0 := cZ BK242 0 (.slice A0_0 l0_0.length c0_0)
       have hcz25_1 := cZ BK242 1 (.slice A0_1 l0_1.length c0_1)
       have hfz25_0 := blk_frozen BK242.out 0
       have hfz25_1 := blk_frozen BK242.out 1
       go_wp2
       go_ret
       exact ⟨by first | rfl | (simp [errW_none, errW_some] <;> rfl) | (simp [*, errW_none, errW_some] <;> rfl), by repeat (first | (with_reducible first | exact HB.out | apply below_alloc | apply pw_below_drewN | apply below_drew1 | refine below_set ?_ GE242.out) | exact HB.out)⟩

end Go.Proofs.Ytmjigfoldeekmaa.X
