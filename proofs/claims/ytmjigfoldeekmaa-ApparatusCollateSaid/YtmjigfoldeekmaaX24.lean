-- shortened
-- thinned
-- halved indents
-- printed by this session's xprint.py: out of the translation, by the kit's print with additions; Lean checks it
import Derived.Test.YtmjigfoldeekmaaWN
import Derived.Test.YtmjigfoldeekmaaWShare
import Derived.Test.YtmjigfoldeekmaaWRepsOne
import Derived.Test.YtmjigfoldeekmaaX0
import Derived.Test.YtmjigfoldeekmaaX8
import Derived.Test.YtmjigfoldeekmaaX13
import Derived.Test.YtmjigfoldeekmaaXA
namespace Go.Proofs.Ytmjigfoldeekmaa.X
open Go.RowKit Go.Proofs.YtmjigfoldeekmaaW.PrintWords Go.Proofs.YtmjigfoldeekmaaW.PrintLast Go.Proofs.YtmjigfoldeekmaaW.PrintMore
attribute [local go_sem] max2_int min2_int max_two min_two max_three min_three max_four min_four isSome_setCell binOp_gtr_str binOp_leq_str binOp_geq_str   -- for this text's walks alone
set_option linter.unusedVariables false
set_option linter.unusedSimpArgs false

/-! ### apparatus_Of: function 20 -/
def apparatus_Of.l0 : Nat → Int → List ByteArray → List (S65) → Int → Int → Option (List ByteArray × Int)
 | 0, _, _, _, _, _ => none
 | k + 1, x6, x8, x21, x22, x23 => if x23 < x22 then (if 0 ≤ x23 then (if x23 < (x21.length : Int) then ((apparatus_has.f k ((rd_T65 x21 x23).f0) ((rd_T65 x21 x23).f1) x6).bind fun t384 => (if x8.length < 8796093022208 then (apparatus_Of.l0 k x6 (x8 ++ [t384]) x21 x22 (wrap64 (x23 + 1))) else (none))) else (none)) else (none)) else (some (x8, 0))
def apparatus_Of.f (k : Nat) (l0_0 : List ByteArray) (l0_1 : List (S65)) (a1 : ByteArray) : Option (List ByteArray × Int) := (apparatus_witness.f k l0_0 l0_1 a1).bind fun bt380 => (if bt380.2 = 0 then (apparatus_Of.l0 k bt380.1 ([] : List ByteArray) l0_1 (l0_1.length : Int) 0) else (some (([] : List ByteArray), bt380.2)))
theorem apparatus_Of.mono_l : ∀ k, (∀ y0 y1 y2 y3 y4, LeO (apparatus_Of.l0 k y0 y1 y2 y3 y4) (apparatus_Of.l0 (k + 1) y0 y1 y2 y3 y4))
 | 0 => fun _ _ _ _ _ r h => by simp [apparatus_Of.l0] at h
 | k + 1 => by
  have ih0 := apparatus_Of.mono_l k
  ·intro y0 y1 y2 y3 y4
   unfold apparatus_Of.l0
   repeat' first
   | (with_reducible exact ih0 _ _ _ _ _)
   | (with_reducible exact apparatus_has.mono _ _ _ _)
   | (with_reducible exact apparatus_witness.mono _ _ _ _)
   | (with_reducible exact LeO.refl _)
   | (with_reducible exact LeO.none _)
   | (with_reducible refine LeO.ite ?_ ?_)
   | (with_reducible refine LeO.bind ?_ (fun _ => ?_))
   | exact ih0 _ _ _ _ _
   | exact apparatus_has.mono _ _ _ _
   | exact apparatus_witness.mono _ _ _ _
   | exact LeO.none _
   | refine LeO.ite ?_ ?_
   | refine LeO.bind ?_ (fun _ => ?_)
theorem apparatus_Of.mono : ∀ a0 a1 a2 k, LeO (apparatus_Of.f k a0 a1 a2) (apparatus_Of.f (k + 1) a0 a1 a2) := by
 intro a0 a1 a2 k
 have ih0 := apparatus_Of.mono_l k
 unfold apparatus_Of.f
 repeat' first
   | (with_reducible exact ih0 _ _ _ _ _)
   | (with_reducible exact apparatus_has.mono _ _ _ _)
   | (with_reducible exact apparatus_witness.mono _ _ _ _)
   | (with_reducible exact LeO.refl _)
   | (with_reducible exact LeO.none _)
   | (with_reducible refine LeO.ite ?_ ?_)
   | (with_reducible refine LeO.bind ?_ (fun _ => ?_))
   | exact ih0 _ _ _ _ _
   | exact apparatus_has.mono _ _ _ _
   | exact apparatus_witness.mono _ _ _ _
   | exact LeO.none _
   | refine LeO.ite ?_ ?_
   | refine LeO.bind ?_ (fun _ => ?_)
set_option maxHeartbeats 8000000 in
set_option maxRecDepth 100000 in
theorem apparatus_Of.calls (k : Nat) (A0_0 : Option Addr) (c0_0 : Nat) (l0_0 : List ByteArray) (A0_1 : Option Addr) (c0_1 : Nat) (l0_1 : List (S65)) (a1 : ByteArray) (r1 : List ByteArray) (r2 : Int) (w : World) (hr0_0 : Kd.C Kd.string w A0_0 l0_0.length l0_0) (hc0_0 : l0_0.length ≤ c0_0) (hr0_1 : Kd.C k65 w A0_1 l0_1.length l0_1) (hc0_1 : l0_1.length ≤ c0_1) (h : apparatus_Of.f k l0_0 l0_1 a1 = some (r1, r2)) :
  Calls Try.prog 20 #[.agg #[.slice A0_0 l0_0.length c0_0, .slice A0_1 l0_1.length c0_1], .string a1] w fun e w' => ∃ v0_ : Value, e = .returned (.tuple #[v0_, .int .i64 r2]) ∧ Kd.R Kd.string 9 w' w.heap.size (fun _ => True) v0_ r1 ∧ Below w.heap.size w w' := by
 have hu42 := Try.underlying42
 have hu65 := Try.underlying65
 have HR0_0 := Aside0.mk hr0_0
 have HC0_0 := Aside0.mk hc0_0
 clear hr0_0 hc0_0
 have HR0_1 := Aside0.mk hr0_1
 have HC0_1 := Aside0.mk hc0_1
 clear hr0_1 hc0_1
 have HB := Aside0.mk (Below.refl w.heap.size w)
 have H : ((apparatus_witness.f k l0_0 l0_1 a1).bind fun bt380 => (if bt380.2 = 0 then (apparatus_Of.l0 k bt380.1 ([] : List ByteArray) l0_1 (l0_1.length : Int) 0) else (some (([] : List ByteArray), bt380.2)))) = some (r1, r2) := h
 clear h
 replace H := Option.bind_eq_some_iff.mp H
 obtain ⟨⟨t380, t381⟩, A30, H⟩ := H
 try dsimp only at H
 have A3 := Aside0.mk A30
 clear A30
 by_cases c4 : t381 = 0
 ·rw [if_pos c4] at H
  have c4b0 : (t381 == 0) = true := beq_iff_eq.mpr c4
  have c4b1 : (t381 != 0) = false := bne_eq_false_iff_eq.mpr c4
  clear c4
  have H' := Aside0.mk H
  clear H
  go_enter Try.func20, Try.ntmps20
  go_wp2_with (first | ((with_reducible refine gate_dst (N := 2) rfl ?_); refine bX 2 #[.slice A0_0 l0_0.length c0_0, .slice A0_1 l0_1.length c0_1] 42 ?_; intro gb379 hg w5 hbox hb; have n0_ := jL HB hb; have n1_ := Aside0.mk (hbox); have n2_ := Aside0.mk ((by rw [hg]; exact (below_size (iL HB)) : w.heap.size ≤ gb379)); have n3_ := Aside0.mk ((by rw [hg]; exact (below_size (iL HB)) : w.heap.size ≤ gb379)); clear HB; have HB := n0_; have BK379 := n1_; have GW379 := n2_; have GE379 := n3_; clear n0_ n1_ n2_ n3_; clear hb hbox hg; have hcz6_0 := cZ BK379 0 (.slice A0_0 l0_0.length c0_0); have hcz6_1 := cZ BK379 1 (.slice A0_1 l0_1.length c0_1); have hfz6_0 := blk_frozen BK379.out 0; have hfz6_1 := blk_frozen BK379.out 1) | ((with_reducible refine gate_callee (f := 50) rfl ?_); refine gL_ (some 14) Try.func50 #[.agg #[.slice A0_0 l0_0.length c0_0, .slice A0_1 l0_1.length c0_1], .string a1] ?_; (with_reducible refine (apparatus_witness.calls k _ _ l0_0 _ _ l0_1 a1 t380 t381 _ ?side1 ?side2 ?side3 ?side4 A3.out).mono ?_); (case side1 => exact iC HR0_0 HB); (case side2 => exact HC0_0.out); (case side3 => exact iC HR0_1 HB); (case side4 => exact HC0_1.out); rintro e w7 ⟨rfl, hb⟩; refine ⟨_, rfl, ?_⟩; have n0_ := jB BK379 hb; have n1_ := jL HB hb; clear BK379; clear HB; have BK379 := n0_; have HB := n1_; clear n0_ n1_; (try clear hb); (try clear hb2); (try clear hk); (try clear hi); have hcz8_0 := cZ BK379 0 (.slice A0_0 l0_0.length c0_0); have hcz8_1 := cZ BK379 1 (.slice A0_1 l0_1.length c0_1); have hfz8_0 := blk_frozen BK379.out 0; have hfz8_1 := blk_frozen BK379.out 1))
  go_loopg [8, 23] k (fun kq v8 v23 w' => ∃ (x8_1 : List ByteArray) (x23_1 : Int), v23 = .int .i64 x23_1 ∧ Aside0 (apparatus_Of.l0 kq t380 x8_1 l0_1 (l0_1.length : Int) x23_1 = some (r1, r2)) ∧ Aside0 (kq ≤ k) ∧ Aside0 (Kd.R Kd.string 9 w' w.heap.size (fun _ => True) v8 x8_1) ∧ Aside0 (w'.heap[gb379]? = some (.cells #[(.slice A0_0 l0_0.length c0_0), (.slice A0_1 l0_1.length c0_1)] 42 (0, 0))) ∧ Aside0 (Below w.heap.size w w'))
  case atStart => exact ⟨(([] : List ByteArray)), (0), (by first | rfl | (simp; done) | (simp [*]; done)), H', ⟨Nat.le_refl _⟩, ⟨by first | exact Kd.R_nil _ _ _ _ _ | exact Kd.N_nil _ _ _ _ _ | exact Kd.V_nil _ _ _ _ _ | exact Kd.Q_nil _ _ _ _ _ | exact Kd.S_nil _ _ _ _ _⟩, ⟨by (with_reducible repeat (first | apply blk_drewN | apply blk_drew | apply blk_alloc)); exact BK379.out⟩, ⟨by repeat (first | (with_reducible first | exact HB.out | apply below_alloc | apply pw_below_drewN | apply below_drew1 | refine below_set ?_ GE379.out) | exact HB.out)⟩⟩
  case round =>
   clear H'
   try clear c2
   try clear p2
   try clear c4
   try clear c4b0
   try clear c4b1
   try clear c5
   try clear hcz6_0
   try clear hcz6_1
   try clear hcz8_0
   try clear hcz8_1
   try clear hfz6_0
   try clear hfz6_1
   try clear hfz8_0
   try clear hfz8_1
   obtain ⟨x8_1, x23_1, rfl, HA, HK1, HO_8, BK379, HB⟩ := hrel
   cases gk with
   | zero => exact absurd HA.out (by simp [apparatus_Of.l0])
   | succ k1 =>
    have H := HA.out
    clear HA
    simp only [apparatus_Of.l0] at H
    by_cases c9 : x23_1 < (l0_1.length : Int)
    ·rw [if_pos c9] at H
     have c9b0 : decide (x23_1 < (l0_1.length : Int)) = true := decide_eq_true c9
     clear c9
     by_cases c10 : 0 ≤ x23_1
     ·rw [if_pos c10] at H
      have c10b0 : decide (0 ≤ x23_1) = true := decide_eq_true c10
      clear c10
      by_cases c11 : x23_1 < (l0_1.length : Int)
      ·rw [if_pos c11] at H
       have c11b0 : decide (x23_1 < (l0_1.length : Int)) = true := decide_eq_true c11
       clear c11
       replace H := Option.bind_eq_some_iff.mp H
       obtain ⟨t384, A120, H⟩ := H
       try dsimp only at H
       have A12 := Aside0.mk A120
       clear A120
       by_cases c13 : x8_1.length < 8796093022208
       ·rw [if_pos c13] at H
        have LMc13 := Aside0.mk c13
        clear c13
        obtain ⟨y385, hy385⟩ : ∃ y_ : List ByteArray, y_ = (x8_1 ++ [t384]) := ⟨_, rfl⟩
        replace H : (apparatus_Of.l0 k1 t380 y385 l0_1 (l0_1.length : Int) (wrap64 (x23_1 + 1))) = some (r1, r2) := by first | (rw [hy385]; with_reducible exact H) | (have H2_ := (Option.bind_some _ _).symm.trans H; rw [hy385]; with_reducible exact H2_) | (have H2_ := (Option.bind_some _ _).symm.trans H; with_reducible exact H2_) | with_reducible exact H | (rw [hy385]; exact H) | exact H
        have Ny385 := Aside0.mk hy385
        clear hy385
        have H' := Aside0.mk H
        clear H
        have p382 : 0 ≤ (x23_1 : Int) := of_decide_eq_true (by first | (with_reducible assumption) | assumption)
        have q382 : x23_1 < (l0_1.length : Int) := of_decide_eq_true (by first | (with_reducible assumption) | assumption)
        obtain ⟨ad382, A382_1, c382_1, e382, hx382_0, hx382_1, hl382_1, hi382_1⟩ := at_T65 HR0_1.out x23_1 p382 q382
        cases e382
        replace hx382_0 := (HB.out.cell (World.block_lt_of_cell? w _ hx382_0)).trans hx382_0
        replace hx382_1 := (HB.out.cell (World.block_lt_of_cell? w _ hx382_1)).trans hx382_1
        have HR382_1 := Aside0.mk hi382_1
        have HC382_1 := Aside0.mk hl382_1
        clear hi382_1 hl382_1
        replace p382 := eq_true p382
        replace q382 := eq_true q382
        go_wp2_with (first | ((with_reducible refine gate_dst (N := 10) rfl ?_); refine bX 10 #[.string (⟨#[]⟩ : ByteArray), .slice none 0 0] 65 ?_; intro gb383 hg w14 hbox hb; have n0_ := jR HO_8 hb; have n1_ := jB BK379 hb; have n2_ := jL HB hb; have n3_ := Aside0.mk (hbox); have n4_ := Aside0.mk ((by rw [hg]; exact (below_size (iL HB)) : w.heap.size ≤ gb383)); have n5_ := Aside0.mk ((by rw [hg]; exact (below_size (iL HB)) : w.heap.size ≤ gb383)); have n6_ := Aside0.mk ((by rw [hg]; exact Nat.ne_of_lt (blk_lt (g := gb379) (o := .cells #[.slice A0_0 l0_0.length c0_0, .slice (some ad382) l0_1.length c0_1] 42 (0, 0)) (iB BK379)) : gb379 ≠ gb383)); have n7_ := Aside0.mk ((by rw [hg]; exact Nat.ne_of_gt (blk_lt (g := gb379) (o := .cells #[.slice A0_0 l0_0.length c0_0, .slice (some ad382) l0_1.length c0_1] 42 (0, 0)) (iB BK379)) : gb383 ≠ gb379)); clear HO_8; clear BK379; clear HB; have HO_8 := n0_; have BK379 := n1_; have HB := n2_; have BK383 := n3_; have GW383 := n4_; have GE383 := n5_; have NB379_383 := n6_; have NB383_379 := n7_; clear n0_ n1_ n2_ n3_ n4_ n5_ n6_ n7_; clear hb hbox hg; have hnb15 := NB383_379.out; have hnc15 := NB379_383.out; have hcz16_0 := cZ BK383 0 (.string (⟨#[]⟩ : ByteArray)); have hcz16_1 := cZ BK383 1 (.slice none 0 0); have hfz16_0 := blk_frozen BK383.out 0; have hfz16_1 := blk_frozen BK383.out 1) | ((with_reducible refine gate_callee (f := 51) rfl ?_); refine gL_ (some 30) Try.func51 #[.agg #[.string ((rd_T65 l0_1 x23_1).f0), .slice A382_1 ((rd_T65 l0_1 x23_1).f1).length c382_1], .int .i64 t380] ?_; (with_reducible refine (apparatus_has.calls k1 ((rd_T65 l0_1 x23_1).f0) _ _ ((rd_T65 l0_1 x23_1).f1) t380 t384 _ ?side1 ?side2 A12.out).mono ?_); (case side1 => exact Kd.C_below HR382_1.out (iL HB)); (case side2 => exact HC382_1.out); rintro e w17 ⟨rfl, hb⟩; refine ⟨_, rfl, ?_⟩; have n0_ := Aside0.mk (Kd.R_below (by (with_reducible repeat (first | apply Kd.R_alloc | apply Kd.R_drewN | apply Kd.R_drew)); exact (Kd.R_mono (Kd.R_far (p := ⟨gb383, 1, none⟩) (Kd.R_far (p := ⟨gb383, 0, none⟩) (Kd.R_types HO_8.out BK383.out (by decide)) (fun _ hk => hk.2) (.string ((rd_T65 l0_1 x23_1).f0))) (fun _ hk => hk.2) (.slice A382_1 ((rd_T65 l0_1 x23_1).f1).length c382_1)) (fun _ h_ => h_.1))) hb); have n1_ := Aside0.mk (blk_below (g := gb379) (o := .cells #[.slice A0_0 l0_0.length c0_0, .slice (some ad382) l0_1.length c0_1] 42 (0, 0)) (by (with_reducible repeat (first | apply blk_drewN | apply blk_drew | apply blk_alloc)); refine blk_far ?_ NB379_383.out _; (with_reducible repeat (first | apply blk_drewN | apply blk_drew | apply blk_alloc)); refine blk_far ?_ NB379_383.out _; (with_reducible repeat (first | apply blk_drewN | apply blk_drew | apply blk_alloc)); exact BK379.out) hb); have n2_ := Aside0.mk (blk_below (g := gb383) (o := .cells #[.string ((rd_T65 l0_1 x23_1).f0), .slice A382_1 ((rd_T65 l0_1 x23_1).f1).length c382_1] 65 (0, 0)) (by (with_reducible repeat (first | apply blk_drewN | apply blk_drew | apply blk_alloc)); refine blk_put (cs := #[.string ((rd_T65 l0_1 x23_1).f0), .slice none 0 0]) ?_ 1 _ rfl; (with_reducible repeat (first | apply blk_drewN | apply blk_drew | apply blk_alloc)); refine blk_put (cs := #[.string (⟨#[]⟩ : ByteArray), .slice none 0 0]) ?_ 0 _ rfl; (with_reducible repeat (first | apply blk_drewN | apply blk_drew | apply blk_alloc)); exact BK383.out) hb); have n3_ := jL HB hb; clear HO_8; clear BK379; clear BK383; clear HB; have HO_8 := n0_; have BK379 := n1_; have BK383 := n2_; have HB := n3_; clear n0_ n1_ n2_ n3_; (try clear hb); (try clear hb2); (try clear hk); (try clear hi)) | ((with_reducible refine gate_builtin (b := .append) (xs := #[.tmp 27, .tmp 31]) rfl ?_); at_builtin; refine Kd.R_append Kd.string (w0 := w) w.heap.size rfl (.tmp 27) (.tmp 31) 34 9 (.string ⟨#[]⟩) 16 rfl Try.underlying34 info9 rfl (by decide) (by omega) u8 x8_1 t384 [.string t384] (fun _ => True) (fun _ => False) rfl rfl ?aP (fun _ hk => hk.elim) ?aF ?aO ?aB ?aS ?aL ?_; (case aP => exact rfl); (case aB => exact (iL HB)); (case aF => exact (fun _ _ => trivial)); (case aO => exact (iR HO_8)); (case aS => exact (below_size (iL HB))); (case aL => have := LMc13.out; omega); intro v386 w18 ho hb hg hat; rw [← Ny385.out] at ho; have n0_ := Aside0.mk (blk_grown (g := gb379) (o := .cells #[.slice A0_0 l0_0.length c0_0, .slice (some ad382) l0_1.length c0_1] 42 (0, 0)) (iB BK379) hg (Kd.R_ne HO_8.out BK379.out (by decide))); have n1_ := Aside0.mk (blk_grown (g := gb383) (o := .cells #[.string ((rd_T65 l0_1 x23_1).f0), .slice A382_1 ((rd_T65 l0_1 x23_1).f1).length c382_1] 65 (0, 0)) (iB BK383) hg (Kd.R_ne HO_8.out BK383.out (by decide))); have n2_ := Aside0.mk (hb); have n3_ := Aside0.mk (ho); clear BK379; clear BK383; clear HB; clear HO_8; have BK379 := n0_; have BK383 := n1_; have HB := n2_; have HO387 := n3_; clear n0_ n1_ n2_ n3_; clear ho hb hg hat))
        go_roundg k1
        case measure => have := HK1.out; omega
        case rel => exact ⟨(y385), (wrap64 (x23_1 + 1)), (by first | rfl | (simp; done) | (simp [*]; done)), H', ⟨by have := HK1.out; omega⟩, ⟨by (with_reducible repeat (first | apply Kd.R_alloc | apply Kd.R_drewN | apply Kd.R_drew)); exact HO387.out⟩, ⟨by (with_reducible repeat (first | apply blk_drewN | apply blk_drew | apply blk_alloc)); exact BK379.out⟩, ⟨by repeat (first | (with_reducible first | exact HB.out | apply below_alloc | apply pw_below_drewN | apply below_drew1 | refine below_set ?_ GE379.out | refine below_set ?_ GE383.out) | exact HB.out)⟩⟩
       ·rw [if_neg c13] at H
        exact absurd H (by simp)
      ·rw [if_neg c11] at H
       exact absurd H (by simp)
     ·rw [if_neg c10] at H
      exact absurd H (by simp)
    ·rw [if_neg c9] at H
     have c9b0 : decide (x23_1 < (l0_1.length : Int)) = false := decide_eq_false c9
     clear c9
     simp only [Option.some.injEq, Prod.mk.injEq] at H
     obtain ⟨rfl, rfl⟩ := H
     go_wp2
     go_ret2
     exact ⟨_, by first | rfl | (simp [errW_none, errW_some] <;> rfl) | (simp [*, errW_none, errW_some] <;> rfl), by (with_reducible repeat (first | apply Kd.R_alloc | apply Kd.R_drewN | apply Kd.R_drew)); exact HO_8.out, by repeat (first | (with_reducible first | exact HB.out | apply below_alloc | apply pw_below_drewN | apply below_drew1 | refine below_set ?_ GE379.out) | exact HB.out)⟩
 ·rw [if_neg c4] at H
  have c4b0 : (t381 == 0) = false := beq_eq_false_iff_ne.mpr c4
  have c4b1 : (t381 != 0) = true := bne_iff_ne.mpr c4
  simp only [Option.some.injEq, Prod.mk.injEq] at H
  obtain ⟨rfl, rfl⟩ := H
  go_enter Try.func20, Try.ntmps20
  go_wp2_with (first | ((with_reducible refine gate_dst (N := 2) rfl ?_); refine bX 2 #[.slice A0_0 l0_0.length c0_0, .slice A0_1 l0_1.length c0_1] 42 ?_; intro gb379 hg w19 hbox hb; have n0_ := jL HB hb; have n1_ := Aside0.mk (hbox); have n2_ := Aside0.mk ((by rw [hg]; exact (below_size (iL HB)) : w.heap.size ≤ gb379)); have n3_ := Aside0.mk ((by rw [hg]; exact (below_size (iL HB)) : w.heap.size ≤ gb379)); clear HB; have HB := n0_; have BK379 := n1_; have GW379 := n2_; have GE379 := n3_; clear n0_ n1_ n2_ n3_; clear hb hbox hg; have hcz20_0 := cZ BK379 0 (.slice A0_0 l0_0.length c0_0); have hcz20_1 := cZ BK379 1 (.slice A0_1 l0_1.length c0_1); have hfz20_0 := blk_frozen BK379.out 0; have hfz20_1 := blk_frozen BK379.out 1) | ((with_reducible refine gate_callee (f := 50) rfl ?_); refine gL_ (some 14) Try.func50 #[.agg #[.slice A0_0 l0_0.length c0_0, .slice A0_1 l0_1.length c0_1], .string a1] ?_; (with_reducible refine (apparatus_witness.calls k _ _ l0_0 _ _ l0_1 a1 t380 t381 _ ?side1 ?side2 ?side3 ?side4 A3.out).mono ?_); (case side1 => exact iC HR0_0 HB); (case side2 => exact HC0_0.out); (case side3 => exact iC HR0_1 HB); (case side4 => exact HC0_1.out); rintro e w21 ⟨rfl, hb⟩; refine ⟨_, rfl, ?_⟩; have n0_ := jB BK379 hb; have n1_ := jL HB hb; clear BK379; clear HB; have BK379 := n0_; have HB := n1_; clear n0_ n1_; (try clear hb); (try clear hb2); (try clear hk); (try clear hi)))
  go_ret2
  exact ⟨_, by first | rfl | (simp [errW_none, errW_some] <;> rfl) | (simp [*, errW_none, errW_some] <;> rfl), by first | exact Kd.R_nil _ _ _ _ _ | exact Kd.N_nil _ _ _ _ _ | exact Kd.V_nil _ _ _ _ _ | exact Kd.Q_nil _ _ _ _ _ | exact Kd.S_nil _ _ _ _ _, by repeat (first | (with_reducible first | exact HB.out | apply below_alloc | apply pw_below_drewN | apply below_drew1 | refine below_set ?_ GE379.out) | exact HB.out)⟩

end Go.Proofs.Ytmjigfoldeekmaa.X
