-- and more
-- shortened
-- thinned
-- halved indents
-- printed by this session's xprint.py: out of the translation, by the kit's print with additions; Lean checks it
import Derived.Test.YtmjigfoldeekmaaXE
import Derived.Test.YtmjigfoldeekmaaXC
import Derived.Test.YtmjigfoldeekmaaWN
import Derived.Test.YtmjigfoldeekmaaWShare
import Derived.Test.YtmjigfoldeekmaaWRepsOne
import Derived.Test.YtmjigfoldeekmaaX0
import Derived.Test.YtmjigfoldeekmaaX15
import Derived.Test.YtmjigfoldeekmaaX16
import Derived.Test.YtmjigfoldeekmaaXA
namespace Go.Proofs.Ytmjigfoldeekmaa.X
open Go.RowKit Go.Proofs.YtmjigfoldeekmaaW.PrintWords Go.Proofs.YtmjigfoldeekmaaW.PrintLast Go.Proofs.YtmjigfoldeekmaaW.PrintMore
attribute [local go_sem] max2_int min2_int max_two min_two max_three min_three max_four min_four isSome_setCell binOp_gtr_str binOp_leq_str binOp_geq_str   -- for this text's walks alone
set_option linter.unusedVariables false
set_option linter.unusedSimpArgs false

/-! ### ancepsref57_Valid: function 54 -/
def ancepsref57_Valid.l0 : Nat → Int → List ByteArray → List (S65) → Option (Int)
 | 0, _, _, _ => none
 | k + 1, x4, x288000, x288001 => if x4 < (x288001.length : Int) then (if 0 ≤ x4 then ((ancepsref57_row.f k ((rd_T65 x288001 x4).f0) ((rd_T65 x288001 x4).f1) (x288000.length : Int)).bind fun t290 => (if t290 = 0 then (ancepsref57_Valid.l0 k (wrap64 (x4 + 1)) x288000 x288001) else (some t290))) else (none)) else (some 0)
def ancepsref57_Valid.f (k : Nat) (l0_0 : List ByteArray) (l0_1 : List (S65)) : Option (Int) := (ancepsref57_names.f k l0_0).bind fun t288 => (if t288 = 0 then (if (l0_1.length : Int) > 200 then (some 3) else (ancepsref57_Valid.l0 k 0 l0_0 l0_1)) else (some t288))
theorem ancepsref57_Valid.mono_l : ∀ k, (∀ y0 y1 y2, LeO (ancepsref57_Valid.l0 k y0 y1 y2) (ancepsref57_Valid.l0 (k + 1) y0 y1 y2))
 | 0 => fun _ _ _ r h => by simp [ancepsref57_Valid.l0] at h
 | k + 1 => by
  have ih0 := ancepsref57_Valid.mono_l k
  ·intro y0 y1 y2
   unfold ancepsref57_Valid.l0
   repeat' first
   | (with_reducible exact ih0 _ _ _)
   | (with_reducible exact ancepsref57_names.mono _ _)
   | (with_reducible exact ancepsref57_row.mono _ _ _ _)
   | (with_reducible exact LeO.refl _)
   | (with_reducible exact LeO.none _)
   | (with_reducible refine LeO.ite ?_ ?_)
   | (with_reducible refine LeO.bind ?_ (fun _ => ?_))
   | exact ih0 _ _ _
   | exact ancepsref57_names.mono _ _
   | exact ancepsref57_row.mono _ _ _ _
   | exact LeO.none _
   | refine LeO.ite ?_ ?_
   | refine LeO.bind ?_ (fun _ => ?_)
theorem ancepsref57_Valid.mono : ∀ a0 a1 k, LeO (ancepsref57_Valid.f k a0 a1) (ancepsref57_Valid.f (k + 1) a0 a1) := by
 intro a0 a1 k
 have ih0 := ancepsref57_Valid.mono_l k
 unfold ancepsref57_Valid.f
 repeat' first
   | (with_reducible exact ih0 _ _ _)
   | (with_reducible exact ancepsref57_names.mono _ _)
   | (with_reducible exact ancepsref57_row.mono _ _ _ _)
   | (with_reducible exact LeO.refl _)
   | (with_reducible exact LeO.none _)
   | (with_reducible refine LeO.ite ?_ ?_)
   | (with_reducible refine LeO.bind ?_ (fun _ => ?_))
   | exact ih0 _ _ _
   | exact ancepsref57_names.mono _ _
   | exact ancepsref57_row.mono _ _ _ _
   | exact LeO.none _
   | refine LeO.ite ?_ ?_
   | refine LeO.bind ?_ (fun _ => ?_)
def ancepsref57_Valid.T9 : Bool × List (List Nat × List Nat) := (true, [([], []), ([0], [0]), ([], []), ([1, 2], [1, 2]), ([3], [3]), ([], []), ([5], [5]), ([6], [6]), ([4, 7], [4, 7]), ([8, 8, 0, 1, 2, 3, 4, 5, 6, 7, 8], [8])])
def ancepsref57_Valid.B9 : List Nat := [0, 1, 0, 7, 15, 0, 32, 96, 255, 511]
theorem ancepsref57_Valid.tab9 : rtab .any (opsOf Try.f54 9) = ancepsref57_Valid.T9 := by kernel_rfl
theorem ancepsref57_Valid.bits9 : waitsOk ancepsref57_Valid.T9.2 ancepsref57_Valid.B9 = true := by kernel_rfl
set_option maxHeartbeats 8000000 in
set_option maxRecDepth 100000 in
theorem ancepsref57_Valid.calls (k : Nat) (A0_0 : Option Addr) (c0_0 : Nat) (l0_0 : List ByteArray) (A0_1 : Option Addr) (c0_1 : Nat) (l0_1 : List (S65)) (r : Int) (w : World) (hr0_0 : Kd.C Kd.string w A0_0 l0_0.length l0_0) (hc0_0 : l0_0.length ≤ c0_0) (hr0_1 : Kd.C k65 w A0_1 l0_1.length l0_1) (hc0_1 : l0_1.length ≤ c0_1) (h : ancepsref57_Valid.f k l0_0 l0_1 = some r) :
  Calls Try.prog 54 #[.agg #[.slice A0_0 l0_0.length c0_0, .slice A0_1 l0_1.length c0_1]] w fun e w' => e = .returned (.int .i64 r) ∧ Below w.heap.size w w' := by
 have hu42 := Try.underlying42
 have hu65 := Try.underlying65
 have HR0_0 := Aside0.mk hr0_0
 have HC0_0 := Aside0.mk hc0_0
 clear hr0_0 hc0_0
 have HR0_1 := Aside0.mk hr0_1
 have HC0_1 := Aside0.mk hc0_1
 clear hr0_1 hc0_1
 have HB := Aside0.mk (Below.refl w.heap.size w)
 have H : ((ancepsref57_names.f k l0_0).bind fun t288 => (if t288 = 0 then (if (l0_1.length : Int) > 200 then (some 3) else (ancepsref57_Valid.l0 k 0 l0_0 l0_1)) else (some t288))) = some r := h
 clear h
 replace H := Option.bind_eq_some_iff.mp H
 obtain ⟨t288, A20, H⟩ := H
 try dsimp only at H
 have A2 := Aside0.mk A20
 clear A20
 by_cases c3 : t288 = 0
 ·rw [if_pos c3] at H
  have c3b0 : (t288 == 0) = true := beq_iff_eq.mpr c3
  have c3b1 : (t288 != 0) = false := bne_eq_false_iff_eq.mpr c3
  clear c3
  by_cases c4 : (l0_1.length : Int) > 200
  ·rw [if_pos c4] at H
   have c4b0 : decide (200 < (l0_1.length : Int)) = true := decide_eq_true c4
   have c4b1 : decide (200 < l0_1.length) = true := decide_eq_true (by omega)
   clear c4
   obtain rfl := Option.some.inj H
   go_enter Try.func54, Try.ntmps54
   go_wp2_with (first | ((with_reducible refine gate_dst (N := 1) rfl ?_); refine bX 1 #[.slice A0_0 l0_0.length c0_0, .slice A0_1 l0_1.length c0_1] 42 ?_; intro gb287 hg w5 hbox hb; have n0_ := jL HB hb; have n1_ := Aside0.mk (hbox); have n2_ := Aside0.mk ((by rw [hg]; exact (below_size (iL HB)) : w.heap.size ≤ gb287)); have n3_ := Aside0.mk ((by rw [hg]; exact (below_size (iL HB)) : w.heap.size ≤ gb287)); clear HB; have HB := n0_; have BK287 := n1_; have GW287 := n2_; have GE287 := n3_; clear n0_ n1_ n2_ n3_; clear hb hbox hg; have hcz6_0 := cZ BK287 0 (.slice A0_0 l0_0.length c0_0); have hcz6_1 := cZ BK287 1 (.slice A0_1 l0_1.length c0_1); have hfz6_0 := blk_frozen BK287.out 0; have hfz6_1 := blk_frozen BK287.out 1) | ((with_reducible refine gate_callee (f := 68) rfl ?_); refine gL_ (some 8) Try.func68 #[.slice A0_0 l0_0.length c0_0] ?_; (with_reducible refine (ancepsref57_names.calls k _ _ l0_0 t288 _ ?side1 ?side2 A2.out).mono ?_); (case side1 => exact iC HR0_0 HB); (case side2 => exact HC0_0.out); rintro e w' ⟨rfl, ⟨nd, rfl⟩⟩; refine ⟨_, rfl, ?_⟩))
   go_ret
   exact ⟨eV, iL HB⟩
  ·rw [if_neg c4] at H
   have c4b0 : decide (200 < (l0_1.length : Int)) = false := decide_eq_false c4
   have c4b1 : decide (200 < l0_1.length) = false := decide_eq_false (by omega)
   clear c4
   have H' := Aside0.mk H
   clear H
   go_enter Try.func54, Try.ntmps54
   go_wp2_with (first | ((with_reducible refine gate_dst (N := 1) rfl ?_); refine bX 1 #[.slice A0_0 l0_0.length c0_0, .slice A0_1 l0_1.length c0_1] 42 ?_; intro gb287 hg w7 hbox hb; have n0_ := jL HB hb; have n1_ := Aside0.mk (hbox); have n2_ := Aside0.mk ((by rw [hg]; exact (below_size (iL HB)) : w.heap.size ≤ gb287)); have n3_ := Aside0.mk ((by rw [hg]; exact (below_size (iL HB)) : w.heap.size ≤ gb287)); clear HB; have HB := n0_; have BK287 := n1_; have GW287 := n2_; have GE287 := n3_; clear n0_ n1_ n2_ n3_; clear hb hbox hg; have hcz8_0 := cZ BK287 0 (.slice A0_0 l0_0.length c0_0); have hcz8_1 := cZ BK287 1 (.slice A0_1 l0_1.length c0_1); have hfz8_0 := blk_frozen BK287.out 0; have hfz8_1 := blk_frozen BK287.out 1) | ((with_reducible refine gate_callee (f := 68) rfl ?_); refine gL_ (some 8) Try.func68 #[.slice A0_0 l0_0.length c0_0] ?_; (with_reducible refine (ancepsref57_names.calls k _ _ l0_0 t288 _ ?side1 ?side2 A2.out).mono ?_); (case side1 => exact iC HR0_0 HB); (case side2 => exact HC0_0.out); rintro e w' ⟨rfl, ⟨nd, rfl⟩⟩; refine ⟨_, rfl, ?_⟩))
   go_loopg [4] k (fun kq v4 w' => ∃ (x4_1 : Int), v4 = .int .i64 x4_1 ∧ Aside0 (ancepsref57_Valid.l0 kq x4_1 l0_0 l0_1 = some r) ∧ Aside0 (kq ≤ k) ∧ Aside0 (w'.heap[gb287]? = some (.cells #[(.slice A0_0 l0_0.length c0_0), (.slice A0_1 l0_1.length c0_1)] 42 (0, 0))) ∧ Aside0 (Below w.heap.size w w'))
   case atStart => exact ⟨(0), eV, H', ⟨Nat.le_refl _⟩, ⟨iB BK287⟩, ⟨iL HB⟩⟩
   case round =>
    clear H'
    (try clear p2); (try clear c3); (try clear c3b0); (try clear c3b1); (try clear c4); (try clear c4b0); (try clear c4b1); (try clear c5); (try clear c6); (try clear hcz6_0); (try clear hcz6_1); (try clear hcz8_0); (try clear hcz8_1); (try clear hfz6_0); (try clear hfz6_1); (try clear hfz8_0); (try clear hfz8_1)
    obtain ⟨x4_1, rfl, HA, HK1, BK287, HB⟩ := hrel
    cases gk with
    | zero => exact absurd HA.out (by simp [ancepsref57_Valid.l0])
    | succ k1 =>
     have H := HA.out
     clear HA
     simp only [ancepsref57_Valid.l0] at H
     by_cases c9 : x4_1 < (l0_1.length : Int)
     ·rw [if_pos c9] at H
      have c9b0 : decide (x4_1 < (l0_1.length : Int)) = true := decide_eq_true c9
      clear c9
      by_cases c10 : 0 ≤ x4_1
      ·rw [if_pos c10] at H
       have c10b0 : decide (0 ≤ x4_1) = true := decide_eq_true c10
       clear c10
       replace H := Option.bind_eq_some_iff.mp H
       obtain ⟨t290, A110, H⟩ := H
       try dsimp only at H
       have A11 := Aside0.mk A110
       clear A110
       by_cases c12 : t290 = 0
       ·rw [if_pos c12] at H
        have c12b0 : (t290 == 0) = true := beq_iff_eq.mpr c12
        have c12b1 : (t290 != 0) = false := bne_eq_false_iff_eq.mpr c12
        clear c12
        have H' := Aside0.mk H
        clear H
        have hcz13_0 := cZ BK287 0 (.slice A0_0 l0_0.length c0_0)
        have hcz13_1 := cZ BK287 1 (.slice A0_1 l0_1.length c0_1)
        have hfz13_0 := blk_frozen BK287.out 0
        have hfz13_1 := blk_frozen BK287.out 1
        try go_wp2
        have n0_ := Aside0.mk (blk_drew BK287.out)
        have n1_ := Aside0.mk (below_drew1 HB.out)
        clear BK287
        clear HB
        have BK287 := n0_
        have HB := n1_
        clear n0_ n1_
        have p289 := oD (0 ≤ (x4_1 : Int))
        have q289 := oD (x4_1 < (l0_1.length : Int))
        obtain ⟨ad289, A289_1, c289_1, e289, hx289_0, hx289_1, hl289_1, hi289_1⟩ := at_T65 HR0_1.out x4_1 p289 q289
        have hw289_1 := hx289_1
        have hw289_0 := hx289_0
        cases e289
        replace hx289_0 := (HB.out.cell (World.block_lt_of_cell? w _ hx289_0)).trans hx289_0
        replace hx289_1 := (HB.out.cell (World.block_lt_of_cell? w _ hx289_1)).trans hx289_1
        have HR289_1 := Aside0.mk hi289_1
        have HC289_1 := Aside0.mk hl289_1
        clear hi289_1 hl289_1
        replace p289 := eq_true p289
        replace q289 := eq_true q289
        refine start_ (n := 10) (S := fun w' => w'.cell? ⟨gb287, 0, none⟩ = some (.slice A0_0 l0_0.length c0_0) ∧ w'.cell? ⟨gb287, 1, none⟩ = some (.slice (some ad289) l0_1.length c0_1) ∧ w'.cell? (ad289.add ((x4_1).toNat * 2)) = some (.string ((rd_T65 l0_1 x4_1).f0)) ∧ w'.cell? ⟨(ad289.add ((x4_1).toNat * 2)).block, (ad289.add ((x4_1).toNat * 2)).off + 1, none⟩ = some (.slice A289_1 ((rd_T65 l0_1 x4_1).f1).length c289_1)) (ds := []) #[false, false, false, false, false, false, false, false, false, false] (by kernel_rfl) rfl rfl ⟨(blk_cell BK287.out 0).trans rfl, (blk_cell BK287.out 1).trans rfl, ((HB.out.cell (World.block_lt_of_cell? w _ hw289_0)).trans hw289_0), ((HB.out.cell (World.block_lt_of_cell? w _ hw289_1)).trans hw289_1)⟩ (fun hHeld => ?_); refine with_tabW ancepsref57_Valid.tab9 ancepsref57_Valid.bits9 (fun HT_ HW_ => ?_)
        generalize wr.drew = w14 at BK287 HB HR289_1 hx289_0 hx289_1 hHeld ⊢
        refine pv_ 0 (some 23) HT_ ?_
        refine pv_ 2 (some 25) HT_ ?_
        refine pv_ 5 (some 28) HT_ ?_
        refine tw_ 1 (some 24) HT_ HW_ hHeld ?_
        refine pv_ 3 (some 26) HT_ ?_
        refine tw_ 4 (some 27) HT_ HW_ hHeld ?_
        refine tw_ 6 (some 29) HT_ HW_ hHeld ?_
        refine pv_ 7 (some 30) HT_ ?_
        refine one_ (i := 8) (N := some 31) #[true, true, true, true, true, true, true, true, true, false] rfl rfl (one_of HT_.out (by kernel_rfl)) (by decide) (fun K hK => ?_)
        refine goes_ Try.func70 (by kernel_rfl) rfl #[.agg #[.string ((rd_T65 l0_1 x4_1).f0), .slice A289_1 ((rd_T65 l0_1 x4_1).f1).length c289_1], .int .i64 (l0_0.length : Int)] (by rfl) rfl rfl (by (try simp only [List.map_toArray, List.map_cons, List.map_nil]); first | done | rfl | (simp only [List.length_drop, List.length_take]; rfl)) ?_
        with_reducible refine (ancepsref57_row.calls k1 ((rd_T65 l0_1 x4_1).f0) _ _ ((rd_T65 l0_1 x4_1).f1) (l0_0.length : Int) t290 _ ?side1 ?side2 A11.out).mono ?_
        (case side1 => exact iC HR289_1 HB)
        (case side2 => exact HC289_1.out)
        rintro e w15 ⟨rfl, hb⟩
        refine ⟨_, rfl, ?_⟩
        have n0_ := jB BK287 hb
        have n1_ := jL HB hb
        clear BK287
        clear HB
        have BK287 := n0_
        have HB := n1_
        clear n0_ n1_
        (try clear hb)
        (try clear hb2)
        (try clear hk)
        (try clear hi)
        refine hK.out _ _ ⟨(blk_cell BK287.out 0).trans rfl, (blk_cell BK287.out 1).trans rfl, ((HB.out.cell (World.block_lt_of_cell? w _ hw289_0)).trans hw289_0), ((HB.out.cell (World.block_lt_of_cell? w _ hw289_1)).trans hw289_1)⟩ (fun hHeld => ?_)
        clear hK K
        refine norm_ (a' := ?_) ?_ ?_
        rotate_left
        ·show Act.put _ (some 31) _ = _
         simp only [Act.put, List.setIfInBounds_toArray, List.set_cons_zero, List.set_cons_succ, i64_w, i32_w]
         rfl
        refine pv_ 9 (some 5) HT_ ?_
        refine done_ (done_of HT_.out (by kernel_rfl)) ?_
        try go_wp2
        go_roundg k1
        case measure => have := HK1.out; omega
        case rel => exact ⟨(wrap64 (x4_1 + 1)), eV, H', ⟨by have := HK1.out; omega⟩, ⟨iB BK287⟩, ⟨iL HB⟩⟩
       ·rw [if_neg c12] at H
        have c12b0 : (t290 == 0) = false := beq_eq_false_iff_ne.mpr c12
        have c12b1 : (t290 != 0) = true := bne_iff_ne.mpr c12
        obtain rfl := Option.some.inj H
        have hcz16_0 := cZ BK287 0 (.slice A0_0 l0_0.length c0_0)
        have hcz16_1 := cZ BK287 1 (.slice A0_1 l0_1.length c0_1)
        have hfz16_0 := blk_frozen BK287.out 0
        have hfz16_1 := blk_frozen BK287.out 1
        try go_wp2
        have n0_ := Aside0.mk (blk_drew BK287.out)
        have n1_ := Aside0.mk (below_drew1 HB.out)
        clear BK287
        clear HB
        have BK287 := n0_
        have HB := n1_
        clear n0_ n1_
        have p289 := oD (0 ≤ (x4_1 : Int))
        have q289 := oD (x4_1 < (l0_1.length : Int))
        obtain ⟨ad289, A289_1, c289_1, e289, hx289_0, hx289_1, hl289_1, hi289_1⟩ := at_T65 HR0_1.out x4_1 p289 q289
        have hw289_1 := hx289_1
        have hw289_0 := hx289_0
        cases e289
        replace hx289_0 := (HB.out.cell (World.block_lt_of_cell? w _ hx289_0)).trans hx289_0
        replace hx289_1 := (HB.out.cell (World.block_lt_of_cell? w _ hx289_1)).trans hx289_1
        have HR289_1 := Aside0.mk hi289_1
        have HC289_1 := Aside0.mk hl289_1
        clear hi289_1 hl289_1
        replace p289 := eq_true p289
        replace q289 := eq_true q289
        refine start_ (n := 10) (S := fun w' => w'.cell? ⟨gb287, 0, none⟩ = some (.slice A0_0 l0_0.length c0_0) ∧ w'.cell? ⟨gb287, 1, none⟩ = some (.slice (some ad289) l0_1.length c0_1) ∧ w'.cell? (ad289.add ((x4_1).toNat * 2)) = some (.string ((rd_T65 l0_1 x4_1).f0)) ∧ w'.cell? ⟨(ad289.add ((x4_1).toNat * 2)).block, (ad289.add ((x4_1).toNat * 2)).off + 1, none⟩ = some (.slice A289_1 ((rd_T65 l0_1 x4_1).f1).length c289_1)) (ds := []) #[false, false, false, false, false, false, false, false, false, false] (by kernel_rfl) rfl rfl ⟨(blk_cell BK287.out 0).trans rfl, (blk_cell BK287.out 1).trans rfl, ((HB.out.cell (World.block_lt_of_cell? w _ hw289_0)).trans hw289_0), ((HB.out.cell (World.block_lt_of_cell? w _ hw289_1)).trans hw289_1)⟩ (fun hHeld => ?_); refine with_tabW ancepsref57_Valid.tab9 ancepsref57_Valid.bits9 (fun HT_ HW_ => ?_)
        generalize wr.drew = w17 at BK287 HB HR289_1 hx289_0 hx289_1 hHeld ⊢
        refine pv_ 0 (some 23) HT_ ?_
        refine pv_ 2 (some 25) HT_ ?_
        refine pv_ 5 (some 28) HT_ ?_
        refine tw_ 1 (some 24) HT_ HW_ hHeld ?_
        refine pv_ 3 (some 26) HT_ ?_
        refine tw_ 4 (some 27) HT_ HW_ hHeld ?_
        refine tw_ 6 (some 29) HT_ HW_ hHeld ?_
        refine pv_ 7 (some 30) HT_ ?_
        refine one_ (i := 8) (N := some 31) #[true, true, true, true, true, true, true, true, true, false] rfl rfl (one_of HT_.out (by kernel_rfl)) (by decide) (fun K hK => ?_)
        refine goes_ Try.func70 (by kernel_rfl) rfl #[.agg #[.string ((rd_T65 l0_1 x4_1).f0), .slice A289_1 ((rd_T65 l0_1 x4_1).f1).length c289_1], .int .i64 (l0_0.length : Int)] (by rfl) rfl rfl (by (try simp only [List.map_toArray, List.map_cons, List.map_nil]); first | done | rfl | (simp only [List.length_drop, List.length_take]; rfl)) ?_
        with_reducible refine (ancepsref57_row.calls k1 ((rd_T65 l0_1 x4_1).f0) _ _ ((rd_T65 l0_1 x4_1).f1) (l0_0.length : Int) t290 _ ?side1 ?side2 A11.out).mono ?_
        (case side1 => exact iC HR289_1 HB)
        (case side2 => exact HC289_1.out)
        rintro e w18 ⟨rfl, hb⟩
        refine ⟨_, rfl, ?_⟩
        have n0_ := jB BK287 hb
        have n1_ := jL HB hb
        clear BK287
        clear HB
        have BK287 := n0_
        have HB := n1_
        clear n0_ n1_
        (try clear hb)
        (try clear hb2)
        (try clear hk)
        (try clear hi)
        refine hK.out _ _ ⟨(blk_cell BK287.out 0).trans rfl, (blk_cell BK287.out 1).trans rfl, ((HB.out.cell (World.block_lt_of_cell? w _ hw289_0)).trans hw289_0), ((HB.out.cell (World.block_lt_of_cell? w _ hw289_1)).trans hw289_1)⟩ (fun hHeld => ?_)
        clear hK K
        refine norm_ (a' := ?_) ?_ ?_
        rotate_left
        ·show Act.put _ (some 31) _ = _
         simp only [Act.put, List.setIfInBounds_toArray, List.set_cons_zero, List.set_cons_succ, i64_w, i32_w]
         rfl
        refine pv_ 9 (some 5) HT_ ?_
        refine done_ (done_of HT_.out (by kernel_rfl)) ?_
        try go_wp2
        go_ret
        exact ⟨eV, iL HB⟩
      ·rw [if_neg c10] at H
       exact absurd H (by simp)
     ·rw [if_neg c9] at H
      have c9b0 : decide (x4_1 < (l0_1.length : Int)) = false := decide_eq_false c9
      clear c9
      obtain rfl := Option.some.inj H
      have hcz19_0 := cZ BK287 0 (.slice A0_0 l0_0.length c0_0)
      have hcz19_1 := cZ BK287 1 (.slice A0_1 l0_1.length c0_1)
      have hfz19_0 := blk_frozen BK287.out 0
      have hfz19_1 := blk_frozen BK287.out 1
      go_wp2
      go_ret
      exact ⟨eV, iL HB⟩
 ·rw [if_neg c3] at H
  have c3b0 : (t288 == 0) = false := beq_eq_false_iff_ne.mpr c3
  have c3b1 : (t288 != 0) = true := bne_iff_ne.mpr c3
  obtain rfl := Option.some.inj H
  go_enter Try.func54, Try.ntmps54
  go_wp2_with (first | ((with_reducible refine gate_dst (N := 1) rfl ?_); refine bX 1 #[.slice A0_0 l0_0.length c0_0, .slice A0_1 l0_1.length c0_1] 42 ?_; intro gb287 hg w20 hbox hb; have n0_ := jL HB hb; have n1_ := Aside0.mk (hbox); have n2_ := Aside0.mk ((by rw [hg]; exact (below_size (iL HB)) : w.heap.size ≤ gb287)); have n3_ := Aside0.mk ((by rw [hg]; exact (below_size (iL HB)) : w.heap.size ≤ gb287)); clear HB; have HB := n0_; have BK287 := n1_; have GW287 := n2_; have GE287 := n3_; clear n0_ n1_ n2_ n3_; clear hb hbox hg; have hcz21_0 := cZ BK287 0 (.slice A0_0 l0_0.length c0_0); have hcz21_1 := cZ BK287 1 (.slice A0_1 l0_1.length c0_1); have hfz21_0 := blk_frozen BK287.out 0; have hfz21_1 := blk_frozen BK287.out 1) | ((with_reducible refine gate_callee (f := 68) rfl ?_); refine gL_ (some 8) Try.func68 #[.slice A0_0 l0_0.length c0_0] ?_; (with_reducible refine (ancepsref57_names.calls k _ _ l0_0 t288 _ ?side1 ?side2 A2.out).mono ?_); (case side1 => exact iC HR0_0 HB); (case side2 => exact HC0_0.out); rintro e w' ⟨rfl, ⟨nd, rfl⟩⟩; refine ⟨_, rfl, ?_⟩))
  go_ret
  exact ⟨eV, iL HB⟩

/-! ### ancepsref57_chosen: function 58 -/
mutual
def ancepsref57_chosen.l0 : Nat → Int → Int → Int → ByteArray → List (S67) → Option (ByteArray × (List (S67)))
 | 0, _, _, _, _, _ => none
 | k + 1, x1, x7, x8, x292000, x292001 => if x8 < (x292001.length : Int) then (if 0 ≤ x8 then (ancepsref57_chosen.l0 k x1 (Go.bits .andNot .i64 x7 ((rd_T67 x292001 x8).f1)) (wrap64 (x8 + 1)) x292000 x292001) else (none)) else (if 0 ≤ x1 then (if x1 < (x292001.length : Int) then (ancepsref57_chosen.l1 k x1 x7 0 x292000 x292001 ((rd_T67 x292001 x1).f0) ([] : List (S67))) else (none)) else (none))
def ancepsref57_chosen.l1 : Nat → Int → Int → Int → ByteArray → List (S67) → ByteArray → List (S67) → Option (ByteArray × (List (S67)))
 | 0, _, _, _, _, _, _, _ => none
 | k + 1, x1, x7, x10, x292000, x292001, x296000, x296001 => if x10 < (x292001.length : Int) then (if 0 ≤ x10 then (if x10 = x1 then (if x296001.length < 5864062014805 then (ancepsref57_chosen.l1 k x1 x7 (wrap64 (x10 + 1)) x292000 x292001 x296000 (x296001 ++ [(⟨x292000, x7⟩ : S67)])) else (none)) else (if x296001.length < 5864062014805 then (ancepsref57_chosen.l1 k x1 x7 (wrap64 (x10 + 1)) x292000 x292001 x296000 (x296001 ++ [(⟨(rd_T67 x292001 x10).f0, (rd_T67 x292001 x10).f1⟩ : S67)])) else (none))) else (none)) else (some (x296000, x296001))
end
def ancepsref57_chosen.f (k : Nat) (a0_0 : ByteArray) (l0_1 : List (S67)) (a1 : Int) (a2 : Int) : Option (ByteArray × (List (S67))) := if 0 ≤ a2 then (ancepsref57_chosen.l0 k a1 (wrap64 ((shl .i64 1 a2) - 1)) 0 a0_0 l0_1) else (none)
theorem ancepsref57_chosen.mono_l : ∀ k, (∀ y0 y1 y2 y3 y4, LeO (ancepsref57_chosen.l0 k y0 y1 y2 y3 y4) (ancepsref57_chosen.l0 (k + 1) y0 y1 y2 y3 y4)) ∧ (∀ y0 y1 y2 y3 y4 y5 y6, LeO (ancepsref57_chosen.l1 k y0 y1 y2 y3 y4 y5 y6) (ancepsref57_chosen.l1 (k + 1) y0 y1 y2 y3 y4 y5 y6))
 | 0 => ⟨fun _ _ _ _ _ r h => by simp [ancepsref57_chosen.l0] at h, fun _ _ _ _ _ _ _ r h => by simp [ancepsref57_chosen.l1] at h⟩
 | k + 1 => by
  obtain ⟨ih0, ih1⟩ := ancepsref57_chosen.mono_l k
  refine ⟨?_, ?_⟩
  ·intro y0 y1 y2 y3 y4
   unfold ancepsref57_chosen.l0
   repeat' first
   | (with_reducible exact ih0 _ _ _ _ _)
   | (with_reducible exact ih1 _ _ _ _ _ _ _)
   | (with_reducible exact LeO.refl _)
   | (with_reducible exact LeO.none _)
   | (with_reducible refine LeO.ite ?_ ?_)
   | (with_reducible refine LeO.bind ?_ (fun _ => ?_))
   | exact ih0 _ _ _ _ _
   | exact ih1 _ _ _ _ _ _ _
   | exact LeO.none _
   | refine LeO.ite ?_ ?_
   | refine LeO.bind ?_ (fun _ => ?_)
  ·intro y0 y1 y2 y3 y4 y5 y6
   unfold ancepsref57_chosen.l1
   repeat' first
   | (with_reducible exact ih0 _ _ _ _ _)
   | (with_reducible exact ih1 _ _ _ _ _ _ _)
   | (with_reducible exact LeO.refl _)
   | (with_reducible exact LeO.none _)
   | (with_reducible refine LeO.ite ?_ ?_)
   | (with_reducible refine LeO.bind ?_ (fun _ => ?_))
   | exact ih0 _ _ _ _ _
   | exact ih1 _ _ _ _ _ _ _
   | exact LeO.none _
   | refine LeO.ite ?_ ?_
   | refine LeO.bind ?_ (fun _ => ?_)
theorem ancepsref57_chosen.mono : ∀ a0 a1 a2 a3 k, LeO (ancepsref57_chosen.f k a0 a1 a2 a3) (ancepsref57_chosen.f (k + 1) a0 a1 a2 a3) := by
 intro a0 a1 a2 a3 k
 obtain ⟨ih0, ih1⟩ := ancepsref57_chosen.mono_l k
 unfold ancepsref57_chosen.f
 repeat' first
   | (with_reducible exact ih0 _ _ _ _ _)
   | (with_reducible exact ih1 _ _ _ _ _ _ _)
   | (with_reducible exact LeO.refl _)
   | (with_reducible exact LeO.none _)
   | (with_reducible refine LeO.ite ?_ ?_)
   | (with_reducible refine LeO.bind ?_ (fun _ => ?_))
   | exact ih0 _ _ _ _ _
   | exact ih1 _ _ _ _ _ _ _
   | exact LeO.none _
   | refine LeO.ite ?_ ?_
   | refine LeO.bind ?_ (fun _ => ?_)
set_option maxHeartbeats 8000000 in
set_option maxRecDepth 100000 in
theorem ancepsref57_chosen.calls (k : Nat) (a0_0 : ByteArray) (A0_1 : Option Addr) (c0_1 : Nat) (l0_1 : List (S67)) (a1 : Int) (a2 : Int) (r1 : ByteArray) (r2 : List (S67)) (w : World) (hr0_1 : Kd.C k67 w A0_1 l0_1.length l0_1) (hc0_1 : l0_1.length ≤ c0_1) (h : ancepsref57_chosen.f k a0_0 l0_1 a1 a2 = some (r1, r2)) :
  Calls Try.prog 58 #[.agg #[.string a0_0, .slice A0_1 l0_1.length c0_1], .int .i64 a1, .int .i64 a2] w fun e w' => ∃ v1_ : Value, e = .returned (.agg #[.string r1, v1_]) ∧ Kd.R k67 67 w' w.heap.size (fun _ => True) v1_ r2 ∧ Below w.heap.size w w' := by
 have hu65 := Try.underlying65
 have hu67 := Try.underlying67
 have HR0_1 := Aside0.mk hr0_1
 have HC0_1 := Aside0.mk hc0_1
 clear hr0_1 hc0_1
 have HB := Aside0.mk (Below.refl w.heap.size w)
 have H : (if 0 ≤ a2 then (ancepsref57_chosen.l0 k a1 (wrap64 ((shl .i64 1 a2) - 1)) 0 a0_0 l0_1) else (none)) = some (r1, r2) := h
 clear h
 by_cases c4 : 0 ≤ a2
 ·rw [if_pos c4] at H
  have c4b0 := eq_true c4
  have c4b1 : decide (0 ≤ a2) = true := decide_eq_true c4
  clear c4
  obtain ⟨ji5, hji5⟩ : ∃ j_ : Int, (shl .i64 1 a2) = j_ := ⟨_, rfl⟩
  replace H : (ancepsref57_chosen.l0 k a1 (wrap64 ((ji5) - 1)) 0 a0_0 l0_1) = some (r1, r2) := by first | (rw [hji5] at H; exact H) | (simp only [hji5] at H ⊢; exact H)
  have hji5_ : (IntKind.i64.wrap (1 * 2 ^ min a2.toNat 64)) = ji5 := hji5
  have hji5z : a2 ≤ 64 → (IntKind.i64.wrap (1 * 2 ^ a2.toNat)) = ji5 := shl_small hji5
  have hji5u : (IntKind.i64.wrap (2 ^ min a2.toNat 64)) = ji5 := by have h_ := hji5_; rw [Int.one_mul] at h_; exact h_
  have hji5v : a2 ≤ 64 → (IntKind.i64.wrap (2 ^ a2.toNat)) = ji5 := fun hle_ => by have h_ := hji5z hle_; rw [Int.one_mul] at h_; exact h_
  have hji5y : (wrap64 (1 * 2 ^ min a2.toNat 64)) = ji5 := (i64_w _).symm.trans hji5_
  have hji5x : a2 ≤ 64 → (wrap64 (1 * 2 ^ a2.toNat)) = ji5 := fun h_ => (i64_w _).symm.trans (hji5z h_)
  have H' := Aside0.mk H
  clear H
  go_enter Try.func58, Try.ntmps58
  go_wp2_with (first | ((with_reducible refine gate_dst (N := 3) rfl ?_); refine bX 3 #[.string a0_0, .slice A0_1 l0_1.length c0_1] 65 ?_; intro gb291 hg w6 hbox hb; have n0_ := jL HB hb; have n1_ := Aside0.mk (hbox); have n2_ := Aside0.mk ((by rw [hg]; exact (below_size (iL HB)) : w.heap.size ≤ gb291)); have n3_ := Aside0.mk ((by rw [hg]; exact (below_size (iL HB)) : w.heap.size ≤ gb291)); clear HB; have HB := n0_; have BK291 := n1_; have GW291 := n2_; have GE291 := n3_; clear n0_ n1_ n2_ n3_; clear hb hbox hg) | ((with_reducible refine gate_dst (N := 6) rfl ?_); refine bX 6 #[.string (⟨#[]⟩ : ByteArray), .slice none 0 0] 65 ?_; intro gb292 hg w7 hbox hb; have n0_ := jB BK291 hb; have n1_ := jL HB hb; have n2_ := Aside0.mk (hbox); have n3_ := Aside0.mk ((by rw [hg]; exact (below_size (iL HB)) : w.heap.size ≤ gb292)); have n4_ := Aside0.mk ((by rw [hg]; exact (below_size (iL HB)) : w.heap.size ≤ gb292)); have n5_ := Aside0.mk ((by rw [hg]; exact Nat.ne_of_lt (blk_lt (g := gb291) (o := .cells #[.string a0_0, .slice A0_1 l0_1.length c0_1] 65 (0, 0)) (iB BK291)) : gb291 ≠ gb292)); have n6_ := Aside0.mk ((by rw [hg]; exact Nat.ne_of_gt (blk_lt (g := gb291) (o := .cells #[.string a0_0, .slice A0_1 l0_1.length c0_1] 65 (0, 0)) (iB BK291)) : gb292 ≠ gb291)); clear BK291; clear HB; have BK291 := n0_; have HB := n1_; have BK292 := n2_; have GW292 := n3_; have GE292 := n4_; have NB291_292 := n5_; have NB292_291 := n6_; clear n0_ n1_ n2_ n3_ n4_ n5_ n6_; clear hb hbox hg))
  go_loopg [7, 8] k (fun kq v7 v8 w' => ∃ (x7_1 : Int) (x8_1 : Int), v7 = .int .i64 x7_1 ∧ v8 = .int .i64 x8_1 ∧ Aside0 (ancepsref57_chosen.l0 kq a1 x7_1 x8_1 a0_0 l0_1 = some (r1, r2)) ∧ Aside0 (kq ≤ k) ∧ Aside0 (w'.heap[gb291]? = some (.cells #[.string a0_0, (.slice A0_1 l0_1.length c0_1)] 65 (0, 0))) ∧ Aside0 (w'.heap[gb292]? = some (.cells #[.string (⟨#[]⟩ : ByteArray), (.slice none 0 0)] 65 (0, 0))) ∧ Aside0 (Below w.heap.size w w'))
  case atStart => exact ⟨(wrap64 ((ji5) - 1)), (0), (by first | rfl | (simp; done) | (simp only [← hji5] <;> (first | rfl | simp)) | (simp [*]; done)), eV, H', ⟨Nat.le_refl _⟩, ⟨iB BK291⟩, ⟨iB BK292⟩, ⟨iL HB⟩⟩
  case round =>
   clear H'
   (try clear p2); (try clear c4); (try clear c4b0); (try clear c4b1); (try clear c5); (try clear p6)
   obtain ⟨x7_1, x8_1, rfl, rfl, HA, HK1, BK291, BK292, HB⟩ := hrel
   cases gk with
   | zero => exact absurd HA.out (by simp [ancepsref57_chosen.l0])
   | succ k1 =>
    have H := HA.out
    clear HA
    simp only [ancepsref57_chosen.l0] at H
    by_cases c8 : x8_1 < (l0_1.length : Int)
    ·rw [if_pos c8] at H
     have c8b0 : decide (x8_1 < (l0_1.length : Int)) = true := decide_eq_true c8
     clear c8
     by_cases c9 : 0 ≤ x8_1
     ·rw [if_pos c9] at H
      have c9b0 : decide (0 ≤ x8_1) = true := decide_eq_true c9
      clear c9
      have H' := Aside0.mk H
      clear H
      have hnb10 := NB291_292.out
      have hnc10 := NB292_291.out
      have hcz11_0 := cZ BK291 0 (.string a0_0)
      have hcz11_1 := cZ BK291 1 (.slice A0_1 l0_1.length c0_1)
      have hfz11_0 := blk_frozen BK291.out 0
      have hfz11_1 := blk_frozen BK291.out 1
      have p293 := oD (0 ≤ (x8_1 : Int))
      have q293 := oD (x8_1 < (l0_1.length : Int))
      obtain ⟨ad293, e293, hx293_0, hx293_1⟩ := at_T67 HR0_1.out x8_1 p293 q293
      cases e293
      replace hx293_0 := (HB.out.cell (World.block_lt_of_cell? w _ hx293_0)).trans hx293_0
      replace hx293_1 := (HB.out.cell (World.block_lt_of_cell? w _ hx293_1)).trans hx293_1
      replace p293 := eq_true p293
      replace q293 := eq_true q293
      go_wp2
      go_roundg k1
      case measure => have := HK1.out; omega
      case rel => exact ⟨(Go.bits .andNot .i64 x7_1 ((rd_T67 l0_1 x8_1).f1)), (wrap64 (x8_1 + 1)), eV, eV, H', ⟨by have := HK1.out; omega⟩, ⟨iB BK291⟩, ⟨iB BK292⟩, ⟨iL HB⟩⟩
     ·rw [if_neg c9] at H
      exact absurd H (by simp)
    ·rw [if_neg c8] at H
     have c8b0 : decide (x8_1 < (l0_1.length : Int)) = false := decide_eq_false c8
     clear c8
     by_cases c12 : 0 ≤ a1
     ·rw [if_pos c12] at H
      have c12b0 : decide (0 ≤ a1) = true := decide_eq_true c12
      clear c12
      by_cases c13 : a1 < (l0_1.length : Int)
      ·rw [if_pos c13] at H
       have c13b0 : decide (a1 < (l0_1.length : Int)) = true := decide_eq_true c13
       clear c13
       have H' := Aside0.mk H
       clear H
       have hnb14 := NB291_292.out
       have hnc14 := NB292_291.out
       have hcz15_0 := cZ BK291 0 (.string a0_0)
       have hcz15_1 := cZ BK291 1 (.slice A0_1 l0_1.length c0_1)
       have hfz15_0 := blk_frozen BK291.out 0
       have hfz15_1 := blk_frozen BK291.out 1
       have p294 := oD (0 ≤ (a1 : Int))
       have q294 := oD (a1 < (l0_1.length : Int))
       obtain ⟨ad294, e294, hx294_0, hx294_1⟩ := at_T67 HR0_1.out a1 p294 q294
       cases e294
       replace hx294_0 := (HB.out.cell (World.block_lt_of_cell? w _ hx294_0)).trans hx294_0
       replace hx294_1 := (HB.out.cell (World.block_lt_of_cell? w _ hx294_1)).trans hx294_1
       replace p294 := eq_true p294
       replace q294 := eq_true q294
       go_wp2_with (first | ((with_reducible refine gate_dst (N := 9) rfl ?_); refine bX 9 #[.string (⟨#[]⟩ : ByteArray), .slice none 0 0] 65 ?_; intro gb295 hg w16 hbox hb; have n0_ := jB BK291 hb; have n1_ := jB BK292 hb; have n2_ := jL HB hb; have n3_ := Aside0.mk (hbox); have n4_ := Aside0.mk ((by rw [hg]; exact (below_size (iL HB)) : w.heap.size ≤ gb295)); have n5_ := Aside0.mk ((by rw [hg]; exact (below_size (iL HB)) : w.heap.size ≤ gb295)); have n6_ := Aside0.mk ((by rw [hg]; exact Nat.ne_of_lt (blk_lt (g := gb291) (o := .cells #[.string a0_0, .slice (some ad294) l0_1.length c0_1] 65 (0, 0)) (iB BK291)) : gb291 ≠ gb295)); have n7_ := Aside0.mk ((by rw [hg]; exact Nat.ne_of_gt (blk_lt (g := gb291) (o := .cells #[.string a0_0, .slice (some ad294) l0_1.length c0_1] 65 (0, 0)) (iB BK291)) : gb295 ≠ gb291)); have n8_ := Aside0.mk ((by rw [hg]; exact Nat.ne_of_lt (blk_lt (g := gb292) (o := .cells #[.string (⟨#[]⟩ : ByteArray), .slice none 0 0] 65 (0, 0)) (iB BK292)) : gb292 ≠ gb295)); have n9_ := Aside0.mk ((by rw [hg]; exact Nat.ne_of_gt (blk_lt (g := gb292) (o := .cells #[.string (⟨#[]⟩ : ByteArray), .slice none 0 0] 65 (0, 0)) (iB BK292)) : gb295 ≠ gb292)); clear BK291; clear BK292; clear HB; have BK291 := n0_; have BK292 := n1_; have HB := n2_; have BK295 := n3_; have GW295 := n4_; have GE295 := n5_; have NB291_295 := n6_; have NB295_291 := n7_; have NB292_295 := n8_; have NB295_292 := n9_; clear n0_ n1_ n2_ n3_ n4_ n5_ n6_ n7_ n8_ n9_; clear hb hbox hg; have hnb17 := NB295_291.out; have hnc17 := NB291_295.out; have hnb18 := NB295_292.out; have hnc18 := NB292_295.out; have hcz19_0 := cZ BK295 0 (.string (⟨#[]⟩ : ByteArray)); have hcz19_1 := cZ BK295 1 (.slice none 0 0); have hfz19_0 := blk_frozen BK295.out 0; have hfz19_1 := blk_frozen BK295.out 1))
       go_loopg [10] k1 (fun kq v10 w' => ∃ (x10_2 : Int) (x296001_2 : List (S67)) (u296001 : Value), v10 = .int .i64 x10_2 ∧ Aside0 (ancepsref57_chosen.l1 kq a1 x7_1 x10_2 a0_0 l0_1 ((rd_T67 l0_1 a1).f0) x296001_2 = some (r1, r2)) ∧ Aside0 (kq ≤ k1) ∧ Aside0 (Kd.R k67 67 w' w.heap.size (fun _ => True) u296001 x296001_2) ∧ Aside0 (w'.heap[gb291]? = some (.cells #[.string a0_0, (.slice (some ad294) l0_1.length c0_1)] 65 (0, 0))) ∧ Aside0 (w'.heap[gb292]? = some (.cells #[.string (⟨#[]⟩ : ByteArray), (.slice none 0 0)] 65 (0, 0))) ∧ Aside0 (w'.heap[gb295]? = some (.cells #[.string ((rd_T67 l0_1 a1).f0), u296001] 65 (0, 0))) ∧ Aside0 (Below w.heap.size w w'))
       case atStart => exact ⟨(0), (([] : List (S67))), (.slice none 0 0), eV, H', ⟨Nat.le_refl _⟩, ⟨by first | exact Kd.R_nil _ _ _ _ _ | exact Kd.N_nil _ _ _ _ _ | exact Kd.V_nil _ _ _ _ _ | exact Kd.Q_nil _ _ _ _ _ | exact Kd.S_nil _ _ _ _ _⟩, ⟨by (with_reducible repeat (first | apply blk_drewN | apply blk_drew | apply blk_alloc)); refine blk_far ?_ NB291_295.out _; (with_reducible repeat (first | apply blk_drewN | apply blk_drew | apply blk_alloc)); refine blk_far ?_ NB291_295.out _; (with_reducible repeat (first | apply blk_drewN | apply blk_drew | apply blk_alloc)); exact BK291.out⟩, ⟨by (with_reducible repeat (first | apply blk_drewN | apply blk_drew | apply blk_alloc)); refine blk_far ?_ NB292_295.out _; (with_reducible repeat (first | apply blk_drewN | apply blk_drew | apply blk_alloc)); refine blk_far ?_ NB292_295.out _; (with_reducible repeat (first | apply blk_drewN | apply blk_drew | apply blk_alloc)); exact BK292.out⟩, ⟨by (with_reducible repeat (first | apply blk_drewN | apply blk_drew | apply blk_alloc)); refine blk_put (cs := #[.string ((rd_T67 l0_1 a1).f0), .slice none 0 0]) ?_ 1 _ rfl; (with_reducible repeat (first | apply blk_drewN | apply blk_drew | apply blk_alloc)); refine blk_put (cs := #[.string (⟨#[]⟩ : ByteArray), .slice none 0 0]) ?_ 0 _ rfl; (with_reducible repeat (first | apply blk_drewN | apply blk_drew | apply blk_alloc)); exact BK295.out⟩, ⟨iL HB⟩⟩
       case round =>
        clear H'
        (try clear c1); (try clear p2); (try clear q2); (try clear hx2); (try clear c4); (try clear c4b0); (try clear c4b1); (try clear c5); (try clear p6); (try clear c8); (try clear c8b0); (try clear c9); (try clear c9b0); (try clear c10); (try clear c12); (try clear c12b0); (try clear c13); (try clear c13b0); (try clear c14); (try clear c17); (try clear c18); (try clear hcz11_0); (try clear hcz11_1); (try clear hcz15_0); (try clear hcz15_1); (try clear hcz19_0); (try clear hcz19_1); (try clear hfz11_0); (try clear hfz11_1); (try clear hfz15_0); (try clear hfz15_1); (try clear hfz19_0); (try clear hfz19_1); (try clear hx293_0); (try clear hx293_1); (try clear hx294_0); (try clear hx294_1); (try clear p2); (try clear p293); (try clear p294); (try clear p6); (try clear q293); (try clear q294)
        obtain ⟨x10_2, x296001_2, u296001, rfl, HA, HK2, HO_296001, BK291, BK292, BK295, HB⟩ := hrel
        cases gk with
        | zero => exact absurd HA.out (by simp [ancepsref57_chosen.l1])
        | succ k2 =>
         have H := HA.out
         clear HA
         simp only [ancepsref57_chosen.l1] at H
         by_cases c20 : x10_2 < (l0_1.length : Int)
         ·rw [if_pos c20] at H
          have c20b0 : decide (x10_2 < (l0_1.length : Int)) = true := decide_eq_true c20
          clear c20
          by_cases c21 : 0 ≤ x10_2
          ·rw [if_pos c21] at H
           have c21b0 : decide (0 ≤ x10_2) = true := decide_eq_true c21
           clear c21
           by_cases c22 : x10_2 = a1
           ·rw [if_pos c22] at H
            have c22b0 : (x10_2 == a1) = true := beq_iff_eq.mpr c22
            have c22b1 : (x10_2 != a1) = false := bne_eq_false_iff_eq.mpr c22
            clear c22
            by_cases c23 : x296001_2.length < 5864062014805
            ·rw [if_pos c23] at H
             have LMc23 := Aside0.mk c23
             clear c23
             obtain ⟨y298, hy298⟩ : ∃ y_ : List (S67), y_ = (x296001_2 ++ [(⟨a0_0, x7_1⟩ : S67)]) := ⟨_, rfl⟩
             replace H : (ancepsref57_chosen.l1 k2 a1 x7_1 (wrap64 (x10_2 + 1)) a0_0 l0_1 ((rd_T67 l0_1 a1).f0) y298) = some (r1, r2) := by first | (rw [hy298]; with_reducible exact H) | (have H2_ := (Option.bind_some _ _).symm.trans H; rw [hy298]; with_reducible exact H2_) | (have H2_ := (Option.bind_some _ _).symm.trans H; with_reducible exact H2_) | with_reducible exact H | (rw [hy298]; exact H) | exact H
             have Ny298 := Aside0.mk hy298
             clear hy298
             have H' := Aside0.mk H
             clear H
             have hnb24 := NB291_292.out
             have hnc24 := NB292_291.out
             have hnb25 := NB291_295.out
             have hnc25 := NB295_291.out
             have hcz26_0 := cZ BK291 0 (.string a0_0)
             have hcz26_1 := cZ BK291 1 (.slice (some ad294) l0_1.length c0_1)
             have hfz26_0 := blk_frozen BK291.out 0
             have hfz26_1 := blk_frozen BK291.out 1
             have p296 := oD (0 ≤ (x10_2 : Int))
             have q296 := oD (x10_2 < (l0_1.length : Int))
             obtain ⟨ad296, e296, hx296_0, hx296_1⟩ := at_T67 HR0_1.out x10_2 p296 q296
             obtain rfl : ad294 = ad296 := (by injection e296)
             replace hx296_0 := (HB.out.cell (World.block_lt_of_cell? w _ hx296_0)).trans hx296_0
             replace hx296_1 := (HB.out.cell (World.block_lt_of_cell? w _ hx296_1)).trans hx296_1
             replace p296 := eq_true p296
             replace q296 := eq_true q296
             go_wp2_with (first | ((with_reducible refine gate_dst (N := 11) rfl ?_); refine bX 11 #[.string (⟨#[]⟩ : ByteArray), .int .i64 0] 67 ?_; intro gb297 hg w27 hbox hb; have n0_ := Aside0.mk (Kd.R_below (Kd.R_elderB (iR HO_296001) gb297 (Nat.le_of_eq hg.symm)) hb); have n1_ := jB BK291 hb; have n2_ := jB BK292 hb; have n3_ := jB BK295 hb; have n4_ := jL HB hb; have n5_ := Aside0.mk (hbox); have n6_ := Aside0.mk ((by rw [hg]; exact (below_size (iL HB)) : w.heap.size ≤ gb297)); have n7_ := Aside0.mk ((by rw [hg]; exact (below_size (iL HB)) : w.heap.size ≤ gb297)); have n8_ := Aside0.mk ((by rw [hg]; exact Nat.ne_of_lt (blk_lt (g := gb291) (o := .cells #[.string a0_0, .slice (some ad294) l0_1.length c0_1] 65 (0, 0)) (iB BK291)) : gb291 ≠ gb297)); have n9_ := Aside0.mk ((by rw [hg]; exact Nat.ne_of_gt (blk_lt (g := gb291) (o := .cells #[.string a0_0, .slice (some ad294) l0_1.length c0_1] 65 (0, 0)) (iB BK291)) : gb297 ≠ gb291)); have n10_ := Aside0.mk ((by rw [hg]; exact Nat.ne_of_lt (blk_lt (g := gb292) (o := .cells #[.string (⟨#[]⟩ : ByteArray), .slice none 0 0] 65 (0, 0)) (iB BK292)) : gb292 ≠ gb297)); have n11_ := Aside0.mk ((by rw [hg]; exact Nat.ne_of_gt (blk_lt (g := gb292) (o := .cells #[.string (⟨#[]⟩ : ByteArray), .slice none 0 0] 65 (0, 0)) (iB BK292)) : gb297 ≠ gb292)); have n12_ := Aside0.mk ((by rw [hg]; exact Nat.ne_of_lt (blk_lt (g := gb295) (o := .cells #[.string ((rd_T67 l0_1 a1).f0), u296001] 65 (0, 0)) (iB BK295)) : gb295 ≠ gb297)); have n13_ := Aside0.mk ((by rw [hg]; exact Nat.ne_of_gt (blk_lt (g := gb295) (o := .cells #[.string ((rd_T67 l0_1 a1).f0), u296001] 65 (0, 0)) (iB BK295)) : gb297 ≠ gb295)); clear HO_296001; clear BK291; clear BK292; clear BK295; clear HB; have HO_296001 := n0_; have BK291 := n1_; have BK292 := n2_; have BK295 := n3_; have HB := n4_; have BK297 := n5_; have GW297 := n6_; have GE297 := n7_; have NB291_297 := n8_; have NB297_291 := n9_; have NB292_297 := n10_; have NB297_292 := n11_; have NB295_297 := n12_; have NB297_295 := n13_; clear n0_ n1_ n2_ n3_ n4_ n5_ n6_ n7_ n8_ n9_ n10_ n11_ n12_ n13_; clear hb hbox hg; have hnb28 := NB297_291.out; have hnc28 := NB291_297.out; have hnb29 := NB297_292.out; have hnc29 := NB292_297.out; have hnb30 := NB297_295.out; have hnc30 := NB295_297.out; have hcz31_0 := cZ BK297 0 (.string (⟨#[]⟩ : ByteArray)); have hcz31_1 := cZ BK297 1 (.int .i64 0); have hfz31_0 := blk_frozen BK297.out 0; have hfz31_1 := blk_frozen BK297.out 1; have hcz32_0 := cZ BK291 0 (.string a0_0); have hcz32_1 := cZ BK291 1 (.slice (some ad294) l0_1.length c0_1); have hfz32_0 := blk_frozen BK291.out 0; have hfz32_1 := blk_frozen BK291.out 1; have hnb33 := NB295_292.out; have hnc33 := NB292_295.out; have hcz34_0 := cZ BK295 0 (.string ((rd_T67 l0_1 a1).f0)); have hcz34_1 := cZ BK295 1 (u296001); have hfz34_0 := blk_frozen BK295.out 0; have hfz34_1 := blk_frozen BK295.out 1) | ((with_reducible refine gate_builtin (b := .append) (xs := #[.tmp 57, .tmp 59]) rfl ?_); at_builtin; refine Kd.R_append k67 (w0 := w) w.heap.size rfl (.tmp 57) (.tmp 59) 63 67 (.agg #[(.string ⟨#[]⟩), (.int .i64 0)]) 24 rfl Try.underlying63 info67 rfl (by decide) (by omega) u296001 x296001_2 (⟨a0_0, x7_1⟩ : S67) [.string a0_0, .int .i64 x7_1] (fun k_ => k_ ≠ gb297) (fun _ => False) rfl (by first | (go_simp; done) | (go_simp; rfl)) ?aP (fun _ hk => hk.elim) ?aF ?aO ?aB ?aS ?aL ?_; (case aP => exact k67_mkM _ _ _ (⟨a0_0, x7_1⟩ : S67)); (case aB => exact (iL HB)); (case aF => exact (fun k_ hk => Kd.freshB (g := gb297) (o := .cells #[.string a0_0, .int .i64 x7_1] 67 (0, 0)) (by (with_reducible repeat (first | apply blk_drewN | apply blk_drew | apply blk_alloc)); refine blk_put (cs := #[.string a0_0, .int .i64 ((rd_T67 l0_1 x10_2).f1)]) ?_ 1 _ rfl; (with_reducible repeat (first | apply blk_drewN | apply blk_drew | apply blk_alloc)); refine blk_put (cs := #[.string ((rd_T67 l0_1 x10_2).f0), .int .i64 ((rd_T67 l0_1 x10_2).f1)]) ?_ 0 _ rfl; (with_reducible repeat (first | apply blk_drewN | apply blk_drew | apply blk_alloc)); refine blk_put (cs := #[.string ((rd_T67 l0_1 x10_2).f0), .int .i64 0]) ?_ 1 _ rfl; (with_reducible repeat (first | apply blk_drewN | apply blk_drew | apply blk_alloc)); refine blk_put (cs := #[.string (⟨#[]⟩ : ByteArray), .int .i64 0]) ?_ 0 _ rfl; (with_reducible repeat (first | apply blk_drewN | apply blk_drew | apply blk_alloc)); exact BK297.out) k_ hk)); (case aO => exact (by (with_reducible repeat (first | apply Kd.R_alloc | apply Kd.R_drewN | apply Kd.R_drew)); exact Kd.R_mono (Kd.R_far (p := ⟨gb297, 1, none⟩) (Kd.R_far (p := ⟨gb297, 0, none⟩) (Kd.R_far (p := ⟨gb297, 1, none⟩) (Kd.R_far (p := ⟨gb297, 0, none⟩) (Kd.R_mono HO_296001.out (fun k_ hk => (⟨hk, hk.2⟩ : _ ∧ k_ ≠ gb297))) (fun _ hk => hk.2) (.string ((rd_T67 l0_1 x10_2).f0))) (fun _ hk => hk.2) (.int .i64 ((rd_T67 l0_1 x10_2).f1))) (fun _ hk => hk.2) (.string a0_0)) (fun _ hk => hk.2) (.int .i64 x7_1)) (fun _ hk => hk.1.2))); (case aS => exact (below_size (iL HB))); (case aL => have := LMc23.out; omega); intro v299 w35 ho hb hg hat; rw [← Ny298.out] at ho; have n0_ := Aside0.mk (blk_grown (g := gb291) (o := .cells #[.string a0_0, .slice (some ad294) l0_1.length c0_1] 65 (0, 0)) (by (with_reducible repeat (first | apply blk_drewN | apply blk_drew | apply blk_alloc)); refine blk_far ?_ NB291_297.out _; (with_reducible repeat (first | apply blk_drewN | apply blk_drew | apply blk_alloc)); refine blk_far ?_ NB291_297.out _; (with_reducible repeat (first | apply blk_drewN | apply blk_drew | apply blk_alloc)); refine blk_far ?_ NB291_297.out _; (with_reducible repeat (first | apply blk_drewN | apply blk_drew | apply blk_alloc)); refine blk_far ?_ NB291_297.out _; (with_reducible repeat (first | apply blk_drewN | apply blk_drew | apply blk_alloc)); exact BK291.out) hg (Kd.R_ne HO_296001.out BK291.out (by decide))); have n1_ := Aside0.mk (blk_grown (g := gb292) (o := .cells #[.string (⟨#[]⟩ : ByteArray), .slice none 0 0] 65 (0, 0)) (by (with_reducible repeat (first | apply blk_drewN | apply blk_drew | apply blk_alloc)); refine blk_far ?_ NB292_297.out _; (with_reducible repeat (first | apply blk_drewN | apply blk_drew | apply blk_alloc)); refine blk_far ?_ NB292_297.out _; (with_reducible repeat (first | apply blk_drewN | apply blk_drew | apply blk_alloc)); refine blk_far ?_ NB292_297.out _; (with_reducible repeat (first | apply blk_drewN | apply blk_drew | apply blk_alloc)); refine blk_far ?_ NB292_297.out _; (with_reducible repeat (first | apply blk_drewN | apply blk_drew | apply blk_alloc)); exact BK292.out) hg (Kd.R_ne HO_296001.out BK292.out (by decide))); have n2_ := Aside0.mk (blk_grown (g := gb295) (o := .cells #[.string ((rd_T67 l0_1 a1).f0), u296001] 65 (0, 0)) (by (with_reducible repeat (first | apply blk_drewN | apply blk_drew | apply blk_alloc)); refine blk_far ?_ NB295_297.out _; (with_reducible repeat (first | apply blk_drewN | apply blk_drew | apply blk_alloc)); refine blk_far ?_ NB295_297.out _; (with_reducible repeat (first | apply blk_drewN | apply blk_drew | apply blk_alloc)); refine blk_far ?_ NB295_297.out _; (with_reducible repeat (first | apply blk_drewN | apply blk_drew | apply blk_alloc)); refine blk_far ?_ NB295_297.out _; (with_reducible repeat (first | apply blk_drewN | apply blk_drew | apply blk_alloc)); exact BK295.out) hg (Kd.R_ne HO_296001.out BK295.out (by decide))); have n3_ := Aside0.mk (blk_grown (g := gb297) (o := .cells #[.string a0_0, .int .i64 x7_1] 67 (0, 0)) (by (with_reducible repeat (first | apply blk_drewN | apply blk_drew | apply blk_alloc)); refine blk_put (cs := #[.string a0_0, .int .i64 ((rd_T67 l0_1 x10_2).f1)]) ?_ 1 _ rfl; (with_reducible repeat (first | apply blk_drewN | apply blk_drew | apply blk_alloc)); refine blk_put (cs := #[.string ((rd_T67 l0_1 x10_2).f0), .int .i64 ((rd_T67 l0_1 x10_2).f1)]) ?_ 0 _ rfl; (with_reducible repeat (first | apply blk_drewN | apply blk_drew | apply blk_alloc)); refine blk_put (cs := #[.string ((rd_T67 l0_1 x10_2).f0), .int .i64 0]) ?_ 1 _ rfl; (with_reducible repeat (first | apply blk_drewN | apply blk_drew | apply blk_alloc)); refine blk_put (cs := #[.string (⟨#[]⟩ : ByteArray), .int .i64 0]) ?_ 0 _ rfl; (with_reducible repeat (first | apply blk_drewN | apply blk_drew | apply blk_alloc)); exact BK297.out) hg (Kd.R_away HO_296001.out (fun _ hk => hk.2))); have n4_ := Aside0.mk (hb); have n5_ := Aside0.mk (ho); clear BK291; clear BK292; clear BK295; clear BK297; clear HB; clear HO_296001; have BK291 := n0_; have BK292 := n1_; have BK295 := n2_; have BK297 := n3_; have HB := n4_; have HO300 := n5_; clear n0_ n1_ n2_ n3_ n4_ n5_; clear ho hb hg hat; obtain ⟨Ao36, co36, eo36⟩ := Kd.R_slice HO300.out; subst eo36; have hcz37_0 := cZ BK295 0 (.string ((rd_T67 l0_1 a1).f0)); have hcz37_1 := cZ BK295 1 (u296001); have hfz37_0 := blk_frozen BK295.out 0; have hfz37_1 := blk_frozen BK295.out 1))
             go_roundg k2
             case measure => have := HK1.out; have := HK2.out; omega
             case rel => exact ⟨(wrap64 (x10_2 + 1)), (y298), (.slice Ao36 y298.length co36), eV, H', ⟨by have := HK1.out; have := HK2.out; omega⟩, ⟨by (with_reducible repeat (first | apply Kd.R_alloc | apply Kd.R_drewN | apply Kd.R_drew)); exact Kd.R_mono (Kd.R_far (p := ⟨gb295, 1, none⟩) (Kd.R_types HO300.out BK295.out (by decide)) (fun _ hk => hk.2) (.slice Ao36 y298.length co36)) (fun _ hk => trivial)⟩, ⟨by (with_reducible repeat (first | apply blk_drewN | apply blk_drew | apply blk_alloc)); refine blk_far ?_ NB291_295.out _; (with_reducible repeat (first | apply blk_drewN | apply blk_drew | apply blk_alloc)); exact BK291.out⟩, ⟨by (with_reducible repeat (first | apply blk_drewN | apply blk_drew | apply blk_alloc)); refine blk_far ?_ NB292_295.out _; (with_reducible repeat (first | apply blk_drewN | apply blk_drew | apply blk_alloc)); exact BK292.out⟩, ⟨by (with_reducible repeat (first | apply blk_drewN | apply blk_drew | apply blk_alloc)); refine blk_put (cs := #[.string ((rd_T67 l0_1 a1).f0), u296001]) ?_ 1 _ rfl; (with_reducible repeat (first | apply blk_drewN | apply blk_drew | apply blk_alloc)); exact BK295.out⟩, ⟨iL HB⟩⟩
            ·rw [if_neg c23] at H
             exact absurd H (by simp)
           ·rw [if_neg c22] at H
            have c22b0 : (x10_2 == a1) = false := beq_eq_false_iff_ne.mpr c22
            have c22b1 : (x10_2 != a1) = true := bne_iff_ne.mpr c22
            by_cases c38 : x296001_2.length < 5864062014805
            ·rw [if_pos c38] at H
             have LMc38 := Aside0.mk c38
             clear c38
             obtain ⟨y301, hy301⟩ : ∃ y_ : List (S67), y_ = (x296001_2 ++ [(⟨(rd_T67 l0_1 x10_2).f0, (rd_T67 l0_1 x10_2).f1⟩ : S67)]) := ⟨_, rfl⟩
             replace H : (ancepsref57_chosen.l1 k2 a1 x7_1 (wrap64 (x10_2 + 1)) a0_0 l0_1 ((rd_T67 l0_1 a1).f0) y301) = some (r1, r2) := by first | (rw [hy301]; with_reducible exact H) | (have H2_ := (Option.bind_some _ _).symm.trans H; rw [hy301]; with_reducible exact H2_) | (have H2_ := (Option.bind_some _ _).symm.trans H; with_reducible exact H2_) | with_reducible exact H | (rw [hy301]; exact H) | exact H
             have Ny301 := Aside0.mk hy301
             clear hy301
             have H' := Aside0.mk H
             clear H
             have hnb39 := NB291_292.out
             have hnc39 := NB292_291.out
             have hnb40 := NB291_295.out
             have hnc40 := NB295_291.out
             have hcz41_0 := cZ BK291 0 (.string a0_0)
             have hcz41_1 := cZ BK291 1 (.slice (some ad294) l0_1.length c0_1)
             have hfz41_0 := blk_frozen BK291.out 0
             have hfz41_1 := blk_frozen BK291.out 1
             have p296 := oD (0 ≤ (x10_2 : Int))
             have q296 := oD (x10_2 < (l0_1.length : Int))
             obtain ⟨ad296, e296, hx296_0, hx296_1⟩ := at_T67 HR0_1.out x10_2 p296 q296
             obtain rfl : ad294 = ad296 := (by injection e296)
             replace hx296_0 := (HB.out.cell (World.block_lt_of_cell? w _ hx296_0)).trans hx296_0
             replace hx296_1 := (HB.out.cell (World.block_lt_of_cell? w _ hx296_1)).trans hx296_1
             replace p296 := eq_true p296
             replace q296 := eq_true q296
             go_wp2_with (first | ((with_reducible refine gate_dst (N := 11) rfl ?_); refine bX 11 #[.string (⟨#[]⟩ : ByteArray), .int .i64 0] 67 ?_; intro gb297 hg w42 hbox hb; have n0_ := Aside0.mk (Kd.R_below (Kd.R_elderB (iR HO_296001) gb297 (Nat.le_of_eq hg.symm)) hb); have n1_ := jB BK291 hb; have n2_ := jB BK292 hb; have n3_ := jB BK295 hb; have n4_ := jL HB hb; have n5_ := Aside0.mk (hbox); have n6_ := Aside0.mk ((by rw [hg]; exact (below_size (iL HB)) : w.heap.size ≤ gb297)); have n7_ := Aside0.mk ((by rw [hg]; exact (below_size (iL HB)) : w.heap.size ≤ gb297)); have n8_ := Aside0.mk ((by rw [hg]; exact Nat.ne_of_lt (blk_lt (g := gb291) (o := .cells #[.string a0_0, .slice (some ad294) l0_1.length c0_1] 65 (0, 0)) (iB BK291)) : gb291 ≠ gb297)); have n9_ := Aside0.mk ((by rw [hg]; exact Nat.ne_of_gt (blk_lt (g := gb291) (o := .cells #[.string a0_0, .slice (some ad294) l0_1.length c0_1] 65 (0, 0)) (iB BK291)) : gb297 ≠ gb291)); have n10_ := Aside0.mk ((by rw [hg]; exact Nat.ne_of_lt (blk_lt (g := gb292) (o := .cells #[.string (⟨#[]⟩ : ByteArray), .slice none 0 0] 65 (0, 0)) (iB BK292)) : gb292 ≠ gb297)); have n11_ := Aside0.mk ((by rw [hg]; exact Nat.ne_of_gt (blk_lt (g := gb292) (o := .cells #[.string (⟨#[]⟩ : ByteArray), .slice none 0 0] 65 (0, 0)) (iB BK292)) : gb297 ≠ gb292)); have n12_ := Aside0.mk ((by rw [hg]; exact Nat.ne_of_lt (blk_lt (g := gb295) (o := .cells #[.string ((rd_T67 l0_1 a1).f0), u296001] 65 (0, 0)) (iB BK295)) : gb295 ≠ gb297)); have n13_ := Aside0.mk ((by rw [hg]; exact Nat.ne_of_gt (blk_lt (g := gb295) (o := .cells #[.string ((rd_T67 l0_1 a1).f0), u296001] 65 (0, 0)) (iB BK295)) : gb297 ≠ gb295)); clear HO_296001; clear BK291; clear BK292; clear BK295; clear HB; have HO_296001 := n0_; have BK291 := n1_; have BK292 := n2_; have BK295 := n3_; have HB := n4_; have BK297 := n5_; have GW297 := n6_; have GE297 := n7_; have NB291_297 := n8_; have NB297_291 := n9_; have NB292_297 := n10_; have NB297_292 := n11_; have NB295_297 := n12_; have NB297_295 := n13_; clear n0_ n1_ n2_ n3_ n4_ n5_ n6_ n7_ n8_ n9_ n10_ n11_ n12_ n13_; clear hb hbox hg; have hnb43 := NB297_291.out; have hnc43 := NB291_297.out; have hnb44 := NB297_292.out; have hnc44 := NB292_297.out; have hnb45 := NB297_295.out; have hnc45 := NB295_297.out; have hcz46_0 := cZ BK297 0 (.string (⟨#[]⟩ : ByteArray)); have hcz46_1 := cZ BK297 1 (.int .i64 0); have hfz46_0 := blk_frozen BK297.out 0; have hfz46_1 := blk_frozen BK297.out 1; have hnb47 := NB295_292.out; have hnc47 := NB292_295.out; have hcz48_0 := cZ BK295 0 (.string ((rd_T67 l0_1 a1).f0)); have hcz48_1 := cZ BK295 1 (u296001); have hfz48_0 := blk_frozen BK295.out 0; have hfz48_1 := blk_frozen BK295.out 1) | ((with_reducible refine gate_builtin (b := .append) (xs := #[.tmp 57, .tmp 59]) rfl ?_); at_builtin; refine Kd.R_append k67 (w0 := w) w.heap.size rfl (.tmp 57) (.tmp 59) 63 67 (.agg #[(.string ⟨#[]⟩), (.int .i64 0)]) 24 rfl Try.underlying63 info67 rfl (by decide) (by omega) u296001 x296001_2 (⟨(rd_T67 l0_1 x10_2).f0, (rd_T67 l0_1 x10_2).f1⟩ : S67) [.string ((rd_T67 l0_1 x10_2).f0), .int .i64 ((rd_T67 l0_1 x10_2).f1)] (fun k_ => k_ ≠ gb297) (fun _ => False) rfl (by first | (go_simp; done) | (go_simp; rfl)) ?aP (fun _ hk => hk.elim) ?aF ?aO ?aB ?aS ?aL ?_; (case aP => exact k67_mkM _ _ _ (⟨(rd_T67 l0_1 x10_2).f0, (rd_T67 l0_1 x10_2).f1⟩ : S67)); (case aB => exact (iL HB)); (case aF => exact (fun k_ hk => Kd.freshB (g := gb297) (o := .cells #[.string ((rd_T67 l0_1 x10_2).f0), .int .i64 ((rd_T67 l0_1 x10_2).f1)] 67 (0, 0)) (by (with_reducible repeat (first | apply blk_drewN | apply blk_drew | apply blk_alloc)); refine blk_put (cs := #[.string ((rd_T67 l0_1 x10_2).f0), .int .i64 0]) ?_ 1 _ rfl; (with_reducible repeat (first | apply blk_drewN | apply blk_drew | apply blk_alloc)); refine blk_put (cs := #[.string (⟨#[]⟩ : ByteArray), .int .i64 0]) ?_ 0 _ rfl; (with_reducible repeat (first | apply blk_drewN | apply blk_drew | apply blk_alloc)); exact BK297.out) k_ hk)); (case aO => exact (by (with_reducible repeat (first | apply Kd.R_alloc | apply Kd.R_drewN | apply Kd.R_drew)); exact Kd.R_mono (Kd.R_far (p := ⟨gb297, 1, none⟩) (Kd.R_far (p := ⟨gb297, 0, none⟩) (Kd.R_mono HO_296001.out (fun k_ hk => (⟨hk, hk.2⟩ : _ ∧ k_ ≠ gb297))) (fun _ hk => hk.2) (.string ((rd_T67 l0_1 x10_2).f0))) (fun _ hk => hk.2) (.int .i64 ((rd_T67 l0_1 x10_2).f1))) (fun _ hk => hk.1.2))); (case aS => exact (below_size (iL HB))); (case aL => have := LMc38.out; omega); intro v302 w49 ho hb hg hat; rw [← Ny301.out] at ho; have n0_ := Aside0.mk (blk_grown (g := gb291) (o := .cells #[.string a0_0, .slice (some ad294) l0_1.length c0_1] 65 (0, 0)) (by (with_reducible repeat (first | apply blk_drewN | apply blk_drew | apply blk_alloc)); refine blk_far ?_ NB291_297.out _; (with_reducible repeat (first | apply blk_drewN | apply blk_drew | apply blk_alloc)); refine blk_far ?_ NB291_297.out _; (with_reducible repeat (first | apply blk_drewN | apply blk_drew | apply blk_alloc)); exact BK291.out) hg (Kd.R_ne HO_296001.out BK291.out (by decide))); have n1_ := Aside0.mk (blk_grown (g := gb292) (o := .cells #[.string (⟨#[]⟩ : ByteArray), .slice none 0 0] 65 (0, 0)) (by (with_reducible repeat (first | apply blk_drewN | apply blk_drew | apply blk_alloc)); refine blk_far ?_ NB292_297.out _; (with_reducible repeat (first | apply blk_drewN | apply blk_drew | apply blk_alloc)); refine blk_far ?_ NB292_297.out _; (with_reducible repeat (first | apply blk_drewN | apply blk_drew | apply blk_alloc)); exact BK292.out) hg (Kd.R_ne HO_296001.out BK292.out (by decide))); have n2_ := Aside0.mk (blk_grown (g := gb295) (o := .cells #[.string ((rd_T67 l0_1 a1).f0), u296001] 65 (0, 0)) (by (with_reducible repeat (first | apply blk_drewN | apply blk_drew | apply blk_alloc)); refine blk_far ?_ NB295_297.out _; (with_reducible repeat (first | apply blk_drewN | apply blk_drew | apply blk_alloc)); refine blk_far ?_ NB295_297.out _; (with_reducible repeat (first | apply blk_drewN | apply blk_drew | apply blk_alloc)); exact BK295.out) hg (Kd.R_ne HO_296001.out BK295.out (by decide))); have n3_ := Aside0.mk (blk_grown (g := gb297) (o := .cells #[.string ((rd_T67 l0_1 x10_2).f0), .int .i64 ((rd_T67 l0_1 x10_2).f1)] 67 (0, 0)) (by (with_reducible repeat (first | apply blk_drewN | apply blk_drew | apply blk_alloc)); refine blk_put (cs := #[.string ((rd_T67 l0_1 x10_2).f0), .int .i64 0]) ?_ 1 _ rfl; (with_reducible repeat (first | apply blk_drewN | apply blk_drew | apply blk_alloc)); refine blk_put (cs := #[.string (⟨#[]⟩ : ByteArray), .int .i64 0]) ?_ 0 _ rfl; (with_reducible repeat (first | apply blk_drewN | apply blk_drew | apply blk_alloc)); exact BK297.out) hg (Kd.R_away HO_296001.out (fun _ hk => hk.2))); have n4_ := Aside0.mk (hb); have n5_ := Aside0.mk (ho); clear BK291; clear BK292; clear BK295; clear BK297; clear HB; clear HO_296001; have BK291 := n0_; have BK292 := n1_; have BK295 := n2_; have BK297 := n3_; have HB := n4_; have HO303 := n5_; clear n0_ n1_ n2_ n3_ n4_ n5_; clear ho hb hg hat; obtain ⟨Ao50, co50, eo50⟩ := Kd.R_slice HO303.out; subst eo50; have hcz51_0 := cZ BK295 0 (.string ((rd_T67 l0_1 a1).f0)); have hcz51_1 := cZ BK295 1 (u296001); have hfz51_0 := blk_frozen BK295.out 0; have hfz51_1 := blk_frozen BK295.out 1))
             go_roundg k2
             case measure => have := HK1.out; have := HK2.out; omega
             case rel => exact ⟨(wrap64 (x10_2 + 1)), (y301), (.slice Ao50 y301.length co50), eV, H', ⟨by have := HK1.out; have := HK2.out; omega⟩, ⟨by (with_reducible repeat (first | apply Kd.R_alloc | apply Kd.R_drewN | apply Kd.R_drew)); exact Kd.R_mono (Kd.R_far (p := ⟨gb295, 1, none⟩) (Kd.R_types HO303.out BK295.out (by decide)) (fun _ hk => hk.2) (.slice Ao50 y301.length co50)) (fun _ hk => trivial)⟩, ⟨by (with_reducible repeat (first | apply blk_drewN | apply blk_drew | apply blk_alloc)); refine blk_far ?_ NB291_295.out _; (with_reducible repeat (first | apply blk_drewN | apply blk_drew | apply blk_alloc)); exact BK291.out⟩, ⟨by (with_reducible repeat (first | apply blk_drewN | apply blk_drew | apply blk_alloc)); refine blk_far ?_ NB292_295.out _; (with_reducible repeat (first | apply blk_drewN | apply blk_drew | apply blk_alloc)); exact BK292.out⟩, ⟨by (with_reducible repeat (first | apply blk_drewN | apply blk_drew | apply blk_alloc)); refine blk_put (cs := #[.string ((rd_T67 l0_1 a1).f0), u296001]) ?_ 1 _ rfl; (with_reducible repeat (first | apply blk_drewN | apply blk_drew | apply blk_alloc)); exact BK295.out⟩, ⟨iL HB⟩⟩
            ·rw [if_neg c38] at H
             exact absurd H (by simp)
          ·rw [if_neg c21] at H
           exact absurd H (by simp)
         ·rw [if_neg c20] at H
          have c20b0 : decide (x10_2 < (l0_1.length : Int)) = false := decide_eq_false c20
          clear c20
          simp only [Option.some.injEq, Prod.mk.injEq] at H
          obtain ⟨rfl, rfl⟩ := H
          have hnb52 := NB291_292.out
          have hnc52 := NB292_291.out
          have hnb53 := NB291_295.out
          have hnc53 := NB295_291.out
          have hcz54_0 := cZ BK291 0 (.string a0_0)
          have hcz54_1 := cZ BK291 1 (.slice (some ad294) l0_1.length c0_1)
          have hfz54_0 := blk_frozen BK291.out 0
          have hfz54_1 := blk_frozen BK291.out 1
          have hnb55 := NB295_292.out
          have hnc55 := NB292_295.out
          have hcz56_0 := cZ BK295 0 (.string ((rd_T67 l0_1 a1).f0))
          have hcz56_1 := cZ BK295 1 (u296001)
          have hfz56_0 := blk_frozen BK295.out 0
          have hfz56_1 := blk_frozen BK295.out 1
          have hcz57_0 := cZ BK292 0 (.string (⟨#[]⟩ : ByteArray))
          have hcz57_1 := cZ BK292 1 (.slice none 0 0)
          have hfz57_0 := blk_frozen BK292.out 0
          have hfz57_1 := blk_frozen BK292.out 1
          obtain ⟨Ao58, co58, eo58⟩ := Kd.R_slice HO_296001.out
          subst eo58
          go_wp2
          refine bodyPost_ret (results_cell_row rfl _ _ gb292 65 #[.string ((rd_T67 l0_1 a1).f0), .slice Ao58 x296001_2.length co58] (0, 0) _ rfl (by (with_reducible repeat (first | apply blk_drewN | apply blk_drew | apply blk_alloc)); refine blk_put (cs := #[.string ((rd_T67 l0_1 a1).f0), .slice none 0 0]) ?_ 1 _ rfl; (with_reducible repeat (first | apply blk_drewN | apply blk_drew | apply blk_alloc)); refine blk_put (cs := #[.string (⟨#[]⟩ : ByteArray), .slice none 0 0]) ?_ 0 _ rfl; (with_reducible repeat (first | apply blk_drewN | apply blk_drew | apply blk_alloc)); exact BK292.out) Try.underlying65 rfl (by kernel_rfl)) rfl ?_
          exact ⟨_, by first | rfl | (simp [errW_none, errW_some] <;> rfl) | (simp only [← hji5]; first | rfl | (simp [errW_none, errW_some] <;> rfl)) | (simp [*, errW_none, errW_some] <;> rfl), by (with_reducible repeat (first | apply Kd.R_alloc | apply Kd.R_drewN | apply Kd.R_drew)); exact Kd.R_mono (Kd.R_far (p := ⟨gb292, 1, none⟩) (Kd.R_far (p := ⟨gb292, 0, none⟩) (Kd.R_types HO_296001.out BK292.out (by decide)) (fun _ hk => hk.2) (.string ((rd_T67 l0_1 a1).f0))) (fun _ hk => hk.2) (.slice Ao58 x296001_2.length co58)) (fun _ hk => trivial), iL HB⟩
      ·rw [if_neg c13] at H
       exact absurd H (by simp)
     ·rw [if_neg c12] at H
      exact absurd H (by simp)
 ·rw [if_neg c4] at H
  exact absurd H (by simp)

end Go.Proofs.Ytmjigfoldeekmaa.X
