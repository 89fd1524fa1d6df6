-- shortened
-- thinned
-- halved indents
-- printed by this session's xprint.py: out of the translation, by the kit's print with additions; Lean checks it
import Derived.Test.YtmjigfoldeekmaaWN
import Derived.Test.YtmjigfoldeekmaaWShare
import Derived.Test.YtmjigfoldeekmaaWRepsOne
import Derived.Test.YtmjigfoldeekmaaX0
import Derived.Test.YtmjigfoldeekmaaX13
import Derived.Test.YtmjigfoldeekmaaX15
import Derived.Test.YtmjigfoldeekmaaXA
namespace Go.Proofs.Ytmjigfoldeekmaa.X
open Go.RowKit Go.Proofs.YtmjigfoldeekmaaW.PrintWords Go.Proofs.YtmjigfoldeekmaaW.PrintLast Go.Proofs.YtmjigfoldeekmaaW.PrintMore
attribute [local go_sem] max2_int min2_int max_two min_two max_three min_three max_four min_four isSome_setCell binOp_gtr_str binOp_leq_str binOp_geq_str   -- for this text's walks alone
set_option linter.unusedVariables false
set_option linter.unusedSimpArgs false

/-! ### ancepsref57_Valid: function 54 -/
def ancepsref57_Valid.l0 : Nat → Int → List ByteArray → List (S65) → Option (Int)
 | 0, _, _, _ => none
 | k + 1, x4, x267000, x267001 => if x4 < (x267001.length : Int) then (if 0 ≤ x4 then ((ancepsref57_row.f k ((rd_T65 x267001 x4).f0) ((rd_T65 x267001 x4).f1) (x267000.length : Int)).bind fun t269 => (if t269 = 0 then (ancepsref57_Valid.l0 k (wrap64 (x4 + 1)) x267000 x267001) else (some t269))) else (none)) else (some 0)
def ancepsref57_Valid.f (k : Nat) (l0_0 : List ByteArray) (l0_1 : List (S65)) : Option (Int) := (ancepsref57_names.f k l0_0).bind fun t267 => (if t267 = 0 then (if (l0_1.length : Int) > 200 then (some 3) else (ancepsref57_Valid.l0 k 0 l0_0 l0_1)) else (some t267))
theorem ancepsref57_Valid.mono_l : ∀ k, (∀ y0 y1 y2, LeO (ancepsref57_Valid.l0 k y0 y1 y2) (ancepsref57_Valid.l0 (k + 1) y0 y1 y2))
 | 0 => fun _ _ _ r h => by simp [ancepsref57_Valid.l0] at h
 | k + 1 => by
  have ih0 := ancepsref57_Valid.mono_l k
  ·intro y0 y1 y2
   unfold ancepsref57_Valid.l0
   repeat' first
   | (with_reducible exact ih0 _ _ _)
   | (with_reducible exact ancepsref57_names.mono _ _)
   | (with_reducible exact ancepsref57_row.mono _ _ _ _)
   | (with_reducible exact LeO.refl _)
   | (with_reducible exact LeO.none _)
   | (with_reducible refine LeO.ite ?_ ?_)
   | (with_reducible refine LeO.bind ?_ (fun _ => ?_))
   | exact ih0 _ _ _
   | exact ancepsref57_names.mono _ _
   | exact ancepsref57_row.mono _ _ _ _
   | exact LeO.none _
   | refine LeO.ite ?_ ?_
   | refine LeO.bind ?_ (fun _ => ?_)
theorem ancepsref57_Valid.mono : ∀ a0 a1 k, LeO (ancepsref57_Valid.f k a0 a1) (ancepsref57_Valid.f (k + 1) a0 a1) := by
 intro a0 a1 k
 have ih0 := ancepsref57_Valid.mono_l k
 unfold ancepsref57_Valid.f
 repeat' first
   | (with_reducible exact ih0 _ _ _)
   | (with_reducible exact ancepsref57_names.mono _ _)
   | (with_reducible exact ancepsref57_row.mono _ _ _ _)
   | (with_reducible exact LeO.refl _)
   | (with_reducible exact LeO.none _)
   | (with_reducible refine LeO.ite ?_ ?_)
   | (with_reducible refine LeO.bind ?_ (fun _ => ?_))
   | exact ih0 _ _ _
   | exact ancepsref57_names.mono _ _
   | exact ancepsref57_row.mono _ _ _ _
   | exact LeO.none _
   | refine LeO.ite ?_ ?_
   | refine LeO.bind ?_ (fun _ => ?_)
def ancepsref57_Valid.T9 : Bool × List (List Nat × List Nat) := (true, [([], []), ([0], [0]), ([], []), ([1, 2], [1, 2]), ([3], [3]), ([], []), ([5], [5]), ([6], [6]), ([4, 7], [4, 7]), ([8, 8, 0, 1, 2, 3, 4, 5, 6, 7, 8], [8])])
def ancepsref57_Valid.B9 : List Nat := [0, 1, 0, 7, 15, 0, 32, 96, 255, 511]
theorem ancepsref57_Valid.tab9 : rtab .any (opsOf Try.f54 9) = ancepsref57_Valid.T9 := by kernel_rfl
theorem ancepsref57_Valid.bits9 : waitsOk ancepsref57_Valid.T9.2 ancepsref57_Valid.B9 = true := by kernel_rfl
set_option maxHeartbeats 8000000 in
set_option maxRecDepth 100000 in
theorem ancepsref57_Valid.calls (k : Nat) (A0_0 : Option Addr) (c0_0 : Nat) (l0_0 : List ByteArray) (A0_1 : Option Addr) (c0_1 : Nat) (l0_1 : List (S65)) (r : Int) (w : World) (hr0_0 : Kd.C Kd.string w A0_0 l0_0.length l0_0) (hc0_0 : l0_0.length ≤ c0_0) (hr0_1 : Kd.C k65 w A0_1 l0_1.length l0_1) (hc0_1 : l0_1.length ≤ c0_1) (h : ancepsref57_Valid.f k l0_0 l0_1 = some r) :
  Calls Try.prog 54 #[.agg #[.slice A0_0 l0_0.length c0_0, .slice A0_1 l0_1.length c0_1]] w fun e w' => e = .returned (.int .i64 r) ∧ Below w.heap.size w w' := by
 have hu42 := Try.underlying42
 have hu65 := Try.underlying65
 have HR0_0 := Aside0.mk hr0_0
 have HC0_0 := Aside0.mk hc0_0
 clear hr0_0 hc0_0
 have HR0_1 := Aside0.mk hr0_1
 have HC0_1 := Aside0.mk hc0_1
 clear hr0_1 hc0_1
 have HB := Aside0.mk (Below.refl w.heap.size w)
 have H : ((ancepsref57_names.f k l0_0).bind fun t267 => (if t267 = 0 then (if (l0_1.length : Int) > 200 then (some 3) else (ancepsref57_Valid.l0 k 0 l0_0 l0_1)) else (some t267))) = some r := h
 clear h
 replace H := Option.bind_eq_some_iff.mp H
 obtain ⟨t267, A20, H⟩ := H
 try dsimp only at H
 have A2 := Aside0.mk A20
 clear A20
 by_cases c3 : t267 = 0
 ·rw [if_pos c3] at H
  have c3b0 : (t267 == 0) = true := beq_iff_eq.mpr c3
  have c3b1 : (t267 != 0) = false := bne_eq_false_iff_eq.mpr c3
  clear c3
  by_cases c4 : (l0_1.length : Int) > 200
  ·rw [if_pos c4] at H
   have c4b0 : decide (200 < (l0_1.length : Int)) = true := decide_eq_true c4
   have c4b1 : decide (200 < l0_1.length) = true := decide_eq_true (by omega)
   clear c4
   obtain rfl := Option.some.inj H
   go_enter Try.func54, Try.ntmps54
   go_wp2_with (first | ((with_reducible refine gate_dst (N := 1) rfl ?_); refine bX 1 #[.slice A0_0 l0_0.length c0_0, .slice A0_1 l0_1.length c0_1] 42 ?_; intro gb266 hg w5 hbox hb; have n0_ := jL HB hb; have n1_ := Aside0.mk (hbox); have n2_ := Aside0.mk ((by rw [hg]; exact (below_size (iL HB)) : w.heap.size ≤ gb266)); have n3_ := Aside0.mk ((by rw [hg]; exact (below_size (iL HB)) : w.heap.size ≤ gb266)); clear HB; have HB := n0_; have BK266 := n1_; have GW266 := n2_; have GE266 := n3_; clear n0_ n1_ n2_ n3_; clear hb hbox hg; have hcz6_0 := cZ BK266 0 (.slice A0_0 l0_0.length c0_0); have hcz6_1 := cZ BK266 1 (.slice A0_1 l0_1.length c0_1); have hfz6_0 := blk_frozen BK266.out 0; have hfz6_1 := blk_frozen BK266.out 1) | ((with_reducible refine gate_callee (f := 68) rfl ?_); refine gL_ (some 8) Try.func68 #[.slice A0_0 l0_0.length c0_0] ?_; (with_reducible refine (ancepsref57_names.calls k _ _ l0_0 t267 _ ?side1 ?side2 A2.out).mono ?_); (case side1 => exact iC HR0_0 HB); (case side2 => exact HC0_0.out); rintro e w' ⟨rfl, ⟨nd, rfl⟩⟩; refine ⟨_, rfl, ?_⟩))
   go_ret
   exact ⟨by first | rfl | (simp [errW_none, errW_some] <;> rfl) | (simp [*, errW_none, errW_some] <;> rfl), by repeat (first | (with_reducible first | exact HB.out | apply below_alloc | apply pw_below_drewN | apply below_drew1 | refine below_set ?_ GE266.out) | exact HB.out)⟩
  ·rw [if_neg c4] at H
   have c4b0 : decide (200 < (l0_1.length : Int)) = false := decide_eq_false c4
   have c4b1 : decide (200 < l0_1.length) = false := decide_eq_false (by omega)
   clear c4
   have H' := Aside0.mk H
   clear H
   go_enter Try.func54, Try.ntmps54
   go_wp2_with (first | ((with_reducible refine gate_dst (N := 1) rfl ?_); refine bX 1 #[.slice A0_0 l0_0.length c0_0, .slice A0_1 l0_1.length c0_1] 42 ?_; intro gb266 hg w7 hbox hb; have n0_ := jL HB hb; have n1_ := Aside0.mk (hbox); have n2_ := Aside0.mk ((by rw [hg]; exact (below_size (iL HB)) : w.heap.size ≤ gb266)); have n3_ := Aside0.mk ((by rw [hg]; exact (below_size (iL HB)) : w.heap.size ≤ gb266)); clear HB; have HB := n0_; have BK266 := n1_; have GW266 := n2_; have GE266 := n3_; clear n0_ n1_ n2_ n3_; clear hb hbox hg; have hcz8_0 := cZ BK266 0 (.slice A0_0 l0_0.length c0_0); have hcz8_1 := cZ BK266 1 (.slice A0_1 l0_1.length c0_1); have hfz8_0 := blk_frozen BK266.out 0; have hfz8_1 := blk_frozen BK266.out 1) | ((with_reducible refine gate_callee (f := 68) rfl ?_); refine gL_ (some 8) Try.func68 #[.slice A0_0 l0_0.length c0_0] ?_; (with_reducible refine (ancepsref57_names.calls k _ _ l0_0 t267 _ ?side1 ?side2 A2.out).mono ?_); (case side1 => exact iC HR0_0 HB); (case side2 => exact HC0_0.out); rintro e w' ⟨rfl, ⟨nd, rfl⟩⟩; refine ⟨_, rfl, ?_⟩))
   go_loopg [4] k (fun kq v4 w' => ∃ (x4_1 : Int), v4 = .int .i64 x4_1 ∧ Aside0 (ancepsref57_Valid.l0 kq x4_1 l0_0 l0_1 = some r) ∧ Aside0 (kq ≤ k) ∧ Aside0 (w'.heap[gb266]? = some (.cells #[(.slice A0_0 l0_0.length c0_0), (.slice A0_1 l0_1.length c0_1)] 42 (0, 0))) ∧ Aside0 (Below w.heap.size w w'))
   case atStart => exact ⟨(0), (by first | rfl | (simp; done) | (simp [*]; done)), H', ⟨Nat.le_refl _⟩, ⟨by (with_reducible repeat (first | apply blk_drewN | apply blk_drew | apply blk_alloc)); exact BK266.out⟩, ⟨by repeat (first | (with_reducible first | exact HB.out | apply below_alloc | apply pw_below_drewN | apply below_drew1 | refine below_set ?_ GE266.out) | exact HB.out)⟩⟩
   case round =>
    clear H'
    try clear p2
    try clear c3
    try clear c3b0
    try clear c3b1
    try clear c4
    try clear c4b0
    try clear c4b1
    try clear c5
    try clear c6
    try clear hcz6_0
    try clear hcz6_1
    try clear hcz8_0
    try clear hcz8_1
    try clear hfz6_0
    try clear hfz6_1
    try clear hfz8_0
    try clear hfz8_1
    obtain ⟨x4_1, rfl, HA, HK1, BK266, HB⟩ := hrel
    cases gk with
    | zero => exact absurd HA.out (by simp [ancepsref57_Valid.l0])
    | succ k1 =>
     have H := HA.out
     clear HA
     simp only [ancepsref57_Valid.l0] at H
     by_cases c9 : x4_1 < (l0_1.length : Int)
     ·rw [if_pos c9] at H
      have c9b0 : decide (x4_1 < (l0_1.length : Int)) = true := decide_eq_true c9
      clear c9
      by_cases c10 : 0 ≤ x4_1
      ·rw [if_pos c10] at H
       have c10b0 : decide (0 ≤ x4_1) = true := decide_eq_true c10
       clear c10
       replace H := Option.bind_eq_some_iff.mp H
       obtain ⟨t269, A110, H⟩ := H
       try dsimp only at H
       have A11 := Aside0.mk A110
       clear A110
       by_cases c12 : t269 = 0
       ·rw [if_pos c12] at H
        have c12b0 : (t269 == 0) = true := beq_iff_eq.mpr c12
        have c12b1 : (t269 != 0) = false := bne_eq_false_iff_eq.mpr c12
        clear c12
        have H' := Aside0.mk H
        clear H
        have hcz13_0 := cZ BK266 0 (.slice A0_0 l0_0.length c0_0)
        have hcz13_1 := cZ BK266 1 (.slice A0_1 l0_1.length c0_1)
        have hfz13_0 := blk_frozen BK266.out 0
        have hfz13_1 := blk_frozen BK266.out 1
        try go_wp2
        have n0_ := Aside0.mk (blk_drew BK266.out)
        have n1_ := Aside0.mk (below_drew1 HB.out)
        clear BK266
        clear HB
        have BK266 := n0_
        have HB := n1_
        clear n0_ n1_
        have p268 : 0 ≤ (x4_1 : Int) := of_decide_eq_true (by first | (with_reducible assumption) | assumption)
        have q268 : x4_1 < (l0_1.length : Int) := of_decide_eq_true (by first | (with_reducible assumption) | assumption)
        obtain ⟨ad268, A268_1, c268_1, e268, hx268_0, hx268_1, hl268_1, hi268_1⟩ := at_T65 HR0_1.out x4_1 p268 q268
        have hw268_1 := hx268_1
        have hw268_0 := hx268_0
        cases e268
        replace hx268_0 := (HB.out.cell (World.block_lt_of_cell? w _ hx268_0)).trans hx268_0
        replace hx268_1 := (HB.out.cell (World.block_lt_of_cell? w _ hx268_1)).trans hx268_1
        have HR268_1 := Aside0.mk hi268_1
        have HC268_1 := Aside0.mk hl268_1
        clear hi268_1 hl268_1
        replace p268 := eq_true p268
        replace q268 := eq_true q268
        refine start_ (n := 10) (S := fun w' => w'.cell? ⟨gb266, 0, none⟩ = some (.slice A0_0 l0_0.length c0_0) ∧ w'.cell? ⟨gb266, 1, none⟩ = some (.slice (some ad268) l0_1.length c0_1) ∧ w'.cell? (ad268.add ((x4_1).toNat * 2)) = some (.string ((rd_T65 l0_1 x4_1).f0)) ∧ w'.cell? ⟨(ad268.add ((x4_1).toNat * 2)).block, (ad268.add ((x4_1).toNat * 2)).off + 1, none⟩ = some (.slice A268_1 ((rd_T65 l0_1 x4_1).f1).length c268_1)) (ds := []) #[false, false, false, false, false, false, false, false, false, false] (by kernel_rfl) rfl rfl ⟨(blk_cell BK266.out 0).trans rfl, (blk_cell BK266.out 1).trans rfl, ((HB.out.cell (World.block_lt_of_cell? w _ hw268_0)).trans hw268_0), ((HB.out.cell (World.block_lt_of_cell? w _ hw268_1)).trans hw268_1)⟩ (fun hHeld => ?_); refine with_tabW ancepsref57_Valid.tab9 ancepsref57_Valid.bits9 (fun HT_ HW_ => ?_)
        generalize wr.drew = w14 at BK266 HB HR268_1 hx268_0 hx268_1 hHeld ⊢
        refine pure_ (i := 0) (N := some 23) (v := ?_) (a' := ?_) #[true, false, false, false, false, false, false, false, false, false] rfl rfl (any_of HT_.out (by kernel_rfl)) (fun _ _ _ h => h) (Or.inl ⟨by rfl, ?_⟩) ?_ ?_
        rotate_left
        ·intro w'
         go_simp
         with_reducible rfl
        rotate_left
        ·simp only [Act.put, List.setIfInBounds_toArray, List.set_cons_zero, List.set_cons_succ, i64_w, i32_w]
         rfl
        refine pure_ (i := 2) (N := some 25) (v := ?_) (a' := ?_) #[true, false, true, false, false, false, false, false, false, false] rfl rfl (any_of HT_.out (by kernel_rfl)) (fun _ _ _ h => h) (Or.inl ⟨by rfl, ?_⟩) ?_ ?_
        rotate_left
        ·intro w'
         go_simp
         with_reducible rfl
        rotate_left
        ·simp only [Act.put, List.setIfInBounds_toArray, List.set_cons_zero, List.set_cons_succ, i64_w, i32_w]
         rfl
        refine pure_ (i := 5) (N := some 28) (v := ?_) (a' := ?_) #[true, false, true, false, false, true, false, false, false, false] rfl rfl (any_of HT_.out (by kernel_rfl)) (fun _ _ _ h => h) (Or.inl ⟨by rfl, ?_⟩) ?_ ?_
        rotate_left
        ·intro w'
         go_simp
         with_reducible rfl
        rotate_left
        ·simp only [Act.put, List.setIfInBounds_toArray, List.set_cons_zero, List.set_cons_succ, i64_w, i32_w]
         rfl
        refine take_ (i := 1) (N := some 24) (v := ?_) (a' := ?_) #[true, true, true, false, false, true, false, false, false, false] rfl rfl (take_ofW HT_.out HW_.out (by kernel_rfl)) (fun _ _ _ h => h) (Or.inl ⟨by rfl, ?_⟩) hHeld ?_ ?_
        rotate_left
        ·rintro w' ⟨s0, s1, s2, s3⟩
         go_simp
         with_reducible rfl
        rotate_left
        ·simp only [Act.put, List.setIfInBounds_toArray, List.set_cons_zero, List.set_cons_succ, i64_w, i32_w]
         rfl
        refine pure_ (i := 3) (N := some 26) (v := ?_) (a' := ?_) #[true, true, true, true, false, true, false, false, false, false] rfl rfl (any_of HT_.out (by kernel_rfl)) (fun _ _ _ h => h) (Or.inl ⟨by rfl, ?_⟩) ?_ ?_
        rotate_left
        ·intro w'
         go_simp
         with_reducible rfl
        rotate_left
        ·simp only [Act.put, List.setIfInBounds_toArray, List.set_cons_zero, List.set_cons_succ, i64_w, i32_w]
         rfl
        refine take_ (i := 4) (N := some 27) (v := ?_) (a' := ?_) #[true, true, true, true, true, true, false, false, false, false] rfl rfl (take_ofW HT_.out HW_.out (by kernel_rfl)) (fun _ _ _ h => h) (Or.inl ⟨by rfl, ?_⟩) hHeld ?_ ?_
        rotate_left
        ·rintro w' ⟨s0, s1, s2, s3⟩
         go_simp
         with_reducible rfl
        rotate_left
        ·simp only [Act.put, List.setIfInBounds_toArray, List.set_cons_zero, List.set_cons_succ, i64_w, i32_w]
         rfl
        refine take_ (i := 6) (N := some 29) (v := ?_) (a' := ?_) #[true, true, true, true, true, true, true, false, false, false] rfl rfl (take_ofW HT_.out HW_.out (by kernel_rfl)) (fun _ _ _ h => h) (Or.inl ⟨by rfl, ?_⟩) hHeld ?_ ?_
        rotate_left
        ·rintro w' ⟨s0, s1, s2, s3⟩
         go_simp
         with_reducible rfl
        rotate_left
        ·simp only [Act.put, List.setIfInBounds_toArray, List.set_cons_zero, List.set_cons_succ, i64_w, i32_w]
         rfl
        refine pure_ (i := 7) (N := some 30) (v := ?_) (a' := ?_) #[true, true, true, true, true, true, true, true, false, false] rfl rfl (any_of HT_.out (by kernel_rfl)) (fun _ _ _ h => h) (Or.inl ⟨by rfl, ?_⟩) ?_ ?_
        rotate_left
        ·intro w'
         go_simp
         with_reducible rfl
        rotate_left
        ·simp only [Act.put, List.setIfInBounds_toArray, List.set_cons_zero, List.set_cons_succ, i64_w, i32_w]
         rfl
        refine one_ (i := 8) (N := some 31) #[true, true, true, true, true, true, true, true, true, false] rfl rfl (one_of HT_.out (by kernel_rfl)) (by decide) (fun K hK => ?_)
        refine goes_ Try.func70 (by kernel_rfl) rfl #[.agg #[.string ((rd_T65 l0_1 x4_1).f0), .slice A268_1 ((rd_T65 l0_1 x4_1).f1).length c268_1], .int .i64 (l0_0.length : Int)] (by rfl) rfl rfl (by (try simp only [List.map_toArray, List.map_cons, List.map_nil]); first | done | rfl | (simp only [List.length_drop, List.length_take]; rfl)) ?_
        with_reducible refine (ancepsref57_row.calls k1 ((rd_T65 l0_1 x4_1).f0) _ _ ((rd_T65 l0_1 x4_1).f1) (l0_0.length : Int) t269 _ ?side1 ?side2 A11.out).mono ?_
        (case side1 => exact iC HR268_1 HB)
        (case side2 => exact HC268_1.out)
        rintro e w15 ⟨rfl, hb⟩
        refine ⟨_, rfl, ?_⟩
        have n0_ := jB BK266 hb
        have n1_ := jL HB hb
        clear BK266
        clear HB
        have BK266 := n0_
        have HB := n1_
        clear n0_ n1_
        (try clear hb)
        (try clear hb2)
        (try clear hk)
        (try clear hi)
        refine hK.out _ _ ⟨(blk_cell BK266.out 0).trans rfl, (blk_cell BK266.out 1).trans rfl, ((HB.out.cell (World.block_lt_of_cell? w _ hw268_0)).trans hw268_0), ((HB.out.cell (World.block_lt_of_cell? w _ hw268_1)).trans hw268_1)⟩ (fun hHeld => ?_)
        clear hK K
        refine norm_ (a' := ?_) ?_ ?_
        rotate_left
        ·show Act.put _ (some 31) _ = _
         simp only [Act.put, List.setIfInBounds_toArray, List.set_cons_zero, List.set_cons_succ, i64_w, i32_w]
         rfl
        refine pure_ (i := 9) (N := some 5) (v := ?_) (a' := ?_) #[true, true, true, true, true, true, true, true, true, true] rfl rfl (any_of HT_.out (by kernel_rfl)) (fun _ _ _ h => h) (Or.inl ⟨by rfl, ?_⟩) ?_ ?_
        rotate_left
        ·intro w'
         go_simp
         with_reducible rfl
        rotate_left
        ·simp only [Act.put, List.setIfInBounds_toArray, List.set_cons_zero, List.set_cons_succ, i64_w, i32_w]
         rfl
        refine done_ (done_of HT_.out (by kernel_rfl)) ?_
        try go_wp2
        go_roundg k1
        case measure => have := HK1.out; omega
        case rel => exact ⟨(wrap64 (x4_1 + 1)), (by first | rfl | (simp; done) | (simp [*]; done)), H', ⟨by have := HK1.out; omega⟩, ⟨by (with_reducible repeat (first | apply blk_drewN | apply blk_drew | apply blk_alloc)); exact BK266.out⟩, ⟨by repeat (first | (with_reducible first | exact HB.out | apply below_alloc | apply pw_below_drewN | apply below_drew1 | refine below_set ?_ GE266.out) | exact HB.out)⟩⟩
       ·rw [if_neg c12] at H
        have c12b0 : (t269 == 0) = false := beq_eq_false_iff_ne.mpr c12
        have c12b1 : (t269 != 0) = true := bne_iff_ne.mpr c12
        obtain rfl := Option.some.inj H
        have hcz16_0 := cZ BK266 0 (.slice A0_0 l0_0.length c0_0)
        have hcz16_1 := cZ BK266 1 (.slice A0_1 l0_1.length c0_1)
        have hfz16_0 := blk_frozen BK266.out 0
        have hfz16_1 := blk_frozen BK266.out 1
        try go_wp2
        have n0_ := Aside0.mk (blk_drew BK266.out)
        have n1_ := Aside0.mk (below_drew1 HB.out)
        clear BK266
        clear HB
        have BK266 := n0_
        have HB := n1_
        clear n0_ n1_
        have p268 : 0 ≤ (x4_1 : Int) := of_decide_eq_true (by first | (with_reducible assumption) | assumption)
        have q268 : x4_1 < (l0_1.length : Int) := of_decide_eq_true (by first | (with_reducible assumption) | assumption)
        obtain ⟨ad268, A268_1, c268_1, e268, hx268_0, hx268_1, hl268_1, hi268_1⟩ := at_T65 HR0_1.out x4_1 p268 q268
        have hw268_1 := hx268_1
        have hw268_0 := hx268_0
        cases e268
        replace hx268_0 := (HB.out.cell (World.block_lt_of_cell? w _ hx268_0)).trans hx268_0
        replace hx268_1 := (HB.out.cell (World.block_lt_of_cell? w _ hx268_1)).trans hx268_1
        have HR268_1 := Aside0.mk hi268_1
        have HC268_1 := Aside0.mk hl268_1
        clear hi268_1 hl268_1
        replace p268 := eq_true p268
        replace q268 := eq_true q268
        refine start_ (n := 10) (S := fun w' => w'.cell? ⟨gb266, 0, none⟩ = some (.slice A0_0 l0_0.length c0_0) ∧ w'.cell? ⟨gb266, 1, none⟩ = some (.slice (some ad268) l0_1.length c0_1) ∧ w'.cell? (ad268.add ((x4_1).toNat * 2)) = some (.string ((rd_T65 l0_1 x4_1).f0)) ∧ w'.cell? ⟨(ad268.add ((x4_1).toNat * 2)).block, (ad268.add ((x4_1).toNat * 2)).off + 1, none⟩ = some (.slice A268_1 ((rd_T65 l0_1 x4_1).f1).length c268_1)) (ds := []) #[false, false, false, false, false, false, false, false, false, false] (by kernel_rfl) rfl rfl ⟨(blk_cell BK266.out 0).trans rfl, (blk_cell BK266.out 1).trans rfl, ((HB.out.cell (World.block_lt_of_cell? w _ hw268_0)).trans hw268_0), ((HB.out.cell (World.block_lt_of_cell? w _ hw268_1)).trans hw268_1)⟩ (fun hHeld => ?_); refine with_tabW ancepsref57_Valid.tab9 ancepsref57_Valid.bits9 (fun HT_ HW_ => ?_)
        generalize wr.drew = w17 at BK266 HB HR268_1 hx268_0 hx268_1 hHeld ⊢
        refine pure_ (i := 0) (N := some 23) (v := ?_) (a' := ?_) #[true, false, false, false, false, false, false, false, false, false] rfl rfl (any_of HT_.out (by kernel_rfl)) (fun _ _ _ h => h) (Or.inl ⟨by rfl, ?_⟩) ?_ ?_
        rotate_left
        ·intro w'
         go_simp
         with_reducible rfl
        rotate_left
        ·simp only [Act.put, List.setIfInBounds_toArray, List.set_cons_zero, List.set_cons_succ, i64_w, i32_w]
         rfl
        refine pure_ (i := 2) (N := some 25) (v := ?_) (a' := ?_) #[true, false, true, false, false, false, false, false, false, false] rfl rfl (any_of HT_.out (by kernel_rfl)) (fun _ _ _ h => h) (Or.inl ⟨by rfl, ?_⟩) ?_ ?_
        rotate_left
        ·intro w'
         go_simp
         with_reducible rfl
        rotate_left
        ·simp only [Act.put, List.setIfInBounds_toArray, List.set_cons_zero, List.set_cons_succ, i64_w, i32_w]
         rfl
        refine pure_ (i := 5) (N := some 28) (v := ?_) (a' := ?_) #[true, false, true, false, false, true, false, false, false, false] rfl rfl (any_of HT_.out (by kernel_rfl)) (fun _ _ _ h => h) (Or.inl ⟨by rfl, ?_⟩) ?_ ?_
        rotate_left
        ·intro w'
         go_simp
         with_reducible rfl
        rotate_left
        ·simp only [Act.put, List.setIfInBounds_toArray, List.set_cons_zero, List.set_cons_succ, i64_w, i32_w]
         rfl
        refine take_ (i := 1) (N := some 24) (v := ?_) (a' := ?_) #[true, true, true, false, false, true, false, false, false, false] rfl rfl (take_ofW HT_.out HW_.out (by kernel_rfl)) (fun _ _ _ h => h) (Or.inl ⟨by rfl, ?_⟩) hHeld ?_ ?_
        rotate_left
        ·rintro w' ⟨s0, s1, s2, s3⟩
         go_simp
         with_reducible rfl
        rotate_left
        ·simp only [Act.put, List.setIfInBounds_toArray, List.set_cons_zero, List.set_cons_succ, i64_w, i32_w]
         rfl
        refine pure_ (i := 3) (N := some 26) (v := ?_) (a' := ?_) #[true, true, true, true, false, true, false, false, false, false] rfl rfl (any_of HT_.out (by kernel_rfl)) (fun _ _ _ h => h) (Or.inl ⟨by rfl, ?_⟩) ?_ ?_
        rotate_left
        ·intro w'
         go_simp
         with_reducible rfl
        rotate_left
        ·simp only [Act.put, List.setIfInBounds_toArray, List.set_cons_zero, List.set_cons_succ, i64_w, i32_w]
         rfl
        refine take_ (i := 4) (N := some 27) (v := ?_) (a' := ?_) #[true, true, true, true, true, true, false, false, false, false] rfl rfl (take_ofW HT_.out HW_.out (by kernel_rfl)) (fun _ _ _ h => h) (Or.inl ⟨by rfl, ?_⟩) hHeld ?_ ?_
        rotate_left
        ·rintro w' ⟨s0, s1, s2, s3⟩
         go_simp
         with_reducible rfl
        rotate_left
        ·simp only [Act.put, List.setIfInBounds_toArray, List.set_cons_zero, List.set_cons_succ, i64_w, i32_w]
         rfl
        refine take_ (i := 6) (N := some 29) (v := ?_) (a' := ?_) #[true, true, true, true, true, true, true, false, false, false] rfl rfl (take_ofW HT_.out HW_.out (by kernel_rfl)) (fun _ _ _ h => h) (Or.inl ⟨by rfl, ?_⟩) hHeld ?_ ?_
        rotate_left
        ·rintro w' ⟨s0, s1, s2, s3⟩
         go_simp
         with_reducible rfl
        rotate_left
        ·simp only [Act.put, List.setIfInBounds_toArray, List.set_cons_zero, List.set_cons_succ, i64_w, i32_w]
         rfl
        refine pure_ (i := 7) (N := some 30) (v := ?_) (a' := ?_) #[true, true, true, true, true, true, true, true, false, false] rfl rfl (any_of HT_.out (by kernel_rfl)) (fun _ _ _ h => h) (Or.inl ⟨by rfl, ?_⟩) ?_ ?_
        rotate_left
        ·intro w'
         go_simp
         with_reducible rfl
        rotate_left
        ·simp only [Act.put, List.setIfInBounds_toArray, List.set_cons_zero, List.set_cons_succ, i64_w, i32_w]
         rfl
        refine one_ (i := 8) (N := some 31) #[true, true, true, true, true, true, true, true, true, false] rfl rfl (one_of HT_.out (by kernel_rfl)) (by decide) (fun K hK => ?_)
        refine goes_ Try.func70 (by kernel_rfl) rfl #[.agg #[.string ((rd_T65 l0_1 x4_1).f0), .slice A268_1 ((rd_T65 l0_1 x4_1).f1).length c268_1], .int .i64 (l0_0.length : Int)] (by rfl) rfl rfl (by (try simp only [List.map_toArray, List.map_cons, List.map_nil]); first | done | rfl | (simp only [List.length_drop, List.length_take]; rfl)) ?_
        with_reducible refine (ancepsref57_row.calls k1 ((rd_T65 l0_1 x4_1).f0) _ _ ((rd_T65 l0_1 x4_1).f1) (l0_0.length : Int) t269 _ ?side1 ?side2 A11.out).mono ?_
        (case side1 => exact iC HR268_1 HB)
        (case side2 => exact HC268_1.out)
        rintro e w18 ⟨rfl, hb⟩
        refine ⟨_, rfl, ?_⟩
        have n0_ := jB BK266 hb
        have n1_ := jL HB hb
        clear BK266
        clear HB
        have BK266 := n0_
        have HB := n1_
        clear n0_ n1_
        (try clear hb)
        (try clear hb2)
        (try clear hk)
        (try clear hi)
        refine hK.out _ _ ⟨(blk_cell BK266.out 0).trans rfl, (blk_cell BK266.out 1).trans rfl, ((HB.out.cell (World.block_lt_of_cell? w _ hw268_0)).trans hw268_0), ((HB.out.cell (World.block_lt_of_cell? w _ hw268_1)).trans hw268_1)⟩ (fun hHeld => ?_)
        clear hK K
        refine norm_ (a' := ?_) ?_ ?_
        rotate_left
        ·show Act.put _ (some 31) _ = _
         simp only [Act.put, List.setIfInBounds_toArray, List.set_cons_zero, List.set_cons_succ, i64_w, i32_w]
         rfl
        refine pure_ (i := 9) (N := some 5) (v := ?_) (a' := ?_) #[true, true, true, true, true, true, true, true, true, true] rfl rfl (any_of HT_.out (by kernel_rfl)) (fun _ _ _ h => h) (Or.inl ⟨by rfl, ?_⟩) ?_ ?_
        rotate_left
        ·intro w'
         go_simp
         with_reducible rfl
        rotate_left
        ·simp only [Act.put, List.setIfInBounds_toArray, List.set_cons_zero, List.set_cons_succ, i64_w, i32_w]
         rfl
        refine done_ (done_of HT_.out (by kernel_rfl)) ?_
        try go_wp2
        go_ret
        exact ⟨by first | rfl | (simp [errW_none, errW_some] <;> rfl) | (simp [*, errW_none, errW_some] <;> rfl), by repeat (first | (with_reducible first | exact HB.out | apply below_alloc | apply pw_below_drewN | apply below_drew1 | refine below_set ?_ GE266.out) | exact HB.out)⟩
      ·rw [if_neg c10] at H
       exact absurd H (by simp)
     ·rw [if_neg c9] at H
      have c9b0 : decide (x4_1 < (l0_1.length : Int)) = false := decide_eq_false c9
      clear c9
      obtain rfl := Option.some.inj H
      have hcz19_0 := cZ BK266 0 (.slice A0_0 l0_0.length c0_0)
      have hcz19_1 := cZ BK266 1 (.slice A0_1 l0_1.length c0_1)
      have hfz19_0 := blk_frozen BK266.out 0
      have hfz19_1 := blk_frozen BK266.out 1
      go_wp2
      go_ret
      exact ⟨by first | rfl | (simp [errW_none, errW_some] <;> rfl) | (simp [*, errW_none, errW_some] <;> rfl), by repeat (first | (with_reducible first | exact HB.out | apply below_alloc | apply pw_below_drewN | apply below_drew1 | refine below_set ?_ GE266.out) | exact HB.out)⟩
 ·rw [if_neg c3] at H
  have c3b0 : (t267 == 0) = false := beq_eq_false_iff_ne.mpr c3
  have c3b1 : (t267 != 0) = true := bne_iff_ne.mpr c3
  obtain rfl := Option.some.inj H
  go_enter Try.func54, Try.ntmps54
  go_wp2_with (first | ((with_reducible refine gate_dst (N := 1) rfl ?_); refine bX 1 #[.slice A0_0 l0_0.length c0_0, .slice A0_1 l0_1.length c0_1] 42 ?_; intro gb266 hg w20 hbox hb; have n0_ := jL HB hb; have n1_ := Aside0.mk (hbox); have n2_ := Aside0.mk ((by rw [hg]; exact (below_size (iL HB)) : w.heap.size ≤ gb266)); have n3_ := Aside0.mk ((by rw [hg]; exact (below_size (iL HB)) : w.heap.size ≤ gb266)); clear HB; have HB := n0_; have BK266 := n1_; have GW266 := n2_; have GE266 := n3_; clear n0_ n1_ n2_ n3_; clear hb hbox hg; have hcz21_0 := cZ BK266 0 (.slice A0_0 l0_0.length c0_0); have hcz21_1 := cZ BK266 1 (.slice A0_1 l0_1.length c0_1); have hfz21_0 := blk_frozen BK266.out 0; have hfz21_1 := blk_frozen BK266.out 1) | ((with_reducible refine gate_callee (f := 68) rfl ?_); refine gL_ (some 8) Try.func68 #[.slice A0_0 l0_0.length c0_0] ?_; (with_reducible refine (ancepsref57_names.calls k _ _ l0_0 t267 _ ?side1 ?side2 A2.out).mono ?_); (case side1 => exact iC HR0_0 HB); (case side2 => exact HC0_0.out); rintro e w' ⟨rfl, ⟨nd, rfl⟩⟩; refine ⟨_, rfl, ?_⟩))
  go_ret
  exact ⟨by first | rfl | (simp [errW_none, errW_some] <;> rfl) | (simp [*, errW_none, errW_some] <;> rfl), by repeat (first | (with_reducible first | exact HB.out | apply below_alloc | apply pw_below_drewN | apply below_drew1 | refine below_set ?_ GE266.out) | exact HB.out)⟩

/-! ### ancepsref57_has: function 61 -/
def ancepsref57_has.l0 : Nat → Int → Int → ByteArray → List (S67) → Option (ByteArray)
 | 0, _, _, _, _ => none
 | k + 1, x1, x5, x271000, x271001 => if x5 < (x271001.length : Int) then (if 0 ≤ x5 then (if 0 ≤ x1 then (if (Go.bits .and .i64 (shr .i64 ((rd_T67 x271001 x5).f1) x1) 1) = 1 then (some ((rd_T67 x271001 x5).f0)) else (ancepsref57_has.l0 k x1 (wrap64 (x5 + 1)) x271000 x271001)) else (none)) else (none)) else (some x271000)
def ancepsref57_has.f (k : Nat) (a0_0 : ByteArray) (l0_1 : List (S67)) (a1 : Int) : Option (ByteArray) := ancepsref57_has.l0 k a1 0 a0_0 l0_1
theorem ancepsref57_has.mono_l : ∀ k, (∀ y0 y1 y2 y3, LeO (ancepsref57_has.l0 k y0 y1 y2 y3) (ancepsref57_has.l0 (k + 1) y0 y1 y2 y3))
 | 0 => fun _ _ _ _ r h => by simp [ancepsref57_has.l0] at h
 | k + 1 => by
  have ih0 := ancepsref57_has.mono_l k
  ·intro y0 y1 y2 y3
   unfold ancepsref57_has.l0
   repeat' first
   | (with_reducible exact ih0 _ _ _ _)
   | (with_reducible exact LeO.refl _)
   | (with_reducible exact LeO.none _)
   | (with_reducible refine LeO.ite ?_ ?_)
   | (with_reducible refine LeO.bind ?_ (fun _ => ?_))
   | exact ih0 _ _ _ _
   | exact LeO.none _
   | refine LeO.ite ?_ ?_
   | refine LeO.bind ?_ (fun _ => ?_)
theorem ancepsref57_has.mono : ∀ a0 a1 a2 k, LeO (ancepsref57_has.f k a0 a1 a2) (ancepsref57_has.f (k + 1) a0 a1 a2) := by
 intro a0 a1 a2 k
 have ih0 := ancepsref57_has.mono_l k
 unfold ancepsref57_has.f
 repeat' first
   | (with_reducible exact ih0 _ _ _ _)
   | (with_reducible exact LeO.refl _)
   | (with_reducible exact LeO.none _)
   | (with_reducible refine LeO.ite ?_ ?_)
   | (with_reducible refine LeO.bind ?_ (fun _ => ?_))
   | exact ih0 _ _ _ _
   | exact LeO.none _
   | refine LeO.ite ?_ ?_
   | refine LeO.bind ?_ (fun _ => ?_)
set_option maxHeartbeats 8000000 in
set_option maxRecDepth 100000 in
theorem ancepsref57_has.calls (k : Nat) (a0_0 : ByteArray) (A0_1 : Option Addr) (c0_1 : Nat) (l0_1 : List (S67)) (a1 : Int) (r : ByteArray) (w : World) (hr0_1 : Kd.C k67 w A0_1 l0_1.length l0_1) (hc0_1 : l0_1.length ≤ c0_1) (h : ancepsref57_has.f k a0_0 l0_1 a1 = some r) :
  Calls Try.prog 61 #[.agg #[.string a0_0, .slice A0_1 l0_1.length c0_1], .int .i64 a1] w fun e w' => e = .returned (.string r) ∧ Below w.heap.size w w' := by
 have hu65 := Try.underlying65
 have HR0_1 := Aside0.mk hr0_1
 have HC0_1 := Aside0.mk hc0_1
 clear hr0_1 hc0_1
 have HB := Aside0.mk (Below.refl w.heap.size w)
 have H : (ancepsref57_has.l0 k a1 0 a0_0 l0_1) = some r := h
 clear h
 have H' := Aside0.mk H
 clear H
 go_enter Try.func61, Try.ntmps61
 go_wp2_with (first | ((with_reducible refine gate_dst (N := 2) rfl ?_); refine bX 2 #[.string a0_0, .slice A0_1 l0_1.length c0_1] 65 ?_; intro gb270 hg w3 hbox hb; have n0_ := jL HB hb; have n1_ := Aside0.mk (hbox); have n2_ := Aside0.mk ((by rw [hg]; exact (below_size (iL HB)) : w.heap.size ≤ gb270)); have n3_ := Aside0.mk ((by rw [hg]; exact (below_size (iL HB)) : w.heap.size ≤ gb270)); clear HB; have HB := n0_; have BK270 := n1_; have GW270 := n2_; have GE270 := n3_; clear n0_ n1_ n2_ n3_; clear hb hbox hg))
 go_loopg [5] k (fun kq v5 w' => ∃ (x5_1 : Int), v5 = .int .i64 x5_1 ∧ Aside0 (ancepsref57_has.l0 kq a1 x5_1 a0_0 l0_1 = some r) ∧ Aside0 (kq ≤ k) ∧ Aside0 (w'.heap[gb270]? = some (.cells #[.string a0_0, (.slice A0_1 l0_1.length c0_1)] 65 (0, 0))) ∧ Aside0 (Below w.heap.size w w'))
 case atStart => exact ⟨(0), (by first | rfl | (simp; done) | (simp [*]; done)), H', ⟨Nat.le_refl _⟩, ⟨by (with_reducible repeat (first | apply blk_drewN | apply blk_drew | apply blk_alloc)); exact BK270.out⟩, ⟨by repeat (first | (with_reducible first | exact HB.out | apply below_alloc | apply pw_below_drewN | apply below_drew1 | refine below_set ?_ GE270.out) | exact HB.out)⟩⟩
 case round =>
  clear H'
  try clear p2
  obtain ⟨x5_1, rfl, HA, HK1, BK270, HB⟩ := hrel
  cases gk with
  | zero => exact absurd HA.out (by simp [ancepsref57_has.l0])
  | succ k1 =>
   have H := HA.out
   clear HA
   simp only [ancepsref57_has.l0] at H
   by_cases c4 : x5_1 < (l0_1.length : Int)
   ·rw [if_pos c4] at H
    have c4b0 : decide (x5_1 < (l0_1.length : Int)) = true := decide_eq_true c4
    clear c4
    by_cases c5 : 0 ≤ x5_1
    ·rw [if_pos c5] at H
     have c5b0 : decide (0 ≤ x5_1) = true := decide_eq_true c5
     clear c5
     by_cases c6 : 0 ≤ a1
     ·rw [if_pos c6] at H
      have c6b0 := eq_true c6
      have c6b1 : decide (0 ≤ a1) = true := decide_eq_true c6
      clear c6
      obtain ⟨ji7, hji7⟩ : ∃ j_ : Int, (shr .i64 ((rd_T67 l0_1 x5_1).f1) a1) = j_ := ⟨_, rfl⟩
      replace H : (if (Go.bits .and .i64 (ji7) 1) = 1 then (some ((rd_T67 l0_1 x5_1).f0)) else (ancepsref57_has.l0 k1 a1 (wrap64 (x5_1 + 1)) a0_0 l0_1)) = some r := by first | (rw [hji7] at H; exact H) | (simp only [hji7] at H ⊢; exact H)
      have hji7_ : (((rd_T67 l0_1 x5_1).f1) / 2 ^ min a1.toNat 64) = ji7 := hji7
      have hji7z : a1 ≤ 64 → (((rd_T67 l0_1 x5_1).f1) / 2 ^ a1.toNat) = ji7 := shr_small hji7
      by_cases c8 : (Go.bits .and .i64 (ji7) 1) = 1
      ·rw [if_pos c8] at H
       have c8b0 : ((Go.bits .and .i64 (ji7) 1) == 1) = true := beq_iff_eq.mpr c8
       have c8b1 : ((Go.bits .and .i64 (ji7) 1) != 1) = false := bne_eq_false_iff_eq.mpr c8
       clear c8
       obtain rfl := Option.some.inj H
       have hcz9_0 := cZ BK270 0 (.string a0_0)
       have hcz9_1 := cZ BK270 1 (.slice A0_1 l0_1.length c0_1)
       have hfz9_0 := blk_frozen BK270.out 0
       have hfz9_1 := blk_frozen BK270.out 1
       have p271 : 0 ≤ (x5_1 : Int) := of_decide_eq_true (by first | (with_reducible assumption) | assumption)
       have q271 : x5_1 < (l0_1.length : Int) := of_decide_eq_true (by first | (with_reducible assumption) | assumption)
       obtain ⟨ad271, e271, hx271_0, hx271_1⟩ := at_T67 HR0_1.out x5_1 p271 q271
       cases e271
       replace hx271_0 := (HB.out.cell (World.block_lt_of_cell? w _ hx271_0)).trans hx271_0
       replace hx271_1 := (HB.out.cell (World.block_lt_of_cell? w _ hx271_1)).trans hx271_1
       replace p271 := eq_true p271
       replace q271 := eq_true q271
       have p272 : 0 ≤ (x5_1 : Int) := of_decide_eq_true (by first | (with_reducible assumption) | assumption)
       have q272 : x5_1 < (l0_1.length : Int) := of_decide_eq_true (by first | (with_reducible assumption) | assumption)
       obtain ⟨ad272, e272, hx272_0, hx272_1⟩ := at_T67 HR0_1.out x5_1 p272 q272
       obtain rfl : ad271 = ad272 := (by injection e272)
       replace hx272_0 := (HB.out.cell (World.block_lt_of_cell? w _ hx272_0)).trans hx272_0
       replace hx272_1 := (HB.out.cell (World.block_lt_of_cell? w _ hx272_1)).trans hx272_1
       replace p272 := eq_true p272
       replace q272 := eq_true q272
       go_wp2
       go_ret
       exact ⟨by first | rfl | (simp [errW_none, errW_some] <;> rfl) | (simp only [← hji7]; first | rfl | (simp [errW_none, errW_some] <;> rfl)) | (simp [*, errW_none, errW_some] <;> rfl), by repeat (first | (with_reducible first | exact HB.out | apply below_alloc | apply pw_below_drewN | apply below_drew1 | refine below_set ?_ GE270.out) | exact HB.out)⟩
      ·rw [if_neg c8] at H
       have c8b0 : ((Go.bits .and .i64 (ji7) 1) == 1) = false := beq_eq_false_iff_ne.mpr c8
       have c8b1 : ((Go.bits .and .i64 (ji7) 1) != 1) = true := bne_iff_ne.mpr c8
       have H' := Aside0.mk H
       clear H
       have hcz10_0 := cZ BK270 0 (.string a0_0)
       have hcz10_1 := cZ BK270 1 (.slice A0_1 l0_1.length c0_1)
       have hfz10_0 := blk_frozen BK270.out 0
       have hfz10_1 := blk_frozen BK270.out 1
       have p271 : 0 ≤ (x5_1 : Int) := of_decide_eq_true (by first | (with_reducible assumption) | assumption)
       have q271 : x5_1 < (l0_1.length : Int) := of_decide_eq_true (by first | (with_reducible assumption) | assumption)
       obtain ⟨ad271, e271, hx271_0, hx271_1⟩ := at_T67 HR0_1.out x5_1 p271 q271
       cases e271
       replace hx271_0 := (HB.out.cell (World.block_lt_of_cell? w _ hx271_0)).trans hx271_0
       replace hx271_1 := (HB.out.cell (World.block_lt_of_cell? w _ hx271_1)).trans hx271_1
       replace p271 := eq_true p271
       replace q271 := eq_true q271
       go_wp2
       go_roundg k1
       case measure => have := HK1.out; omega
       case rel => exact ⟨(wrap64 (x5_1 + 1)), (by first | rfl | (simp; done) | (simp [*]; done)), H', ⟨by have := HK1.out; omega⟩, ⟨by (with_reducible repeat (first | apply blk_drewN | apply blk_drew | apply blk_alloc)); exact BK270.out⟩, ⟨by repeat (first | (with_reducible first | exact HB.out | apply below_alloc | apply pw_below_drewN | apply below_drew1 | refine below_set ?_ GE270.out) | exact HB.out)⟩⟩
     ·rw [if_neg c6] at H
      exact absurd H (by simp)
    ·rw [if_neg c5] at H
     exact absurd H (by simp)
   ·rw [if_neg c4] at H
    have c4b0 : decide (x5_1 < (l0_1.length : Int)) = false := decide_eq_false c4
    clear c4
    obtain rfl := Option.some.inj H
    have hcz11_0 := cZ BK270 0 (.string a0_0)
    have hcz11_1 := cZ BK270 1 (.slice A0_1 l0_1.length c0_1)
    have hfz11_0 := blk_frozen BK270.out 0
    have hfz11_1 := blk_frozen BK270.out 1
    go_wp2
    go_ret
    exact ⟨by first | rfl | (simp [errW_none, errW_some] <;> rfl) | (simp [*, errW_none, errW_some] <;> rfl), by repeat (first | (with_reducible first | exact HB.out | apply below_alloc | apply pw_below_drewN | apply below_drew1 | refine below_set ?_ GE270.out) | exact HB.out)⟩

end Go.Proofs.Ytmjigfoldeekmaa.X
