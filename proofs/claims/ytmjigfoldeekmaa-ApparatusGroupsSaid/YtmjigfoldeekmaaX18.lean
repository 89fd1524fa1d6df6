-- shortened
-- thinned
-- halved indents
-- printed by this session's xprint.py: out of the translation, by the kit's print with additions; Lean checks it
import Derived.Test.YtmjigfoldeekmaaWN
import Derived.Test.YtmjigfoldeekmaaWShare
import Derived.Test.YtmjigfoldeekmaaWRepsOne
import Derived.Test.YtmjigfoldeekmaaWGuard
import Derived.Test.YtmjigfoldeekmaaX0
import Derived.Test.YtmjigfoldeekmaaX9
import Derived.Test.YtmjigfoldeekmaaX13
import Derived.Test.YtmjigfoldeekmaaX16
import Derived.Test.YtmjigfoldeekmaaX17
import Derived.Test.YtmjigfoldeekmaaXA
namespace Go.Proofs.Ytmjigfoldeekmaa.X
open Go.RowKit Go.Proofs.YtmjigfoldeekmaaW.PrintWords Go.Proofs.YtmjigfoldeekmaaW.PrintLast Go.Proofs.YtmjigfoldeekmaaW.PrintMore
attribute [local go_sem] max2_int min2_int max_two min_two max_three min_three max_four min_four isSome_setCell binOp_gtr_str binOp_leq_str binOp_geq_str   -- for this text's walks alone
set_option linter.unusedVariables false
set_option linter.unusedSimpArgs false

/-! ### ancepsref57_Groups: function 24 -/
mutual
def ancepsref57_Groups.l0 : Nat → List (List ByteArray) → Int → List ByteArray → List (S65) → Option ((List (List ByteArray)) × Int)
 | 0, _, _, _, _ => none
 | k + 1, x5, x6, x279000, x279001 => if x6 < (x279000.length : Int) then (ancepsref57_Groups.l1 k x5 x6 true 0 x279000 x279001) else (some (x5, 0))
def ancepsref57_Groups.l1 : Nat → List (List ByteArray) → Int → Bool → Int → List ByteArray → List (S65) → Option ((List (List ByteArray)) × Int)
 | 0, _, _, _, _, _, _ => none
 | k + 1, x5, x6, x7, x8, x279000, x279001 => if x8 < x6 then (if x7 = true then ((ancepsref57_agree.f k x279000 x279001 x8 x6).bind fun t280 => (ancepsref57_Groups.l1 k x5 x6 (decide (t280 < (x279001.length : Int))) (wrap64 (x8 + 1)) x279000 x279001)) else (ancepsref57_Groups.l1 k x5 x6 false (wrap64 (x8 + 1)) x279000 x279001)) else (if x7 = true then (ancepsref57_Groups.l2 k x5 x6 ([] : List ByteArray) x6 x279000 x279001) else (ancepsref57_Groups.l0 k x5 (wrap64 (x6 + 1)) x279000 x279001))
def ancepsref57_Groups.l2 : Nat → List (List ByteArray) → Int → List ByteArray → Int → List ByteArray → List (S65) → Option ((List (List ByteArray)) × Int)
 | 0, _, _, _, _, _, _ => none
 | k + 1, x5, x6, x9, x10, x279000, x279001 => if x10 < (x279000.length : Int) then ((ancepsref57_agree.f k x279000 x279001 x6 x10).bind fun t281 => (if t281 = (x279001.length : Int) then (if 0 ≤ x10 then (if x9.length < 8796093022208 then (ancepsref57_Groups.l2 k x5 x6 (x9 ++ [rdOf ByteArray.empty x279000 x10]) (wrap64 (x10 + 1)) x279000 x279001) else (none)) else (none)) else (ancepsref57_Groups.l2 k x5 x6 x9 (wrap64 (x10 + 1)) x279000 x279001))) else (if x5.length < 5864062014805 then (ancepsref57_Groups.l0 k (x5 ++ [x9]) (wrap64 (x6 + 1)) x279000 x279001) else (none))
end
def ancepsref57_Groups.f (k : Nat) (l0_0 : List ByteArray) (l0_1 : List (S65)) : Option ((List (List ByteArray)) × Int) := (ancepsref57_Valid.f k l0_0 l0_1).bind fun t279 => (if t279 = 0 then (ancepsref57_Groups.l0 k ([] : List (List ByteArray)) 0 l0_0 l0_1) else (some (([] : List (List ByteArray)), t279)))
theorem ancepsref57_Groups.mono_l : ∀ k, (∀ y0 y1 y2 y3, LeO (ancepsref57_Groups.l0 k y0 y1 y2 y3) (ancepsref57_Groups.l0 (k + 1) y0 y1 y2 y3)) ∧ (∀ y0 y1 y2 y3 y4 y5, LeO (ancepsref57_Groups.l1 k y0 y1 y2 y3 y4 y5) (ancepsref57_Groups.l1 (k + 1) y0 y1 y2 y3 y4 y5)) ∧ (∀ y0 y1 y2 y3 y4 y5, LeO (ancepsref57_Groups.l2 k y0 y1 y2 y3 y4 y5) (ancepsref57_Groups.l2 (k + 1) y0 y1 y2 y3 y4 y5))
 | 0 => ⟨fun _ _ _ _ r h => by simp [ancepsref57_Groups.l0] at h, fun _ _ _ _ _ _ r h => by simp [ancepsref57_Groups.l1] at h, fun _ _ _ _ _ _ r h => by simp [ancepsref57_Groups.l2] at h⟩
 | k + 1 => by
  obtain ⟨ih0, ih1, ih2⟩ := ancepsref57_Groups.mono_l k
  refine ⟨?_, ?_, ?_⟩
  ·intro y0 y1 y2 y3
   unfold ancepsref57_Groups.l0
   repeat' first
   | (with_reducible exact ih0 _ _ _ _)
   | (with_reducible exact ih1 _ _ _ _ _ _)
   | (with_reducible exact ih2 _ _ _ _ _ _)
   | (with_reducible exact ancepsref57_Valid.mono _ _ _)
   | (with_reducible exact ancepsref57_agree.mono _ _ _ _ _)
   | (with_reducible exact LeO.refl _)
   | (with_reducible exact LeO.none _)
   | (with_reducible refine LeO.ite ?_ ?_)
   | (with_reducible refine LeO.bind ?_ (fun _ => ?_))
   | exact ih0 _ _ _ _
   | exact ih1 _ _ _ _ _ _
   | exact ih2 _ _ _ _ _ _
   | exact ancepsref57_Valid.mono _ _ _
   | exact ancepsref57_agree.mono _ _ _ _ _
   | exact LeO.none _
   | refine LeO.ite ?_ ?_
   | refine LeO.bind ?_ (fun _ => ?_)
  ·intro y0 y1 y2 y3 y4 y5
   unfold ancepsref57_Groups.l1
   repeat' first
   | (with_reducible exact ih0 _ _ _ _)
   | (with_reducible exact ih1 _ _ _ _ _ _)
   | (with_reducible exact ih2 _ _ _ _ _ _)
   | (with_reducible exact ancepsref57_Valid.mono _ _ _)
   | (with_reducible exact ancepsref57_agree.mono _ _ _ _ _)
   | (with_reducible exact LeO.refl _)
   | (with_reducible exact LeO.none _)
   | (with_reducible refine LeO.ite ?_ ?_)
   | (with_reducible refine LeO.bind ?_ (fun _ => ?_))
   | exact ih0 _ _ _ _
   | exact ih1 _ _ _ _ _ _
   | exact ih2 _ _ _ _ _ _
   | exact ancepsref57_Valid.mono _ _ _
   | exact ancepsref57_agree.mono _ _ _ _ _
   | exact LeO.none _
   | refine LeO.ite ?_ ?_
   | refine LeO.bind ?_ (fun _ => ?_)
  ·intro y0 y1 y2 y3 y4 y5
   unfold ancepsref57_Groups.l2
   repeat' first
   | (with_reducible exact ih0 _ _ _ _)
   | (with_reducible exact ih1 _ _ _ _ _ _)
   | (with_reducible exact ih2 _ _ _ _ _ _)
   | (with_reducible exact ancepsref57_Valid.mono _ _ _)
   | (with_reducible exact ancepsref57_agree.mono _ _ _ _ _)
   | (with_reducible exact LeO.refl _)
   | (with_reducible exact LeO.none _)
   | (with_reducible refine LeO.ite ?_ ?_)
   | (with_reducible refine LeO.bind ?_ (fun _ => ?_))
   | exact ih0 _ _ _ _
   | exact ih1 _ _ _ _ _ _
   | exact ih2 _ _ _ _ _ _
   | exact ancepsref57_Valid.mono _ _ _
   | exact ancepsref57_agree.mono _ _ _ _ _
   | exact LeO.none _
   | refine LeO.ite ?_ ?_
   | refine LeO.bind ?_ (fun _ => ?_)
theorem ancepsref57_Groups.mono : ∀ a0 a1 k, LeO (ancepsref57_Groups.f k a0 a1) (ancepsref57_Groups.f (k + 1) a0 a1) := by
 intro a0 a1 k
 obtain ⟨ih0, ih1, ih2⟩ := ancepsref57_Groups.mono_l k
 unfold ancepsref57_Groups.f
 repeat' first
   | (with_reducible exact ih0 _ _ _ _)
   | (with_reducible exact ih1 _ _ _ _ _ _)
   | (with_reducible exact ih2 _ _ _ _ _ _)
   | (with_reducible exact ancepsref57_Valid.mono _ _ _)
   | (with_reducible exact ancepsref57_agree.mono _ _ _ _ _)
   | (with_reducible exact LeO.refl _)
   | (with_reducible exact LeO.none _)
   | (with_reducible refine LeO.ite ?_ ?_)
   | (with_reducible refine LeO.bind ?_ (fun _ => ?_))
   | exact ih0 _ _ _ _
   | exact ih1 _ _ _ _ _ _
   | exact ih2 _ _ _ _ _ _
   | exact ancepsref57_Valid.mono _ _ _
   | exact ancepsref57_agree.mono _ _ _ _ _
   | exact LeO.none _
   | refine LeO.ite ?_ ?_
   | refine LeO.bind ?_ (fun _ => ?_)
def ancepsref57_Groups.T12 : Bool × List (List Nat × List Nat) := (true, [([], []), ([0], [0]), ([1], [1]), ([1], [1]), ([1], [1]), ([2, 3, 4, 1, 1], [1, 2, 3, 4]), ([1], [1]), ([6, 1], [1, 6]), ([7, 1], [1, 7]), ([5, 8, 1], [1, 5, 8]), ([1, 9], [1, 9]), ([10, 5, 0, 1, 2, 3, 4, 5, 6, 7, 8, 9, 10], [0, 10])])
def ancepsref57_Groups.B12 : List Nat := [0, 1, 3, 3, 3, 31, 3, 67, 195, 511, 1023, 2047]
theorem ancepsref57_Groups.tab12 : rtab .any (opsOf Try.f24 12) = ancepsref57_Groups.T12 := by kernel_rfl
theorem ancepsref57_Groups.bits12 : waitsOk ancepsref57_Groups.T12.2 ancepsref57_Groups.B12 = true := by kernel_rfl
def ancepsref57_Groups.T18 : Bool × List (List Nat × List Nat) := (true, [([], []), ([], []), ([], []), ([0, 1, 2], [0, 1, 2]), ([], []), ([4], [4]), ([5], [5]), ([3, 6], [3, 6])])
def ancepsref57_Groups.B18 : List Nat := [0, 0, 0, 7, 0, 16, 48, 127]
theorem ancepsref57_Groups.tab18 : rtab .any (opsOf Try.f24 18) = ancepsref57_Groups.T18 := by kernel_rfl
theorem ancepsref57_Groups.bits18 : waitsOk ancepsref57_Groups.T18.2 ancepsref57_Groups.B18 = true := by kernel_rfl
set_option maxHeartbeats 8000000 in
set_option maxRecDepth 100000 in
theorem ancepsref57_Groups.calls (k : Nat) (A0_0 : Option Addr) (c0_0 : Nat) (l0_0 : List ByteArray) (A0_1 : Option Addr) (c0_1 : Nat) (l0_1 : List (S65)) (r1 : List (List ByteArray)) (r2 : Int) (w : World) (hr0_0 : Kd.C Kd.string w A0_0 l0_0.length l0_0) (hc0_0 : l0_0.length ≤ c0_0) (hr0_1 : Kd.C k65 w A0_1 l0_1.length l0_1) (hc0_1 : l0_1.length ≤ c0_1) (h : ancepsref57_Groups.f k l0_0 l0_1 = some (r1, r2)) :
  Calls Try.prog 24 #[.agg #[.slice A0_0 l0_0.length c0_0, .slice A0_1 l0_1.length c0_1]] w fun e w' => ∃ v0_ : Value, e = .returned (.tuple #[v0_, .int .i64 r2]) ∧ Kd.S (Kd.slice 9 Kd.string) 34 w' w.heap.size (fun _ => True) v0_ r1 ∧ Below w.heap.size w w' := by
 have hu42 := Try.underlying42
 have HR0_0 := Aside0.mk hr0_0
 have HC0_0 := Aside0.mk hc0_0
 clear hr0_0 hc0_0
 have HR0_1 := Aside0.mk hr0_1
 have HC0_1 := Aside0.mk hc0_1
 clear hr0_1 hc0_1
 have HB := Aside0.mk (Below.refl w.heap.size w)
 have H : ((ancepsref57_Valid.f k l0_0 l0_1).bind fun t279 => (if t279 = 0 then (ancepsref57_Groups.l0 k ([] : List (List ByteArray)) 0 l0_0 l0_1) else (some (([] : List (List ByteArray)), t279)))) = some (r1, r2) := h
 clear h
 replace H := Option.bind_eq_some_iff.mp H
 obtain ⟨t279, A20, H⟩ := H
 try dsimp only at H
 have A2 := Aside0.mk A20
 clear A20
 by_cases c3 : t279 = 0
 ·rw [if_pos c3] at H
  have c3b0 : (t279 == 0) = true := beq_iff_eq.mpr c3
  have c3b1 : (t279 != 0) = false := bne_eq_false_iff_eq.mpr c3
  clear c3
  have H' := Aside0.mk H
  clear H
  go_enter Try.func24, Try.ntmps24
  go_wp2_with (first | ((with_reducible refine gate_dst (N := 1) rfl ?_); (try (refine gate_guard (by rfl) ?_; dsimp only)); refine bX 1 #[.slice A0_0 l0_0.length c0_0, .slice A0_1 l0_1.length c0_1] 42 ?_; intro gb278 hg w4 hbox hb; have n0_ := jL HB hb; have n1_ := Aside0.mk (hbox); have n2_ := Aside0.mk ((by rw [hg]; exact (below_size (iL HB)) : w.heap.size ≤ gb278)); have n3_ := Aside0.mk ((by rw [hg]; exact (below_size (iL HB)) : w.heap.size ≤ gb278)); clear HB; have HB := n0_; have BK278 := n1_; have GW278 := n2_; have GE278 := n3_; clear n0_ n1_ n2_ n3_; clear hb hbox hg; have hcz5_0 := cZ BK278 0 (.slice A0_0 l0_0.length c0_0); have hcz5_1 := cZ BK278 1 (.slice A0_1 l0_1.length c0_1); have hfz5_0 := blk_frozen BK278.out 0; have hfz5_1 := blk_frozen BK278.out 1) | ((with_reducible refine gate_callee (f := 54) rfl ?_); refine gL_ (some 12) Try.func54 #[.agg #[.slice A0_0 l0_0.length c0_0, .slice A0_1 l0_1.length c0_1]] ?_; (with_reducible refine (ancepsref57_Valid.calls k _ _ l0_0 _ _ l0_1 t279 _ ?side1 ?side2 ?side3 ?side4 A2.out).mono ?_); (case side1 => exact iC HR0_0 HB); (case side2 => exact HC0_0.out); (case side3 => exact iC HR0_1 HB); (case side4 => exact HC0_1.out); rintro e w6 ⟨rfl, hb⟩; refine ⟨_, rfl, ?_⟩; have n0_ := jB BK278 hb; have n1_ := jL HB hb; clear BK278; clear HB; have BK278 := n0_; have HB := n1_; clear n0_ n1_; (try clear hb); (try clear hb2); (try clear hk); (try clear hi)))
  go_loopg [5, 6] k (fun kq v5 v6 w' => ∃ (x5_1 : List (List ByteArray)) (x6_1 : Int), v6 = .int .i64 x6_1 ∧ Aside0 (ancepsref57_Groups.l0 kq x5_1 x6_1 l0_0 l0_1 = some (r1, r2)) ∧ Aside0 (kq ≤ k) ∧ Aside0 (Kd.S (Kd.slice 9 Kd.string) 34 w' w.heap.size (fun _ => True) v5 x5_1) ∧ Aside0 (w'.heap[gb278]? = some (.cells #[(.slice A0_0 l0_0.length c0_0), (.slice A0_1 l0_1.length c0_1)] 42 (0, 0))) ∧ Aside0 (Below w.heap.size w w'))
  case atStart => exact ⟨(([] : List (List ByteArray))), (0), (by first | rfl | (simp; done) | (simp [*]; done)), H', ⟨Nat.le_refl _⟩, ⟨by first | exact Kd.S_nil _ _ _ _ _ | exact Kd.N_nil _ _ _ _ _ | exact Kd.V_nil _ _ _ _ _ | exact Kd.Q_nil _ _ _ _ _ | exact Kd.R_nil _ _ _ _ _⟩, ⟨by (with_reducible repeat (first | apply blk_drewN | apply blk_drew | apply blk_alloc)); exact BK278.out⟩, ⟨by repeat (first | (with_reducible first | exact HB.out | apply below_alloc | apply pw_below_drewN | apply below_drew1 | refine below_set ?_ GE278.out) | exact HB.out)⟩⟩
  case round =>
   clear H'
   try clear c2
   try clear p2
   try clear c3
   try clear c3b0
   try clear c3b1
   try clear c5
   try clear hcz5_0
   try clear hcz5_1
   try clear hfz5_0
   try clear hfz5_1
   obtain ⟨x5_1, x6_1, rfl, HA, HK1, HO_5, BK278, HB⟩ := hrel
   cases gk with
   | zero => exact absurd HA.out (by simp [ancepsref57_Groups.l0])
   | succ k1 =>
    have H := HA.out
    clear HA
    simp only [ancepsref57_Groups.l0] at H
    by_cases c7 : x6_1 < (l0_0.length : Int)
    ·rw [if_pos c7] at H
     have c7b0 : decide (x6_1 < (l0_0.length : Int)) = true := decide_eq_true c7
     clear c7
     have H' := Aside0.mk H
     clear H
     have hcz8_0 := cZ BK278 0 (.slice A0_0 l0_0.length c0_0)
     have hcz8_1 := cZ BK278 1 (.slice A0_1 l0_1.length c0_1)
     have hfz8_0 := blk_frozen BK278.out 0
     have hfz8_1 := blk_frozen BK278.out 1
     go_wp2
     go_loopg [7, 8] k1 (fun kq v7 v8 w' => ∃ (x7_2 : Bool) (x8_2 : Int), v7 = .bool x7_2 ∧ v8 = .int .i64 x8_2 ∧ Aside0 (ancepsref57_Groups.l1 kq x5_1 x6_1 x7_2 x8_2 l0_0 l0_1 = some (r1, r2)) ∧ Aside0 (kq ≤ k1) ∧ Aside0 (Kd.S (Kd.slice 9 Kd.string) 34 w' w.heap.size (fun _ => True) u5 x5_1) ∧ Aside0 (w'.heap[gb278]? = some (.cells #[(.slice A0_0 l0_0.length c0_0), (.slice A0_1 l0_1.length c0_1)] 42 (0, 0))) ∧ Aside0 (Below w.heap.size w w'))
     case atStart => exact ⟨(true), (0), (by first | rfl | (simp; done) | (simp [*]; done)), (by first | rfl | (simp; done) | (simp [*]; done)), H', ⟨Nat.le_refl _⟩, ⟨by (with_reducible repeat (first | apply Kd.S_alloc | apply Kd.S_drewN | apply Kd.S_drew)); exact HO_5.out⟩, ⟨by (with_reducible repeat (first | apply blk_drewN | apply blk_drew | apply blk_alloc)); exact BK278.out⟩, ⟨by repeat (first | (with_reducible first | exact HB.out | apply below_alloc | apply pw_below_drewN | apply below_drew1 | refine below_set ?_ GE278.out) | exact HB.out)⟩⟩
     case round =>
      clear H'
      try clear c2
      try clear p2
      try clear c3
      try clear c3b0
      try clear c3b1
      try clear c5
      try clear c7
      try clear c7b0
      try clear hcz5_0
      try clear hcz5_1
      try clear hcz8_0
      try clear hcz8_1
      try clear hfz5_0
      try clear hfz5_1
      try clear hfz8_0
      try clear hfz8_1
      try clear p2
      obtain ⟨x7_2, x8_2, rfl, rfl, HA, HK2, HO_5, BK278, HB⟩ := hrel
      cases gk with
      | zero => exact absurd HA.out (by simp [ancepsref57_Groups.l1])
      | succ k2 =>
       have H := HA.out
       clear HA
       simp only [ancepsref57_Groups.l1] at H
       by_cases c9 : x8_2 < x6_1
       ·rw [if_pos c9] at H
        have c9b0 : decide (x8_2 < x6_1) = true := decide_eq_true c9
        clear c9
        by_cases c10 : x7_2 = true
        ·subst c10
         have H1 : ((ancepsref57_agree.f k2 l0_0 l0_1 x8_2 x6_1).bind fun t280 => (ancepsref57_Groups.l1 k2 x5_1 x6_1 (decide (t280 < (l0_1.length : Int))) (wrap64 (x8_2 + 1)) l0_0 l0_1)) = some (r1, r2) := by rw [if_pos rfl] at H; exact H
         clear H
         have H := H1
         clear H1
         replace H := Option.bind_eq_some_iff.mp H
         obtain ⟨t280, A110, H⟩ := H
         try dsimp only at H
         have A11 := Aside0.mk A110
         clear A110
         have H' := Aside0.mk H
         clear H
         try go_wp2
         have n0_ := Aside0.mk (Kd.S_drew HO_5.out)
         have n1_ := Aside0.mk (blk_drew BK278.out)
         have n2_ := Aside0.mk (below_drew1 HB.out)
         clear HO_5
         clear BK278
         clear HB
         have HO_5 := n0_
         have BK278 := n1_
         have HB := n2_
         clear n0_ n1_ n2_
         refine start_ (n := 12) (S := fun w' => w'.cell? ⟨gb278, 0, none⟩ = some (.slice A0_0 l0_0.length c0_0) ∧ w'.cell? ⟨gb278, 1, none⟩ = some (.slice A0_1 l0_1.length c0_1)) (ds := []) #[false, false, false, false, false, false, false, false, false, false, false, false] (by kernel_rfl) rfl rfl ⟨(blk_cell BK278.out 0).trans rfl, (blk_cell BK278.out 1).trans rfl⟩ (fun hHeld => ?_); refine with_tabW ancepsref57_Groups.tab12 ancepsref57_Groups.bits12 (fun HT_ HW_ => ?_)
         generalize wr.drew = w12 at HO_5 BK278 HB hHeld ⊢
         refine pure_ (i := 0) (N := some 28) (v := ?_) (a' := ?_) #[true, false, false, false, false, false, false, false, false, false, false, false] rfl rfl (any_of HT_.out (by kernel_rfl)) (fun _ _ _ h => h) (Or.inl ⟨by rfl, ?_⟩) ?_ ?_
         rotate_left
         ·intro w'
          go_simp
          with_reducible rfl
         rotate_left
         ·simp only [Act.put, List.setIfInBounds_toArray, List.set_cons_zero, List.set_cons_succ, i64_w, i32_w]
          rfl
         refine pure_ (i := 1) (N := some 29) (v := ?_) (a' := ?_) #[true, true, false, false, false, false, false, false, false, false, false, false] rfl rfl (any_of HT_.out (by kernel_rfl)) (fun _ _ _ h => h) (Or.inl ⟨by rfl, ?_⟩) ?_ ?_
         rotate_left
         ·intro w'
          go_simp
          with_reducible rfl
         rotate_left
         ·simp only [Act.put, List.setIfInBounds_toArray, List.set_cons_zero, List.set_cons_succ, i64_w, i32_w]
          rfl
         refine pure_ (i := 3) (N := some 31) (v := ?_) (a' := ?_) #[true, true, false, true, false, false, false, false, false, false, false, false] rfl rfl (any_of HT_.out (by kernel_rfl)) (fun _ _ _ h => h) (Or.inl ⟨by rfl, ?_⟩) ?_ ?_
         rotate_left
         ·intro w'
          go_simp
          with_reducible rfl
         rotate_left
         ·simp only [Act.put, List.setIfInBounds_toArray, List.set_cons_zero, List.set_cons_succ, i64_w, i32_w]
          rfl
         refine pure_ (i := 4) (N := some 32) (v := ?_) (a' := ?_) #[true, true, false, true, true, false, false, false, false, false, false, false] rfl rfl (any_of HT_.out (by kernel_rfl)) (fun _ _ _ h => h) (Or.inl ⟨by rfl, ?_⟩) ?_ ?_
         rotate_left
         ·intro w'
          go_simp
          with_reducible rfl
         rotate_left
         ·simp only [Act.put, List.setIfInBounds_toArray, List.set_cons_zero, List.set_cons_succ, i64_w, i32_w]
          rfl
         refine pure_ (i := 6) (N := some 34) (v := ?_) (a' := ?_) #[true, true, false, true, true, false, true, false, false, false, false, false] rfl rfl (any_of HT_.out (by kernel_rfl)) (fun _ _ _ h => h) (Or.inl ⟨by rfl, ?_⟩) ?_ ?_
         rotate_left
         ·intro w'
          go_simp
          with_reducible rfl
         rotate_left
         ·simp only [Act.put, List.setIfInBounds_toArray, List.set_cons_zero, List.set_cons_succ, i64_w, i32_w]
          rfl
         refine take_ (i := 2) (N := some 30) (v := ?_) (a' := ?_) #[true, true, true, true, true, false, true, false, false, false, false, false] rfl rfl (take_ofW HT_.out HW_.out (by kernel_rfl)) (fun _ _ _ h => h) (Or.inl ⟨by rfl, ?_⟩) hHeld ?_ ?_
         rotate_left
         ·rintro w' ⟨s0, s1⟩
          go_simp
          with_reducible rfl
         rotate_left
         ·simp only [Act.put, List.setIfInBounds_toArray, List.set_cons_zero, List.set_cons_succ, i64_w, i32_w]
          rfl
         refine take_ (i := 7) (N := some 35) (v := ?_) (a' := ?_) #[true, true, true, true, true, false, true, true, false, false, false, false] rfl rfl (take_ofW HT_.out HW_.out (by kernel_rfl)) (fun _ _ _ h => h) (Or.inl ⟨by rfl, ?_⟩) hHeld ?_ ?_
         rotate_left
         ·rintro w' ⟨s0, s1⟩
          go_simp
          with_reducible rfl
         rotate_left
         ·simp only [Act.put, List.setIfInBounds_toArray, List.set_cons_zero, List.set_cons_succ, i64_w, i32_w]
          rfl
         refine pure_ (i := 8) (N := some 36) (v := ?_) (a' := ?_) #[true, true, true, true, true, false, true, true, true, false, false, false] rfl rfl (any_of HT_.out (by kernel_rfl)) (fun _ _ _ h => h) (Or.inl ⟨by rfl, ?_⟩) ?_ ?_
         rotate_left
         ·intro w'
          go_simp
          with_reducible rfl
         rotate_left
         ·simp only [Act.put, List.setIfInBounds_toArray, List.set_cons_zero, List.set_cons_succ, i64_w, i32_w]
          rfl
         refine one_ (i := 5) (N := some 33) #[true, true, true, true, true, true, true, true, true, false, false, false] rfl rfl (one_of HT_.out (by kernel_rfl)) (by decide) (fun K hK => ?_)
         refine goes_ Try.func55 (by kernel_rfl) rfl #[.agg #[.slice A0_0 l0_0.length c0_0, .slice A0_1 l0_1.length c0_1], .int .i64 x8_2, .int .i64 x6_1] (by rfl) rfl rfl (by (try simp only [List.map_toArray, List.map_cons, List.map_nil]); first | done | rfl | (simp only [List.length_drop, List.length_take]; rfl)) ?_
         with_reducible refine (ancepsref57_agree.calls k2 _ _ l0_0 _ _ l0_1 x8_2 x6_1 t280 _ ?side1 ?side2 ?side3 ?side4 A11.out).mono ?_
         (case side1 => exact iC HR0_0 HB)
         (case side2 => exact HC0_0.out)
         (case side3 => exact iC HR0_1 HB)
         (case side4 => exact HC0_1.out)
         rintro e w13 ⟨rfl, hb⟩
         refine ⟨_, rfl, ?_⟩
         have n0_ := Aside0.mk (Kd.S_below (by (with_reducible repeat (first | apply Kd.S_alloc | apply Kd.S_drewN | apply Kd.S_drew)); exact HO_5.out) hb)
         have n1_ := jB BK278 hb
         have n2_ := jL HB hb
         clear HO_5
         clear BK278
         clear HB
         have HO_5 := n0_
         have BK278 := n1_
         have HB := n2_
         clear n0_ n1_ n2_
         (try clear hb)
         (try clear hb2)
         (try clear hk)
         (try clear hi)
         refine hK.out _ _ ⟨(blk_cell BK278.out 0).trans rfl, (blk_cell BK278.out 1).trans rfl⟩ (fun hHeld => ?_)
         clear hK K
         refine norm_ (a' := ?_) ?_ ?_
         rotate_left
         ·show Act.put _ (some 33) _ = _
          simp only [Act.put, List.setIfInBounds_toArray, List.set_cons_zero, List.set_cons_succ, i64_w, i32_w]
          rfl
         refine pure_ (i := 9) (N := some 37) (v := ?_) (a' := ?_) #[true, true, true, true, true, true, true, true, true, true, false, false] rfl rfl (any_of HT_.out (by kernel_rfl)) (fun _ _ _ h => h) (Or.inl ⟨by rfl, ?_⟩) ?_ ?_
         rotate_left
         ·intro w'
          go_simp
          with_reducible rfl
         rotate_left
         ·simp only [Act.put, List.setIfInBounds_toArray, List.set_cons_zero, List.set_cons_succ, i64_w, i32_w]
          rfl
         refine pure_ (i := 10) (N := some 38) (v := ?_) (a' := ?_) #[true, true, true, true, true, true, true, true, true, true, true, false] rfl rfl (any_of HT_.out (by kernel_rfl)) (fun _ _ _ h => h) (Or.inl ⟨by rfl, ?_⟩) ?_ ?_
         rotate_left
         ·intro w'
          go_simp
          with_reducible rfl
         rotate_left
         ·simp only [Act.put, List.setIfInBounds_toArray, List.set_cons_zero, List.set_cons_succ, i64_w, i32_w]
          rfl
         refine pure_ (i := 11) (N := some 7) (v := ?_) (a' := ?_) #[true, true, true, true, true, true, true, true, true, true, true, true] rfl rfl (any_of HT_.out (by kernel_rfl)) (fun _ _ _ h => h) (Or.inl ⟨by rfl, ?_⟩) ?_ ?_
         rotate_left
         ·intro w'
          go_simp
          with_reducible rfl
         rotate_left
         ·simp only [Act.put, List.setIfInBounds_toArray, List.set_cons_zero, List.set_cons_succ, i64_w, i32_w]
          rfl
         refine done_ (done_of HT_.out (by kernel_rfl)) ?_
         try go_wp2
         go_roundg k2
         case measure => have := HK1.out; have := HK2.out; omega
         case rel => exact ⟨(decide (t280 < (l0_1.length : Int))), (wrap64 (x8_2 + 1)), (by first | rfl | (simp; done) | (simp [*]; done)), (by first | rfl | (simp; done) | (simp [*]; done)), H', ⟨by have := HK1.out; have := HK2.out; omega⟩, ⟨by (with_reducible repeat (first | apply Kd.S_alloc | apply Kd.S_drewN | apply Kd.S_drew)); exact HO_5.out⟩, ⟨by (with_reducible repeat (first | apply blk_drewN | apply blk_drew | apply blk_alloc)); exact BK278.out⟩, ⟨by repeat (first | (with_reducible first | exact HB.out | apply below_alloc | apply pw_below_drewN | apply below_drew1 | refine below_set ?_ GE278.out) | exact HB.out)⟩⟩
        ·replace c10 := Bool.eq_false_iff.mpr c10
         subst c10
         have H1 : (ancepsref57_Groups.l1 k2 x5_1 x6_1 false (wrap64 (x8_2 + 1)) l0_0 l0_1) = some (r1, r2) := by rw [if_neg (show ¬ (false = true) by decide)] at H; exact H
         clear H
         have H := H1
         clear H1
         have H' := Aside0.mk H
         clear H
         try go_wp2
         have n0_ := Aside0.mk (Kd.S_drew HO_5.out)
         have n1_ := Aside0.mk (blk_drew BK278.out)
         have n2_ := Aside0.mk (below_drew1 HB.out)
         clear HO_5
         clear BK278
         clear HB
         have HO_5 := n0_
         have BK278 := n1_
         have HB := n2_
         clear n0_ n1_ n2_
         refine start_ (n := 12) (S := fun w' => True) (ds := []) #[false, false, false, false, false, false, false, false, false, false, false, false] (by kernel_rfl) rfl rfl trivial (fun hHeld => ?_); refine with_tabW ancepsref57_Groups.tab12 ancepsref57_Groups.bits12 (fun HT_ HW_ => ?_)
         generalize wr.drew = w14 at HO_5 BK278 HB hHeld ⊢
         refine pure_ (i := 0) (N := some 28) (v := ?_) (a' := ?_) #[true, false, false, false, false, false, false, false, false, false, false, false] rfl rfl (any_of HT_.out (by kernel_rfl)) (fun _ _ _ h => h) (Or.inl ⟨by rfl, ?_⟩) ?_ ?_
         rotate_left
         ·intro w'
          go_simp
          with_reducible rfl
         rotate_left
         ·simp only [Act.put, List.setIfInBounds_toArray, List.set_cons_zero, List.set_cons_succ, i64_w, i32_w]
          rfl
         refine pure_ (i := 1) (N := some 29) (v := ?_) (a' := ?_) #[true, true, false, false, false, false, false, false, false, false, false, false] rfl rfl (any_of HT_.out (by kernel_rfl)) (fun _ _ _ h => h) (Or.inl ⟨by rfl, ?_⟩) ?_ ?_
         rotate_left
         ·intro w'
          go_simp
          with_reducible rfl
         rotate_left
         ·simp only [Act.put, List.setIfInBounds_toArray, List.set_cons_zero, List.set_cons_succ, i64_w, i32_w]
          rfl
         refine pure_ (i := 2) (N := some 30) (v := undef) (a' := ?_) #[true, true, true, false, false, false, false, false, false, false, false, false] rfl rfl (any_of HT_.out (by kernel_rfl)) (fun _ _ _ h => h) (Or.inr ⟨by rfl, rfl⟩) ?_ ?_
         rotate_left
         ·simp only [Act.put, List.setIfInBounds_toArray, List.set_cons_zero, List.set_cons_succ, i64_w, i32_w]
          rfl
         refine pure_ (i := 3) (N := some 31) (v := undef) (a' := ?_) #[true, true, true, true, false, false, false, false, false, false, false, false] rfl rfl (any_of HT_.out (by kernel_rfl)) (fun _ _ _ h => h) (Or.inr ⟨by rfl, rfl⟩) ?_ ?_
         rotate_left
         ·simp only [Act.put, List.setIfInBounds_toArray, List.set_cons_zero, List.set_cons_succ, i64_w, i32_w]
          rfl
         refine pure_ (i := 4) (N := some 32) (v := undef) (a' := ?_) #[true, true, true, true, true, false, false, false, false, false, false, false] rfl rfl (any_of HT_.out (by kernel_rfl)) (fun _ _ _ h => h) (Or.inr ⟨by rfl, rfl⟩) ?_ ?_
         rotate_left
         ·simp only [Act.put, List.setIfInBounds_toArray, List.set_cons_zero, List.set_cons_succ, i64_w, i32_w]
          rfl
         refine pure_ (i := 5) (N := some 33) (v := undef) (a' := ?_) #[true, true, true, true, true, true, false, false, false, false, false, false] rfl rfl (any_of HT_.out (by kernel_rfl)) (fun _ _ _ h => h) (Or.inr ⟨by rfl, rfl⟩) ?_ ?_
         rotate_left
         ·simp only [Act.put, List.setIfInBounds_toArray, List.set_cons_zero, List.set_cons_succ, i64_w, i32_w]
          rfl
         refine pure_ (i := 6) (N := some 34) (v := undef) (a' := ?_) #[true, true, true, true, true, true, true, false, false, false, false, false] rfl rfl (any_of HT_.out (by kernel_rfl)) (fun _ _ _ h => h) (Or.inr ⟨by rfl, rfl⟩) ?_ ?_
         rotate_left
         ·simp only [Act.put, List.setIfInBounds_toArray, List.set_cons_zero, List.set_cons_succ, i64_w, i32_w]
          rfl
         refine pure_ (i := 7) (N := some 35) (v := undef) (a' := ?_) #[true, true, true, true, true, true, true, true, false, false, false, false] rfl rfl (any_of HT_.out (by kernel_rfl)) (fun _ _ _ h => h) (Or.inr ⟨by rfl, rfl⟩) ?_ ?_
         rotate_left
         ·simp only [Act.put, List.setIfInBounds_toArray, List.set_cons_zero, List.set_cons_succ, i64_w, i32_w]
          rfl
         refine pure_ (i := 8) (N := some 36) (v := undef) (a' := ?_) #[true, true, true, true, true, true, true, true, true, false, false, false] rfl rfl (any_of HT_.out (by kernel_rfl)) (fun _ _ _ h => h) (Or.inr ⟨by rfl, rfl⟩) ?_ ?_
         rotate_left
         ·simp only [Act.put, List.setIfInBounds_toArray, List.set_cons_zero, List.set_cons_succ, i64_w, i32_w]
          rfl
         refine pure_ (i := 9) (N := some 37) (v := undef) (a' := ?_) #[true, true, true, true, true, true, true, true, true, true, false, false] rfl rfl (any_of HT_.out (by kernel_rfl)) (fun _ _ _ h => h) (Or.inr ⟨by rfl, rfl⟩) ?_ ?_
         rotate_left
         ·simp only [Act.put, List.setIfInBounds_toArray, List.set_cons_zero, List.set_cons_succ, i64_w, i32_w]
          rfl
         refine pure_ (i := 10) (N := some 38) (v := ?_) (a' := ?_) #[true, true, true, true, true, true, true, true, true, true, true, false] rfl rfl (any_of HT_.out (by kernel_rfl)) (fun _ _ _ h => h) (Or.inl ⟨by rfl, ?_⟩) ?_ ?_
         rotate_left
         ·intro w'
          go_simp
          with_reducible rfl
         rotate_left
         ·simp only [Act.put, List.setIfInBounds_toArray, List.set_cons_zero, List.set_cons_succ, i64_w, i32_w]
          rfl
         refine pure_ (i := 11) (N := some 7) (v := ?_) (a' := ?_) #[true, true, true, true, true, true, true, true, true, true, true, true] rfl rfl (any_of HT_.out (by kernel_rfl)) (fun _ _ _ h => h) (Or.inl ⟨by rfl, ?_⟩) ?_ ?_
         rotate_left
         ·intro w'
          go_simp
          with_reducible rfl
         rotate_left
         ·simp only [Act.put, List.setIfInBounds_toArray, List.set_cons_zero, List.set_cons_succ, i64_w, i32_w]
          rfl
         refine done_ (done_of HT_.out (by kernel_rfl)) ?_
         try go_wp2
         go_roundg k2
         case measure => have := HK1.out; have := HK2.out; omega
         case rel => exact ⟨(false), (wrap64 (x8_2 + 1)), (by first | rfl | (simp; done) | (simp [*]; done)), (by first | rfl | (simp; done) | (simp [*]; done)), H', ⟨by have := HK1.out; have := HK2.out; omega⟩, ⟨by (with_reducible repeat (first | apply Kd.S_alloc | apply Kd.S_drewN | apply Kd.S_drew)); exact HO_5.out⟩, ⟨by (with_reducible repeat (first | apply blk_drewN | apply blk_drew | apply blk_alloc)); exact BK278.out⟩, ⟨by repeat (first | (with_reducible first | exact HB.out | apply below_alloc | apply pw_below_drewN | apply below_drew1 | refine below_set ?_ GE278.out) | exact HB.out)⟩⟩
       ·rw [if_neg c9] at H
        have c9b0 : decide (x8_2 < x6_1) = false := decide_eq_false c9
        clear c9
        by_cases c15 : x7_2 = true
        ·subst c15
         have H1 : (ancepsref57_Groups.l2 k2 x5_1 x6_1 ([] : List ByteArray) x6_1 l0_0 l0_1) = some (r1, r2) := by rw [if_pos rfl] at H; exact H
         clear H
         have H := H1
         clear H1
         have H' := Aside0.mk H
         clear H
         go_wp2
         go_loopg [9, 10] k2 (fun kq v9 v10 w' => ∃ (x9_3 : List ByteArray) (x10_3 : Int), v10 = .int .i64 x10_3 ∧ Aside0 (ancepsref57_Groups.l2 kq x5_1 x6_1 x9_3 x10_3 l0_0 l0_1 = some (r1, r2)) ∧ Aside0 (kq ≤ k2) ∧ Aside0 (Kd.S (Kd.slice 9 Kd.string) 34 w' w.heap.size (fun k_ => some k_ ≠ (v9 : Value).ownBlock) u5 x5_1) ∧ Aside0 (Kd.R Kd.string 9 w' w.heap.size (fun _ => True) v9 x9_3) ∧ Aside0 (w'.heap[gb278]? = some (.cells #[(.slice A0_0 l0_0.length c0_0), (.slice A0_1 l0_1.length c0_1)] 42 (0, 0))) ∧ Aside0 (Below w.heap.size w w'))
         case atStart => exact ⟨(([] : List ByteArray)), (x6_1), (by first | rfl | (simp; done) | (simp [*]; done)), H', ⟨Nat.le_refl _⟩, ⟨by (with_reducible repeat (first | apply Kd.S_alloc | apply Kd.S_drewN | apply Kd.S_drew)); exact Kd.S_mono HO_5.out (fun _ hk => (by simp [Value.ownBlock]))⟩, ⟨by first | exact Kd.R_nil _ _ _ _ _ | exact Kd.N_nil _ _ _ _ _ | exact Kd.V_nil _ _ _ _ _ | exact Kd.Q_nil _ _ _ _ _ | exact Kd.S_nil _ _ _ _ _⟩, ⟨by (with_reducible repeat (first | apply blk_drewN | apply blk_drew | apply blk_alloc)); exact BK278.out⟩, ⟨by repeat (first | (with_reducible first | exact HB.out | apply below_alloc | apply pw_below_drewN | apply below_drew1 | refine below_set ?_ GE278.out) | exact HB.out)⟩⟩
         case round =>
          clear H'
          try clear c1
          try clear c2
          try clear p2
          try clear c3
          try clear c3b0
          try clear c3b1
          try clear c5
          try clear p6
          try clear c7
          try clear c7b0
          try clear c9
          try clear c9b0
          try clear c10
          try clear c15
          try clear hcz5_0
          try clear hcz5_1
          try clear hcz8_0
          try clear hcz8_1
          try clear hfz5_0
          try clear hfz5_1
          try clear hfz8_0
          try clear hfz8_1
          try clear p2
          obtain ⟨x9_3, x10_3, rfl, HA, HK3, HO_5, HO_9, BK278, HB⟩ := hrel
          cases gk with
          | zero => exact absurd HA.out (by simp [ancepsref57_Groups.l2])
          | succ k3 =>
           have H := HA.out
           clear HA
           simp only [ancepsref57_Groups.l2] at H
           by_cases c16 : x10_3 < (l0_0.length : Int)
           ·rw [if_pos c16] at H
            have c16b0 : decide (x10_3 < (l0_0.length : Int)) = true := decide_eq_true c16
            clear c16
            replace H := Option.bind_eq_some_iff.mp H
            obtain ⟨t281, A170, H⟩ := H
            try dsimp only at H
            have A17 := Aside0.mk A170
            clear A170
            by_cases c18 : t281 = (l0_1.length : Int)
            ·rw [if_pos c18] at H
             have c18b0 : (t281 == (l0_1.length : Int)) = true := beq_iff_eq.mpr c18
             have c18b1 : (t281 != (l0_1.length : Int)) = false := bne_eq_false_iff_eq.mpr c18
             clear c18
             by_cases c19 : 0 ≤ x10_3
             ·rw [if_pos c19] at H
              have c19b0 : decide (0 ≤ x10_3) = true := decide_eq_true c19
              clear c19
              by_cases c20 : x9_3.length < 8796093022208
              ·rw [if_pos c20] at H
               have LMc20 := Aside0.mk c20
               clear c20
               obtain ⟨y283, hy283⟩ : ∃ y_ : List ByteArray, y_ = (x9_3 ++ [rdOf ByteArray.empty l0_0 x10_3]) := ⟨_, rfl⟩
               replace H : (ancepsref57_Groups.l2 k3 x5_1 x6_1 y283 (wrap64 (x10_3 + 1)) l0_0 l0_1) = some (r1, r2) := by first | (rw [hy283]; with_reducible exact H) | (have H2_ := (Option.bind_some _ _).symm.trans H; rw [hy283]; with_reducible exact H2_) | (have H2_ := (Option.bind_some _ _).symm.trans H; with_reducible exact H2_) | with_reducible exact H | (rw [hy283]; exact H) | exact H
               have Ny283 := Aside0.mk hy283
               clear hy283
               have H' := Aside0.mk H
               clear H
               have hcz21_0 := cZ BK278 0 (.slice A0_0 l0_0.length c0_0)
               have hcz21_1 := cZ BK278 1 (.slice A0_1 l0_1.length c0_1)
               have hfz21_0 := blk_frozen BK278.out 0
               have hfz21_1 := blk_frozen BK278.out 1
               try go_wp2
               have n0_ := Aside0.mk (Kd.S_drew HO_5.out)
               have n1_ := Aside0.mk (Kd.R_drew HO_9.out)
               have n2_ := Aside0.mk (blk_drew BK278.out)
               have n3_ := Aside0.mk (below_drew1 HB.out)
               clear HO_5
               clear HO_9
               clear BK278
               clear HB
               have HO_5 := n0_
               have HO_9 := n1_
               have BK278 := n2_
               have HB := n3_
               clear n0_ n1_ n2_ n3_
               refine start_ (n := 8) (S := fun w' => w'.cell? ⟨gb278, 0, none⟩ = some (.slice A0_0 l0_0.length c0_0) ∧ w'.cell? ⟨gb278, 1, none⟩ = some (.slice A0_1 l0_1.length c0_1)) (ds := []) #[false, false, false, false, false, false, false, false] (by kernel_rfl) rfl rfl ⟨(blk_cell BK278.out 0).trans rfl, (blk_cell BK278.out 1).trans rfl⟩ (fun hHeld => ?_); refine with_tabW ancepsref57_Groups.tab18 ancepsref57_Groups.bits18 (fun HT_ HW_ => ?_)
               generalize wr.drew = w22 at HO_5 HO_9 BK278 HB hHeld ⊢
               refine pure_ (i := 1) (N := some 50) (v := ?_) (a' := ?_) #[false, true, false, false, false, false, false, false] rfl rfl (any_of HT_.out (by kernel_rfl)) (fun _ _ _ h => h) (Or.inl ⟨by rfl, ?_⟩) ?_ ?_
               rotate_left
               ·intro w'
                go_simp
                with_reducible rfl
               rotate_left
               ·simp only [Act.put, List.setIfInBounds_toArray, List.set_cons_zero, List.set_cons_succ, i64_w, i32_w]
                rfl
               refine pure_ (i := 2) (N := some 51) (v := ?_) (a' := ?_) #[false, true, true, false, false, false, false, false] rfl rfl (any_of HT_.out (by kernel_rfl)) (fun _ _ _ h => h) (Or.inl ⟨by rfl, ?_⟩) ?_ ?_
               rotate_left
               ·intro w'
                go_simp
                with_reducible rfl
               rotate_left
               ·simp only [Act.put, List.setIfInBounds_toArray, List.set_cons_zero, List.set_cons_succ, i64_w, i32_w]
                rfl
               refine pure_ (i := 4) (N := some 53) (v := ?_) (a' := ?_) #[false, true, true, false, true, false, false, false] rfl rfl (any_of HT_.out (by kernel_rfl)) (fun _ _ _ h => h) (Or.inl ⟨by rfl, ?_⟩) ?_ ?_
               rotate_left
               ·intro w'
                go_simp
                with_reducible rfl
               rotate_left
               ·simp only [Act.put, List.setIfInBounds_toArray, List.set_cons_zero, List.set_cons_succ, i64_w, i32_w]
                rfl
               refine take_ (i := 0) (N := some 49) (v := ?_) (a' := ?_) #[true, true, true, false, true, false, false, false] rfl rfl (take_ofW HT_.out HW_.out (by kernel_rfl)) (fun _ _ _ h => h) (Or.inl ⟨by rfl, ?_⟩) hHeld ?_ ?_
               rotate_left
               ·rintro w' ⟨s0, s1⟩
                go_simp
                with_reducible rfl
               rotate_left
               ·simp only [Act.put, List.setIfInBounds_toArray, List.set_cons_zero, List.set_cons_succ, i64_w, i32_w]
                rfl
               refine take_ (i := 5) (N := some 54) (v := ?_) (a' := ?_) #[true, true, true, false, true, true, false, false] rfl rfl (take_ofW HT_.out HW_.out (by kernel_rfl)) (fun _ _ _ h => h) (Or.inl ⟨by rfl, ?_⟩) hHeld ?_ ?_
               rotate_left
               ·rintro w' ⟨s0, s1⟩
                go_simp
                with_reducible rfl
               rotate_left
               ·simp only [Act.put, List.setIfInBounds_toArray, List.set_cons_zero, List.set_cons_succ, i64_w, i32_w]
                rfl
               refine pure_ (i := 6) (N := some 55) (v := ?_) (a' := ?_) #[true, true, true, false, true, true, true, false] rfl rfl (any_of HT_.out (by kernel_rfl)) (fun _ _ _ h => h) (Or.inl ⟨by rfl, ?_⟩) ?_ ?_
               rotate_left
               ·intro w'
                go_simp
                with_reducible rfl
               rotate_left
               ·simp only [Act.put, List.setIfInBounds_toArray, List.set_cons_zero, List.set_cons_succ, i64_w, i32_w]
                rfl
               refine one_ (i := 3) (N := some 52) #[true, true, true, true, true, true, true, false] rfl rfl (one_of HT_.out (by kernel_rfl)) (by decide) (fun K hK => ?_)
               refine goes_ Try.func55 (by kernel_rfl) rfl #[.agg #[.slice A0_0 l0_0.length c0_0, .slice A0_1 l0_1.length c0_1], .int .i64 x6_1, .int .i64 x10_3] (by rfl) rfl rfl (by (try simp only [List.map_toArray, List.map_cons, List.map_nil]); first | done | rfl | (simp only [List.length_drop, List.length_take]; rfl)) ?_
               with_reducible refine (ancepsref57_agree.calls k3 _ _ l0_0 _ _ l0_1 x6_1 x10_3 t281 _ ?side1 ?side2 ?side3 ?side4 A17.out).mono ?_
               (case side1 => exact iC HR0_0 HB)
               (case side2 => exact HC0_0.out)
               (case side3 => exact iC HR0_1 HB)
               (case side4 => exact HC0_1.out)
               rintro e w23 ⟨rfl, hb⟩
               refine ⟨_, rfl, ?_⟩
               have n0_ := Aside0.mk (Kd.S_below (by (with_reducible repeat (first | apply Kd.S_alloc | apply Kd.S_drewN | apply Kd.S_drew)); exact HO_5.out) hb)
               have n1_ := jR HO_9 hb
               have n2_ := jB BK278 hb
               have n3_ := jL HB hb
               clear HO_5
               clear HO_9
               clear BK278
               clear HB
               have HO_5 := n0_
               have HO_9 := n1_
               have BK278 := n2_
               have HB := n3_
               clear n0_ n1_ n2_ n3_
               (try clear hb)
               (try clear hb2)
               (try clear hk)
               (try clear hi)
               refine hK.out _ _ ⟨(blk_cell BK278.out 0).trans rfl, (blk_cell BK278.out 1).trans rfl⟩ (fun hHeld => ?_)
               clear hK K
               refine norm_ (a' := ?_) ?_ ?_
               rotate_left
               ·show Act.put _ (some 52) _ = _
                simp only [Act.put, List.setIfInBounds_toArray, List.set_cons_zero, List.set_cons_succ, i64_w, i32_w]
                rfl
               refine pure_ (i := 7) (N := some 56) (v := ?_) (a' := ?_) #[true, true, true, true, true, true, true, true] rfl rfl (any_of HT_.out (by kernel_rfl)) (fun _ _ _ h => h) (Or.inl ⟨by rfl, ?_⟩) ?_ ?_
               rotate_left
               ·intro w'
                go_simp
                with_reducible rfl
               rotate_left
               ·simp only [Act.put, List.setIfInBounds_toArray, List.set_cons_zero, List.set_cons_succ, i64_w, i32_w]
                rfl
               refine done_ (done_of HT_.out (by kernel_rfl)) ?_
               have hcz24_0 := cZ BK278 0 (.slice A0_0 l0_0.length c0_0)
               have hcz24_1 := cZ BK278 1 (.slice A0_1 l0_1.length c0_1)
               have hfz24_0 := blk_frozen BK278.out 0
               have hfz24_1 := blk_frozen BK278.out 1
               have p282 : 0 ≤ (x10_3 : Int) := of_decide_eq_true (by first | (with_reducible assumption) | assumption)
               have q282 : x10_3 < (l0_0.length : Int) := of_decide_eq_true (by first | (with_reducible assumption) | assumption)
               obtain ⟨ad282, e282, hx282_0⟩ := Kd.at_string HR0_0.out x10_3 p282 q282
               cases e282
               replace hx282_0 := (HB.out.cell (World.block_lt_of_cell? w _ hx282_0)).trans hx282_0
               replace p282 := eq_true p282
               replace q282 := eq_true q282
               try go_wp2_with (first | ((with_reducible refine gate_builtin (b := .append) (xs := #[.tmp 57, .tmp 63]) rfl ?_); (try (refine gate_guard (by rfl) ?_; dsimp only)); at_builtin; refine Kd.R_append Kd.string (w0 := w) w.heap.size rfl (.tmp 57) (.tmp 63) 34 9 (.string ⟨#[]⟩) 16 rfl Try.underlying34 info9 rfl (by decide) (by omega) u9 x9_3 (rdOf ByteArray.empty l0_0 x10_3) [.string (rdOf ByteArray.empty l0_0 x10_3)] (fun _ => True) (fun _ => False) rfl rfl ?aP (fun _ hk => hk.elim) ?aF ?aO ?aB ?aS ?aL ?_; (case aP => exact rfl); (case aB => exact (iL HB)); (case aF => exact (fun _ _ => trivial)); (case aO => exact (iR HO_9)); (case aS => exact (below_size (iL HB))); (case aL => have := LMc20.out; omega); intro v284 w25 ho hb hg hat; rw [← Ny283.out] at ho; have n0_ := Aside0.mk (Kd.S_after (ok := (fun _ => True)) (by (with_reducible repeat (first | apply Kd.S_alloc | apply Kd.S_drewN | apply Kd.S_drew)); exact Kd.S_mono HO_5.out (fun _ hk => ⟨trivial, hk⟩)) hg hat); have n1_ := Aside0.mk (blk_grown (g := gb278) (o := .cells #[.slice (some ad282) l0_0.length c0_0, .slice A0_1 l0_1.length c0_1] 42 (0, 0)) (iB BK278) hg (Kd.R_ne HO_9.out BK278.out (by decide))); have n2_ := Aside0.mk (hb); have n3_ := Aside0.mk (ho); clear HO_5; clear BK278; clear HB; clear HO_9; have HO_5 := n0_; have BK278 := n1_; have HB := n2_; have HO285 := n3_; clear n0_ n1_ n2_ n3_; clear ho hb hg hat))
               go_roundg k3
               case measure => have := HK1.out; have := HK2.out; have := HK3.out; omega
               case rel => exact ⟨(y283), (wrap64 (x10_3 + 1)), (by first | rfl | (simp; done) | (simp [*]; done)), H', ⟨by have := HK1.out; have := HK2.out; have := HK3.out; omega⟩, ⟨by (with_reducible repeat (first | apply Kd.S_alloc | apply Kd.S_drewN | apply Kd.S_drew)); exact Kd.S_mono HO_5.out (fun _ hk => hk.2)⟩, ⟨by (with_reducible repeat (first | apply Kd.R_alloc | apply Kd.R_drewN | apply Kd.R_drew)); exact HO285.out⟩, ⟨by (with_reducible repeat (first | apply blk_drewN | apply blk_drew | apply blk_alloc)); exact BK278.out⟩, ⟨by repeat (first | (with_reducible first | exact HB.out | apply below_alloc | apply pw_below_drewN | apply below_drew1 | refine below_set ?_ GE278.out) | exact HB.out)⟩⟩
              ·rw [if_neg c20] at H
               exact absurd H (by simp)
             ·rw [if_neg c19] at H
              exact absurd H (by simp)
            ·rw [if_neg c18] at H
             have c18b0 : (t281 == (l0_1.length : Int)) = false := beq_eq_false_iff_ne.mpr c18
             have c18b1 : (t281 != (l0_1.length : Int)) = true := bne_iff_ne.mpr c18
             have H' := Aside0.mk H
             clear H
             have hcz26_0 := cZ BK278 0 (.slice A0_0 l0_0.length c0_0)
             have hcz26_1 := cZ BK278 1 (.slice A0_1 l0_1.length c0_1)
             have hfz26_0 := blk_frozen BK278.out 0
             have hfz26_1 := blk_frozen BK278.out 1
             try go_wp2
             have n0_ := Aside0.mk (Kd.S_drew HO_5.out)
             have n1_ := Aside0.mk (Kd.R_drew HO_9.out)
             have n2_ := Aside0.mk (blk_drew BK278.out)
             have n3_ := Aside0.mk (below_drew1 HB.out)
             clear HO_5
             clear HO_9
             clear BK278
             clear HB
             have HO_5 := n0_
             have HO_9 := n1_
             have BK278 := n2_
             have HB := n3_
             clear n0_ n1_ n2_ n3_
             refine start_ (n := 8) (S := fun w' => w'.cell? ⟨gb278, 0, none⟩ = some (.slice A0_0 l0_0.length c0_0) ∧ w'.cell? ⟨gb278, 1, none⟩ = some (.slice A0_1 l0_1.length c0_1)) (ds := []) #[false, false, false, false, false, false, false, false] (by kernel_rfl) rfl rfl ⟨(blk_cell BK278.out 0).trans rfl, (blk_cell BK278.out 1).trans rfl⟩ (fun hHeld => ?_); refine with_tabW ancepsref57_Groups.tab18 ancepsref57_Groups.bits18 (fun HT_ HW_ => ?_)
             generalize wr.drew = w27 at HO_5 HO_9 BK278 HB hHeld ⊢
             refine pure_ (i := 1) (N := some 50) (v := ?_) (a' := ?_) #[false, true, false, false, false, false, false, false] rfl rfl (any_of HT_.out (by kernel_rfl)) (fun _ _ _ h => h) (Or.inl ⟨by rfl, ?_⟩) ?_ ?_
             rotate_left
             ·intro w'
              go_simp
              with_reducible rfl
             rotate_left
             ·simp only [Act.put, List.setIfInBounds_toArray, List.set_cons_zero, List.set_cons_succ, i64_w, i32_w]
              rfl
             refine pure_ (i := 2) (N := some 51) (v := ?_) (a' := ?_) #[false, true, true, false, false, false, false, false] rfl rfl (any_of HT_.out (by kernel_rfl)) (fun _ _ _ h => h) (Or.inl ⟨by rfl, ?_⟩) ?_ ?_
             rotate_left
             ·intro w'
              go_simp
              with_reducible rfl
             rotate_left
             ·simp only [Act.put, List.setIfInBounds_toArray, List.set_cons_zero, List.set_cons_succ, i64_w, i32_w]
              rfl
             refine pure_ (i := 4) (N := some 53) (v := ?_) (a' := ?_) #[false, true, true, false, true, false, false, false] rfl rfl (any_of HT_.out (by kernel_rfl)) (fun _ _ _ h => h) (Or.inl ⟨by rfl, ?_⟩) ?_ ?_
             rotate_left
             ·intro w'
              go_simp
              with_reducible rfl
             rotate_left
             ·simp only [Act.put, List.setIfInBounds_toArray, List.set_cons_zero, List.set_cons_succ, i64_w, i32_w]
              rfl
             refine take_ (i := 0) (N := some 49) (v := ?_) (a' := ?_) #[true, true, true, false, true, false, false, false] rfl rfl (take_ofW HT_.out HW_.out (by kernel_rfl)) (fun _ _ _ h => h) (Or.inl ⟨by rfl, ?_⟩) hHeld ?_ ?_
             rotate_left
             ·rintro w' ⟨s0, s1⟩
              go_simp
              with_reducible rfl
             rotate_left
             ·simp only [Act.put, List.setIfInBounds_toArray, List.set_cons_zero, List.set_cons_succ, i64_w, i32_w]
              rfl
             refine take_ (i := 5) (N := some 54) (v := ?_) (a' := ?_) #[true, true, true, false, true, true, false, false] rfl rfl (take_ofW HT_.out HW_.out (by kernel_rfl)) (fun _ _ _ h => h) (Or.inl ⟨by rfl, ?_⟩) hHeld ?_ ?_
             rotate_left
             ·rintro w' ⟨s0, s1⟩
              go_simp
              with_reducible rfl
             rotate_left
             ·simp only [Act.put, List.setIfInBounds_toArray, List.set_cons_zero, List.set_cons_succ, i64_w, i32_w]
              rfl
             refine pure_ (i := 6) (N := some 55) (v := ?_) (a' := ?_) #[true, true, true, false, true, true, true, false] rfl rfl (any_of HT_.out (by kernel_rfl)) (fun _ _ _ h => h) (Or.inl ⟨by rfl, ?_⟩) ?_ ?_
             rotate_left
             ·intro w'
              go_simp
              with_reducible rfl
             rotate_left
             ·simp only [Act.put, List.setIfInBounds_toArray, List.set_cons_zero, List.set_cons_succ, i64_w, i32_w]
              rfl
             refine one_ (i := 3) (N := some 52) #[true, true, true, true, true, true, true, false] rfl rfl (one_of HT_.out (by kernel_rfl)) (by decide) (fun K hK => ?_)
             refine goes_ Try.func55 (by kernel_rfl) rfl #[.agg #[.slice A0_0 l0_0.length c0_0, .slice A0_1 l0_1.length c0_1], .int .i64 x6_1, .int .i64 x10_3] (by rfl) rfl rfl (by (try simp only [List.map_toArray, List.map_cons, List.map_nil]); first | done | rfl | (simp only [List.length_drop, List.length_take]; rfl)) ?_
             with_reducible refine (ancepsref57_agree.calls k3 _ _ l0_0 _ _ l0_1 x6_1 x10_3 t281 _ ?side1 ?side2 ?side3 ?side4 A17.out).mono ?_
             (case side1 => exact iC HR0_0 HB)
             (case side2 => exact HC0_0.out)
             (case side3 => exact iC HR0_1 HB)
             (case side4 => exact HC0_1.out)
             rintro e w28 ⟨rfl, hb⟩
             refine ⟨_, rfl, ?_⟩
             have n0_ := Aside0.mk (Kd.S_below (by (with_reducible repeat (first | apply Kd.S_alloc | apply Kd.S_drewN | apply Kd.S_drew)); exact HO_5.out) hb)
             have n1_ := jR HO_9 hb
             have n2_ := jB BK278 hb
             have n3_ := jL HB hb
             clear HO_5
             clear HO_9
             clear BK278
             clear HB
             have HO_5 := n0_
             have HO_9 := n1_
             have BK278 := n2_
             have HB := n3_
             clear n0_ n1_ n2_ n3_
             (try clear hb)
             (try clear hb2)
             (try clear hk)
             (try clear hi)
             refine hK.out _ _ ⟨(blk_cell BK278.out 0).trans rfl, (blk_cell BK278.out 1).trans rfl⟩ (fun hHeld => ?_)
             clear hK K
             refine norm_ (a' := ?_) ?_ ?_
             rotate_left
             ·show Act.put _ (some 52) _ = _
              simp only [Act.put, List.setIfInBounds_toArray, List.set_cons_zero, List.set_cons_succ, i64_w, i32_w]
              rfl
             refine pure_ (i := 7) (N := some 56) (v := ?_) (a' := ?_) #[true, true, true, true, true, true, true, true] rfl rfl (any_of HT_.out (by kernel_rfl)) (fun _ _ _ h => h) (Or.inl ⟨by rfl, ?_⟩) ?_ ?_
             rotate_left
             ·intro w'
              go_simp
              with_reducible rfl
             rotate_left
             ·simp only [Act.put, List.setIfInBounds_toArray, List.set_cons_zero, List.set_cons_succ, i64_w, i32_w]
              rfl
             refine done_ (done_of HT_.out (by kernel_rfl)) ?_
             try go_wp2
             go_roundg k3
             case measure => have := HK1.out; have := HK2.out; have := HK3.out; omega
             case rel => exact ⟨(x9_3), (wrap64 (x10_3 + 1)), (by first | rfl | (simp; done) | (simp [*]; done)), H', ⟨by have := HK1.out; have := HK2.out; have := HK3.out; omega⟩, ⟨by (with_reducible repeat (first | apply Kd.S_alloc | apply Kd.S_drewN | apply Kd.S_drew)); exact HO_5.out⟩, ⟨by (with_reducible repeat (first | apply Kd.R_alloc | apply Kd.R_drewN | apply Kd.R_drew)); exact HO_9.out⟩, ⟨by (with_reducible repeat (first | apply blk_drewN | apply blk_drew | apply blk_alloc)); exact BK278.out⟩, ⟨by repeat (first | (with_reducible first | exact HB.out | apply below_alloc | apply pw_below_drewN | apply below_drew1 | refine below_set ?_ GE278.out) | exact HB.out)⟩⟩
           ·rw [if_neg c16] at H
            have c16b0 : decide (x10_3 < (l0_0.length : Int)) = false := decide_eq_false c16
            clear c16
            by_cases c29 : x5_1.length < 5864062014805
            ·rw [if_pos c29] at H
             have LMc29 := Aside0.mk c29
             clear c29
             obtain ⟨y286, hy286⟩ : ∃ y_ : List (List ByteArray), y_ = (x5_1 ++ [x9_3]) := ⟨_, rfl⟩
             replace H : (ancepsref57_Groups.l0 k3 y286 (wrap64 (x6_1 + 1)) l0_0 l0_1) = some (r1, r2) := by first | (rw [hy286]; with_reducible exact H) | (have H2_ := (Option.bind_some _ _).symm.trans H; rw [hy286]; with_reducible exact H2_) | (have H2_ := (Option.bind_some _ _).symm.trans H; with_reducible exact H2_) | with_reducible exact H | (rw [hy286]; exact H) | exact H
             have Ny286 := Aside0.mk hy286
             clear hy286
             have H' := Aside0.mk H
             clear H
             have hcz30_0 := cZ BK278 0 (.slice A0_0 l0_0.length c0_0)
             have hcz30_1 := cZ BK278 1 (.slice A0_1 l0_1.length c0_1)
             have hfz30_0 := blk_frozen BK278.out 0
             have hfz30_1 := blk_frozen BK278.out 1
             obtain ⟨Ao32, co32, eo32⟩ := Kd.R_slice HO_9.out
             subst eo32
             go_wp2_with (first | ((with_reducible refine gate_builtin (b := .append) (xs := #[.tmp 65, .tmp 67]) rfl ?_); (try (refine gate_guard (by rfl) ?_; dsimp only)); at_builtin; refine Kd.S_append (Kd.slice 9 Kd.string) (w0 := w) w.heap.size rfl (.tmp 65) (.tmp 67) 37 34 (.slice none 0 0) 24 rfl Try.underlying37 info34 rfl (by decide) (by omega) u5 x5_1 x9_3 [.slice Ao32 x9_3.length co32] (fun _ => True) (fun k_ => some k_ = (.slice Ao32 x9_3.length co32 : Value).ownBlock) rfl rfl ?aP (fun k_ hk_ => ((Kd.R_mono (ok' := fun k_ => ((fun _ => True)) k_ ∧ some k_ ≠ (u5 : Value).ownBlock) (Kd.R_apart' (HO_9.out) (Kd.S_typed HO_5.out) (by decide)) (fun k_ hk => ⟨trivial, hk.2⟩))).1 k_ hk_.symm) ?aF ?aO ?aB ?aS ?aL ?_; (case aP => exact Kd.M_row (Kd.R_mono (Kd.R_tight rfl (Kd.R_mono (ok' := fun k_ => ((fun _ => True)) k_ ∧ some k_ ≠ (u5 : Value).ownBlock) (Kd.R_apart' (HO_9.out) (Kd.S_typed HO_5.out) (by decide)) (fun k_ hk => ⟨trivial, hk.2⟩))) (fun _ h_ => h_))); (case aB => exact (iL HB)); (case aF => exact (fun _ _ => trivial)); (case aO => exact (by (with_reducible repeat (first | apply Kd.S_alloc | apply Kd.S_drewN | apply Kd.S_drew)); exact Kd.S_mono HO_5.out (fun k_ hk => ⟨trivial, fun e_ => hk e_⟩))); (case aS => exact (below_size (iL HB))); (case aL => have := LMc29.out; omega); intro v287 w31 ho hb hg hat; rw [← Ny286.out] at ho; have n0_ := Aside0.mk (blk_grown (g := gb278) (o := .cells #[.slice A0_0 l0_0.length c0_0, .slice A0_1 l0_1.length c0_1] 42 (0, 0)) (iB BK278) hg (Kd.S_ne HO_5.out BK278.out (by decide))); have n1_ := Aside0.mk (hb); have n2_ := Aside0.mk (ho); clear BK278; clear HB; clear HO_5; clear HO_9; have BK278 := n0_; have HB := n1_; have HO288 := n2_; clear n0_ n1_ n2_; clear ho hb hg hat))
             go_roundg k3
             case measure => have := HK1.out; have := HK2.out; have := HK3.out; omega
             case rel => exact ⟨(y286), (wrap64 (x6_1 + 1)), (by first | rfl | (simp; done) | (simp [*]; done)), H', ⟨by have := HK1.out; have := HK2.out; have := HK3.out; omega⟩, ⟨by (with_reducible repeat (first | apply Kd.S_alloc | apply Kd.S_drewN | apply Kd.S_drew)); exact HO288.out⟩, ⟨by (with_reducible repeat (first | apply blk_drewN | apply blk_drew | apply blk_alloc)); exact BK278.out⟩, ⟨by repeat (first | (with_reducible first | exact HB.out | apply below_alloc | apply pw_below_drewN | apply below_drew1 | refine below_set ?_ GE278.out) | exact HB.out)⟩⟩
            ·rw [if_neg c29] at H
             exact absurd H (by simp)
        ·replace c15 := Bool.eq_false_iff.mpr c15
         subst c15
         have H1 : (ancepsref57_Groups.l0 k2 x5_1 (wrap64 (x6_1 + 1)) l0_0 l0_1) = some (r1, r2) := by rw [if_neg (show ¬ (false = true) by decide)] at H; exact H
         clear H
         have H := H1
         clear H1
         have H' := Aside0.mk H
         clear H
         go_wp2
         go_roundg k2
         case measure => have := HK1.out; have := HK2.out; omega
         case rel => exact ⟨(x5_1), (wrap64 (x6_1 + 1)), (by first | rfl | (simp; done) | (simp [*]; done)), H', ⟨by have := HK1.out; have := HK2.out; omega⟩, ⟨by (with_reducible repeat (first | apply Kd.S_alloc | apply Kd.S_drewN | apply Kd.S_drew)); exact HO_5.out⟩, ⟨by (with_reducible repeat (first | apply blk_drewN | apply blk_drew | apply blk_alloc)); exact BK278.out⟩, ⟨by repeat (first | (with_reducible first | exact HB.out | apply below_alloc | apply pw_below_drewN | apply below_drew1 | refine below_set ?_ GE278.out) | exact HB.out)⟩⟩
    ·rw [if_neg c7] at H
     have c7b0 : decide (x6_1 < (l0_0.length : Int)) = false := decide_eq_false c7
     clear c7
     simp only [Option.some.injEq, Prod.mk.injEq] at H
     obtain ⟨rfl, rfl⟩ := H
     have hcz33_0 := cZ BK278 0 (.slice A0_0 l0_0.length c0_0)
     have hcz33_1 := cZ BK278 1 (.slice A0_1 l0_1.length c0_1)
     have hfz33_0 := blk_frozen BK278.out 0
     have hfz33_1 := blk_frozen BK278.out 1
     go_wp2
     go_ret2
     exact ⟨_, by first | rfl | (simp [errW_none, errW_some] <;> rfl) | (simp [*, errW_none, errW_some] <;> rfl), by (with_reducible repeat (first | apply Kd.S_alloc | apply Kd.S_drewN | apply Kd.S_drew)); exact HO_5.out, by repeat (first | (with_reducible first | exact HB.out | apply below_alloc | apply pw_below_drewN | apply below_drew1 | refine below_set ?_ GE278.out) | exact HB.out)⟩
 ·rw [if_neg c3] at H
  have c3b0 : (t279 == 0) = false := beq_eq_false_iff_ne.mpr c3
  have c3b1 : (t279 != 0) = true := bne_iff_ne.mpr c3
  simp only [Option.some.injEq, Prod.mk.injEq] at H
  obtain ⟨rfl, rfl⟩ := H
  go_enter Try.func24, Try.ntmps24
  go_wp2_with (first | ((with_reducible refine gate_dst (N := 1) rfl ?_); (try (refine gate_guard (by rfl) ?_; dsimp only)); refine bX 1 #[.slice A0_0 l0_0.length c0_0, .slice A0_1 l0_1.length c0_1] 42 ?_; intro gb278 hg w34 hbox hb; have n0_ := jL HB hb; have n1_ := Aside0.mk (hbox); have n2_ := Aside0.mk ((by rw [hg]; exact (below_size (iL HB)) : w.heap.size ≤ gb278)); have n3_ := Aside0.mk ((by rw [hg]; exact (below_size (iL HB)) : w.heap.size ≤ gb278)); clear HB; have HB := n0_; have BK278 := n1_; have GW278 := n2_; have GE278 := n3_; clear n0_ n1_ n2_ n3_; clear hb hbox hg; have hcz35_0 := cZ BK278 0 (.slice A0_0 l0_0.length c0_0); have hcz35_1 := cZ BK278 1 (.slice A0_1 l0_1.length c0_1); have hfz35_0 := blk_frozen BK278.out 0; have hfz35_1 := blk_frozen BK278.out 1) | ((with_reducible refine gate_callee (f := 54) rfl ?_); refine gL_ (some 12) Try.func54 #[.agg #[.slice A0_0 l0_0.length c0_0, .slice A0_1 l0_1.length c0_1]] ?_; (with_reducible refine (ancepsref57_Valid.calls k _ _ l0_0 _ _ l0_1 t279 _ ?side1 ?side2 ?side3 ?side4 A2.out).mono ?_); (case side1 => exact iC HR0_0 HB); (case side2 => exact HC0_0.out); (case side3 => exact iC HR0_1 HB); (case side4 => exact HC0_1.out); rintro e w36 ⟨rfl, hb⟩; refine ⟨_, rfl, ?_⟩; have n0_ := jB BK278 hb; have n1_ := jL HB hb; clear BK278; clear HB; have BK278 := n0_; have HB := n1_; clear n0_ n1_; (try clear hb); (try clear hb2); (try clear hk); (try clear hi)))
  go_ret2
  exact ⟨_, by first | rfl | (simp [errW_none, errW_some] <;> rfl) | (simp [*, errW_none, errW_some] <;> rfl), by first | exact Kd.S_nil _ _ _ _ _ | exact Kd.N_nil _ _ _ _ _ | exact Kd.V_nil _ _ _ _ _ | exact Kd.Q_nil _ _ _ _ _ | exact Kd.R_nil _ _ _ _ _, by repeat (first | (with_reducible first | exact HB.out | apply below_alloc | apply pw_below_drewN | apply below_drew1 | refine below_set ?_ GE278.out) | exact HB.out)⟩

/-! ### apparatus_Agree: function 26 -/
def apparatus_Agree.f (k : Nat) (l0_0 : List ByteArray) (l0_1 : List (S65)) (a1 : ByteArray) (a2 : ByteArray) : Option (Int × Int) := (apparatus_witness.f k l0_0 l0_1 a1).bind fun bt293 => (if bt293.2 = 0 then ((apparatus_witness.f k l0_0 l0_1 a2).bind fun bt295 => (if bt295.2 = 0 then ((apparatus_agree.f k l0_0 l0_1 bt293.1 bt295.1).bind fun t297 => (some (t297, 0))) else (some (0, bt295.2)))) else (some (0, bt293.2)))
theorem apparatus_Agree.mono : ∀ a0 a1 a2 a3 k, LeO (apparatus_Agree.f k a0 a1 a2 a3) (apparatus_Agree.f (k + 1) a0 a1 a2 a3) := by
 intro a0 a1 a2 a3 k
 unfold apparatus_Agree.f
 repeat' first
   | (with_reducible exact apparatus_agree.mono _ _ _ _ _)
   | (with_reducible exact apparatus_witness.mono _ _ _ _)
   | (with_reducible exact LeO.refl _)
   | (with_reducible exact LeO.none _)
   | (with_reducible refine LeO.ite ?_ ?_)
   | (with_reducible refine LeO.bind ?_ (fun _ => ?_))
   | exact apparatus_agree.mono _ _ _ _ _
   | exact apparatus_witness.mono _ _ _ _
   | exact LeO.none _
   | refine LeO.ite ?_ ?_
   | refine LeO.bind ?_ (fun _ => ?_)
set_option maxHeartbeats 8000000 in
set_option maxRecDepth 100000 in
theorem apparatus_Agree.calls (k : Nat) (A0_0 : Option Addr) (c0_0 : Nat) (l0_0 : List ByteArray) (A0_1 : Option Addr) (c0_1 : Nat) (l0_1 : List (S65)) (a1 : ByteArray) (a2 : ByteArray) (r1 : Int) (r2 : Int) (w : World) (hr0_0 : Kd.C Kd.string w A0_0 l0_0.length l0_0) (hc0_0 : l0_0.length ≤ c0_0) (hr0_1 : Kd.C k65 w A0_1 l0_1.length l0_1) (hc0_1 : l0_1.length ≤ c0_1) (h : apparatus_Agree.f k l0_0 l0_1 a1 a2 = some (r1, r2)) :
  Calls Try.prog 26 #[.agg #[.slice A0_0 l0_0.length c0_0, .slice A0_1 l0_1.length c0_1], .string a1, .string a2] w fun e w' => e = .returned (.tuple #[.int .i64 r1, .int .i64 r2]) ∧ Below w.heap.size w w' := by
 have hu42 := Try.underlying42
 have HR0_0 := Aside0.mk hr0_0
 have HC0_0 := Aside0.mk hc0_0
 clear hr0_0 hc0_0
 have HR0_1 := Aside0.mk hr0_1
 have HC0_1 := Aside0.mk hc0_1
 clear hr0_1 hc0_1
 have HB := Aside0.mk (Below.refl w.heap.size w)
 have H : ((apparatus_witness.f k l0_0 l0_1 a1).bind fun bt293 => (if bt293.2 = 0 then ((apparatus_witness.f k l0_0 l0_1 a2).bind fun bt295 => (if bt295.2 = 0 then ((apparatus_agree.f k l0_0 l0_1 bt293.1 bt295.1).bind fun t297 => (some (t297, 0))) else (some (0, bt295.2)))) else (some (0, bt293.2)))) = some (r1, r2) := h
 clear h
 replace H := Option.bind_eq_some_iff.mp H
 obtain ⟨⟨t293, t294⟩, A40, H⟩ := H
 try dsimp only at H
 have A4 := Aside0.mk A40
 clear A40
 by_cases c5 : t294 = 0
 ·rw [if_pos c5] at H
  have c5b0 : (t294 == 0) = true := beq_iff_eq.mpr c5
  have c5b1 : (t294 != 0) = false := bne_eq_false_iff_eq.mpr c5
  clear c5
  replace H := Option.bind_eq_some_iff.mp H
  obtain ⟨⟨t295, t296⟩, A60, H⟩ := H
  try dsimp only at H
  have A6 := Aside0.mk A60
  clear A60
  by_cases c7 : t296 = 0
  ·rw [if_pos c7] at H
   have c7b0 : (t296 == 0) = true := beq_iff_eq.mpr c7
   have c7b1 : (t296 != 0) = false := bne_eq_false_iff_eq.mpr c7
   clear c7
   replace H := Option.bind_eq_some_iff.mp H
   obtain ⟨t297, A80, H⟩ := H
   replace H : (some (t297, 0)) = some (r1, r2) := H
   have A8 := Aside0.mk A80
   clear A80
   simp only [Option.some.injEq, Prod.mk.injEq] at H
   obtain ⟨rfl, rfl⟩ := H
   go_enter Try.func26, Try.ntmps26
   go_wp2_with (first | ((with_reducible refine gate_dst (N := 3) rfl ?_); refine bX 3 #[.slice A0_0 l0_0.length c0_0, .slice A0_1 l0_1.length c0_1] 42 ?_; intro gb292 hg w9 hbox hb; have n0_ := jL HB hb; have n1_ := Aside0.mk (hbox); have n2_ := Aside0.mk ((by rw [hg]; exact (below_size (iL HB)) : w.heap.size ≤ gb292)); have n3_ := Aside0.mk ((by rw [hg]; exact (below_size (iL HB)) : w.heap.size ≤ gb292)); clear HB; have HB := n0_; have BK292 := n1_; have GW292 := n2_; have GE292 := n3_; clear n0_ n1_ n2_ n3_; clear hb hbox hg; have hcz10_0 := cZ BK292 0 (.slice A0_0 l0_0.length c0_0); have hcz10_1 := cZ BK292 1 (.slice A0_1 l0_1.length c0_1); have hfz10_0 := blk_frozen BK292.out 0; have hfz10_1 := blk_frozen BK292.out 1) | ((with_reducible refine gate_callee (f := 50) rfl ?_); refine gL_ (some 14) Try.func50 #[.agg #[.slice A0_0 l0_0.length c0_0, .slice A0_1 l0_1.length c0_1], .string a1] ?_; (with_reducible refine (apparatus_witness.calls k _ _ l0_0 _ _ l0_1 a1 t293 t294 _ ?side1 ?side2 ?side3 ?side4 A4.out).mono ?_); (case side1 => exact iC HR0_0 HB); (case side2 => exact HC0_0.out); (case side3 => exact iC HR0_1 HB); (case side4 => exact HC0_1.out); rintro e w11 ⟨rfl, hb⟩; refine ⟨_, rfl, ?_⟩; have n0_ := jB BK292 hb; have n1_ := jL HB hb; clear BK292; clear HB; have BK292 := n0_; have HB := n1_; clear n0_ n1_; (try clear hb); (try clear hb2); (try clear hk); (try clear hi); have hcz12_0 := cZ BK292 0 (.slice A0_0 l0_0.length c0_0); have hcz12_1 := cZ BK292 1 (.slice A0_1 l0_1.length c0_1); have hfz12_0 := blk_frozen BK292.out 0; have hfz12_1 := blk_frozen BK292.out 1) | ((with_reducible refine gate_callee (f := 50) rfl ?_); refine gL_ (some 23) Try.func50 #[.agg #[.slice A0_0 l0_0.length c0_0, .slice A0_1 l0_1.length c0_1], .string a2] ?_; (with_reducible refine (apparatus_witness.calls k _ _ l0_0 _ _ l0_1 a2 t295 t296 _ ?side1 ?side2 ?side3 ?side4 A6.out).mono ?_); (case side1 => exact iC HR0_0 HB); (case side2 => exact HC0_0.out); (case side3 => exact iC HR0_1 HB); (case side4 => exact HC0_1.out); rintro e w13 ⟨rfl, hb⟩; refine ⟨_, rfl, ?_⟩; have n0_ := jB BK292 hb; have n1_ := jL HB hb; clear BK292; clear HB; have BK292 := n0_; have HB := n1_; clear n0_ n1_; (try clear hb); (try clear hb2); (try clear hk); (try clear hi); have hcz14_0 := cZ BK292 0 (.slice A0_0 l0_0.length c0_0); have hcz14_1 := cZ BK292 1 (.slice A0_1 l0_1.length c0_1); have hfz14_0 := blk_frozen BK292.out 0; have hfz14_1 := blk_frozen BK292.out 1) | ((with_reducible refine gate_callee (f := 53) rfl ?_); refine gL_ (some 32) Try.func53 #[.agg #[.slice A0_0 l0_0.length c0_0, .slice A0_1 l0_1.length c0_1], .int .i64 t293, .int .i64 t295] ?_; (with_reducible refine (apparatus_agree.calls k _ _ l0_0 _ _ l0_1 t293 t295 t297 _ ?side1 ?side2 ?side3 ?side4 A8.out).mono ?_); (case side1 => exact iC HR0_0 HB); (case side2 => exact HC0_0.out); (case side3 => exact iC HR0_1 HB); (case side4 => exact HC0_1.out); rintro e w15 ⟨rfl, hb⟩; refine ⟨_, rfl, ?_⟩; have n0_ := jB BK292 hb; have n1_ := jL HB hb; clear BK292; clear HB; have BK292 := n0_; have HB := n1_; clear n0_ n1_; (try clear hb); (try clear hb2); (try clear hk); (try clear hi)))
   go_ret2
   exact ⟨by first | rfl | (simp [errW_none, errW_some] <;> rfl) | (simp [*, errW_none, errW_some] <;> rfl), by repeat (first | (with_reducible first | exact HB.out | apply below_alloc | apply pw_below_drewN | apply below_drew1 | refine below_set ?_ GE292.out) | exact HB.out)⟩
  ·rw [if_neg c7] at H
   have c7b0 : (t296 == 0) = false := beq_eq_false_iff_ne.mpr c7
   have c7b1 : (t296 != 0) = true := bne_iff_ne.mpr c7
   simp only [Option.some.injEq, Prod.mk.injEq] at H
   obtain ⟨rfl, rfl⟩ := H
   go_enter Try.func26, Try.ntmps26
   go_wp2_with (first | ((with_reducible refine gate_dst (N := 3) rfl ?_); refine bX 3 #[.slice A0_0 l0_0.length c0_0, .slice A0_1 l0_1.length c0_1] 42 ?_; intro gb292 hg w16 hbox hb; have n0_ := jL HB hb; have n1_ := Aside0.mk (hbox); have n2_ := Aside0.mk ((by rw [hg]; exact (below_size (iL HB)) : w.heap.size ≤ gb292)); have n3_ := Aside0.mk ((by rw [hg]; exact (below_size (iL HB)) : w.heap.size ≤ gb292)); clear HB; have HB := n0_; have BK292 := n1_; have GW292 := n2_; have GE292 := n3_; clear n0_ n1_ n2_ n3_; clear hb hbox hg; have hcz17_0 := cZ BK292 0 (.slice A0_0 l0_0.length c0_0); have hcz17_1 := cZ BK292 1 (.slice A0_1 l0_1.length c0_1); have hfz17_0 := blk_frozen BK292.out 0; have hfz17_1 := blk_frozen BK292.out 1) | ((with_reducible refine gate_callee (f := 50) rfl ?_); refine gL_ (some 14) Try.func50 #[.agg #[.slice A0_0 l0_0.length c0_0, .slice A0_1 l0_1.length c0_1], .string a1] ?_; (with_reducible refine (apparatus_witness.calls k _ _ l0_0 _ _ l0_1 a1 t293 t294 _ ?side1 ?side2 ?side3 ?side4 A4.out).mono ?_); (case side1 => exact iC HR0_0 HB); (case side2 => exact HC0_0.out); (case side3 => exact iC HR0_1 HB); (case side4 => exact HC0_1.out); rintro e w18 ⟨rfl, hb⟩; refine ⟨_, rfl, ?_⟩; have n0_ := jB BK292 hb; have n1_ := jL HB hb; clear BK292; clear HB; have BK292 := n0_; have HB := n1_; clear n0_ n1_; (try clear hb); (try clear hb2); (try clear hk); (try clear hi); have hcz19_0 := cZ BK292 0 (.slice A0_0 l0_0.length c0_0); have hcz19_1 := cZ BK292 1 (.slice A0_1 l0_1.length c0_1); have hfz19_0 := blk_frozen BK292.out 0; have hfz19_1 := blk_frozen BK292.out 1) | ((with_reducible refine gate_callee (f := 50) rfl ?_); refine gL_ (some 23) Try.func50 #[.agg #[.slice A0_0 l0_0.length c0_0, .slice A0_1 l0_1.length c0_1], .string a2] ?_; (with_reducible refine (apparatus_witness.calls k _ _ l0_0 _ _ l0_1 a2 t295 t296 _ ?side1 ?side2 ?side3 ?side4 A6.out).mono ?_); (case side1 => exact iC HR0_0 HB); (case side2 => exact HC0_0.out); (case side3 => exact iC HR0_1 HB); (case side4 => exact HC0_1.out); rintro e w20 ⟨rfl, hb⟩; refine ⟨_, rfl, ?_⟩; have n0_ := jB BK292 hb; have n1_ := jL HB hb; clear BK292; clear HB; have BK292 := n0_; have HB := n1_; clear n0_ n1_; (try clear hb); (try clear hb2); (try clear hk); (try clear hi)))
   go_ret2
   exact ⟨by first | rfl | (simp [errW_none, errW_some] <;> rfl) | (simp [*, errW_none, errW_some] <;> rfl), by repeat (first | (with_reducible first | exact HB.out | apply below_alloc | apply pw_below_drewN | apply below_drew1 | refine below_set ?_ GE292.out) | exact HB.out)⟩
 ·rw [if_neg c5] at H
  have c5b0 : (t294 == 0) = false := beq_eq_false_iff_ne.mpr c5
  have c5b1 : (t294 != 0) = true := bne_iff_ne.mpr c5
  simp only [Option.some.injEq, Prod.mk.injEq] at H
  obtain ⟨rfl, rfl⟩ := H
  go_enter Try.func26, Try.ntmps26
  go_wp2_with (first | ((with_reducible refine gate_dst (N := 3) rfl ?_); refine bX 3 #[.slice A0_0 l0_0.length c0_0, .slice A0_1 l0_1.length c0_1] 42 ?_; intro gb292 hg w21 hbox hb; have n0_ := jL HB hb; have n1_ := Aside0.mk (hbox); have n2_ := Aside0.mk ((by rw [hg]; exact (below_size (iL HB)) : w.heap.size ≤ gb292)); have n3_ := Aside0.mk ((by rw [hg]; exact (below_size (iL HB)) : w.heap.size ≤ gb292)); clear HB; have HB := n0_; have BK292 := n1_; have GW292 := n2_; have GE292 := n3_; clear n0_ n1_ n2_ n3_; clear hb hbox hg; have hcz22_0 := cZ BK292 0 (.slice A0_0 l0_0.length c0_0); have hcz22_1 := cZ BK292 1 (.slice A0_1 l0_1.length c0_1); have hfz22_0 := blk_frozen BK292.out 0; have hfz22_1 := blk_frozen BK292.out 1) | ((with_reducible refine gate_callee (f := 50) rfl ?_); refine gL_ (some 14) Try.func50 #[.agg #[.slice A0_0 l0_0.length c0_0, .slice A0_1 l0_1.length c0_1], .string a1] ?_; (with_reducible refine (apparatus_witness.calls k _ _ l0_0 _ _ l0_1 a1 t293 t294 _ ?side1 ?side2 ?side3 ?side4 A4.out).mono ?_); (case side1 => exact iC HR0_0 HB); (case side2 => exact HC0_0.out); (case side3 => exact iC HR0_1 HB); (case side4 => exact HC0_1.out); rintro e w23 ⟨rfl, hb⟩; refine ⟨_, rfl, ?_⟩; have n0_ := jB BK292 hb; have n1_ := jL HB hb; clear BK292; clear HB; have BK292 := n0_; have HB := n1_; clear n0_ n1_; (try clear hb); (try clear hb2); (try clear hk); (try clear hi)))
  go_ret2
  exact ⟨by first | rfl | (simp [errW_none, errW_some] <;> rfl) | (simp [*, errW_none, errW_some] <;> rfl), by repeat (first | (with_reducible first | exact HB.out | apply below_alloc | apply pw_below_drewN | apply below_drew1 | refine below_set ?_ GE292.out) | exact HB.out)⟩

end Go.Proofs.Ytmjigfoldeekmaa.X
