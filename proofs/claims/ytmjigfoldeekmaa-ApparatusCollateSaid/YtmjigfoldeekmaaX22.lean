-- shortened
-- thinned
-- halved indents
-- printed by this session's xprint.py: out of the translation, by the kit's print with additions; Lean checks it
import Derived.Test.YtmjigfoldeekmaaWN
import Derived.Test.YtmjigfoldeekmaaWShare
import Derived.Test.YtmjigfoldeekmaaWRepsOne
import Derived.Test.YtmjigfoldeekmaaX0
import Derived.Test.YtmjigfoldeekmaaX20
import Derived.Test.YtmjigfoldeekmaaX21
import Derived.Test.YtmjigfoldeekmaaXA
namespace Go.Proofs.Ytmjigfoldeekmaa.X
open Go.RowKit Go.Proofs.YtmjigfoldeekmaaW.PrintWords Go.Proofs.YtmjigfoldeekmaaW.PrintLast Go.Proofs.YtmjigfoldeekmaaW.PrintMore
attribute [local go_sem] max2_int min2_int max_two min_two max_three min_three max_four min_four isSome_setCell binOp_gtr_str binOp_leq_str binOp_geq_str   -- for this text's walks alone
set_option linter.unusedVariables false
set_option linter.unusedSimpArgs false

/-! ### ancepsref57_Collate: function 18 -/
mutual
def ancepsref57_Collate.l0 : Nat → List ByteArray → List (List ByteArray) → Int → List ByteArray → List (S65) → Option (List ByteArray × (List (S65)) × Int)
 | 0, _, _, _, _, _ => none
 | k + 1, x0, x1, x8, x357000, x357001 => if 0 < (x1.length : Int) then (if x8 < ((rd_L8 x1 0).length : Int) then (if 0 ≤ x8 then (ancepsref57_Collate.l1 k x0 x1 x8 1 x357000 x357001 (rdOf ByteArray.empty (rd_L8 x1 0) x8) ([] : List (S67))) else (none)) else (some (x357000, x357001, 0))) else (none)
def ancepsref57_Collate.l1 : Nat → List ByteArray → List (List ByteArray) → Int → Int → List ByteArray → List (S65) → ByteArray → List (S67) → Option (List ByteArray × (List (S65)) × Int)
 | 0, _, _, _, _, _, _, _, _ => none
 | k + 1, x0, x1, x8, x10, x357000, x357001, x361000, x361001 => if x10 < (x0.length : Int) then (if 0 ≤ x10 then (if x10 < (x1.length : Int) then (if 0 ≤ x8 then (if x8 < ((rd_L8 x1 x10).length : Int) then ((ancepsref57_with.f k x361000 x361001 (rdOf ByteArray.empty (rd_L8 x1 x10) x8) x10).bind fun bt363 => (ancepsref57_Collate.l1 k x0 x1 x8 (wrap64 (x10 + 1)) x357000 x357001 bt363.1 bt363.2)) else (none)) else (none)) else (none)) else (none)) else (if x357001.length < 3518437208883 then (ancepsref57_Collate.l0 k x0 x1 (wrap64 (x8 + 1)) x357000 (x357001 ++ [(⟨x361000, x361001⟩ : S65)])) else (none))
end
def ancepsref57_Collate.f (k : Nat) (l0 : List ByteArray) (l1 : List (List ByteArray)) : Option (List ByteArray × (List (S65)) × Int) := (ancepsref57_given.f k l0 l1).bind fun t349 => (if t349 = 0 then ((some (([] : List ByteArray) : List ByteArray)).bind fun y350 => (if y350.length + l0.length < 8796093022208 then (ancepsref57_Collate.l0 k l0 l1 0 (y350 ++ l0) ([] : List (S65))) else (none))) else (some (([] : List ByteArray), ([] : List (S65)), t349)))
theorem ancepsref57_Collate.mono_l : ∀ k, (∀ y0 y1 y2 y3 y4, LeO (ancepsref57_Collate.l0 k y0 y1 y2 y3 y4) (ancepsref57_Collate.l0 (k + 1) y0 y1 y2 y3 y4)) ∧ (∀ y0 y1 y2 y3 y4 y5 y6 y7, LeO (ancepsref57_Collate.l1 k y0 y1 y2 y3 y4 y5 y6 y7) (ancepsref57_Collate.l1 (k + 1) y0 y1 y2 y3 y4 y5 y6 y7))
 | 0 => ⟨fun _ _ _ _ _ r h => by simp [ancepsref57_Collate.l0] at h, fun _ _ _ _ _ _ _ _ r h => by simp [ancepsref57_Collate.l1] at h⟩
 | k + 1 => by
  obtain ⟨ih0, ih1⟩ := ancepsref57_Collate.mono_l k
  refine ⟨?_, ?_⟩
  ·intro y0 y1 y2 y3 y4
   unfold ancepsref57_Collate.l0
   repeat' first
   | (with_reducible exact ih0 _ _ _ _ _)
   | (with_reducible exact ih1 _ _ _ _ _ _ _ _)
   | (with_reducible exact ancepsref57_given.mono _ _ _)
   | (with_reducible exact ancepsref57_with.mono _ _ _ _ _)
   | (with_reducible exact LeO.refl _)
   | (with_reducible exact LeO.none _)
   | (with_reducible refine LeO.ite ?_ ?_)
   | (with_reducible refine LeO.bind ?_ (fun _ => ?_))
   | exact ih0 _ _ _ _ _
   | exact ih1 _ _ _ _ _ _ _ _
   | exact ancepsref57_given.mono _ _ _
   | exact ancepsref57_with.mono _ _ _ _ _
   | exact LeO.none _
   | refine LeO.ite ?_ ?_
   | refine LeO.bind ?_ (fun _ => ?_)
  ·intro y0 y1 y2 y3 y4 y5 y6 y7
   unfold ancepsref57_Collate.l1
   repeat' first
   | (with_reducible exact ih0 _ _ _ _ _)
   | (with_reducible exact ih1 _ _ _ _ _ _ _ _)
   | (with_reducible exact ancepsref57_given.mono _ _ _)
   | (with_reducible exact ancepsref57_with.mono _ _ _ _ _)
   | (with_reducible exact LeO.refl _)
   | (with_reducible exact LeO.none _)
   | (with_reducible refine LeO.ite ?_ ?_)
   | (with_reducible refine LeO.bind ?_ (fun _ => ?_))
   | exact ih0 _ _ _ _ _
   | exact ih1 _ _ _ _ _ _ _ _
   | exact ancepsref57_given.mono _ _ _
   | exact ancepsref57_with.mono _ _ _ _ _
   | exact LeO.none _
   | refine LeO.ite ?_ ?_
   | refine LeO.bind ?_ (fun _ => ?_)
theorem ancepsref57_Collate.mono : ∀ a0 a1 k, LeO (ancepsref57_Collate.f k a0 a1) (ancepsref57_Collate.f (k + 1) a0 a1) := by
 intro a0 a1 k
 obtain ⟨ih0, ih1⟩ := ancepsref57_Collate.mono_l k
 unfold ancepsref57_Collate.f
 repeat' first
   | (with_reducible exact ih0 _ _ _ _ _)
   | (with_reducible exact ih1 _ _ _ _ _ _ _ _)
   | (with_reducible exact ancepsref57_given.mono _ _ _)
   | (with_reducible exact ancepsref57_with.mono _ _ _ _ _)
   | (with_reducible exact LeO.refl _)
   | (with_reducible exact LeO.none _)
   | (with_reducible refine LeO.ite ?_ ?_)
   | (with_reducible refine LeO.bind ?_ (fun _ => ?_))
   | exact ih0 _ _ _ _ _
   | exact ih1 _ _ _ _ _ _ _ _
   | exact ancepsref57_given.mono _ _ _
   | exact ancepsref57_with.mono _ _ _ _ _
   | exact LeO.none _
   | refine LeO.ite ?_ ?_
   | refine LeO.bind ?_ (fun _ => ?_)
def ancepsref57_Collate.T12 : Bool × List (List Nat × List Nat) := (true, [([], []), ([], []), ([], []), ([1, 2], [1, 2]), ([3], [3]), ([], []), ([4, 5], [4, 5]), ([6], [6]), ([], []), ([0, 7, 8], [0, 7, 8]), ([9, 9, 0, 1, 2, 3, 4, 5, 6, 7, 8, 9], [9])])
def ancepsref57_Collate.B12 : List Nat := [0, 0, 0, 6, 14, 0, 62, 126, 0, 511, 1023]
theorem ancepsref57_Collate.tab12 : rtab .any (opsOf Try.f18 12) = ancepsref57_Collate.T12 := by kernel_rfl
theorem ancepsref57_Collate.bits12 : waitsOk ancepsref57_Collate.T12.2 ancepsref57_Collate.B12 = true := by kernel_rfl
set_option maxHeartbeats 8000000 in
set_option maxRecDepth 100000 in
theorem ancepsref57_Collate.calls (k : Nat) (A0 : Option Addr) (c0 : Nat) (l0 : List ByteArray) (A1 : Option Addr) (c1 : Nat) (l1 : List (List ByteArray)) (r1 : List ByteArray) (r2 : List (S65)) (r3 : Int) (w : World) (hr0 : Kd.C Kd.string w A0 l0.length l0) (hc0 : l0.length ≤ c0) (hr1 : Kd.C (Kd.slice 9 Kd.string) w A1 l1.length l1) (hc1 : l1.length ≤ c1) (h : ancepsref57_Collate.f k l0 l1 = some (r1, r2, r3)) :
  Calls Try.prog 18 #[.slice A0 l0.length c0, .slice A1 l1.length c1] w fun e w' => ∃ v0_ v1_ : Value, e = .returned (.tuple #[.agg #[v0_, v1_], .int .i64 r3]) ∧ Kd.R Kd.string 9 w' w.heap.size (fun _ => True) v0_ r1 ∧ Kd.S k65 65 w' w.heap.size (fun _ => True) v1_ r2 ∧ Below w.heap.size w w' := by
 have hu42 := Try.underlying42
 have hu65 := Try.underlying65
 have HR0 := Aside0.mk hr0
 have HC0 := Aside0.mk hc0
 clear hr0 hc0
 have HR1 := Aside0.mk hr1
 have HC1 := Aside0.mk hc1
 clear hr1 hc1
 have HB := Aside0.mk (Below.refl w.heap.size w)
 have H : ((ancepsref57_given.f k l0 l1).bind fun t349 => (if t349 = 0 then ((some (([] : List ByteArray) : List ByteArray)).bind fun y350 => (if y350.length + l0.length < 8796093022208 then (ancepsref57_Collate.l0 k l0 l1 0 (y350 ++ l0) ([] : List (S65))) else (none))) else (some (([] : List ByteArray), ([] : List (S65)), t349)))) = some (r1, r2, r3) := h
 clear h
 replace H := Option.bind_eq_some_iff.mp H
 obtain ⟨t349, A30, H⟩ := H
 try dsimp only at H
 have A3 := Aside0.mk A30
 clear A30
 by_cases c4 : t349 = 0
 ·rw [if_pos c4] at H
  have c4b0 : (t349 == 0) = true := beq_iff_eq.mpr c4
  have c4b1 : (t349 != 0) = false := bne_eq_false_iff_eq.mpr c4
  clear c4
  obtain ⟨y350, hy350⟩ : ∃ y_ : List ByteArray, y_ = (([] : List ByteArray)) := ⟨_, rfl⟩
  replace H : (if y350.length + l0.length < 8796093022208 then (ancepsref57_Collate.l0 k l0 l1 0 (y350 ++ l0) ([] : List (S65))) else (none)) = some (r1, r2, r3) := by first | (rw [hy350]; with_reducible exact H) | (have H2_ := (Option.bind_some _ _).symm.trans H; rw [hy350]; with_reducible exact H2_) | (have H2_ := (Option.bind_some _ _).symm.trans H; with_reducible exact H2_) | with_reducible exact H | (rw [hy350]; exact H) | exact H
  have Ny350 := Aside0.mk hy350
  clear hy350
  by_cases c5 : y350.length + l0.length < 8796093022208
  ·rw [if_pos c5] at H
   have LMc5 := Aside0.mk c5
   clear c5
   obtain ⟨y353, hy353⟩ : ∃ y_ : List ByteArray, y_ = (y350 ++ l0) := ⟨_, rfl⟩
   replace H : (ancepsref57_Collate.l0 k l0 l1 0 y353 ([] : List (S65))) = some (r1, r2, r3) := by first | (rw [hy353]; with_reducible exact H) | (have H2_ := (Option.bind_some _ _).symm.trans H; rw [hy353]; with_reducible exact H2_) | (have H2_ := (Option.bind_some _ _).symm.trans H; with_reducible exact H2_) | with_reducible exact H | (rw [hy353]; exact H) | exact H
   have Ny353 := Aside0.mk hy353
   clear hy353
   have H' := Aside0.mk H
   clear H
   go_enter Try.func18, Try.ntmps18
   go_wp2_with (first | ((with_reducible refine gate_dst (N := 4) rfl ?_); refine bX 4 #[.slice none 0 0, .slice none 0 0] 42 ?_; intro gb348 hg w6 hbox hb; have n0_ := jL HB hb; have n1_ := Aside0.mk (hbox); have n2_ := Aside0.mk ((by rw [hg]; exact (below_size (iL HB)) : w.heap.size ≤ gb348)); have n3_ := Aside0.mk ((by rw [hg]; exact (below_size (iL HB)) : w.heap.size ≤ gb348)); clear HB; have HB := n0_; have BK348 := n1_; have GW348 := n2_; have GE348 := n3_; clear n0_ n1_ n2_ n3_; clear hb hbox hg) | ((with_reducible refine gate_callee (f := 48) rfl ?_); refine gL_ (some 13) Try.func48 #[.slice A0 l0.length c0, .slice A1 l1.length c1] ?_; (with_reducible refine (ancepsref57_given.calls k _ _ l0 _ _ l1 t349 _ ?side1 ?side2 ?side3 ?side4 A3.out).mono ?_); (case side1 => exact iC HR0 HB); (case side2 => exact HC0.out); (case side3 => exact iC HR1 HB); (case side4 => exact HC1.out); rintro e w' ⟨rfl, ⟨nd, rfl⟩⟩; refine ⟨_, rfl, ?_⟩; (try (rw [drewN_self w6]; generalize hq_ : World.drewN w6 _ = w6; have n0_ : Aside0 (w6.heap[gb348]? = some (.cells #[.slice none 0 0, .slice none 0 0] 42 (0, 0))) := ⟨by rw [← hq_]; exact (iB BK348)⟩; have n1_ : Aside0 (Below w.heap.size w w6) := ⟨by rw [← hq_]; exact (iL HB)⟩; clear BK348 HB hq_; have BK348 := n0_; have HB := n1_; clear n0_ n1_))) | ((with_reducible refine gate_dst (N := 18) rfl ?_); refine Kd.R_lit Kd.string _ 9 ?hg (N := 18) ?hd (xs := ([] : List ByteArray)) (inner := []) (ok := fun _ => True) (okp := fun _ => True) ?hr ?hp (fun _ hk => hk) trivial (Below.refl _ _) (Nat.le_refl _) (by simp) ?_; (case hd | hg => rfl); (case hr => first | (go_simp; done) | (go_simp; rfl)); (case hp => exact (Reps.none _ _)); intro v351 w7 ho8 hb hg_ hnew_; clear hg_ hnew_; (first | rw [← Ny350.out] at ho8 | (simp only [Int.reduceToNat] at ho8; rw [← Ny350.out] at ho8)); have n0_ := Aside0.mk (Kd.R_lower ho8 (below_size (iL HB))); have n1_ := jB BK348 hb; have n2_ := jL HB hb; clear BK348; clear HB; have HO352 := n0_; have BK348 := n1_; have HB := n2_; clear n0_ n1_ n2_; clear hb ho8) | ((with_reducible refine gate_builtin (b := .append) (xs := #[.tmp 18, .tmp 19]) rfl ?_); at_builtin; refine Kd.R_append_rows Kd.string (w0 := w) w.heap.size rfl (.tmp 18) (.tmp 19) 34 9 (.string ⟨#[]⟩) 16 rfl Try.underlying34 info9 rfl (by decide) (by omega) v351 y350 l0 _ _ _ (fun _ => True) (fun _ => False) rfl rfl ?aO ?aR (fun _ _ h => h) (fun _ h => h.elim) ?aF ?aB ?aS ?aL ?_; (case aR => exact iC HR0 HB); (case aB => exact (iL HB)); (case aF => exact (fun _ _ => trivial)); (case aO => exact (iR HO352)); (case aS => exact (below_size (iL HB))); (case aL => have := LMc5.out; omega); intro v354 w9 ho hb hg hat; rw [← Ny353.out] at ho; have n0_ := Aside0.mk (blk_grown (g := gb348) (o := .cells #[.slice none 0 0, .slice none 0 0] 42 (0, 0)) (iB BK348) hg (Kd.R_ne HO352.out BK348.out (by decide))); have n1_ := Aside0.mk (hb); have n2_ := Aside0.mk (ho); clear BK348; clear HB; clear HO352; have BK348 := n0_; have HB := n1_; have HO355 := n2_; clear n0_ n1_ n2_; clear ho hb hg hat; obtain ⟨Ao10, co10, eo10⟩ := Kd.R_slice HO355.out; subst eo10) | ((with_reducible refine gate_dst (N := 7) rfl ?_); refine bX 7 #[.slice none 0 0, .slice none 0 0] 42 ?_; intro gb356 hg w11 hbox hb; have n0_ := jR HO355 hb; have n1_ := jB BK348 hb; have n2_ := jL HB hb; have n3_ := Aside0.mk (hbox); have n4_ := Aside0.mk ((by rw [hg]; exact (below_size (iL HB)) : w.heap.size ≤ gb356)); have n5_ := Aside0.mk ((by rw [hg]; exact (below_size (iL HB)) : w.heap.size ≤ gb356)); have n6_ := Aside0.mk ((by rw [hg]; exact Nat.ne_of_lt (blk_lt (g := gb348) (o := .cells #[.slice none 0 0, .slice none 0 0] 42 (0, 0)) (iB BK348)) : gb348 ≠ gb356)); have n7_ := Aside0.mk ((by rw [hg]; exact Nat.ne_of_gt (blk_lt (g := gb348) (o := .cells #[.slice none 0 0, .slice none 0 0] 42 (0, 0)) (iB BK348)) : gb356 ≠ gb348)); clear HO355; clear BK348; clear HB; have HO355 := n0_; have BK348 := n1_; have HB := n2_; have BK356 := n3_; have GW356 := n4_; have GE356 := n5_; have NB348_356 := n6_; have NB356_348 := n7_; clear n0_ n1_ n2_ n3_ n4_ n5_ n6_ n7_; clear hb hbox hg; have hnb12 := NB356_348.out; have hnc12 := NB348_356.out; have hcz13_0 := cZ BK356 0 (.slice none 0 0); have hcz13_1 := cZ BK356 1 (.slice none 0 0); have hfz13_0 := blk_frozen BK356.out 0; have hfz13_1 := blk_frozen BK356.out 1))
   go_loopg [8] k (fun kq v8 w' => ∃ (x8_1 : Int) (x357001_1 : List (S65)) (u357001 : Value), v8 = .int .i64 x8_1 ∧ Aside0 (ancepsref57_Collate.l0 kq l0 l1 x8_1 y353 x357001_1 = some (r1, r2, r3)) ∧ Aside0 (kq ≤ k) ∧ Aside0 (Kd.R Kd.string 9 w' w.heap.size (fun _ => True) (.slice Ao10 y353.length co10) y353) ∧ Aside0 (Kd.S k65 65 w' w.heap.size (fun _ => True) u357001 x357001_1) ∧ Aside0 (w'.heap[gb348]? = some (.cells #[(.slice none 0 0), (.slice none 0 0)] 42 (0, 0))) ∧ Aside0 (w'.heap[gb356]? = some (.cells #[(.slice Ao10 y353.length co10), u357001] 42 (0, 0))) ∧ Aside0 (Below w.heap.size w w'))
   case atStart => exact ⟨(0), (([] : List (S65))), (.slice none 0 0), (by first | rfl | (simp; done) | (simp [*]; done)), H', ⟨Nat.le_refl _⟩, ⟨by (with_reducible repeat (first | apply Kd.R_alloc | apply Kd.R_drewN | apply Kd.R_drew)); exact Kd.R_mono (Kd.R_far (p := ⟨gb356, 1, none⟩) (Kd.R_far (p := ⟨gb356, 0, none⟩) (Kd.R_types HO355.out BK356.out (by decide)) (fun _ hk => hk.2) (.slice Ao10 y353.length co10)) (fun _ hk => hk.2) (.slice none 0 0)) (fun _ hk => trivial)⟩, ⟨by first | exact Kd.S_nil _ _ _ _ _ | exact Kd.N_nil _ _ _ _ _ | exact Kd.V_nil _ _ _ _ _ | exact Kd.Q_nil _ _ _ _ _ | exact Kd.R_nil _ _ _ _ _⟩, ⟨by (with_reducible repeat (first | apply blk_drewN | apply blk_drew | apply blk_alloc)); refine blk_far ?_ NB348_356.out _; (with_reducible repeat (first | apply blk_drewN | apply blk_drew | apply blk_alloc)); refine blk_far ?_ NB348_356.out _; (with_reducible repeat (first | apply blk_drewN | apply blk_drew | apply blk_alloc)); exact BK348.out⟩, ⟨by (with_reducible repeat (first | apply blk_drewN | apply blk_drew | apply blk_alloc)); refine blk_put (cs := #[.slice Ao10 y353.length co10, .slice none 0 0]) ?_ 1 _ rfl; (with_reducible repeat (first | apply blk_drewN | apply blk_drew | apply blk_alloc)); refine blk_put (cs := #[.slice none 0 0, .slice none 0 0]) ?_ 0 _ rfl; (with_reducible repeat (first | apply blk_drewN | apply blk_drew | apply blk_alloc)); exact BK356.out⟩, ⟨by repeat (first | (with_reducible first | exact HB.out | apply below_alloc | apply pw_below_drewN | apply below_drew1 | refine below_set ?_ GE348.out | refine below_set ?_ GE356.out) | exact HB.out)⟩⟩
   case round =>
    clear H'
    try clear c1
    try clear p2
    try clear c4
    try clear c4b0
    try clear c4b1
    try clear c5
    try clear c12
    try clear hcz13_0
    try clear hcz13_1
    try clear hfz13_0
    try clear hfz13_1
    obtain ⟨x8_1, x357001_1, u357001, rfl, HA, HK1, HO_357000, HO_357001, BK348, BK356, HB⟩ := hrel
    cases gk with
    | zero => exact absurd HA.out (by simp [ancepsref57_Collate.l0])
    | succ k1 =>
     have H := HA.out
     clear HA
     simp only [ancepsref57_Collate.l0] at H
     by_cases c14 : 0 < (l1.length : Int)
     ·rw [if_pos c14] at H
      have c14b0 : decide (0 < (l1.length : Int)) = true := decide_eq_true c14
      have c14b1 : decide (0 < l1.length) = true := decide_eq_true (by omega)
      clear c14
      by_cases c15 : x8_1 < ((rd_L8 l1 0).length : Int)
      ·rw [if_pos c15] at H
       have c15b0 : decide (x8_1 < ((rd_L8 l1 0).length : Int)) = true := decide_eq_true c15
       clear c15
       by_cases c16 : 0 ≤ x8_1
       ·rw [if_pos c16] at H
        have c16b0 : decide (0 ≤ x8_1) = true := decide_eq_true c16
        clear c16
        have H' := Aside0.mk H
        clear H
        have p357 : 0 ≤ (0 : Int) := (by omega)
        have q357 : 0 < (l1.length : Int) := of_decide_eq_true (by first | (with_reducible assumption) | assumption)
        obtain ⟨ad357, A357_0, c357_0, e357, hx357_0, hl357_0, hi357_0⟩ := at_L8 HR1.out 0 p357 q357
        cases e357
        have qi357 : (0 < l1.length) = True := eq_true (by omega)
        (try rw [show ((0 : Int)).toNat = 0 from rfl] at hx357_0)
        (try rw [Addr.add_zero'] at hx357_0)
        replace hx357_0 := (HB.out.cell (World.block_lt_of_cell? w _ hx357_0)).trans hx357_0
        have HR357_0 := Aside0.mk hi357_0
        have HC357_0 := Aside0.mk hl357_0
        clear hi357_0 hl357_0
        replace p357 := eq_true p357
        replace q357 := eq_true q357
        have p358 : 0 ≤ (0 : Int) := (by omega)
        have q358 : 0 < (l1.length : Int) := of_decide_eq_true (by first | (with_reducible assumption) | assumption)
        obtain ⟨ad358, A358_0, c358_0, e358, hx358_0, hl358_0, hi358_0⟩ := at_L8 HR1.out 0 p358 q358
        obtain rfl : ad357 = ad358 := (by injection e358)
        have qi358 : (0 < l1.length) = True := eq_true (by omega)
        (try rw [show ((0 : Int)).toNat = 0 from rfl] at hx358_0)
        (try rw [Addr.add_zero'] at hx358_0)
        replace hx358_0 := (HB.out.cell (World.block_lt_of_cell? w _ hx358_0)).trans hx358_0
        have HR358_0 := Aside0.mk hi358_0
        have HC358_0 := Aside0.mk hl358_0
        clear hi358_0 hl358_0
        replace p358 := eq_true p358
        replace q358 := eq_true q358
        have ea_ := Option.some.inj (hx357_0.symm.trans hx358_0)
        injection ea_ with ea_ en_ ec_
        subst ea_
        subst ec_
        clear en_
        have p359 : 0 ≤ (x8_1 : Int) := of_decide_eq_true (by first | (with_reducible assumption) | assumption)
        have q359 : x8_1 < ((rd_L8 l1 0).length : Int) := of_decide_eq_true (by first | (with_reducible assumption) | assumption)
        obtain ⟨ad359, e359, hx359_0⟩ := Kd.at_string HR358_0.out x8_1 p359 q359
        cases e359
        replace hx359_0 := (HB.out.cell (World.block_lt_of_cell? w _ hx359_0)).trans hx359_0
        replace p359 := eq_true p359
        replace q359 := eq_true q359
        go_wp2_with (first | ((with_reducible refine gate_dst (N := 9) rfl ?_); refine bX 9 #[.string (⟨#[]⟩ : ByteArray), .slice none 0 0] 65 ?_; intro gb360 hg w17 hbox hb; have n0_ := jR HO_357000 hb; have n1_ := Aside0.mk (Kd.S_below (Kd.S_elderB (by (with_reducible repeat (first | apply Kd.S_alloc | apply Kd.S_drewN | apply Kd.S_drew)); exact HO_357001.out) gb360 (Nat.le_of_eq hg.symm)) hb); have n2_ := jB BK348 hb; have n3_ := jB BK356 hb; have n4_ := jL HB hb; have n5_ := Aside0.mk (hbox); have n6_ := Aside0.mk ((by rw [hg]; exact (below_size (iL HB)) : w.heap.size ≤ gb360)); have n7_ := Aside0.mk ((by rw [hg]; exact (below_size (iL HB)) : w.heap.size ≤ gb360)); have n8_ := Aside0.mk ((by rw [hg]; exact Nat.ne_of_lt (blk_lt (g := gb348) (o := .cells #[.slice none 0 0, .slice none 0 0] 42 (0, 0)) (iB BK348)) : gb348 ≠ gb360)); have n9_ := Aside0.mk ((by rw [hg]; exact Nat.ne_of_gt (blk_lt (g := gb348) (o := .cells #[.slice none 0 0, .slice none 0 0] 42 (0, 0)) (iB BK348)) : gb360 ≠ gb348)); have n10_ := Aside0.mk ((by rw [hg]; exact Nat.ne_of_lt (blk_lt (g := gb356) (o := .cells #[.slice Ao10 y353.length co10, u357001] 42 (0, 0)) (iB BK356)) : gb356 ≠ gb360)); have n11_ := Aside0.mk ((by rw [hg]; exact Nat.ne_of_gt (blk_lt (g := gb356) (o := .cells #[.slice Ao10 y353.length co10, u357001] 42 (0, 0)) (iB BK356)) : gb360 ≠ gb356)); clear HO_357000; clear HO_357001; clear BK348; clear BK356; clear HB; have HO_357000 := n0_; have HO_357001 := n1_; have BK348 := n2_; have BK356 := n3_; have HB := n4_; have BK360 := n5_; have GW360 := n6_; have GE360 := n7_; have NB348_360 := n8_; have NB360_348 := n9_; have NB356_360 := n10_; have NB360_356 := n11_; clear n0_ n1_ n2_ n3_ n4_ n5_ n6_ n7_ n8_ n9_ n10_ n11_; clear hb hbox hg; have hnb18 := NB360_348.out; have hnc18 := NB348_360.out; have hnb19 := NB360_356.out; have hnc19 := NB356_360.out; have hcz20_0 := cZ BK360 0 (.string (⟨#[]⟩ : ByteArray)); have hcz20_1 := cZ BK360 1 (.slice none 0 0); have hfz20_0 := blk_frozen BK360.out 0; have hfz20_1 := blk_frozen BK360.out 1))
        go_loopg [10] k1 (fun kq v10 w' => ∃ (x10_2 : Int) (x361000_2 : ByteArray) (x361001_2 : List (S67)) (u361001 : Value), v10 = .int .i64 x10_2 ∧ Aside0 (ancepsref57_Collate.l1 kq l0 l1 x8_1 x10_2 y353 x357001_1 x361000_2 x361001_2 = some (r1, r2, r3)) ∧ Aside0 (kq ≤ k1) ∧ Aside0 (Kd.R Kd.string 9 w' w.heap.size (fun _ => True) (.slice Ao10 y353.length co10) y353) ∧ Aside0 (Kd.S k65 65 w' w.heap.size (fun k_ => some k_ ≠ (u361001 : Value).ownBlock ∧ k_ ≠ gb360) u357001 x357001_1) ∧ Aside0 (Kd.R k67 67 w' w.heap.size (fun _ => True) u361001 x361001_2) ∧ Aside0 (w'.heap[gb348]? = some (.cells #[(.slice none 0 0), (.slice none 0 0)] 42 (0, 0))) ∧ Aside0 (w'.heap[gb356]? = some (.cells #[(.slice Ao10 y353.length co10), u357001] 42 (0, 0))) ∧ Aside0 (w'.heap[gb360]? = some (.cells #[.string x361000_2, u361001] 65 (0, 0))) ∧ Aside0 (Below w.heap.size w w'))
        case atStart => exact ⟨(1), (rdOf ByteArray.empty (rd_L8 l1 0) x8_1), (([] : List (S67))), (.slice none 0 0), (by first | rfl | (simp; done) | (simp [*]; done)), H', ⟨Nat.le_refl _⟩, ⟨by (with_reducible repeat (first | apply Kd.R_alloc | apply Kd.R_drewN | apply Kd.R_drew)); exact Kd.R_mono (Kd.R_far (p := ⟨gb360, 1, none⟩) (Kd.R_far (p := ⟨gb360, 0, none⟩) (Kd.R_types HO_357000.out BK360.out (by decide)) (fun _ hk => hk.2) (.string (rdOf ByteArray.empty (rd_L8 l1 0) x8_1))) (fun _ hk => hk.2) (.slice none 0 0)) (fun _ hk => trivial)⟩, ⟨by (with_reducible repeat (first | apply Kd.S_alloc | apply Kd.S_drewN | apply Kd.S_drew)); exact Kd.S_mono (Kd.S_far (p := ⟨gb360, 1, none⟩) (Kd.S_far (p := ⟨gb360, 0, none⟩) (Kd.S_mono HO_357001.out (fun k_ hk => (⟨hk, hk.2⟩ : _ ∧ k_ ≠ gb360))) (fun _ hk => hk.2) (.string (rdOf ByteArray.empty (rd_L8 l1 0) x8_1))) (fun _ hk => hk.2) (.slice none 0 0)) (fun _ hk => ⟨(by simp [Value.ownBlock]), hk.1.2⟩)⟩, ⟨by first | exact Kd.R_nil _ _ _ _ _ | exact Kd.N_nil _ _ _ _ _ | exact Kd.V_nil _ _ _ _ _ | exact Kd.Q_nil _ _ _ _ _ | exact Kd.S_nil _ _ _ _ _⟩, ⟨by (with_reducible repeat (first | apply blk_drewN | apply blk_drew | apply blk_alloc)); refine blk_far ?_ NB348_360.out _; (with_reducible repeat (first | apply blk_drewN | apply blk_drew | apply blk_alloc)); refine blk_far ?_ NB348_360.out _; (with_reducible repeat (first | apply blk_drewN | apply blk_drew | apply blk_alloc)); exact BK348.out⟩, ⟨by (with_reducible repeat (first | apply blk_drewN | apply blk_drew | apply blk_alloc)); refine blk_far ?_ NB356_360.out _; (with_reducible repeat (first | apply blk_drewN | apply blk_drew | apply blk_alloc)); refine blk_far ?_ NB356_360.out _; (with_reducible repeat (first | apply blk_drewN | apply blk_drew | apply blk_alloc)); exact BK356.out⟩, ⟨by (with_reducible repeat (first | apply blk_drewN | apply blk_drew | apply blk_alloc)); refine blk_put (cs := #[.string (rdOf ByteArray.empty (rd_L8 l1 0) x8_1), .slice none 0 0]) ?_ 1 _ rfl; (with_reducible repeat (first | apply blk_drewN | apply blk_drew | apply blk_alloc)); refine blk_put (cs := #[.string (⟨#[]⟩ : ByteArray), .slice none 0 0]) ?_ 0 _ rfl; (with_reducible repeat (first | apply blk_drewN | apply blk_drew | apply blk_alloc)); exact BK360.out⟩, ⟨by repeat (first | (with_reducible first | exact HB.out | apply below_alloc | apply pw_below_drewN | apply below_drew1 | refine below_set ?_ GE348.out | refine below_set ?_ GE356.out | refine below_set ?_ GE360.out) | exact HB.out)⟩⟩
        case round =>
         clear H'
         try clear c1
         try clear p2
         try clear c3
         try clear p3
         try clear q3
         try clear hx3
         try clear qi3
         try clear c4
         try clear c4b0
         try clear c4b1
         try clear c5
         try clear c12
         try clear c14
         try clear c14b0
         try clear c14b1
         try clear c15
         try clear c15b0
         try clear c16
         try clear c16b0
         try clear c18
         try clear c19
         try clear hcz13_0
         try clear hcz13_1
         try clear hcz20_0
         try clear hcz20_1
         try clear hfz13_0
         try clear hfz13_1
         try clear hfz20_0
         try clear hfz20_1
         try clear hx357_0
         try clear hx358_0
         try clear hx359_0
         try clear p2
         try clear p357
         try clear p358
         try clear p359
         try clear q357
         try clear q358
         try clear q359
         obtain ⟨x10_2, x361000_2, x361001_2, u361001, rfl, HA, HK2, HO_357000, HO_357001, HO_361001, BK348, BK356, BK360, HB⟩ := hrel
         cases gk with
         | zero => exact absurd HA.out (by simp [ancepsref57_Collate.l1])
         | succ k2 =>
          have H := HA.out
          clear HA
          simp only [ancepsref57_Collate.l1] at H
          by_cases c21 : x10_2 < (l0.length : Int)
          ·rw [if_pos c21] at H
           have c21b0 : decide (x10_2 < (l0.length : Int)) = true := decide_eq_true c21
           clear c21
           by_cases c22 : 0 ≤ x10_2
           ·rw [if_pos c22] at H
            have c22b0 : decide (0 ≤ x10_2) = true := decide_eq_true c22
            clear c22
            by_cases c23 : x10_2 < (l1.length : Int)
            ·rw [if_pos c23] at H
             have c23b0 : decide (x10_2 < (l1.length : Int)) = true := decide_eq_true c23
             clear c23
             by_cases c24 : 0 ≤ x8_1
             ·rw [if_pos c24] at H
              have c24b0 : decide (0 ≤ x8_1) = true := decide_eq_true c24
              clear c24
              by_cases c25 : x8_1 < ((rd_L8 l1 x10_2).length : Int)
              ·rw [if_pos c25] at H
               have c25b0 : decide (x8_1 < ((rd_L8 l1 x10_2).length : Int)) = true := decide_eq_true c25
               clear c25
               replace H := Option.bind_eq_some_iff.mp H
               obtain ⟨⟨t363, t364⟩, A260, H⟩ := H
               try dsimp only at H
               have A26 := Aside0.mk A260
               clear A260
               have H' := Aside0.mk H
               clear H
               try go_wp2
               have n0_ := Aside0.mk (Kd.R_drew HO_357000.out)
               have n1_ := Aside0.mk (Kd.S_drew HO_357001.out)
               have n2_ := Aside0.mk (Kd.R_drew HO_361001.out)
               have n3_ := Aside0.mk (blk_drew BK348.out)
               have n4_ := Aside0.mk (blk_drew BK356.out)
               have n5_ := Aside0.mk (blk_drew BK360.out)
               have n6_ := Aside0.mk (below_drew1 HB.out)
               clear HO_357000
               clear HO_357001
               clear HO_361001
               clear BK348
               clear BK356
               clear BK360
               clear HB
               have HO_357000 := n0_
               have HO_357001 := n1_
               have HO_361001 := n2_
               have BK348 := n3_
               have BK356 := n4_
               have BK360 := n5_
               have HB := n6_
               clear n0_ n1_ n2_ n3_ n4_ n5_ n6_
               have p361 : 0 ≤ (x10_2 : Int) := of_decide_eq_true (by first | (with_reducible assumption) | assumption)
               have q361 : x10_2 < (l1.length : Int) := of_decide_eq_true (by first | (with_reducible assumption) | assumption)
               obtain ⟨ad361, A361_0, c361_0, e361, hx361_0, hl361_0, hi361_0⟩ := at_L8 HR1.out x10_2 p361 q361
               have hw361_0 := hx361_0
               obtain rfl : ad357 = ad361 := (by injection e361)
               replace hx361_0 := (HB.out.cell (World.block_lt_of_cell? w _ hx361_0)).trans hx361_0
               have HR361_0 := Aside0.mk hi361_0
               have HC361_0 := Aside0.mk hl361_0
               clear hi361_0 hl361_0
               replace p361 := eq_true p361
               replace q361 := eq_true q361
               have p362 : 0 ≤ (x8_1 : Int) := of_decide_eq_true (by first | (with_reducible assumption) | assumption)
               have q362 : x8_1 < ((rd_L8 l1 x10_2).length : Int) := of_decide_eq_true (by first | (with_reducible assumption) | assumption)
               obtain ⟨ad362, e362, hx362_0⟩ := Kd.at_string HR361_0.out x8_1 p362 q362
               have hw362_0 := hx362_0
               cases e362
               replace hx362_0 := (HB.out.cell (World.block_lt_of_cell? w _ hx362_0)).trans hx362_0
               replace p362 := eq_true p362
               replace q362 := eq_true q362
               obtain ⟨Ao28, co28, eo28⟩ := Kd.R_slice HO_361001.out
               (first | subst eo28 | (injection eo28 with f1_ f2_ f3_; have f4_ := f1_.symm; have f5_ := f3_.symm; clear f1_ f2_ f3_; subst f4_; subst f5_))
               refine start_ (n := 11) (S := fun w' => w'.cell? ⟨gb360, 0, none⟩ = some (.string x361000_2) ∧ w'.cell? ⟨gb360, 1, none⟩ = some (.slice Ao28 x361001_2.length co28) ∧ w'.cell? (ad357.add (x10_2).toNat) = some (.slice (some ad362) (rd_L8 l1 x10_2).length c361_0) ∧ w'.cell? (ad362.add (x8_1).toNat) = some (.string (rdOf ByteArray.empty (rd_L8 l1 x10_2) x8_1))) (ds := [10]) #[false, false, false, false, false, false, false, false, false, false, false] (by kernel_rfl) rfl rfl ⟨(blk_cell BK360.out 0).trans rfl, (blk_cell BK360.out 1).trans rfl, ((HB.out.cell (World.block_lt_of_cell? w _ hw361_0)).trans hw361_0), ((HB.out.cell (World.block_lt_of_cell? w _ hw362_0)).trans hw362_0)⟩ (fun hHeld => ?_); refine with_tabW ancepsref57_Collate.tab12 ancepsref57_Collate.bits12 (fun HT_ HW_ => ?_)
               generalize wr.drew = w27 at HO_357000 HO_357001 HO_361001 BK348 BK356 BK360 HB HR361_0 hx361_0 hx362_0 hHeld ⊢
               refine pure_ (i := 1) (N := some 44) (v := ?_) (a' := ?_) #[false, true, false, false, false, false, false, false, false, false, false] rfl rfl (any_of HT_.out (by kernel_rfl)) (fun _ _ _ h => h) (Or.inl ⟨by rfl, ?_⟩) ?_ ?_
               rotate_left
               ·intro w'
                go_simp
                with_reducible rfl
               rotate_left
               ·simp only [Act.put, List.setIfInBounds_toArray, List.set_cons_zero, List.set_cons_succ, i64_w, i32_w]
                rfl
               refine pure_ (i := 2) (N := some 45) (v := ?_) (a' := ?_) #[false, true, true, false, false, false, false, false, false, false, false] rfl rfl (any_of HT_.out (by kernel_rfl)) (fun _ _ _ h => h) (Or.inl ⟨by rfl, ?_⟩) ?_ ?_
               rotate_left
               ·intro w'
                go_simp
                with_reducible rfl
               rotate_left
               ·simp only [Act.put, List.setIfInBounds_toArray, List.set_cons_zero, List.set_cons_succ, i64_w, i32_w]
                rfl
               refine pure_ (i := 3) (N := some 46) (v := ?_) (a' := ?_) #[false, true, true, true, false, false, false, false, false, false, false] rfl rfl (any_of HT_.out (by kernel_rfl)) (fun _ _ _ h => h) (Or.inl ⟨by rfl, ?_⟩) ?_ ?_
               rotate_left
               ·intro w'
                go_simp
                with_reducible rfl
               rotate_left
               ·simp only [Act.put, List.setIfInBounds_toArray, List.set_cons_zero, List.set_cons_succ, i64_w, i32_w]
                rfl
               refine pure_ (i := 5) (N := some 48) (v := ?_) (a' := ?_) #[false, true, true, true, false, true, false, false, false, false, false] rfl rfl (any_of HT_.out (by kernel_rfl)) (fun _ _ _ h => h) (Or.inl ⟨by rfl, ?_⟩) ?_ ?_
               rotate_left
               ·intro w'
                go_simp
                with_reducible rfl
               rotate_left
               ·simp only [Act.put, List.setIfInBounds_toArray, List.set_cons_zero, List.set_cons_succ, i64_w, i32_w]
                rfl
               refine pure_ (i := 8) (N := some 51) (v := ?_) (a' := ?_) #[false, true, true, true, false, true, false, false, true, false, false] rfl rfl (any_of HT_.out (by kernel_rfl)) (fun _ _ _ h => h) (Or.inl ⟨by rfl, ?_⟩) ?_ ?_
               rotate_left
               ·intro w'
                go_simp
                with_reducible rfl
               rotate_left
               ·simp only [Act.put, List.setIfInBounds_toArray, List.set_cons_zero, List.set_cons_succ, i64_w, i32_w]
                rfl
               refine take_ (i := 0) (N := some 43) (v := ?_) (a' := ?_) #[true, true, true, true, false, true, false, false, true, false, false] rfl rfl (take_ofW HT_.out HW_.out (by kernel_rfl)) (fun _ _ _ h => h) (Or.inl ⟨by rfl, ?_⟩) hHeld ?_ ?_
               rotate_left
               ·rintro w' ⟨s0, s1, s2, s3⟩
                go_simp
                with_reducible rfl
               rotate_left
               ·simp only [Act.put, List.setIfInBounds_toArray, List.set_cons_zero, List.set_cons_succ, i64_w, i32_w]
                rfl
               refine take_ (i := 4) (N := some 47) (v := ?_) (a' := ?_) #[true, true, true, true, true, true, false, false, true, false, false] rfl rfl (take_ofW HT_.out HW_.out (by kernel_rfl)) (fun _ _ _ h => h) (Or.inl ⟨by rfl, ?_⟩) hHeld ?_ ?_
               rotate_left
               ·rintro w' ⟨s0, s1, s2, s3⟩
                go_simp
                with_reducible rfl
               rotate_left
               ·simp only [Act.put, List.setIfInBounds_toArray, List.set_cons_zero, List.set_cons_succ, i64_w, i32_w]
                rfl
               refine pure_ (i := 6) (N := some 49) (v := ?_) (a' := ?_) #[true, true, true, true, true, true, true, false, true, false, false] rfl rfl (any_of HT_.out (by kernel_rfl)) (fun _ _ _ h => h) (Or.inl ⟨by rfl, ?_⟩) ?_ ?_
               rotate_left
               ·intro w'
                go_simp
                with_reducible rfl
               rotate_left
               ·simp only [Act.put, List.setIfInBounds_toArray, List.set_cons_zero, List.set_cons_succ, i64_w, i32_w]
                rfl
               refine take_ (i := 7) (N := some 50) (v := ?_) (a' := ?_) #[true, true, true, true, true, true, true, true, true, false, false] rfl rfl (take_ofW HT_.out HW_.out (by kernel_rfl)) (fun _ _ _ h => h) (Or.inl ⟨by rfl, ?_⟩) hHeld ?_ ?_
               rotate_left
               ·rintro w' ⟨s0, s1, s2, s3⟩
                go_simp
                with_reducible rfl
               rotate_left
               ·simp only [Act.put, List.setIfInBounds_toArray, List.set_cons_zero, List.set_cons_succ, i64_w, i32_w]
                rfl
               refine one_ (i := 9) (N := some 52) #[true, true, true, true, true, true, true, true, true, true, false] rfl rfl (one_of HT_.out (by kernel_rfl)) (by decide) (fun K hK => ?_)
               refine goes_ Try.func49 (by kernel_rfl) rfl #[.agg #[.string x361000_2, .slice Ao28 x361001_2.length co28], .string (rdOf ByteArray.empty (rd_L8 l1 x10_2) x8_1), .int .i64 x10_2] (by rfl) rfl rfl (by (try simp only [List.map_toArray, List.map_cons, List.map_nil]); first | done | rfl | (simp only [List.length_drop, List.length_take]; rfl)) ?_
               with_reducible refine (ancepsref57_with.calls k2 x361000_2 (fun k_ => some k_ = (.slice Ao28 x361001_2.length co28 : Value).ownBlock) (.slice Ao28 x361001_2.length co28) x361001_2 (rdOf ByteArray.empty (rd_L8 l1 x10_2) x8_1) x10_2 t363 t364 w _ ?side1 ?side2 A26.out).mono ?_
               (case side1 => repeat (first | (with_reducible first | exact HB.out | apply below_alloc | apply pw_below_drewN | apply below_drew1 | refine below_set ?_ GE348.out | refine below_set ?_ GE356.out | refine below_set ?_ GE360.out) | exact HB.out))
               (case side2 => exact Kd.R_tight rfl HO_361001.out)
               rintro e w29 ⟨v365, rfl, ho0, hb, hkp⟩
               refine ⟨_, rfl, ?_⟩
               have n0_ := Aside0.mk (Kd.R_mono (ok' := fun k_ => True) (Kd.R_keptB ((Kd.R_apart' HO_357000.out (Kd.R_typed HO_361001.out) (by decide))) hkp (fun k_ hk_ hs_ => (hk_.2) hs_)) (fun k_ hk_ => trivial))
               have n1_ := Aside0.mk (Kd.S_mono (ok' := fun k_ => k_ ≠ gb360 ∧ some k_ ≠ (v365 : Value).ownBlock) (Kd.S_keptB (HO_357001.out) hkp (fun k_ hk_ hs_ => (hk_.1) hs_)) (fun k_ hk_ => ⟨hk_.1.2, fun e_ => Or.elim (ho0.1 k_ e_.symm) (fun hs_ => hk_.2.1 hs_) (fun hn_ => Nat.not_le.2 hk_.2.2 hn_)⟩))
               have n2_ := Aside0.mk (blk_kept (iB BK348) hkp (fun hs_ => (fun e_ => (Kd.R_ne HO_361001.out BK348.out (by decide)) e_) hs_))
               have n3_ := Aside0.mk (blk_kept (iB BK356) hkp (fun hs_ => (fun e_ => (Kd.R_ne HO_361001.out BK356.out (by decide)) e_) hs_))
               have n4_ := Aside0.mk (blk_kept (iB BK360) hkp (fun hs_ => (fun e_ => (Kd.R_ne HO_361001.out BK360.out (by decide)) e_) hs_))
               have n5_ := Aside0.mk (Kd.R_mono (ok' := fun k_ => True) ho0 (fun k_ hk_ => trivial))
               have n6_ := Aside0.mk (hb)
               clear HO_357000
               clear HO_357001
               clear BK348
               clear BK356
               clear BK360
               clear HB
               clear HO_361001
               have HO_357000 := n0_
               have HO_357001 := n1_
               have BK348 := n2_
               have BK356 := n3_
               have BK360 := n4_
               have HO366 := n5_
               have HB := n6_
               clear n0_ n1_ n2_ n3_ n4_ n5_ n6_
               (try clear hb)
               (try clear hkp)
               (try clear ho0)
               obtain ⟨Ao31, co31, eo31⟩ := Kd.R_slice HO366.out
               (first | subst eo31 | (injection eo31 with f1_ f2_ f3_; have f4_ := f1_.symm; have f5_ := f3_.symm; clear f1_ f2_ f3_; subst f4_; subst f5_))
               refine hK.out _ _ ⟨(blk_cell BK360.out 0).trans rfl, (blk_cell BK360.out 1).trans rfl, ((HB.out.cell (World.block_lt_of_cell? w _ hw361_0)).trans hw361_0), ((HB.out.cell (World.block_lt_of_cell? w _ hw362_0)).trans hw362_0)⟩ (fun hHeld => ?_)
               clear hK K
               refine norm_ (a' := ?_) ?_ ?_
               rotate_left
               ·show Act.put _ (some 52) _ = _
                simp only [Act.put, List.setIfInBounds_toArray, List.set_cons_zero, List.set_cons_succ, i64_w, i32_w]
                rfl
               refine last_ (i := 10) (N := none) #[true, true, true, true, true, true, true, true, true, true, true] rfl rfl (one_of HT_.out (by kernel_rfl)) (by decide) (fun K hK => ?_)
               have hs30 : w29.cell? ⟨gb360, 0, none⟩ = some (.string x361000_2) := (blk_cell BK360.out 0).trans rfl
               have hfs30 := blk_frozen BK360.out 0
               have hns30_0 := NB348_360.out
               have hns30_1 := NB356_360.out
               have hms30_0 := NB360_348.out
               have hms30_1 := NB360_356.out
               have hs32 : w29.cell? ⟨gb360, 1, none⟩ = some (.slice Ao28 x361001_2.length co28) := (blk_cell BK360.out 1).trans rfl
               have hfs32 := blk_frozen BK360.out 1
               have hns32_0 := NB348_360.out
               have hns32_1 := NB356_360.out
               have hms32_0 := NB360_348.out
               have hms32_1 := NB360_356.out
               refine skip_ (w1 := ?_) (by rfl) rfl ?_ ?_
               rotate_left
               ·go_simp
                rfl
               refine hK.out _ _ ?_
               clear hK K
               refine done_ (done_of HT_.out (by kernel_rfl)) ?_
               try go_wp2
               go_roundg k2
               case measure => have := HK1.out; have := HK2.out; omega
               case rel => exact ⟨(wrap64 (x10_2 + 1)), (t363), (t364), (.slice Ao31 t364.length co31), (by first | rfl | (simp; done) | (simp [*]; done)), H', ⟨by have := HK1.out; have := HK2.out; omega⟩, ⟨by (with_reducible repeat (first | apply Kd.R_alloc | apply Kd.R_drewN | apply Kd.R_drew)); exact Kd.R_mono (Kd.R_far (p := ⟨gb360, 1, none⟩) (Kd.R_far (p := ⟨gb360, 0, none⟩) (Kd.R_types HO_357000.out BK360.out (by decide)) (fun _ hk => hk.2) (.string t363)) (fun _ hk => hk.2) (.slice Ao31 t364.length co31)) (fun _ hk => trivial)⟩, ⟨by (with_reducible repeat (first | apply Kd.S_alloc | apply Kd.S_drewN | apply Kd.S_drew)); exact Kd.S_mono (Kd.S_far (p := ⟨gb360, 1, none⟩) (Kd.S_far (p := ⟨gb360, 0, none⟩) (Kd.S_mono HO_357001.out (fun k_ hk => (⟨hk, hk.1⟩ : _ ∧ k_ ≠ gb360))) (fun _ hk => hk.2) (.string t363)) (fun _ hk => hk.2) (.slice Ao31 t364.length co31)) (fun _ hk => ⟨hk.1.2, hk.1.1⟩)⟩, ⟨by (with_reducible repeat (first | apply Kd.R_alloc | apply Kd.R_drewN | apply Kd.R_drew)); exact Kd.R_mono (Kd.R_far (p := ⟨gb360, 1, none⟩) (Kd.R_far (p := ⟨gb360, 0, none⟩) (Kd.R_types HO366.out BK360.out (by decide)) (fun _ hk => hk.2) (.string t363)) (fun _ hk => hk.2) (.slice Ao31 t364.length co31)) (fun _ hk => trivial)⟩, ⟨by (with_reducible repeat (first | apply blk_drewN | apply blk_drew | apply blk_alloc)); refine blk_far ?_ NB348_360.out _; (with_reducible repeat (first | apply blk_drewN | apply blk_drew | apply blk_alloc)); refine blk_far ?_ NB348_360.out _; (with_reducible repeat (first | apply blk_drewN | apply blk_drew | apply blk_alloc)); exact BK348.out⟩, ⟨by (with_reducible repeat (first | apply blk_drewN | apply blk_drew | apply blk_alloc)); refine blk_far ?_ NB356_360.out _; (with_reducible repeat (first | apply blk_drewN | apply blk_drew | apply blk_alloc)); refine blk_far ?_ NB356_360.out _; (with_reducible repeat (first | apply blk_drewN | apply blk_drew | apply blk_alloc)); exact BK356.out⟩, ⟨by (with_reducible repeat (first | apply blk_drewN | apply blk_drew | apply blk_alloc)); refine blk_put (cs := #[.string t363, .slice Ao28 x361001_2.length co28]) ?_ 1 _ rfl; (with_reducible repeat (first | apply blk_drewN | apply blk_drew | apply blk_alloc)); refine blk_put (cs := #[.string x361000_2, .slice Ao28 x361001_2.length co28]) ?_ 0 _ rfl; (with_reducible repeat (first | apply blk_drewN | apply blk_drew | apply blk_alloc)); exact BK360.out⟩, ⟨by repeat (first | (with_reducible first | exact HB.out | apply below_alloc | apply pw_below_drewN | apply below_drew1 | refine below_set ?_ GE348.out | refine below_set ?_ GE356.out | refine below_set ?_ GE360.out) | exact HB.out)⟩⟩
              ·rw [if_neg c25] at H
               exact absurd H (by simp)
             ·rw [if_neg c24] at H
              exact absurd H (by simp)
            ·rw [if_neg c23] at H
             exact absurd H (by simp)
           ·rw [if_neg c22] at H
            exact absurd H (by simp)
          ·rw [if_neg c21] at H
           have c21b0 : decide (x10_2 < (l0.length : Int)) = false := decide_eq_false c21
           clear c21
           by_cases c33 : x357001_1.length < 3518437208883
           ·rw [if_pos c33] at H
            have LMc33 := Aside0.mk c33
            clear c33
            obtain ⟨y367, hy367⟩ : ∃ y_ : List (S65), y_ = (x357001_1 ++ [(⟨x361000_2, x361001_2⟩ : S65)]) := ⟨_, rfl⟩
            replace H : (ancepsref57_Collate.l0 k2 l0 l1 (wrap64 (x8_1 + 1)) y353 y367) = some (r1, r2, r3) := by first | (rw [hy367]; with_reducible exact H) | (have H2_ := (Option.bind_some _ _).symm.trans H; rw [hy367]; with_reducible exact H2_) | (have H2_ := (Option.bind_some _ _).symm.trans H; with_reducible exact H2_) | with_reducible exact H | (rw [hy367]; exact H) | exact H
            have Ny367 := Aside0.mk hy367
            clear hy367
            have H' := Aside0.mk H
            clear H
            have hnb34 := NB356_348.out
            have hnc34 := NB348_356.out
            have hnb35 := NB356_360.out
            have hnc35 := NB360_356.out
            have hcz36_0 := cZ BK356 0 (.slice Ao10 y353.length co10)
            have hcz36_1 := cZ BK356 1 (u357001)
            have hfz36_0 := blk_frozen BK356.out 0
            have hfz36_1 := blk_frozen BK356.out 1
            have hnb37 := NB360_348.out
            have hnc37 := NB348_360.out
            have hcz38_0 := cZ BK360 0 (.string x361000_2)
            have hcz38_1 := cZ BK360 1 (u361001)
            have hfz38_0 := blk_frozen BK360.out 0
            have hfz38_1 := blk_frozen BK360.out 1
            obtain ⟨Ao40, co40, eo40⟩ := Kd.R_slice HO_361001.out
            subst eo40
            go_wp2_with (first | ((with_reducible refine gate_builtin (b := .append) (xs := #[.tmp 54, .tmp 56]) rfl ?_); at_builtin; refine Kd.S_append k65 (w0 := w) w.heap.size rfl (.tmp 54) (.tmp 56) 40 65 (.agg #[(.string ⟨#[]⟩), (.slice none 0 0)]) 40 rfl Try.underlying40 info65 rfl (by decide) (by omega) u357001 x357001_1 (⟨x361000_2, x361001_2⟩ : S65) [.string x361000_2, .slice Ao40 x361001_2.length co40] (fun k_ => k_ ≠ gb360) (fun k_ => some k_ = (.slice Ao40 x361001_2.length co40 : Value).ownBlock) rfl rfl ?aP (fun k_ hk_ => ((Kd.R_mono (ok' := fun k_ => ((fun k_ => k_ ≠ gb360)) k_ ∧ some k_ ≠ (u357001 : Value).ownBlock) (Kd.R_types (Kd.R_apart' (HO_361001.out) (Kd.S_typed HO_357001.out) (by decide)) BK360.out (by decide)) (fun k_ hk => ⟨hk.2, hk.1.2⟩))).1 k_ hk_.symm) ?aF ?aO ?aB ?aS ?aL ?_; (case aP => exact k65_mkM _ _ _ (⟨x361000_2, x361001_2⟩ : S65) (Kd.R_mono (Kd.R_tight rfl (Kd.R_mono (ok' := fun k_ => ((fun k_ => k_ ≠ gb360)) k_ ∧ some k_ ≠ (u357001 : Value).ownBlock) (Kd.R_types (Kd.R_apart' (HO_361001.out) (Kd.S_typed HO_357001.out) (by decide)) BK360.out (by decide)) (fun k_ hk => ⟨hk.2, hk.1.2⟩))) (fun _ h_ => h_))); (case aB => exact (iL HB)); (case aF => exact (fun k_ hk => Kd.freshB (g := gb360) (o := .cells #[.string x361000_2, .slice Ao40 x361001_2.length co40] 65 (0, 0)) (iB BK360) k_ hk)); (case aO => exact (by (with_reducible repeat (first | apply Kd.S_alloc | apply Kd.S_drewN | apply Kd.S_drew)); exact Kd.S_mono HO_357001.out (fun k_ hk => ⟨hk.2, fun e_ => hk.1 e_⟩))); (case aS => exact (below_size (iL HB))); (case aL => have := LMc33.out; omega); intro v368 w39 ho hb hg hat; rw [← Ny367.out] at ho; have n0_ := Aside0.mk (Kd.R_over' (iR HO_357000) (Kd.S_typed (by (with_reducible repeat (first | apply Kd.S_alloc | apply Kd.S_drewN | apply Kd.S_drew)); exact HO_357001.out)) (by decide) hg); have n1_ := Aside0.mk (blk_grown (g := gb348) (o := .cells #[.slice none 0 0, .slice none 0 0] 42 (0, 0)) (iB BK348) hg (Kd.S_ne HO_357001.out BK348.out (by decide))); have n2_ := Aside0.mk (blk_grown (g := gb356) (o := .cells #[.slice Ao10 y353.length co10, u357001] 42 (0, 0)) (iB BK356) hg (Kd.S_ne HO_357001.out BK356.out (by decide))); have n3_ := Aside0.mk (blk_grown (g := gb360) (o := .cells #[.string x361000_2, .slice Ao40 x361001_2.length co40] 65 (0, 0)) (iB BK360) hg (Kd.S_away HO_357001.out (fun _ hk => hk.2))); have n4_ := Aside0.mk (hb); have n5_ := Aside0.mk (ho); clear HO_357000; clear BK348; clear BK356; clear BK360; clear HB; clear HO_357001; clear HO_361001; have HO_357000 := n0_; have BK348 := n1_; have BK356 := n2_; have BK360 := n3_; have HB := n4_; have HO369 := n5_; clear n0_ n1_ n2_ n3_ n4_ n5_; clear ho hb hg hat; obtain ⟨Ao41, co41, eo41⟩ := Kd.S_slice HO369.out; subst eo41; have hcz42_0 := cZ BK356 0 (.slice Ao10 y353.length co10); have hcz42_1 := cZ BK356 1 (u357001); have hfz42_0 := blk_frozen BK356.out 0; have hfz42_1 := blk_frozen BK356.out 1))
            go_roundg k2
            case measure => have := HK1.out; have := HK2.out; omega
            case rel => exact ⟨(wrap64 (x8_1 + 1)), (y367), (.slice Ao41 y367.length co41), (by first | rfl | (simp; done) | (simp [*]; done)), H', ⟨by have := HK1.out; have := HK2.out; omega⟩, ⟨by (with_reducible repeat (first | apply Kd.R_alloc | apply Kd.R_drewN | apply Kd.R_drew)); exact Kd.R_mono (Kd.R_far (p := ⟨gb356, 1, none⟩) (Kd.R_types HO_357000.out BK356.out (by decide)) (fun _ hk => hk.2) (.slice Ao41 y367.length co41)) (fun _ hk => trivial)⟩, ⟨by (with_reducible repeat (first | apply Kd.S_alloc | apply Kd.S_drewN | apply Kd.S_drew)); exact Kd.S_mono (Kd.S_far (p := ⟨gb356, 1, none⟩) (Kd.S_types HO369.out BK356.out (by decide)) (fun _ hk => hk.2) (.slice Ao41 y367.length co41)) (fun _ hk => trivial)⟩, ⟨by (with_reducible repeat (first | apply blk_drewN | apply blk_drew | apply blk_alloc)); refine blk_far ?_ NB348_356.out _; (with_reducible repeat (first | apply blk_drewN | apply blk_drew | apply blk_alloc)); exact BK348.out⟩, ⟨by (with_reducible repeat (first | apply blk_drewN | apply blk_drew | apply blk_alloc)); refine blk_put (cs := #[.slice Ao10 y353.length co10, u357001]) ?_ 1 _ rfl; (with_reducible repeat (first | apply blk_drewN | apply blk_drew | apply blk_alloc)); exact BK356.out⟩, ⟨by repeat (first | (with_reducible first | exact HB.out | apply below_alloc | apply pw_below_drewN | apply below_drew1 | refine below_set ?_ GE348.out | refine below_set ?_ GE356.out | refine below_set ?_ GE360.out) | exact HB.out)⟩⟩
           ·rw [if_neg c33] at H
            exact absurd H (by simp)
       ·rw [if_neg c16] at H
        exact absurd H (by simp)
      ·rw [if_neg c15] at H
       have c15b0 : decide (x8_1 < ((rd_L8 l1 0).length : Int)) = false := decide_eq_false c15
       clear c15
       simp only [Option.some.injEq, Prod.mk.injEq] at H
       obtain ⟨rfl, rfl, rfl⟩ := H
       have p357 : 0 ≤ (0 : Int) := (by omega)
       have q357 : 0 < (l1.length : Int) := of_decide_eq_true (by first | (with_reducible assumption) | assumption)
       obtain ⟨ad357, A357_0, c357_0, e357, hx357_0, hl357_0, hi357_0⟩ := at_L8 HR1.out 0 p357 q357
       cases e357
       have qi357 : (0 < l1.length) = True := eq_true (by omega)
       (try rw [show ((0 : Int)).toNat = 0 from rfl] at hx357_0)
       (try rw [Addr.add_zero'] at hx357_0)
       replace hx357_0 := (HB.out.cell (World.block_lt_of_cell? w _ hx357_0)).trans hx357_0
       have HR357_0 := Aside0.mk hi357_0
       have HC357_0 := Aside0.mk hl357_0
       clear hi357_0 hl357_0
       replace p357 := eq_true p357
       replace q357 := eq_true q357
       have hnb43 := NB356_348.out
       have hnc43 := NB348_356.out
       have hcz44_0 := cZ BK356 0 (.slice Ao10 y353.length co10)
       have hcz44_1 := cZ BK356 1 (u357001)
       have hfz44_0 := blk_frozen BK356.out 0
       have hfz44_1 := blk_frozen BK356.out 1
       have hcz45_0 := cZ BK348 0 (.slice none 0 0)
       have hcz45_1 := cZ BK348 1 (.slice none 0 0)
       have hfz45_0 := blk_frozen BK348.out 0
       have hfz45_1 := blk_frozen BK348.out 1
       obtain ⟨Ao46, co46, eo46⟩ := Kd.S_slice HO_357001.out
       subst eo46
       go_wp2
       refine bodyPost_ret (results_ct rfl _ _ gb348 42 #[.slice Ao10 y353.length co10, .slice Ao46 x357001_1.length co46] (0, 0) _ rfl (by (with_reducible repeat (first | apply blk_drewN | apply blk_drew | apply blk_alloc)); refine blk_put (cs := #[.slice Ao10 y353.length co10, .slice none 0 0]) ?_ 1 _ rfl; (with_reducible repeat (first | apply blk_drewN | apply blk_drew | apply blk_alloc)); refine blk_put (cs := #[.slice none 0 0, .slice none 0 0]) ?_ 0 _ rfl; (with_reducible repeat (first | apply blk_drewN | apply blk_drew | apply blk_alloc)); exact BK348.out) Try.underlying42 rfl (by kernel_rfl)) rfl ?_
       exact ⟨_, _, by first | rfl | (simp [errW_none, errW_some] <;> rfl) | (simp [*, errW_none, errW_some] <;> rfl), by (with_reducible repeat (first | apply Kd.R_alloc | apply Kd.R_drewN | apply Kd.R_drew)); exact Kd.R_mono (Kd.R_far (p := ⟨gb348, 1, none⟩) (Kd.R_far (p := ⟨gb348, 0, none⟩) (Kd.R_types HO_357000.out BK348.out (by decide)) (fun _ hk => hk.2) (.slice Ao10 y353.length co10)) (fun _ hk => hk.2) (.slice Ao46 x357001_1.length co46)) (fun _ hk => trivial), by (with_reducible repeat (first | apply Kd.S_alloc | apply Kd.S_drewN | apply Kd.S_drew)); exact Kd.S_mono (Kd.S_far (p := ⟨gb348, 1, none⟩) (Kd.S_far (p := ⟨gb348, 0, none⟩) (Kd.S_types HO_357001.out BK348.out (by decide)) (fun _ hk => hk.2) (.slice Ao10 y353.length co10)) (fun _ hk => hk.2) (.slice Ao46 x357001_1.length co46)) (fun _ hk => trivial), by repeat (first | (with_reducible first | exact HB.out | apply below_alloc | apply pw_below_drewN | apply below_drew1 | refine below_set ?_ GE348.out | refine below_set ?_ GE356.out) | exact HB.out)⟩
     ·rw [if_neg c14] at H
      exact absurd H (by simp)
  ·rw [if_neg c5] at H
   exact absurd H (by simp)
 ·rw [if_neg c4] at H
  have c4b0 : (t349 == 0) = false := beq_eq_false_iff_ne.mpr c4
  have c4b1 : (t349 != 0) = true := bne_iff_ne.mpr c4
  simp only [Option.some.injEq, Prod.mk.injEq] at H
  obtain ⟨rfl, rfl, rfl⟩ := H
  go_enter Try.func18, Try.ntmps18
  go_wp2_with (first | ((with_reducible refine gate_dst (N := 4) rfl ?_); refine bX 4 #[.slice none 0 0, .slice none 0 0] 42 ?_; intro gb348 hg w47 hbox hb; have n0_ := jL HB hb; have n1_ := Aside0.mk (hbox); have n2_ := Aside0.mk ((by rw [hg]; exact (below_size (iL HB)) : w.heap.size ≤ gb348)); have n3_ := Aside0.mk ((by rw [hg]; exact (below_size (iL HB)) : w.heap.size ≤ gb348)); clear HB; have HB := n0_; have BK348 := n1_; have GW348 := n2_; have GE348 := n3_; clear n0_ n1_ n2_ n3_; clear hb hbox hg) | ((with_reducible refine gate_callee (f := 48) rfl ?_); refine gL_ (some 13) Try.func48 #[.slice A0 l0.length c0, .slice A1 l1.length c1] ?_; (with_reducible refine (ancepsref57_given.calls k _ _ l0 _ _ l1 t349 _ ?side1 ?side2 ?side3 ?side4 A3.out).mono ?_); (case side1 => exact iC HR0 HB); (case side2 => exact HC0.out); (case side3 => exact iC HR1 HB); (case side4 => exact HC1.out); rintro e w' ⟨rfl, ⟨nd, rfl⟩⟩; refine ⟨_, rfl, ?_⟩; (try (rw [drewN_self w47]; generalize hq_ : World.drewN w47 _ = w47; have n0_ : Aside0 (w47.heap[gb348]? = some (.cells #[.slice none 0 0, .slice none 0 0] 42 (0, 0))) := ⟨by rw [← hq_]; exact (iB BK348)⟩; have n1_ : Aside0 (Below w.heap.size w w47) := ⟨by rw [← hq_]; exact (iL HB)⟩; clear BK348 HB hq_; have BK348 := n0_; have HB := n1_; clear n0_ n1_)); have hcz48_0 := cZ BK348 0 (.slice none 0 0); have hcz48_1 := cZ BK348 1 (.slice none 0 0); have hfz48_0 := blk_frozen BK348.out 0; have hfz48_1 := blk_frozen BK348.out 1))
  refine bodyPost_ret (results_ct rfl _ _ gb348 42 #[.slice none 0 0, .slice none 0 0] (0, 0) _ rfl (by (with_reducible repeat (first | apply blk_drewN | apply blk_drew | apply blk_alloc)); refine blk_put (cs := #[.slice none 0 0, .slice none 0 0]) ?_ 1 _ rfl; (with_reducible repeat (first | apply blk_drewN | apply blk_drew | apply blk_alloc)); refine blk_put (cs := #[.slice none 0 0, .slice none 0 0]) ?_ 0 _ rfl; (with_reducible repeat (first | apply blk_drewN | apply blk_drew | apply blk_alloc)); exact BK348.out) Try.underlying42 rfl (by kernel_rfl)) rfl ?_
  exact ⟨_, _, by first | rfl | (simp [errW_none, errW_some] <;> rfl) | (simp [*, errW_none, errW_some] <;> rfl), by first | exact Kd.R_nil _ _ _ _ _ | exact Kd.N_nil _ _ _ _ _ | exact Kd.V_nil _ _ _ _ _ | exact Kd.Q_nil _ _ _ _ _ | exact Kd.S_nil _ _ _ _ _, by first | exact Kd.S_nil _ _ _ _ _ | exact Kd.N_nil _ _ _ _ _ | exact Kd.V_nil _ _ _ _ _ | exact Kd.Q_nil _ _ _ _ _ | exact Kd.R_nil _ _ _ _ _, by repeat (first | (with_reducible first | exact HB.out | apply below_alloc | apply pw_below_drewN | apply below_drew1 | refine below_set ?_ GE348.out) | exact HB.out)⟩

end Go.Proofs.Ytmjigfoldeekmaa.X
