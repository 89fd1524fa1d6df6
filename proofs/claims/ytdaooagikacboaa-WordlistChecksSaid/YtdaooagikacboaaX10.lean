-- and more
-- shortened
-- thinned
-- printed by this session's xprint.py: out of the translation, by the kit's print with additions; Lean checks it
import Derived.Test.YtdaooagikacboaaXE
import Derived.Test.YtdaooagikacboaaXC
import Derived.Test.YtdaooagikacboaaXD
import Derived.Test.YtdaooagikacboaaWN
import Derived.Test.YtdaooagikacboaaWShare
import Derived.Test.YtdaooagikacboaaWRepsOne
import Derived.Test.YtdaooagikacboaaWGuard
import Derived.Test.YtdaooagikacboaaX0
import Derived.Test.YtdaooagikacboaaX8
import Derived.Test.YtdaooagikacboaaX9
import Derived.Test.YtdaooagikacboaaXA
namespace Go.Proofs.Ytdaooagikacboaa.X
open Go.RowKit Go.Proofs.YtdaooagikacboaaW.PrintWords Go.Proofs.YtdaooagikacboaaW.PrintLast Go.Proofs.YtdaooagikacboaaW.PrintMore
attribute [local go_sem] max2_int min2_int max_two min_two max_three min_three max_four min_four isSome_setCell binOp_gtr_str binOp_leq_str binOp_geq_str   -- for this text's walks alone
set_option linter.unusedVariables false
set_option linter.unusedSimpArgs false

/-! ### ancepsref54_CheckTree: function 21 -/
mutual
def ancepsref54_CheckTree.j0 : Nat → List (S46) → Bool → List ByteArray → Option (Bool)
 | 0, _, _, _ => none
 | k + 1, x1, x24, x278000 => if x24 = true then (some false) else (if 0 ≤ (x1.length : Int) then (if ((x1.length : Int) : Int).toNat ≤ 35184372088832 then (ancepsref54_CheckTree.l0 k x1 0 (List.replicate ((x1.length : Int) : Int).toNat 0) x278000) else (none)) else (none))
def ancepsref54_CheckTree.l0 : Nat → List (S46) → Int → List Int → List ByteArray → Option (Bool)
 | 0, _, _, _, _ => none
 | k + 1, x1, x6, x27, x278000 => if x6 < (x1.length : Int) then (if x6 > 0 then (if 0 ≤ x6 then (if (((rd_T46 x1 x6).f2).length : Int) = 0 then (ancepsref54_CheckTree.j2 k x1 x27 x6 (!((rd_T46 x1 x6).f1)) x278000) else (ancepsref54_CheckTree.j2 k x1 x27 x6 false x278000)) else (none)) else (ancepsref54_CheckTree.j2 k x1 x27 x6 false x278000)) else (ancepsref54_CheckTree.l2 k x1 x27 1 x278000)
def ancepsref54_CheckTree.j2 : Nat → List (S46) → List Int → Int → Bool → List ByteArray → Option (Bool)
 | 0, _, _, _, _, _ => none
 | k + 1, x1, x5, x6, x52, x278000 => if x52 = true then (some false) else (if x6 > 0 then (if 0 ≤ x6 then (if x6 < (x1.length : Int) then (if ((rd_T46 x1 x6).f0) < 0 then (ancepsref54_CheckTree.j3 k x1 x5 x6 true x278000) else (if ((rd_T46 x1 x6).f0) > 255 then (ancepsref54_CheckTree.j3 k x1 x5 x6 true x278000) else ((ancepsref01_Letter.f k (((rd_T46 x1 x6).f0) % 256)).bind fun t288 => (ancepsref54_CheckTree.j3 k x1 x5 x6 (!t288) x278000)))) else (none)) else (none)) else (ancepsref54_CheckTree.j3 k x1 x5 x6 false x278000))
def ancepsref54_CheckTree.j3 : Nat → List (S46) → List Int → Int → Bool → List ByteArray → Option (Bool)
 | 0, _, _, _, _, _ => none
 | k + 1, x1, x5, x6, x80, x278000 => if x80 = true then (some false) else (ancepsref54_CheckTree.l1 k x1 x5 x6 0 x278000)
def ancepsref54_CheckTree.l1 : Nat → List (S46) → List Int → Int → Int → List ByteArray → Option (Bool)
 | 0, _, _, _, _, _ => none
 | k + 1, x1, x5, x6, x7, x278000 => if 0 ≤ x6 then (if x6 < (x1.length : Int) then (if x7 < (((rd_T46 x1 x6).f2).length : Int) then (if 0 ≤ x7 then (if (rd ((rd_T46 x1 x6).f2) x7) ≤ x6 then (some false) else (if (rd ((rd_T46 x1 x6).f2) x7) ≥ (x1.length : Int) then (some false) else (if x7 > 0 then (if 0 ≤ (rd ((rd_T46 x1 x6).f2) x7) then (if (rd ((rd_T46 x1 x6).f2) x7) < (x1.length : Int) then (if 0 ≤ (wrap64 (x7 - 1)) then (if (wrap64 (x7 - 1)) < (((rd_T46 x1 x6).f2).length : Int) then (if 0 ≤ (rd ((rd_T46 x1 x6).f2) (wrap64 (x7 - 1))) then (if (rd ((rd_T46 x1 x6).f2) (wrap64 (x7 - 1))) < (x1.length : Int) then (if ((rd_T46 x1 (rd ((rd_T46 x1 x6).f2) x7)).f0) ≤ ((rd_T46 x1 (rd ((rd_T46 x1 x6).f2) (wrap64 (x7 - 1)))).f0) then (some false) else (if (rd ((rd_T46 x1 x6).f2) x7) < (x5.length : Int) then (ancepsref54_CheckTree.l1 k x1 (x5.set ((rd ((rd_T46 x1 x6).f2) x7) : Int).toNat (wrap64 ((rd x5 (rd ((rd_T46 x1 x6).f2) x7)) + 1))) x6 (wrap64 (x7 + 1)) x278000) else (none))) else (none)) else (none)) else (none)) else (none)) else (none)) else (none)) else (if 0 ≤ (rd ((rd_T46 x1 x6).f2) x7) then (if (rd ((rd_T46 x1 x6).f2) x7) < (x5.length : Int) then (ancepsref54_CheckTree.l1 k x1 (x5.set ((rd ((rd_T46 x1 x6).f2) x7) : Int).toNat (wrap64 ((rd x5 (rd ((rd_T46 x1 x6).f2) x7)) + 1))) x6 (wrap64 (x7 + 1)) x278000) else (none)) else (none))))) else (none)) else (ancepsref54_CheckTree.l0 k x1 (wrap64 (x6 + 1)) x5 x278000)) else (none)) else (none)
def ancepsref54_CheckTree.l2 : Nat → List (S46) → List Int → Int → List ByteArray → Option (Bool)
 | 0, _, _, _, _ => none
 | k + 1, x1, x5, x9, x278000 => if x9 < (x1.length : Int) then (if 0 ≤ x9 then (if x9 < (x5.length : Int) then (if (rd x5 x9) = 1 then (ancepsref54_CheckTree.l2 k x1 x5 (wrap64 (x9 + 1)) x278000) else (some false)) else (none)) else (none)) else ((ancepsref54_spell.f k x1 0 ([] : List Int)).bind fun t301 => ((ancepsref54_Strings.f k t301 x278000).bind fun t304 => (some t304)))
end
def ancepsref54_CheckTree.f (k : Nat) (l0_0 : List ByteArray) (l1 : List (S46)) : Option (Bool) := (ancepsref54_Valid.f k l0_0).bind fun t278 => (if t278 = 0 then (if (l1.length : Int) = 0 then (ancepsref54_CheckTree.j0 k l1 true l0_0) else (if 0 < (l1.length : Int) then (ancepsref54_CheckTree.j0 k l1 (((rd_T46 l1 0).f0) != 0) l0_0) else (none))) else (ancepsref54_CheckTree.j0 k l1 true l0_0))
theorem ancepsref54_CheckTree.mono_l : ∀ k, (∀ y0 y1 y2, LeO (ancepsref54_CheckTree.j0 k y0 y1 y2) (ancepsref54_CheckTree.j0 (k + 1) y0 y1 y2)) ∧ (∀ y0 y1 y2 y3, LeO (ancepsref54_CheckTree.l0 k y0 y1 y2 y3) (ancepsref54_CheckTree.l0 (k + 1) y0 y1 y2 y3)) ∧ (∀ y0 y1 y2 y3 y4, LeO (ancepsref54_CheckTree.j2 k y0 y1 y2 y3 y4) (ancepsref54_CheckTree.j2 (k + 1) y0 y1 y2 y3 y4)) ∧ (∀ y0 y1 y2 y3 y4, LeO (ancepsref54_CheckTree.j3 k y0 y1 y2 y3 y4) (ancepsref54_CheckTree.j3 (k + 1) y0 y1 y2 y3 y4)) ∧ (∀ y0 y1 y2 y3 y4, LeO (ancepsref54_CheckTree.l1 k y0 y1 y2 y3 y4) (ancepsref54_CheckTree.l1 (k + 1) y0 y1 y2 y3 y4)) ∧ (∀ y0 y1 y2 y3, LeO (ancepsref54_CheckTree.l2 k y0 y1 y2 y3) (ancepsref54_CheckTree.l2 (k + 1) y0 y1 y2 y3))
 | 0 => ⟨fun _ _ _ r h => by simp [ancepsref54_CheckTree.j0] at h, fun _ _ _ _ r h => by simp [ancepsref54_CheckTree.l0] at h, fun _ _ _ _ _ r h => by simp [ancepsref54_CheckTree.j2] at h, fun _ _ _ _ _ r h => by simp [ancepsref54_CheckTree.j3] at h, fun _ _ _ _ _ r h => by simp [ancepsref54_CheckTree.l1] at h, fun _ _ _ _ r h => by simp [ancepsref54_CheckTree.l2] at h⟩
 | k + 1 => by
  obtain ⟨ih0, ih1, ih2, ih3, ih4, ih5⟩ := ancepsref54_CheckTree.mono_l k
  refine ⟨?_, ?_, ?_, ?_, ?_, ?_⟩
  ·intro y0 y1 y2
   unfold ancepsref54_CheckTree.j0
   repeat' first
   | (with_reducible exact ih0 _ _ _)
   | (with_reducible exact ih1 _ _ _ _)
   | (with_reducible exact ih2 _ _ _ _ _)
   | (with_reducible exact ih3 _ _ _ _ _)
   | (with_reducible exact ih4 _ _ _ _ _)
   | (with_reducible exact ih5 _ _ _ _)
   | (with_reducible exact ancepsref01_Letter.mono _ _)
   | (with_reducible exact ancepsref54_Strings.mono _ _ _)
   | (with_reducible exact ancepsref54_Valid.mono _ _)
   | (with_reducible exact ancepsref54_spell.mono _ _ _ _)
   | (with_reducible exact LeO.refl _)
   | (with_reducible exact LeO.none _)
   | (with_reducible refine LeO.ite ?_ ?_)
   | (with_reducible refine LeO.bind ?_ (fun _ => ?_))
   | exact ih0 _ _ _
   | exact ih1 _ _ _ _
   | exact ih2 _ _ _ _ _
   | exact ih3 _ _ _ _ _
   | exact ih4 _ _ _ _ _
   | exact ih5 _ _ _ _
   | exact ancepsref01_Letter.mono _ _
   | exact ancepsref54_Strings.mono _ _ _
   | exact ancepsref54_Valid.mono _ _
   | exact ancepsref54_spell.mono _ _ _ _
   | exact LeO.none _
   | refine LeO.ite ?_ ?_
   | refine LeO.bind ?_ (fun _ => ?_)
  ·intro y0 y1 y2 y3
   unfold ancepsref54_CheckTree.l0
   repeat' first
   | (with_reducible exact ih0 _ _ _)
   | (with_reducible exact ih1 _ _ _ _)
   | (with_reducible exact ih2 _ _ _ _ _)
   | (with_reducible exact ih3 _ _ _ _ _)
   | (with_reducible exact ih4 _ _ _ _ _)
   | (with_reducible exact ih5 _ _ _ _)
   | (with_reducible exact ancepsref01_Letter.mono _ _)
   | (with_reducible exact ancepsref54_Strings.mono _ _ _)
   | (with_reducible exact ancepsref54_Valid.mono _ _)
   | (with_reducible exact ancepsref54_spell.mono _ _ _ _)
   | (with_reducible exact LeO.refl _)
   | (with_reducible exact LeO.none _)
   | (with_reducible refine LeO.ite ?_ ?_)
   | (with_reducible refine LeO.bind ?_ (fun _ => ?_))
   | exact ih0 _ _ _
   | exact ih1 _ _ _ _
   | exact ih2 _ _ _ _ _
   | exact ih3 _ _ _ _ _
   | exact ih4 _ _ _ _ _
   | exact ih5 _ _ _ _
   | exact ancepsref01_Letter.mono _ _
   | exact ancepsref54_Strings.mono _ _ _
   | exact ancepsref54_Valid.mono _ _
   | exact ancepsref54_spell.mono _ _ _ _
   | exact LeO.none _
   | refine LeO.ite ?_ ?_
   | refine LeO.bind ?_ (fun _ => ?_)
  ·intro y0 y1 y2 y3 y4
   unfold ancepsref54_CheckTree.j2
   repeat' first
   | (with_reducible exact ih0 _ _ _)
   | (with_reducible exact ih1 _ _ _ _)
   | (with_reducible exact ih2 _ _ _ _ _)
   | (with_reducible exact ih3 _ _ _ _ _)
   | (with_reducible exact ih4 _ _ _ _ _)
   | (with_reducible exact ih5 _ _ _ _)
   | (with_reducible exact ancepsref01_Letter.mono _ _)
   | (with_reducible exact ancepsref54_Strings.mono _ _ _)
   | (with_reducible exact ancepsref54_Valid.mono _ _)
   | (with_reducible exact ancepsref54_spell.mono _ _ _ _)
   | (with_reducible exact LeO.refl _)
   | (with_reducible exact LeO.none _)
   | (with_reducible refine LeO.ite ?_ ?_)
   | (with_reducible refine LeO.bind ?_ (fun _ => ?_))
   | exact ih0 _ _ _
   | exact ih1 _ _ _ _
   | exact ih2 _ _ _ _ _
   | exact ih3 _ _ _ _ _
   | exact ih4 _ _ _ _ _
   | exact ih5 _ _ _ _
   | exact ancepsref01_Letter.mono _ _
   | exact ancepsref54_Strings.mono _ _ _
   | exact ancepsref54_Valid.mono _ _
   | exact ancepsref54_spell.mono _ _ _ _
   | exact LeO.none _
   | refine LeO.ite ?_ ?_
   | refine LeO.bind ?_ (fun _ => ?_)
  ·intro y0 y1 y2 y3 y4
   unfold ancepsref54_CheckTree.j3
   repeat' first
   | (with_reducible exact ih0 _ _ _)
   | (with_reducible exact ih1 _ _ _ _)
   | (with_reducible exact ih2 _ _ _ _ _)
   | (with_reducible exact ih3 _ _ _ _ _)
   | (with_reducible exact ih4 _ _ _ _ _)
   | (with_reducible exact ih5 _ _ _ _)
   | (with_reducible exact ancepsref01_Letter.mono _ _)
   | (with_reducible exact ancepsref54_Strings.mono _ _ _)
   | (with_reducible exact ancepsref54_Valid.mono _ _)
   | (with_reducible exact ancepsref54_spell.mono _ _ _ _)
   | (with_reducible exact LeO.refl _)
   | (with_reducible exact LeO.none _)
   | (with_reducible refine LeO.ite ?_ ?_)
   | (with_reducible refine LeO.bind ?_ (fun _ => ?_))
   | exact ih0 _ _ _
   | exact ih1 _ _ _ _
   | exact ih2 _ _ _ _ _
   | exact ih3 _ _ _ _ _
   | exact ih4 _ _ _ _ _
   | exact ih5 _ _ _ _
   | exact ancepsref01_Letter.mono _ _
   | exact ancepsref54_Strings.mono _ _ _
   | exact ancepsref54_Valid.mono _ _
   | exact ancepsref54_spell.mono _ _ _ _
   | exact LeO.none _
   | refine LeO.ite ?_ ?_
   | refine LeO.bind ?_ (fun _ => ?_)
  ·intro y0 y1 y2 y3 y4
   unfold ancepsref54_CheckTree.l1
   repeat' first
   | (with_reducible exact ih0 _ _ _)
   | (with_reducible exact ih1 _ _ _ _)
   | (with_reducible exact ih2 _ _ _ _ _)
   | (with_reducible exact ih3 _ _ _ _ _)
   | (with_reducible exact ih4 _ _ _ _ _)
   | (with_reducible exact ih5 _ _ _ _)
   | (with_reducible exact ancepsref01_Letter.mono _ _)
   | (with_reducible exact ancepsref54_Strings.mono _ _ _)
   | (with_reducible exact ancepsref54_Valid.mono _ _)
   | (with_reducible exact ancepsref54_spell.mono _ _ _ _)
   | (with_reducible exact LeO.refl _)
   | (with_reducible exact LeO.none _)
   | (with_reducible refine LeO.ite ?_ ?_)
   | (with_reducible refine LeO.bind ?_ (fun _ => ?_))
   | exact ih0 _ _ _
   | exact ih1 _ _ _ _
   | exact ih2 _ _ _ _ _
   | exact ih3 _ _ _ _ _
   | exact ih4 _ _ _ _ _
   | exact ih5 _ _ _ _
   | exact ancepsref01_Letter.mono _ _
   | exact ancepsref54_Strings.mono _ _ _
   | exact ancepsref54_Valid.mono _ _
   | exact ancepsref54_spell.mono _ _ _ _
   | exact LeO.none _
   | refine LeO.ite ?_ ?_
   | refine LeO.bind ?_ (fun _ => ?_)
  ·intro y0 y1 y2 y3
   unfold ancepsref54_CheckTree.l2
   repeat' first
   | (with_reducible exact ih0 _ _ _)
   | (with_reducible exact ih1 _ _ _ _)
   | (with_reducible exact ih2 _ _ _ _ _)
   | (with_reducible exact ih3 _ _ _ _ _)
   | (with_reducible exact ih4 _ _ _ _ _)
   | (with_reducible exact ih5 _ _ _ _)
   | (with_reducible exact ancepsref01_Letter.mono _ _)
   | (with_reducible exact ancepsref54_Strings.mono _ _ _)
   | (with_reducible exact ancepsref54_Valid.mono _ _)
   | (with_reducible exact ancepsref54_spell.mono _ _ _ _)
   | (with_reducible exact LeO.refl _)
   | (with_reducible exact LeO.none _)
   | (with_reducible refine LeO.ite ?_ ?_)
   | (with_reducible refine LeO.bind ?_ (fun _ => ?_))
   | exact ih0 _ _ _
   | exact ih1 _ _ _ _
   | exact ih2 _ _ _ _ _
   | exact ih3 _ _ _ _ _
   | exact ih4 _ _ _ _ _
   | exact ih5 _ _ _ _
   | exact ancepsref01_Letter.mono _ _
   | exact ancepsref54_Strings.mono _ _ _
   | exact ancepsref54_Valid.mono _ _
   | exact ancepsref54_spell.mono _ _ _ _
   | exact LeO.none _
   | refine LeO.ite ?_ ?_
   | refine LeO.bind ?_ (fun _ => ?_)
theorem ancepsref54_CheckTree.mono : ∀ a0 a1 k, LeO (ancepsref54_CheckTree.f k a0 a1) (ancepsref54_CheckTree.f (k + 1) a0 a1) := by
 intro a0 a1 k
 obtain ⟨ih0, ih1, ih2, ih3, ih4, ih5⟩ := ancepsref54_CheckTree.mono_l k
 unfold ancepsref54_CheckTree.f
 repeat' first
   | (with_reducible exact ih0 _ _ _)
   | (with_reducible exact ih1 _ _ _ _)
   | (with_reducible exact ih2 _ _ _ _ _)
   | (with_reducible exact ih3 _ _ _ _ _)
   | (with_reducible exact ih4 _ _ _ _ _)
   | (with_reducible exact ih5 _ _ _ _)
   | (with_reducible exact ancepsref01_Letter.mono _ _)
   | (with_reducible exact ancepsref54_Strings.mono _ _ _)
   | (with_reducible exact ancepsref54_Valid.mono _ _)
   | (with_reducible exact ancepsref54_spell.mono _ _ _ _)
   | (with_reducible exact LeO.refl _)
   | (with_reducible exact LeO.none _)
   | (with_reducible refine LeO.ite ?_ ?_)
   | (with_reducible refine LeO.bind ?_ (fun _ => ?_))
   | exact ih0 _ _ _
   | exact ih1 _ _ _ _
   | exact ih2 _ _ _ _ _
   | exact ih3 _ _ _ _ _
   | exact ih4 _ _ _ _ _
   | exact ih5 _ _ _ _
   | exact ancepsref01_Letter.mono _ _
   | exact ancepsref54_Strings.mono _ _ _
   | exact ancepsref54_Valid.mono _ _
   | exact ancepsref54_spell.mono _ _ _ _
   | exact LeO.none _
   | refine LeO.ite ?_ ?_
   | refine LeO.bind ?_ (fun _ => ?_)
def ancepsref54_CheckTree.T15 : Bool × List (List Nat × List Nat) := (true, [([], []), ([], []), ([0, 1], [0, 1]), ([2], [2]), ([3], [3]), ([3], [3]), ([5, 3], [3, 5]), ([4, 6, 3], [3, 4, 6]), ([3, 7], [3, 7]), ([8, 3], [8]), ([9], [9]), ([10, 9], [9, 10]), ([11, 9, 9], [9, 11]), ([12], [12]), ([12], [12]), ([13, 14, 12], [12, 13, 14]), ([15, 12], [12, 15]), ([16, 12], [12, 16]), ([12], [12]), ([12], [12]), ([12], [12]), ([19, 20, 12], [12, 19, 20]), ([21, 12], [12, 21]), ([22, 12], [12, 22]), ([12], [12]), ([24, 12], [12, 24]), ([23, 25, 12], [12, 23, 25]), ([26, 12], [12, 26]), ([18, 27, 12], [12, 18, 27]), ([28, 12], [12, 28]), ([29, 12], [12, 29]), ([17, 30, 12], [12, 17, 30]), ([12, 31, 9], [9, 12, 31]), ([9, 32], [9, 32])])
def ancepsref54_CheckTree.B15 : List Nat := [0, 0, 3, 7, 15, 15, 47, 127, 255, 511, 1023, 2047, 4095, 8191, 8191, 32767, 65535, 131071, 8191, 8191, 8191, 1581055, 3678207, 7872511, 8191, 16785407, 66592767, 133701631, 268181503, 536616959, 1073487871, 2147483647, 4294967295, 8589934591]
theorem ancepsref54_CheckTree.tab15 : rtab .any (opsOf Try.f21 15) = ancepsref54_CheckTree.T15 := by kernel_rfl
theorem ancepsref54_CheckTree.bits15 : waitsOk ancepsref54_CheckTree.T15.2 ancepsref54_CheckTree.B15 = true := by kernel_rfl
set_option maxHeartbeats 8000000 in
set_option maxRecDepth 100000 in
theorem ancepsref54_CheckTree.calls (k : Nat) (A0_0 : Option Addr) (c0_0 : Nat) (l0_0 : List ByteArray) (A1 : Option Addr) (c1 : Nat) (l1 : List (S46)) (r : Bool) (w : World) (hr0_0 : Kd.C Kd.string w A0_0 l0_0.length l0_0) (hc0_0 : l0_0.length ≤ c0_0) (hr1 : Kd.C k46 w A1 l1.length l1) (hc1 : l1.length ≤ c1) (h : ancepsref54_CheckTree.f k l0_0 l1 = some r) :
  Calls Try.prog 21 #[.agg #[.slice A0_0 l0_0.length c0_0], .slice A1 l1.length c1] w fun e w' => e = .returned (.bool r) ∧ Below w.heap.size w w' := by
 have hu26 := Try.underlying26
 have HR0_0 := Aside0.mk hr0_0
 have HC0_0 := Aside0.mk hc0_0
 clear hr0_0 hc0_0
 have HR1 := Aside0.mk hr1
 have HC1 := Aside0.mk hc1
 clear hr1 hc1
 have HB := Aside0.mk (Below.refl w.heap.size w)
 have H : ((ancepsref54_Valid.f k l0_0).bind fun t278 => (if t278 = 0 then (if (l1.length : Int) = 0 then (ancepsref54_CheckTree.j0 k l1 true l0_0) else (if 0 < (l1.length : Int) then (ancepsref54_CheckTree.j0 k l1 (((rd_T46 l1 0).f0) != 0) l0_0) else (none))) else (ancepsref54_CheckTree.j0 k l1 true l0_0))) = some r := h
 clear h
 have HC3 := Aside0.mk H
 clear H
 go_enter Try.func21, Try.ntmps21
 go_upto_region 1 with (first | ((with_reducible refine gate_dst (N := 2) rfl ?_); (try (refine gate_guard (by rfl) ?_; dsimp only)); refine bX 2 #[.slice A0_0 l0_0.length c0_0] 26 ?_; intro gb277 hg w4 hbox hb; have n0_ := jL HB hb; have n1_ := Aside0.mk (hbox); have n2_ := Aside0.mk ((by rw [hg]; exact (below_size (iL HB)) : w.heap.size ≤ gb277)); have n3_ := Aside0.mk ((by rw [hg]; exact (below_size (iL HB)) : w.heap.size ≤ gb277)); clear HB; have HB := n0_; have BK277 := n1_; have GW277 := n2_; have GE277 := n3_; clear n0_ n1_ n2_ n3_; clear hb hbox hg))
 (try simp only [Act.put, List.setIfInBounds_toArray, List.set_cons_zero, List.set_cons_succ])
 go_cut [24] (fun v24 wc => ∃ (kq : Nat) (x24_2 : Bool), v24 = .bool x24_2 ∧ Aside0 (ancepsref54_CheckTree.j0 kq l1 x24_2 l0_0 = some r) ∧ Aside0 (kq ≤ k) ∧ Aside0 (wc.heap[gb277]? = some (.cells #[(.slice A0_0 l0_0.length c0_0)] 26 (0, 0))) ∧ Aside0 (Below w.heap.size w wc))
 case first =>
  have H := HC3.out
  clear HC3
  replace H := Option.bind_eq_some_iff.mp H
  obtain ⟨t278, A50, H⟩ := H
  try dsimp only at H
  have A5 := Aside0.mk A50
  clear A50
  by_cases c6 : t278 = 0
  ·rw [if_pos c6] at H
   have c6b0 : (t278 == 0) = true := beq_iff_eq.mpr c6
   have c6b1 : (t278 != 0) = false := bne_eq_false_iff_eq.mpr c6
   clear c6
   (first | rw [c6b0] | (simp only [i64_w, i32_w]; rw [c6b0]) | skip)
   by_cases c7 : (l1.length : Int) = 0
   ·rw [if_pos c7] at H
    have c7b0 : ((l1.length : Int) == 0) = true := beq_iff_eq.mpr c7
    have c7b1 : ((l1.length : Int) != 0) = false := bne_eq_false_iff_eq.mpr c7
    clear c7
    have H' := Aside0.mk H
    clear H
    have hcz8_0 := cZ BK277 0 (.slice A0_0 l0_0.length c0_0)
    have hfz8_0 := blk_frozen BK277.out 0
    go_wp2_with (first | ((with_reducible refine gate_callee (f := 27) rfl ?_); refine gL_ (some 11) Try.func27 #[.agg #[.slice A0_0 l0_0.length c0_0]] ?_; (with_reducible refine (ancepsref54_Valid.calls k _ _ l0_0 t278 _ ?side1 ?side2 A5.out).mono ?_); (case side1 => exact iC HR0_0 HB); (case side2 => exact HC0_0.out); rintro e w9 ⟨rfl, hb⟩; refine ⟨_, rfl, ?_⟩; have n0_ := jB BK277 hb; have n1_ := jL HB hb; clear BK277; clear HB; have BK277 := n0_; have HB := n1_; clear n0_ n1_; (try clear hb)))
    go_meet
    case rel => exact ⟨_, (true), eV, H', ⟨by first | omega | exact Nat.le_refl _⟩, ⟨iB BK277⟩, ⟨iL HB⟩⟩
   ·rw [if_neg c7] at H
    have c7b0 : ((l1.length : Int) == 0) = false := beq_eq_false_iff_ne.mpr c7
    have c7b1 : ((l1.length : Int) != 0) = true := bne_iff_ne.mpr c7
    have c7b2 : ¬ (l1 = []) := fun h_ => c7 (by rw [h_]; rfl)
    by_cases c10 : 0 < (l1.length : Int)
    ·rw [if_pos c10] at H
     have c10b0 : decide (0 < (l1.length : Int)) = true := decide_eq_true c10
     have c10b1 : decide (0 < l1.length) = true := decide_eq_true (by omega)
     clear c10
     have H' := Aside0.mk H
     clear H
     have hcz11_0 := cZ BK277 0 (.slice A0_0 l0_0.length c0_0)
     have hfz11_0 := blk_frozen BK277.out 0
     go_wp2_with (first | ((with_reducible refine gate_callee (f := 27) rfl ?_); refine gL_ (some 11) Try.func27 #[.agg #[.slice A0_0 l0_0.length c0_0]] ?_; (with_reducible refine (ancepsref54_Valid.calls k _ _ l0_0 t278 _ ?side1 ?side2 A5.out).mono ?_); (case side1 => exact iC HR0_0 HB); (case side2 => exact HC0_0.out); rintro e w12 ⟨rfl, hb⟩; refine ⟨_, rfl, ?_⟩; have n0_ := jB BK277 hb; have n1_ := jL HB hb; clear BK277; clear HB; have BK277 := n0_; have HB := n1_; clear n0_ n1_; (try clear hb); have p279 : 0 ≤ (0 : Int) := (by omega); have q279 := oD (0 < (l1.length : Int)); obtain ⟨ad279, A279_2, c279_2, e279, hx279_0, hx279_1, hx279_2, hl279_2, hi279_2⟩ := at_T46 HR1.out 0 p279 q279; cases e279; have qi279 : (0 < l1.length) = True := eq_true (by omega); (try rw [show ((0 : Int)).toNat = 0 from rfl] at hx279_0); (try rw [show 0 * 3 = 0 from rfl] at hx279_0); (try rw [Addr.add_zero'] at hx279_0); (try rw [show ((0 : Int)).toNat = 0 from rfl] at hx279_1); (try rw [show 0 * 3 = 0 from rfl] at hx279_1); (try rw [Addr.add_zero'] at hx279_1); (try rw [show ((0 : Int)).toNat = 0 from rfl] at hx279_2); (try rw [show 0 * 3 = 0 from rfl] at hx279_2); (try rw [Addr.add_zero'] at hx279_2); replace hx279_0 := (HB.out.cell (World.block_lt_of_cell? w _ hx279_0)).trans hx279_0; replace hx279_1 := (HB.out.cell (World.block_lt_of_cell? w _ hx279_1)).trans hx279_1; replace hx279_2 := (HB.out.cell (World.block_lt_of_cell? w _ hx279_2)).trans hx279_2; have HR279_2 := Aside0.mk hi279_2; have HC279_2 := Aside0.mk hl279_2; clear hi279_2 hl279_2; replace p279 := eq_true p279; replace q279 := eq_true q279))
     go_meet
     case rel => exact ⟨_, ((((rd_T46 l1 0).f0) != 0)), eV, H', ⟨by first | omega | exact Nat.le_refl _⟩, ⟨iB BK277⟩, ⟨iL HB⟩⟩
    ·rw [if_neg c10] at H
     exact absurd H (by simp)
  ·rw [if_neg c6] at H
   have c6b0 : (t278 == 0) = false := beq_eq_false_iff_ne.mpr c6
   have c6b1 : (t278 != 0) = true := bne_iff_ne.mpr c6
   (first | rw [c6b0] | (simp only [i64_w, i32_w]; rw [c6b0]) | skip)
   have H' := Aside0.mk H
   clear H
   have hcz13_0 := cZ BK277 0 (.slice A0_0 l0_0.length c0_0)
   have hfz13_0 := blk_frozen BK277.out 0
   go_wp2_with (first | ((with_reducible refine gate_callee (f := 27) rfl ?_); refine gL_ (some 11) Try.func27 #[.agg #[.slice A0_0 l0_0.length c0_0]] ?_; (with_reducible refine (ancepsref54_Valid.calls k _ _ l0_0 t278 _ ?side1 ?side2 A5.out).mono ?_); (case side1 => exact iC HR0_0 HB); (case side2 => exact HC0_0.out); rintro e w14 ⟨rfl, hb⟩; refine ⟨_, rfl, ?_⟩; have n0_ := jB BK277 hb; have n1_ := jL HB hb; clear BK277; clear HB; have BK277 := n0_; have HB := n1_; clear n0_ n1_; (try clear hb)))
   go_meet
   case rel => exact ⟨_, (true), eV, H', ⟨by first | omega | exact Nat.le_refl _⟩, ⟨iB BK277⟩, ⟨iL HB⟩⟩
 case rest =>
  clear HC3
  (try clear c1); (try clear c2); (try clear p2); (try clear q2); (try clear hx2); (try clear qi2); (try clear c6); (try clear c6b0); (try clear c6b1); (try clear c7); (try clear c7b0); (try clear c7b1); (try clear c7b2); (try clear c10); (try clear c10b0); (try clear c10b1); (try clear hcz11_0); (try clear hcz13_0); (try clear hcz8_0); (try clear hfz11_0); (try clear hfz13_0); (try clear hfz8_0); (try clear hx279_0); (try clear hx279_1); (try clear hx279_2); (try clear p279); (try clear q279)
  obtain ⟨kq, x24_2, rfl, HA, HJ2, BK277, HB⟩ := hcut
  cases kq with
  | zero => exact absurd HA.out (by simp [ancepsref54_CheckTree.j0])
  | succ kj2 =>
   have H := HA.out
   clear HA
   simp only [ancepsref54_CheckTree.j0] at H
   by_cases c15 : x24_2 = true
   ·subst c15
    have H1 : (some false) = some r := by rw [if_pos rfl] at H; exact H
    clear H
    have H := H1
    clear H1
    obtain rfl := Option.some.inj H
    go_wp2
    go_ret
    exact ⟨eV, iL HB⟩
   ·replace c15 := Bool.eq_false_iff.mpr c15
    subst c15
    have H1 : (if 0 ≤ (l1.length : Int) then (if ((l1.length : Int) : Int).toNat ≤ 35184372088832 then (ancepsref54_CheckTree.l0 kj2 l1 0 (List.replicate ((l1.length : Int) : Int).toNat 0) l0_0) else (none)) else (none)) = some r := by rw [if_neg (show ¬ (false = true) by decide)] at H; exact H
    clear H
    have H := H1
    clear H1
    by_cases c16 : 0 ≤ (l1.length : Int)
    ·rw [if_pos c16] at H
     have c16b0 := eq_true c16
     have c16b1 : decide (0 ≤ (l1.length : Int)) = true := decide_eq_true c16
     clear c16
     by_cases c17 : ((l1.length : Int) : Int).toNat ≤ 35184372088832
     ·rw [if_pos c17] at H
      have c17b0 := eq_true c17
      have c17b1 : decide (((l1.length : Int) : Int).toNat ≤ 35184372088832) = true := decide_eq_true c17
      clear c17
      obtain ⟨y280, hy280⟩ : ∃ y_ : List Int, y_ = (List.replicate ((l1.length : Int) : Int).toNat 0) := ⟨_, rfl⟩
      replace H : (ancepsref54_CheckTree.l0 kj2 l1 0 y280 l0_0) = some r := by first | (rw [hy280]; with_reducible exact H) | (have H2_ := (Option.bind_some _ _).symm.trans H; rw [hy280]; with_reducible exact H2_) | (have H2_ := (Option.bind_some _ _).symm.trans H; with_reducible exact H2_) | with_reducible exact H | (rw [hy280]; exact H) | exact H
      have Ny280 := Aside0.mk hy280
      clear hy280
      have H' := Aside0.mk H
      clear H
      go_wp2_with (first | ((with_reducible refine gate_dst (N := 27) rfl ?_); (try (refine gate_guard (by rfl) ?_; dsimp only)); refine Kd.R_make (Kd.int .i64) _ 3 rfl (N := 27) rfl 44 _ _ rfl (l1.length : Int) rfl rfl Try.underlying44 (.int .i64 0) 8 info3 rfl (by decide) (by omega) 0 (ok := fun _ => True) (okp := fun _ => True) rfl (fun _ hk => hk) trivial (of_decide_eq_true (by first | (with_reducible assumption) | assumption)) (Nat.le_trans (Nat.mul_le_mul_right _ (of_decide_eq_true (by first | (with_reducible assumption) | assumption) : (l1.length : Int).toNat ≤ 35184372088832)) (by omega)) (Below.refl _ _) (Nat.le_refl _) ?_; intro v281 w18 ho19 hb hg_ hnew_; clear hg_ hnew_; (first | rw [← Ny280.out] at ho19 | (simp only [Int.reduceToNat] at ho19; rw [← Ny280.out] at ho19)); have n0_ := Aside0.mk (Kd.R_lower ho19 (below_size (iL HB))); have n1_ := jB BK277 hb; have n2_ := jL HB hb; clear BK277; clear HB; have HO282 := n0_; have BK277 := n1_; have HB := n2_; clear n0_ n1_ n2_; clear hb ho19))
      go_loopg [6] kj2 (fun kq v6 w' => ∃ (x6_2 : Int) (x27_2 : List Int), v6 = .int .i64 x6_2 ∧ Aside0 (ancepsref54_CheckTree.l0 kq l1 x6_2 x27_2 l0_0 = some r) ∧ Aside0 (kq ≤ kj2) ∧ Aside0 (Kd.R (Kd.int .i64) 3 w' w.heap.size (fun _ => True) v281 x27_2) ∧ Aside0 (w'.heap[gb277]? = some (.cells #[(.slice A0_0 l0_0.length c0_0)] 26 (0, 0))) ∧ Aside0 (Below w.heap.size w w'))
      case atStart => exact ⟨(0), (y280), eV, H', ⟨Nat.le_refl _⟩, ⟨iR HO282⟩, ⟨iB BK277⟩, ⟨iL HB⟩⟩
      case round =>
       clear H'
       (try clear c1); (try clear c2); (try clear p2); (try clear q2); (try clear hx2); (try clear qi2); (try clear c6); (try clear c6b0); (try clear c6b1); (try clear c7); (try clear c7b0); (try clear c7b1); (try clear c7b2); (try clear c10); (try clear c10b0); (try clear c10b1); (try clear c15); (try clear c16); (try clear c16b0); (try clear c16b1); (try clear c17); (try clear c17b0); (try clear c17b1); (try clear hcz11_0); (try clear hcz13_0); (try clear hcz8_0); (try clear hfz11_0); (try clear hfz13_0); (try clear hfz8_0); (try clear hx279_0); (try clear hx279_1); (try clear hx279_2); (try clear p2); (try clear p279); (try clear q2); (try clear q279)
       obtain ⟨x6_2, x27_2, rfl, HA, HK2, HO_27, BK277, HB⟩ := hrel
       cases gk with
       | zero => exact absurd HA.out (by simp [ancepsref54_CheckTree.l0])
       | succ k2 =>
        have H := HA.out
        clear HA
        simp only [ancepsref54_CheckTree.l0] at H
        by_cases c20 : x6_2 < (l1.length : Int)
        ·rw [if_pos c20] at H
         have c20b0 : decide (x6_2 < (l1.length : Int)) = true := decide_eq_true c20
         clear c20
         have HC21 := Aside0.mk H
         clear H
         go_upto_region 7 with (fail)
         go_cut [52] (fun v52 wc => ∃ (kq : Nat) (x52_20 : Bool), v52 = .bool x52_20 ∧ Aside0 (ancepsref54_CheckTree.j2 kq l1 x27_2 x6_2 x52_20 l0_0 = some r) ∧ Aside0 (kq ≤ k2) ∧ Aside0 (Kd.R (Kd.int .i64) 3 wc w.heap.size (fun _ => True) v281 x27_2) ∧ Aside0 (wc.heap[gb277]? = some (.cells #[(.slice A0_0 l0_0.length c0_0)] 26 (0, 0))) ∧ Aside0 (Below w.heap.size w wc))
         case first =>
          have H := HC21.out
          clear HC21
          by_cases c22 : x6_2 > 0
          ·rw [if_pos c22] at H
           have c22b0 : decide (0 < x6_2) = true := decide_eq_true c22
           clear c22
           (first | rw [c22b0] | (simp only [i64_w, i32_w]; rw [c22b0]) | skip)
           by_cases c23 : 0 ≤ x6_2
           ·rw [if_pos c23] at H
            have c23b0 : decide (0 ≤ x6_2) = true := decide_eq_true c23
            clear c23
            by_cases c24 : (((rd_T46 l1 x6_2).f2).length : Int) = 0
            ·rw [if_pos c24] at H
             have c24b0 : ((((rd_T46 l1 x6_2).f2).length : Int) == 0) = true := beq_iff_eq.mpr c24
             have c24b1 : ((((rd_T46 l1 x6_2).f2).length : Int) != 0) = false := bne_eq_false_iff_eq.mpr c24
             clear c24
             have H' := Aside0.mk H
             clear H
             have p283 := oD (0 ≤ (x6_2 : Int))
             have q283 := oD (x6_2 < (l1.length : Int))
             obtain ⟨ad283, A283_2, c283_2, e283, hx283_0, hx283_1, hx283_2, hl283_2, hi283_2⟩ := at_T46 HR1.out x6_2 p283 q283
             cases e283
             replace hx283_0 := (HB.out.cell (World.block_lt_of_cell? w _ hx283_0)).trans hx283_0
             replace hx283_1 := (HB.out.cell (World.block_lt_of_cell? w _ hx283_1)).trans hx283_1
             replace hx283_2 := (HB.out.cell (World.block_lt_of_cell? w _ hx283_2)).trans hx283_2
             have HR283_2 := Aside0.mk hi283_2
             have HC283_2 := Aside0.mk hl283_2
             clear hi283_2 hl283_2
             replace p283 := eq_true p283
             replace q283 := eq_true q283
             have p284 := oD (0 ≤ (x6_2 : Int))
             have q284 := oD (x6_2 < (l1.length : Int))
             obtain ⟨ad284, A284_2, c284_2, e284, hx284_0, hx284_1, hx284_2, hl284_2, hi284_2⟩ := at_T46 HR1.out x6_2 p284 q284
             obtain rfl : ad283 = ad284 := (by injection e284)
             replace hx284_0 := (HB.out.cell (World.block_lt_of_cell? w _ hx284_0)).trans hx284_0
             replace hx284_1 := (HB.out.cell (World.block_lt_of_cell? w _ hx284_1)).trans hx284_1
             replace hx284_2 := (HB.out.cell (World.block_lt_of_cell? w _ hx284_2)).trans hx284_2
             have HR284_2 := Aside0.mk hi284_2
             have HC284_2 := Aside0.mk hl284_2
             clear hi284_2 hl284_2
             replace p284 := eq_true p284
             replace q284 := eq_true q284
             have ea_ := Option.some.inj (hx283_2.symm.trans hx284_2)
             injection ea_ with ea_ en_ ec_
             subst ea_
             subst ec_
             clear en_
             go_wp2
             go_meet
             case rel => exact ⟨_, (!((rd_T46 l1 x6_2).f1)), eV, H', ⟨by have := HJ2.out; have := HK2.out; first | omega | exact Nat.le_refl _⟩, ⟨iR HO_27⟩, ⟨iB BK277⟩, ⟨iL HB⟩⟩
            ·rw [if_neg c24] at H
             have c24b0 : ((((rd_T46 l1 x6_2).f2).length : Int) == 0) = false := beq_eq_false_iff_ne.mpr c24
             have c24b1 : ((((rd_T46 l1 x6_2).f2).length : Int) != 0) = true := bne_iff_ne.mpr c24
             have c24b2 : ¬ (((rd_T46 l1 x6_2).f2) = []) := fun h_ => c24 (by rw [h_]; rfl)
             have H' := Aside0.mk H
             clear H
             have p283 := oD (0 ≤ (x6_2 : Int))
             have q283 := oD (x6_2 < (l1.length : Int))
             obtain ⟨ad283, A283_2, c283_2, e283, hx283_0, hx283_1, hx283_2, hl283_2, hi283_2⟩ := at_T46 HR1.out x6_2 p283 q283
             cases e283
             replace hx283_0 := (HB.out.cell (World.block_lt_of_cell? w _ hx283_0)).trans hx283_0
             replace hx283_1 := (HB.out.cell (World.block_lt_of_cell? w _ hx283_1)).trans hx283_1
             replace hx283_2 := (HB.out.cell (World.block_lt_of_cell? w _ hx283_2)).trans hx283_2
             have HR283_2 := Aside0.mk hi283_2
             have HC283_2 := Aside0.mk hl283_2
             clear hi283_2 hl283_2
             replace p283 := eq_true p283
             replace q283 := eq_true q283
             go_wp2
             go_meet
             case rel => exact ⟨_, (false), eV, H', ⟨by have := HJ2.out; have := HK2.out; first | omega | exact Nat.le_refl _⟩, ⟨iR HO_27⟩, ⟨iB BK277⟩, ⟨iL HB⟩⟩
           ·rw [if_neg c23] at H
            exact absurd H (by simp)
          ·rw [if_neg c22] at H
           have c22b0 : decide (0 < x6_2) = false := decide_eq_false c22
           clear c22
           (first | rw [c22b0] | (simp only [i64_w, i32_w]; rw [c22b0]) | skip)
           have H' := Aside0.mk H
           clear H
           go_wp2
           go_meet
           case rel => exact ⟨_, (false), eV, H', ⟨by have := HJ2.out; have := HK2.out; first | omega | exact Nat.le_refl _⟩, ⟨iR HO_27⟩, ⟨iB BK277⟩, ⟨iL HB⟩⟩
         case rest =>
          clear HC21
          (try clear c1); (try clear c2); (try clear p2); (try clear q2); (try clear hx2); (try clear qi2); (try clear c6); (try clear c6b0); (try clear c6b1); (try clear c7); (try clear c7b0); (try clear c7b1); (try clear c7b2); (try clear c10); (try clear c10b0); (try clear c10b1); (try clear c15); (try clear c16); (try clear c16b0); (try clear c16b1); (try clear c17); (try clear c17b0); (try clear c17b1); (try clear c20); (try clear c20b0); (try clear c21); (try clear c22); (try clear c22b0); (try clear c23); (try clear c23b0); (try clear c24); (try clear c24b0); (try clear c24b1); (try clear c24b2); (try clear hcz11_0); (try clear hcz13_0); (try clear hcz8_0); (try clear hfz11_0); (try clear hfz13_0); (try clear hfz8_0); (try clear hx279_0); (try clear hx279_1); (try clear hx279_2); (try clear hx283_0); (try clear hx283_1); (try clear hx283_2); (try clear hx284_0); (try clear hx284_1); (try clear hx284_2); (try clear p2); (try clear p279); (try clear p283); (try clear p284); (try clear q2); (try clear q279); (try clear q283); (try clear q284)
          obtain ⟨kq, x52_20, rfl, HA, HJ20, HO_5, BK277, HB⟩ := hcut
          cases kq with
          | zero => exact absurd HA.out (by simp [ancepsref54_CheckTree.j2])
          | succ kj20 =>
           have H := HA.out
           clear HA
           simp only [ancepsref54_CheckTree.j2] at H
           by_cases c25 : x52_20 = true
           ·subst c25
            have H1 : (some false) = some r := by rw [if_pos rfl] at H; exact H
            clear H
            have H := H1
            clear H1
            obtain rfl := Option.some.inj H
            go_wp2
            go_ret
            exact ⟨eV, iL HB⟩
           ·replace c25 := Bool.eq_false_iff.mpr c25
            subst c25
            have H1 : (if x6_2 > 0 then (if 0 ≤ x6_2 then (if x6_2 < (l1.length : Int) then (if ((rd_T46 l1 x6_2).f0) < 0 then (ancepsref54_CheckTree.j3 kj20 l1 x27_2 x6_2 true l0_0) else (if ((rd_T46 l1 x6_2).f0) > 255 then (ancepsref54_CheckTree.j3 kj20 l1 x27_2 x6_2 true l0_0) else ((ancepsref01_Letter.f kj20 (((rd_T46 l1 x6_2).f0) % 256)).bind fun t288 => (ancepsref54_CheckTree.j3 kj20 l1 x27_2 x6_2 (!t288) l0_0)))) else (none)) else (none)) else (ancepsref54_CheckTree.j3 kj20 l1 x27_2 x6_2 false l0_0)) = some r := by rw [if_neg (show ¬ (false = true) by decide)] at H; exact H
            clear H
            have H := H1
            clear H1
            have HC26 := Aside0.mk H
            clear H
            go_upto_region 9 with (fail)
            go_cut [80] (fun v80 wc => ∃ (kq : Nat) (x80_25 : Bool), v80 = .bool x80_25 ∧ Aside0 (ancepsref54_CheckTree.j3 kq l1 x27_2 x6_2 x80_25 l0_0 = some r) ∧ Aside0 (kq ≤ kj20) ∧ Aside0 (Kd.R (Kd.int .i64) 3 wc w.heap.size (fun _ => True) v281 x27_2) ∧ Aside0 (wc.heap[gb277]? = some (.cells #[(.slice A0_0 l0_0.length c0_0)] 26 (0, 0))) ∧ Aside0 (Below w.heap.size w wc))
            case first =>
             have H := HC26.out
             clear HC26
             by_cases c27 : x6_2 > 0
             ·rw [if_pos c27] at H
              have c27b0 : decide (0 < x6_2) = true := decide_eq_true c27
              clear c27
              (first | rw [c27b0] | (simp only [i64_w, i32_w]; rw [c27b0]) | skip)
              by_cases c28 : 0 ≤ x6_2
              ·rw [if_pos c28] at H
               have c28b0 : decide (0 ≤ x6_2) = true := decide_eq_true c28
               clear c28
               by_cases c29 : x6_2 < (l1.length : Int)
               ·rw [if_pos c29] at H
                have c29b0 : decide (x6_2 < (l1.length : Int)) = true := decide_eq_true c29
                clear c29
                by_cases c30 : ((rd_T46 l1 x6_2).f0) < 0
                ·rw [if_pos c30] at H
                 have c30b0 : decide (((rd_T46 l1 x6_2).f0) < 0) = true := decide_eq_true c30
                 clear c30
                 have H' := Aside0.mk H
                 clear H
                 have p285 := oD (0 ≤ (x6_2 : Int))
                 have q285 := oD (x6_2 < (l1.length : Int))
                 obtain ⟨ad285, A285_2, c285_2, e285, hx285_0, hx285_1, hx285_2, hl285_2, hi285_2⟩ := at_T46 HR1.out x6_2 p285 q285
                 cases e285
                 replace hx285_0 := (HB.out.cell (World.block_lt_of_cell? w _ hx285_0)).trans hx285_0
                 replace hx285_1 := (HB.out.cell (World.block_lt_of_cell? w _ hx285_1)).trans hx285_1
                 replace hx285_2 := (HB.out.cell (World.block_lt_of_cell? w _ hx285_2)).trans hx285_2
                 have HR285_2 := Aside0.mk hi285_2
                 have HC285_2 := Aside0.mk hl285_2
                 clear hi285_2 hl285_2
                 replace p285 := eq_true p285
                 replace q285 := eq_true q285
                 go_wp2
                 go_meet
                 case rel => exact ⟨_, (true), eV, H', ⟨by have := HJ2.out; have := HK2.out; have := HJ20.out; first | omega | exact Nat.le_refl _⟩, ⟨iR HO_5⟩, ⟨iB BK277⟩, ⟨iL HB⟩⟩
                ·rw [if_neg c30] at H
                 have c30b0 : decide (((rd_T46 l1 x6_2).f0) < 0) = false := decide_eq_false c30
                 clear c30
                 by_cases c31 : ((rd_T46 l1 x6_2).f0) > 255
                 ·rw [if_pos c31] at H
                  have c31b0 : decide (255 < ((rd_T46 l1 x6_2).f0)) = true := decide_eq_true c31
                  clear c31
                  have H' := Aside0.mk H
                  clear H
                  have p285 := oD (0 ≤ (x6_2 : Int))
                  have q285 := oD (x6_2 < (l1.length : Int))
                  obtain ⟨ad285, A285_2, c285_2, e285, hx285_0, hx285_1, hx285_2, hl285_2, hi285_2⟩ := at_T46 HR1.out x6_2 p285 q285
                  cases e285
                  replace hx285_0 := (HB.out.cell (World.block_lt_of_cell? w _ hx285_0)).trans hx285_0
                  replace hx285_1 := (HB.out.cell (World.block_lt_of_cell? w _ hx285_1)).trans hx285_1
                  replace hx285_2 := (HB.out.cell (World.block_lt_of_cell? w _ hx285_2)).trans hx285_2
                  have HR285_2 := Aside0.mk hi285_2
                  have HC285_2 := Aside0.mk hl285_2
                  clear hi285_2 hl285_2
                  replace p285 := eq_true p285
                  replace q285 := eq_true q285
                  have p286 := oD (0 ≤ (x6_2 : Int))
                  have q286 := oD (x6_2 < (l1.length : Int))
                  obtain ⟨ad286, A286_2, c286_2, e286, hx286_0, hx286_1, hx286_2, hl286_2, hi286_2⟩ := at_T46 HR1.out x6_2 p286 q286
                  obtain rfl : ad285 = ad286 := (by injection e286)
                  replace hx286_0 := (HB.out.cell (World.block_lt_of_cell? w _ hx286_0)).trans hx286_0
                  replace hx286_1 := (HB.out.cell (World.block_lt_of_cell? w _ hx286_1)).trans hx286_1
                  replace hx286_2 := (HB.out.cell (World.block_lt_of_cell? w _ hx286_2)).trans hx286_2
                  have HR286_2 := Aside0.mk hi286_2
                  have HC286_2 := Aside0.mk hl286_2
                  clear hi286_2 hl286_2
                  replace p286 := eq_true p286
                  replace q286 := eq_true q286
                  have ea_ := Option.some.inj (hx285_2.symm.trans hx286_2)
                  injection ea_ with ea_ en_ ec_
                  subst ea_
                  subst ec_
                  clear en_
                  go_wp2
                  go_meet
                  case rel => exact ⟨_, (true), eV, H', ⟨by have := HJ2.out; have := HK2.out; have := HJ20.out; first | omega | exact Nat.le_refl _⟩, ⟨iR HO_5⟩, ⟨iB BK277⟩, ⟨iL HB⟩⟩
                 ·rw [if_neg c31] at H
                  have c31b0 : decide (255 < ((rd_T46 l1 x6_2).f0)) = false := decide_eq_false c31
                  clear c31
                  replace H := Option.bind_eq_some_iff.mp H
                  obtain ⟨t288, A320, H⟩ := H
                  try dsimp only at H
                  have A32 := Aside0.mk A320
                  clear A320
                  have H' := Aside0.mk H
                  clear H
                  have p285 := oD (0 ≤ (x6_2 : Int))
                  have q285 := oD (x6_2 < (l1.length : Int))
                  obtain ⟨ad285, A285_2, c285_2, e285, hx285_0, hx285_1, hx285_2, hl285_2, hi285_2⟩ := at_T46 HR1.out x6_2 p285 q285
                  cases e285
                  replace hx285_0 := (HB.out.cell (World.block_lt_of_cell? w _ hx285_0)).trans hx285_0
                  replace hx285_1 := (HB.out.cell (World.block_lt_of_cell? w _ hx285_1)).trans hx285_1
                  replace hx285_2 := (HB.out.cell (World.block_lt_of_cell? w _ hx285_2)).trans hx285_2
                  have HR285_2 := Aside0.mk hi285_2
                  have HC285_2 := Aside0.mk hl285_2
                  clear hi285_2 hl285_2
                  replace p285 := eq_true p285
                  replace q285 := eq_true q285
                  have p286 := oD (0 ≤ (x6_2 : Int))
                  have q286 := oD (x6_2 < (l1.length : Int))
                  obtain ⟨ad286, A286_2, c286_2, e286, hx286_0, hx286_1, hx286_2, hl286_2, hi286_2⟩ := at_T46 HR1.out x6_2 p286 q286
                  obtain rfl : ad285 = ad286 := (by injection e286)
                  replace hx286_0 := (HB.out.cell (World.block_lt_of_cell? w _ hx286_0)).trans hx286_0
                  replace hx286_1 := (HB.out.cell (World.block_lt_of_cell? w _ hx286_1)).trans hx286_1
                  replace hx286_2 := (HB.out.cell (World.block_lt_of_cell? w _ hx286_2)).trans hx286_2
                  have HR286_2 := Aside0.mk hi286_2
                  have HC286_2 := Aside0.mk hl286_2
                  clear hi286_2 hl286_2
                  replace p286 := eq_true p286
                  replace q286 := eq_true q286
                  have ea_ := Option.some.inj (hx285_2.symm.trans hx286_2)
                  injection ea_ with ea_ en_ ec_
                  subst ea_
                  subst ec_
                  clear en_
                  have p287 := oD (0 ≤ (x6_2 : Int))
                  have q287 := oD (x6_2 < (l1.length : Int))
                  obtain ⟨ad287, A287_2, c287_2, e287, hx287_0, hx287_1, hx287_2, hl287_2, hi287_2⟩ := at_T46 HR1.out x6_2 p287 q287
                  obtain rfl : ad285 = ad287 := (by injection e287)
                  replace hx287_0 := (HB.out.cell (World.block_lt_of_cell? w _ hx287_0)).trans hx287_0
                  replace hx287_1 := (HB.out.cell (World.block_lt_of_cell? w _ hx287_1)).trans hx287_1
                  replace hx287_2 := (HB.out.cell (World.block_lt_of_cell? w _ hx287_2)).trans hx287_2
                  have HR287_2 := Aside0.mk hi287_2
                  have HC287_2 := Aside0.mk hl287_2
                  clear hi287_2 hl287_2
                  replace p287 := eq_true p287
                  replace q287 := eq_true q287
                  have ea_ := Option.some.inj (hx285_2.symm.trans hx287_2)
                  injection ea_ with ea_ en_ ec_
                  subst ea_
                  subst ec_
                  clear en_
                  go_wp2_with (first | (go_at_call 42; (with_reducible refine (ancepsref01_Letter.calls kj20 (((rd_T46 l1 x6_2).f0) % 256) t288 _ A32.out).mono ?_); rintro e w' ⟨rfl, ⟨nd, rfl⟩⟩))
                  go_meet
                  case rel => exact ⟨_, (!t288), eV, H', ⟨by have := HJ2.out; have := HK2.out; have := HJ20.out; first | omega | exact Nat.le_refl _⟩, ⟨iR HO_5⟩, ⟨iB BK277⟩, ⟨iL HB⟩⟩
               ·rw [if_neg c29] at H
                exact absurd H (by simp)
              ·rw [if_neg c28] at H
               exact absurd H (by simp)
             ·rw [if_neg c27] at H
              have c27b0 : decide (0 < x6_2) = false := decide_eq_false c27
              clear c27
              (first | rw [c27b0] | (simp only [i64_w, i32_w]; rw [c27b0]) | skip)
              have H' := Aside0.mk H
              clear H
              go_wp2
              go_meet
              case rel => exact ⟨_, (false), eV, H', ⟨by have := HJ2.out; have := HK2.out; have := HJ20.out; first | omega | exact Nat.le_refl _⟩, ⟨iR HO_5⟩, ⟨iB BK277⟩, ⟨iL HB⟩⟩
            case rest =>
             clear HC26
             (try clear c1); (try clear c2); (try clear p2); (try clear q2); (try clear hx2); (try clear qi2); (try clear c3); (try clear c6); (try clear c6b0); (try clear c6b1); (try clear c7); (try clear c7b0); (try clear c7b1); (try clear c7b2); (try clear c10); (try clear c10b0); (try clear c10b1); (try clear c15); (try clear c16); (try clear c16b0); (try clear c16b1); (try clear c17); (try clear c17b0); (try clear c17b1); (try clear c20); (try clear c20b0); (try clear c21); (try clear c22); (try clear c22b0); (try clear c23); (try clear c23b0); (try clear c24); (try clear c24b0); (try clear c24b1); (try clear c24b2); (try clear c25); (try clear c27); (try clear c27b0); (try clear p27); (try clear q27); (try clear hx27); (try clear qi27); (try clear c28); (try clear c28b0); (try clear p28); (try clear q28); (try clear hx28); (try clear c29); (try clear c29b0); (try clear c30); (try clear c30b0); (try clear c31); (try clear c31b0); (try clear hcz11_0); (try clear hcz13_0); (try clear hcz8_0); (try clear hfz11_0); (try clear hfz13_0); (try clear hfz8_0); (try clear hx279_0); (try clear hx279_1); (try clear hx279_2); (try clear hx283_0); (try clear hx283_1); (try clear hx283_2); (try clear hx284_0); (try clear hx284_1); (try clear hx284_2); (try clear hx285_0); (try clear hx285_1); (try clear hx285_2); (try clear hx286_0); (try clear hx286_1); (try clear hx286_2); (try clear hx287_0); (try clear hx287_1); (try clear hx287_2); (try clear p2); (try clear p279); (try clear p283); (try clear p284); (try clear p285); (try clear p286); (try clear p287); (try clear q2); (try clear q279); (try clear q283); (try clear q284); (try clear q285); (try clear q286); (try clear q287)
             obtain ⟨kq, x80_25, rfl, HA, HJ25, HO_5, BK277, HB⟩ := hcut
             cases kq with
             | zero => exact absurd HA.out (by simp [ancepsref54_CheckTree.j3])
             | succ kj25 =>
              have H := HA.out
              clear HA
              simp only [ancepsref54_CheckTree.j3] at H
              by_cases c33 : x80_25 = true
              ·subst c33
               have H1 : (some false) = some r := by rw [if_pos rfl] at H; exact H
               clear H
               have H := H1
               clear H1
               obtain rfl := Option.some.inj H
               go_wp2
               go_ret
               exact ⟨eV, iL HB⟩
              ·replace c33 := Bool.eq_false_iff.mpr c33
               subst c33
               have H1 : (ancepsref54_CheckTree.l1 kj25 l1 x27_2 x6_2 0 l0_0) = some r := by rw [if_neg (show ¬ (false = true) by decide)] at H; exact H
               clear H
               have H := H1
               clear H1
               have H' := Aside0.mk H
               clear H
               go_wp2
               go_loopg [7] kj25 (fun kq v7 w' => ∃ (x5_5 : List Int) (x7_5 : Int), v7 = .int .i64 x7_5 ∧ Aside0 (ancepsref54_CheckTree.l1 kq l1 x5_5 x6_2 x7_5 l0_0 = some r) ∧ Aside0 (kq ≤ kj25) ∧ Aside0 (Kd.R (Kd.int .i64) 3 w' w.heap.size (fun _ => True) v281 x5_5) ∧ Aside0 (w'.heap[gb277]? = some (.cells #[(.slice A0_0 l0_0.length c0_0)] 26 (0, 0))) ∧ Aside0 (Below w.heap.size w w'))
               case atStart => exact ⟨(x27_2), (0), eV, H', ⟨Nat.le_refl _⟩, ⟨iR HO_5⟩, ⟨iB BK277⟩, ⟨iL HB⟩⟩
               case round =>
                clear H'
                (try clear c1); (try clear c2); (try clear p2); (try clear q2); (try clear hx2); (try clear qi2); (try clear c3); (try clear c6); (try clear c6b0); (try clear c6b1); (try clear c7); (try clear c7b0); (try clear c7b1); (try clear c7b2); (try clear c10); (try clear c10b0); (try clear c10b1); (try clear c15); (try clear c16); (try clear c16b0); (try clear c16b1); (try clear c17); (try clear c17b0); (try clear c17b1); (try clear c20); (try clear c20b0); (try clear c21); (try clear c22); (try clear c22b0); (try clear c23); (try clear c23b0); (try clear c24); (try clear c24b0); (try clear c24b1); (try clear c24b2); (try clear c25); (try clear c27); (try clear c27b0); (try clear p27); (try clear q27); (try clear hx27); (try clear qi27); (try clear c28); (try clear c28b0); (try clear p28); (try clear q28); (try clear hx28); (try clear c29); (try clear c29b0); (try clear c30); (try clear c30b0); (try clear c31); (try clear c31b0); (try clear c33); (try clear hcz11_0); (try clear hcz13_0); (try clear hcz8_0); (try clear hfz11_0); (try clear hfz13_0); (try clear hfz8_0); (try clear hx279_0); (try clear hx279_1); (try clear hx279_2); (try clear hx283_0); (try clear hx283_1); (try clear hx283_2); (try clear hx284_0); (try clear hx284_1); (try clear hx284_2); (try clear hx285_0); (try clear hx285_1); (try clear hx285_2); (try clear hx286_0); (try clear hx286_1); (try clear hx286_2); (try clear hx287_0); (try clear hx287_1); (try clear hx287_2); (try clear p2); (try clear p27); (try clear p279); (try clear p28); (try clear p283); (try clear p284); (try clear p285); (try clear p286); (try clear p287); (try clear q2); (try clear q27); (try clear q279); (try clear q28); (try clear q283); (try clear q284); (try clear q285); (try clear q286); (try clear q287)
                obtain ⟨x5_5, x7_5, rfl, HA, HK5, HO_5, BK277, HB⟩ := hrel
                cases gk with
                | zero => exact absurd HA.out (by simp [ancepsref54_CheckTree.l1])
                | succ k5 =>
                 have H := HA.out
                 clear HA
                 simp only [ancepsref54_CheckTree.l1] at H
                 by_cases c34 : 0 ≤ x6_2
                 ·rw [if_pos c34] at H
                  have c34b0 : decide (0 ≤ x6_2) = true := decide_eq_true c34
                  clear c34
                  by_cases c35 : x6_2 < (l1.length : Int)
                  ·rw [if_pos c35] at H
                   have c35b0 : decide (x6_2 < (l1.length : Int)) = true := decide_eq_true c35
                   clear c35
                   by_cases c36 : x7_5 < (((rd_T46 l1 x6_2).f2).length : Int)
                   ·rw [if_pos c36] at H
                    have c36b0 : decide (x7_5 < (((rd_T46 l1 x6_2).f2).length : Int)) = true := decide_eq_true c36
                    clear c36
                    by_cases c37 : 0 ≤ x7_5
                    ·rw [if_pos c37] at H
                     have c37b0 : decide (0 ≤ x7_5) = true := decide_eq_true c37
                     clear c37
                     by_cases c38 : (rd ((rd_T46 l1 x6_2).f2) x7_5) ≤ x6_2
                     ·rw [if_pos c38] at H
                      have c38b0 : decide ((rd ((rd_T46 l1 x6_2).f2) x7_5) ≤ x6_2) = true := decide_eq_true c38
                      clear c38
                      obtain rfl := Option.some.inj H
                      have p289 := oD (0 ≤ (x6_2 : Int))
                      have q289 := oD (x6_2 < (l1.length : Int))
                      obtain ⟨ad289, A289_2, c289_2, e289, hx289_0, hx289_1, hx289_2, hl289_2, hi289_2⟩ := at_T46 HR1.out x6_2 p289 q289
                      cases e289
                      replace hx289_0 := (HB.out.cell (World.block_lt_of_cell? w _ hx289_0)).trans hx289_0
                      replace hx289_1 := (HB.out.cell (World.block_lt_of_cell? w _ hx289_1)).trans hx289_1
                      replace hx289_2 := (HB.out.cell (World.block_lt_of_cell? w _ hx289_2)).trans hx289_2
                      have HR289_2 := Aside0.mk hi289_2
                      have HC289_2 := Aside0.mk hl289_2
                      clear hi289_2 hl289_2
                      replace p289 := eq_true p289
                      replace q289 := eq_true q289
                      have p290 := oD (0 ≤ (x6_2 : Int))
                      have q290 := oD (x6_2 < (l1.length : Int))
                      obtain ⟨ad290, A290_2, c290_2, e290, hx290_0, hx290_1, hx290_2, hl290_2, hi290_2⟩ := at_T46 HR1.out x6_2 p290 q290
                      obtain rfl : ad289 = ad290 := (by injection e290)
                      replace hx290_0 := (HB.out.cell (World.block_lt_of_cell? w _ hx290_0)).trans hx290_0
                      replace hx290_1 := (HB.out.cell (World.block_lt_of_cell? w _ hx290_1)).trans hx290_1
                      replace hx290_2 := (HB.out.cell (World.block_lt_of_cell? w _ hx290_2)).trans hx290_2
                      have HR290_2 := Aside0.mk hi290_2
                      have HC290_2 := Aside0.mk hl290_2
                      clear hi290_2 hl290_2
                      replace p290 := eq_true p290
                      replace q290 := eq_true q290
                      have ea_ := Option.some.inj (hx289_2.symm.trans hx290_2)
                      injection ea_ with ea_ en_ ec_
                      subst ea_
                      subst ec_
                      clear en_
                      have p291 := oD (0 ≤ (x7_5 : Int))
                      have q291 := oD (x7_5 < (((rd_T46 l1 x6_2).f2).length : Int))
                      obtain ⟨ad291, e291, hx291_0⟩ := Kd.at_int HR290_2.out x7_5 p291 q291
                      cases e291
                      replace hx291_0 := (HB.out.cell (World.block_lt_of_cell? w _ hx291_0)).trans hx291_0
                      replace p291 := eq_true p291
                      replace q291 := eq_true q291
                      try go_wp2
                      have n0_ := Aside0.mk (Kd.R_drew HO_5.out)
                      have n1_ := Aside0.mk (blk_drew BK277.out)
                      have n2_ := Aside0.mk (below_drew1 HB.out)
                      clear HO_5
                      clear BK277
                      clear HB
                      have HO_5 := n0_
                      have BK277 := n1_
                      have HB := n2_
                      clear n0_ n1_ n2_
                      refine start_ (n := 34) (S := fun w' => True) (ds := []) #[false, false, false, false, false, false, false, false, false, false, false, false, false, false, false, false, false, false, false, false, false, false, false, false, false, false, false, false, false, false, false, false, false, false] (by kernel_rfl) rfl rfl trivial (fun hHeld => ?_); refine with_tabW ancepsref54_CheckTree.tab15 ancepsref54_CheckTree.bits15 (fun HT_ HW_ => ?_)
                      generalize wr.drew = w39 at HO_5 BK277 HB hHeld ⊢
                      refine pv_ 0 (some 99) HT_ ?_
                      refine pv_ 1 (some 100) HT_ ?_
                      refine pv_ 2 (some 101) HT_ ?_
                      refine pv_ 3 (some 102) HT_ ?_
                      refine pn_ 4 (some 103) HT_ ?_
                      refine pn_ 5 (some 104) HT_ ?_
                      refine pn_ 6 (some 105) HT_ ?_
                      refine pn_ 7 (some 106) HT_ ?_
                      refine pv_ 8 (some 107) HT_ ?_
                      refine pv_ 9 (some 108) HT_ ?_
                      refine pn_ 10 (some 109) HT_ ?_
                      refine pn_ 11 (some 110) HT_ ?_
                      refine pn_ 12 (some 111) HT_ ?_
                      refine pn_ 13 (some 112) HT_ ?_
                      refine pn_ 14 (some 113) HT_ ?_
                      refine pn_ 15 (some 114) HT_ ?_
                      refine pn_ 16 (some 115) HT_ ?_
                      refine pn_ 17 (some 116) HT_ ?_
                      refine pn_ 18 (some 117) HT_ ?_
                      refine pn_ 19 (some 118) HT_ ?_
                      refine pn_ 20 (some 119) HT_ ?_
                      refine pn_ 21 (some 120) HT_ ?_
                      refine pn_ 22 (some 121) HT_ ?_
                      refine pn_ 23 (some 122) HT_ ?_
                      refine pn_ 24 (some 123) HT_ ?_
                      refine pn_ 25 (some 124) HT_ ?_
                      refine pn_ 26 (some 125) HT_ ?_
                      refine pn_ 27 (some 126) HT_ ?_
                      refine pn_ 28 (some 127) HT_ ?_
                      refine pn_ 29 (some 128) HT_ ?_
                      refine pn_ 30 (some 129) HT_ ?_
                      refine pn_ 31 (some 130) HT_ ?_
                      refine pn_ 32 (some 131) HT_ ?_
                      refine pv_ 33 (some 132) HT_ ?_
                      refine done_ (done_of HT_.out (by kernel_rfl)) ?_
                      try go_wp2
                      go_ret
                      exact ⟨eV, iL HB⟩
                     ·rw [if_neg c38] at H
                      have c38b0 : decide ((rd ((rd_T46 l1 x6_2).f2) x7_5) ≤ x6_2) = false := decide_eq_false c38
                      clear c38
                      by_cases c40 : (rd ((rd_T46 l1 x6_2).f2) x7_5) ≥ (l1.length : Int)
                      ·rw [if_pos c40] at H
                       have c40b0 : decide ((l1.length : Int) ≤ (rd ((rd_T46 l1 x6_2).f2) x7_5)) = true := decide_eq_true c40
                       clear c40
                       obtain rfl := Option.some.inj H
                       have p289 := oD (0 ≤ (x6_2 : Int))
                       have q289 := oD (x6_2 < (l1.length : Int))
                       obtain ⟨ad289, A289_2, c289_2, e289, hx289_0, hx289_1, hx289_2, hl289_2, hi289_2⟩ := at_T46 HR1.out x6_2 p289 q289
                       cases e289
                       replace hx289_0 := (HB.out.cell (World.block_lt_of_cell? w _ hx289_0)).trans hx289_0
                       replace hx289_1 := (HB.out.cell (World.block_lt_of_cell? w _ hx289_1)).trans hx289_1
                       replace hx289_2 := (HB.out.cell (World.block_lt_of_cell? w _ hx289_2)).trans hx289_2
                       have HR289_2 := Aside0.mk hi289_2
                       have HC289_2 := Aside0.mk hl289_2
                       clear hi289_2 hl289_2
                       replace p289 := eq_true p289
                       replace q289 := eq_true q289
                       have p290 := oD (0 ≤ (x6_2 : Int))
                       have q290 := oD (x6_2 < (l1.length : Int))
                       obtain ⟨ad290, A290_2, c290_2, e290, hx290_0, hx290_1, hx290_2, hl290_2, hi290_2⟩ := at_T46 HR1.out x6_2 p290 q290
                       obtain rfl : ad289 = ad290 := (by injection e290)
                       replace hx290_0 := (HB.out.cell (World.block_lt_of_cell? w _ hx290_0)).trans hx290_0
                       replace hx290_1 := (HB.out.cell (World.block_lt_of_cell? w _ hx290_1)).trans hx290_1
                       replace hx290_2 := (HB.out.cell (World.block_lt_of_cell? w _ hx290_2)).trans hx290_2
                       have HR290_2 := Aside0.mk hi290_2
                       have HC290_2 := Aside0.mk hl290_2
                       clear hi290_2 hl290_2
                       replace p290 := eq_true p290
                       replace q290 := eq_true q290
                       have ea_ := Option.some.inj (hx289_2.symm.trans hx290_2)
                       injection ea_ with ea_ en_ ec_
                       subst ea_
                       subst ec_
                       clear en_
                       have p291 := oD (0 ≤ (x7_5 : Int))
                       have q291 := oD (x7_5 < (((rd_T46 l1 x6_2).f2).length : Int))
                       obtain ⟨ad291, e291, hx291_0⟩ := Kd.at_int HR290_2.out x7_5 p291 q291
                       cases e291
                       replace hx291_0 := (HB.out.cell (World.block_lt_of_cell? w _ hx291_0)).trans hx291_0
                       replace p291 := eq_true p291
                       replace q291 := eq_true q291
                       try go_wp2
                       have n0_ := Aside0.mk (Kd.R_drew HO_5.out)
                       have n1_ := Aside0.mk (blk_drew BK277.out)
                       have n2_ := Aside0.mk (below_drew1 HB.out)
                       clear HO_5
                       clear BK277
                       clear HB
                       have HO_5 := n0_
                       have BK277 := n1_
                       have HB := n2_
                       clear n0_ n1_ n2_
                       refine start_ (n := 34) (S := fun w' => True) (ds := []) #[false, false, false, false, false, false, false, false, false, false, false, false, false, false, false, false, false, false, false, false, false, false, false, false, false, false, false, false, false, false, false, false, false, false] (by kernel_rfl) rfl rfl trivial (fun hHeld => ?_); refine with_tabW ancepsref54_CheckTree.tab15 ancepsref54_CheckTree.bits15 (fun HT_ HW_ => ?_)
                       generalize wr.drew = w41 at HO_5 BK277 HB hHeld ⊢
                       refine pv_ 0 (some 99) HT_ ?_
                       refine pv_ 1 (some 100) HT_ ?_
                       refine pv_ 2 (some 101) HT_ ?_
                       refine pv_ 3 (some 102) HT_ ?_
                       refine pv_ 4 (some 103) HT_ ?_
                       refine pv_ 5 (some 104) HT_ ?_
                       refine pv_ 6 (some 105) HT_ ?_
                       refine pv_ 7 (some 106) HT_ ?_
                       refine pv_ 8 (some 107) HT_ ?_
                       refine pv_ 9 (some 108) HT_ ?_
                       refine pn_ 10 (some 109) HT_ ?_
                       refine pn_ 11 (some 110) HT_ ?_
                       refine pn_ 12 (some 111) HT_ ?_
                       refine pn_ 13 (some 112) HT_ ?_
                       refine pn_ 14 (some 113) HT_ ?_
                       refine pn_ 15 (some 114) HT_ ?_
                       refine pn_ 16 (some 115) HT_ ?_
                       refine pn_ 17 (some 116) HT_ ?_
                       refine pn_ 18 (some 117) HT_ ?_
                       refine pn_ 19 (some 118) HT_ ?_
                       refine pn_ 20 (some 119) HT_ ?_
                       refine pn_ 21 (some 120) HT_ ?_
                       refine pn_ 22 (some 121) HT_ ?_
                       refine pn_ 23 (some 122) HT_ ?_
                       refine pn_ 24 (some 123) HT_ ?_
                       refine pn_ 25 (some 124) HT_ ?_
                       refine pn_ 26 (some 125) HT_ ?_
                       refine pn_ 27 (some 126) HT_ ?_
                       refine pn_ 28 (some 127) HT_ ?_
                       refine pn_ 29 (some 128) HT_ ?_
                       refine pn_ 30 (some 129) HT_ ?_
                       refine pn_ 31 (some 130) HT_ ?_
                       refine pn_ 32 (some 131) HT_ ?_
                       refine pv_ 33 (some 132) HT_ ?_
                       refine done_ (done_of HT_.out (by kernel_rfl)) ?_
                       try go_wp2
                       go_ret
                       exact ⟨eV, iL HB⟩
                      ·rw [if_neg c40] at H
                       have c40b0 : decide ((l1.length : Int) ≤ (rd ((rd_T46 l1 x6_2).f2) x7_5)) = false := decide_eq_false c40
                       clear c40
                       by_cases c42 : x7_5 > 0
                       ·rw [if_pos c42] at H
                        have c42b0 : decide (0 < x7_5) = true := decide_eq_true c42
                        clear c42
                        by_cases c43 : 0 ≤ (rd ((rd_T46 l1 x6_2).f2) x7_5)
                        ·rw [if_pos c43] at H
                         have c43b0 : decide (0 ≤ (rd ((rd_T46 l1 x6_2).f2) x7_5)) = true := decide_eq_true c43
                         clear c43
                         by_cases c44 : (rd ((rd_T46 l1 x6_2).f2) x7_5) < (l1.length : Int)
                         ·rw [if_pos c44] at H
                          have c44b0 : decide ((rd ((rd_T46 l1 x6_2).f2) x7_5) < (l1.length : Int)) = true := decide_eq_true c44
                          clear c44
                          obtain ⟨ji45, hji45⟩ : ∃ j_ : Int, (wrap64 (x7_5 - 1)) = j_ := ⟨_, rfl⟩
                          replace H : (if 0 ≤ (ji45) then (if (ji45) < (((rd_T46 l1 x6_2).f2).length : Int) then (if 0 ≤ (rd ((rd_T46 l1 x6_2).f2) (ji45)) then (if (rd ((rd_T46 l1 x6_2).f2) (ji45)) < (l1.length : Int) then (if ((rd_T46 l1 (rd ((rd_T46 l1 x6_2).f2) x7_5)).f0) ≤ ((rd_T46 l1 (rd ((rd_T46 l1 x6_2).f2) (ji45))).f0) then (some false) else (if (rd ((rd_T46 l1 x6_2).f2) x7_5) < (x5_5.length : Int) then (ancepsref54_CheckTree.l1 k5 l1 (x5_5.set ((rd ((rd_T46 l1 x6_2).f2) x7_5) : Int).toNat (wrap64 ((rd x5_5 (rd ((rd_T46 l1 x6_2).f2) x7_5)) + 1))) x6_2 (wrap64 (x7_5 + 1)) l0_0) else (none))) else (none)) else (none)) else (none)) else (none)) = some r := by first | (rw [hji45] at H; exact H) | (simp only [hji45] at H ⊢; exact H)
                          have hji45w : (IntKind.i64.wrap (x7_5 - 1)) = ji45 := (i64_w _).trans hji45
                          by_cases c46 : 0 ≤ (ji45)
                          ·rw [if_pos c46] at H
                           have c46b0 : decide (0 ≤ (ji45)) = true := decide_eq_true c46
                           clear c46
                           by_cases c47 : (ji45) < (((rd_T46 l1 x6_2).f2).length : Int)
                           ·rw [if_pos c47] at H
                            have c47b0 : decide ((ji45) < (((rd_T46 l1 x6_2).f2).length : Int)) = true := decide_eq_true c47
                            clear c47
                            by_cases c48 : 0 ≤ (rd ((rd_T46 l1 x6_2).f2) (ji45))
                            ·rw [if_pos c48] at H
                             have c48b0 : decide (0 ≤ (rd ((rd_T46 l1 x6_2).f2) (ji45))) = true := decide_eq_true c48
                             clear c48
                             by_cases c49 : (rd ((rd_T46 l1 x6_2).f2) (ji45)) < (l1.length : Int)
                             ·rw [if_pos c49] at H
                              have c49b0 : decide ((rd ((rd_T46 l1 x6_2).f2) (ji45)) < (l1.length : Int)) = true := decide_eq_true c49
                              clear c49
                              by_cases c50 : ((rd_T46 l1 (rd ((rd_T46 l1 x6_2).f2) x7_5)).f0) ≤ ((rd_T46 l1 (rd ((rd_T46 l1 x6_2).f2) (ji45))).f0)
                              ·rw [if_pos c50] at H
                               have c50b0 : decide (((rd_T46 l1 (rd ((rd_T46 l1 x6_2).f2) x7_5)).f0) ≤ ((rd_T46 l1 (rd ((rd_T46 l1 x6_2).f2) (ji45))).f0)) = true := decide_eq_true c50
                               clear c50
                               obtain rfl := Option.some.inj H
                               have p289 := oD (0 ≤ (x6_2 : Int))
                               have q289 := oD (x6_2 < (l1.length : Int))
                               obtain ⟨ad289, A289_2, c289_2, e289, hx289_0, hx289_1, hx289_2, hl289_2, hi289_2⟩ := at_T46 HR1.out x6_2 p289 q289
                               cases e289
                               replace hx289_0 := (HB.out.cell (World.block_lt_of_cell? w _ hx289_0)).trans hx289_0
                               replace hx289_1 := (HB.out.cell (World.block_lt_of_cell? w _ hx289_1)).trans hx289_1
                               replace hx289_2 := (HB.out.cell (World.block_lt_of_cell? w _ hx289_2)).trans hx289_2
                               have HR289_2 := Aside0.mk hi289_2
                               have HC289_2 := Aside0.mk hl289_2
                               clear hi289_2 hl289_2
                               replace p289 := eq_true p289
                               replace q289 := eq_true q289
                               have p290 := oD (0 ≤ (x6_2 : Int))
                               have q290 := oD (x6_2 < (l1.length : Int))
                               obtain ⟨ad290, A290_2, c290_2, e290, hx290_0, hx290_1, hx290_2, hl290_2, hi290_2⟩ := at_T46 HR1.out x6_2 p290 q290
                               obtain rfl : ad289 = ad290 := (by injection e290)
                               replace hx290_0 := (HB.out.cell (World.block_lt_of_cell? w _ hx290_0)).trans hx290_0
                               replace hx290_1 := (HB.out.cell (World.block_lt_of_cell? w _ hx290_1)).trans hx290_1
                               replace hx290_2 := (HB.out.cell (World.block_lt_of_cell? w _ hx290_2)).trans hx290_2
                               have HR290_2 := Aside0.mk hi290_2
                               have HC290_2 := Aside0.mk hl290_2
                               clear hi290_2 hl290_2
                               replace p290 := eq_true p290
                               replace q290 := eq_true q290
                               have ea_ := Option.some.inj (hx289_2.symm.trans hx290_2)
                               injection ea_ with ea_ en_ ec_
                               subst ea_
                               subst ec_
                               clear en_
                               have p291 := oD (0 ≤ (x7_5 : Int))
                               have q291 := oD (x7_5 < (((rd_T46 l1 x6_2).f2).length : Int))
                               obtain ⟨ad291, e291, hx291_0⟩ := Kd.at_int HR290_2.out x7_5 p291 q291
                               cases e291
                               replace hx291_0 := (HB.out.cell (World.block_lt_of_cell? w _ hx291_0)).trans hx291_0
                               replace p291 := eq_true p291
                               replace q291 := eq_true q291
                               try go_wp2
                               have n0_ := Aside0.mk (Kd.R_drew HO_5.out)
                               have n1_ := Aside0.mk (blk_drew BK277.out)
                               have n2_ := Aside0.mk (below_drew1 HB.out)
                               clear HO_5
                               clear BK277
                               clear HB
                               have HO_5 := n0_
                               have BK277 := n1_
                               have HB := n2_
                               clear n0_ n1_ n2_
                               have p292 := oD (0 ≤ ((rd ((rd_T46 l1 x6_2).f2) x7_5) : Int))
                               have q292 := oD ((rd ((rd_T46 l1 x6_2).f2) x7_5) < (l1.length : Int))
                               obtain ⟨ad292, A292_2, c292_2, e292, hx292_0, hx292_1, hx292_2, hl292_2, hi292_2⟩ := at_T46 HR1.out (rd ((rd_T46 l1 x6_2).f2) x7_5) p292 q292
                               have hw292_2 := hx292_2
                               have hw292_1 := hx292_1
                               have hw292_0 := hx292_0
                               obtain rfl : ad289 = ad292 := (by injection e292)
                               replace hx292_0 := (HB.out.cell (World.block_lt_of_cell? w _ hx292_0)).trans hx292_0
                               replace hx292_1 := (HB.out.cell (World.block_lt_of_cell? w _ hx292_1)).trans hx292_1
                               replace hx292_2 := (HB.out.cell (World.block_lt_of_cell? w _ hx292_2)).trans hx292_2
                               have HR292_2 := Aside0.mk hi292_2
                               have HC292_2 := Aside0.mk hl292_2
                               clear hi292_2 hl292_2
                               replace p292 := eq_true p292
                               replace q292 := eq_true q292
                               have p293 := oD (0 ≤ (x6_2 : Int))
                               have q293 := oD (x6_2 < (l1.length : Int))
                               obtain ⟨ad293, A293_2, c293_2, e293, hx293_0, hx293_1, hx293_2, hl293_2, hi293_2⟩ := at_T46 HR1.out x6_2 p293 q293
                               have hw293_2 := hx293_2
                               have hw293_1 := hx293_1
                               have hw293_0 := hx293_0
                               obtain rfl : ad289 = ad293 := (by injection e293)
                               replace hx293_0 := (HB.out.cell (World.block_lt_of_cell? w _ hx293_0)).trans hx293_0
                               replace hx293_1 := (HB.out.cell (World.block_lt_of_cell? w _ hx293_1)).trans hx293_1
                               replace hx293_2 := (HB.out.cell (World.block_lt_of_cell? w _ hx293_2)).trans hx293_2
                               have HR293_2 := Aside0.mk hi293_2
                               have HC293_2 := Aside0.mk hl293_2
                               clear hi293_2 hl293_2
                               replace p293 := eq_true p293
                               replace q293 := eq_true q293
                               have p294 := oD (0 ≤ ((ji45) : Int))
                               have q294 := oD ((ji45) < (((rd_T46 l1 x6_2).f2).length : Int))
                               obtain ⟨ad294, e294, hx294_0⟩ := Kd.at_int HR293_2.out (ji45) p294 q294
                               have hw294_0 := hx294_0
                               cases e294
                               replace hx294_0 := (HB.out.cell (World.block_lt_of_cell? w _ hx294_0)).trans hx294_0
                               replace p294 := eq_true p294
                               replace q294 := eq_true q294
                               have p295 := oD (0 ≤ ((rd ((rd_T46 l1 x6_2).f2) (ji45)) : Int))
                               have q295 := oD ((rd ((rd_T46 l1 x6_2).f2) (ji45)) < (l1.length : Int))
                               obtain ⟨ad295, A295_2, c295_2, e295, hx295_0, hx295_1, hx295_2, hl295_2, hi295_2⟩ := at_T46 HR1.out (rd ((rd_T46 l1 x6_2).f2) (ji45)) p295 q295
                               have hw295_2 := hx295_2
                               have hw295_1 := hx295_1
                               have hw295_0 := hx295_0
                               obtain rfl : ad289 = ad295 := (by injection e295)
                               replace hx295_0 := (HB.out.cell (World.block_lt_of_cell? w _ hx295_0)).trans hx295_0
                               replace hx295_1 := (HB.out.cell (World.block_lt_of_cell? w _ hx295_1)).trans hx295_1
                               replace hx295_2 := (HB.out.cell (World.block_lt_of_cell? w _ hx295_2)).trans hx295_2
                               have HR295_2 := Aside0.mk hi295_2
                               have HC295_2 := Aside0.mk hl295_2
                               clear hi295_2 hl295_2
                               replace p295 := eq_true p295
                               replace q295 := eq_true q295
                               refine start_ (n := 34) (S := fun w' => w'.cell? (ad289.add (((rd ((rd_T46 l1 x6_2).f2) x7_5)).toNat * 3)) = some (.int .i64 ((rd_T46 l1 (rd ((rd_T46 l1 x6_2).f2) x7_5)).f0)) ∧ w'.cell? ⟨(ad289.add (((rd ((rd_T46 l1 x6_2).f2) x7_5)).toNat * 3)).block, (ad289.add (((rd ((rd_T46 l1 x6_2).f2) x7_5)).toNat * 3)).off + 1, none⟩ = some (.bool ((rd_T46 l1 (rd ((rd_T46 l1 x6_2).f2) x7_5)).f1)) ∧ w'.cell? ⟨(ad289.add (((rd ((rd_T46 l1 x6_2).f2) x7_5)).toNat * 3)).block, (ad289.add (((rd ((rd_T46 l1 x6_2).f2) x7_5)).toNat * 3)).off + 2, none⟩ = some (.slice A292_2 ((rd_T46 l1 (rd ((rd_T46 l1 x6_2).f2) x7_5)).f2).length c292_2) ∧ w'.cell? (ad289.add ((x6_2).toNat * 3)) = some (.int .i64 ((rd_T46 l1 x6_2).f0)) ∧ w'.cell? ⟨(ad289.add ((x6_2).toNat * 3)).block, (ad289.add ((x6_2).toNat * 3)).off + 1, none⟩ = some (.bool ((rd_T46 l1 x6_2).f1)) ∧ w'.cell? ⟨(ad289.add ((x6_2).toNat * 3)).block, (ad289.add ((x6_2).toNat * 3)).off + 2, none⟩ = some (.slice (some ad294) ((rd_T46 l1 x6_2).f2).length c293_2) ∧ w'.cell? (ad294.add ((ji45)).toNat) = some (.int .i64 (rd ((rd_T46 l1 x6_2).f2) (ji45))) ∧ w'.cell? (ad289.add (((rd ((rd_T46 l1 x6_2).f2) (ji45))).toNat * 3)) = some (.int .i64 ((rd_T46 l1 (rd ((rd_T46 l1 x6_2).f2) (ji45))).f0)) ∧ w'.cell? ⟨(ad289.add (((rd ((rd_T46 l1 x6_2).f2) (ji45))).toNat * 3)).block, (ad289.add (((rd ((rd_T46 l1 x6_2).f2) (ji45))).toNat * 3)).off + 1, none⟩ = some (.bool ((rd_T46 l1 (rd ((rd_T46 l1 x6_2).f2) (ji45))).f1)) ∧ w'.cell? ⟨(ad289.add (((rd ((rd_T46 l1 x6_2).f2) (ji45))).toNat * 3)).block, (ad289.add (((rd ((rd_T46 l1 x6_2).f2) (ji45))).toNat * 3)).off + 2, none⟩ = some (.slice A295_2 ((rd_T46 l1 (rd ((rd_T46 l1 x6_2).f2) (ji45))).f2).length c295_2)) (ds := []) #[false, false, false, false, false, false, false, false, false, false, false, false, false, false, false, false, false, false, false, false, false, false, false, false, false, false, false, false, false, false, false, false, false, false] (by kernel_rfl) rfl rfl ⟨((HB.out.cell (World.block_lt_of_cell? w _ hw292_0)).trans hw292_0), ((HB.out.cell (World.block_lt_of_cell? w _ hw292_1)).trans hw292_1), ((HB.out.cell (World.block_lt_of_cell? w _ hw292_2)).trans hw292_2), ((HB.out.cell (World.block_lt_of_cell? w _ hw293_0)).trans hw293_0), ((HB.out.cell (World.block_lt_of_cell? w _ hw293_1)).trans hw293_1), ((HB.out.cell (World.block_lt_of_cell? w _ hw293_2)).trans hw293_2), ((HB.out.cell (World.block_lt_of_cell? w _ hw294_0)).trans hw294_0), ((HB.out.cell (World.block_lt_of_cell? w _ hw295_0)).trans hw295_0), ((HB.out.cell (World.block_lt_of_cell? w _ hw295_1)).trans hw295_1), ((HB.out.cell (World.block_lt_of_cell? w _ hw295_2)).trans hw295_2)⟩ (fun hHeld => ?_); refine with_tabW ancepsref54_CheckTree.tab15 ancepsref54_CheckTree.bits15 (fun HT_ HW_ => ?_)
                               generalize wr.drew = w51 at HO_5 BK277 HB HR292_2 HR293_2 HR295_2 hx292_0 hx292_1 hx292_2 hx293_0 hx293_1 hx293_2 hx294_0 hx295_0 hx295_1 hx295_2 hHeld ⊢
                               refine pv_ 0 (some 99) HT_ ?_
                               refine pv_ 1 (some 100) HT_ ?_
                               refine pv_ 2 (some 101) HT_ ?_
                               refine pv_ 3 (some 102) HT_ ?_
                               refine pv_ 4 (some 103) HT_ ?_
                               refine pv_ 5 (some 104) HT_ ?_
                               refine pv_ 6 (some 105) HT_ ?_
                               refine pv_ 7 (some 106) HT_ ?_
                               refine pv_ 8 (some 107) HT_ ?_
                               refine pv_ 9 (some 108) HT_ ?_
                               refine pv_ 10 (some 109) HT_ ?_
                               refine pv_ 11 (some 110) HT_ ?_
                               refine pv_ 12 (some 111) HT_ ?_
                               refine pv_ 13 (some 112) HT_ ?_
                               refine pv_ 14 (some 113) HT_ ?_
                               refine pv_ 15 (some 114) HT_ ?_
                               refine pv_ 16 (some 115) HT_ ?_
                               refine pv_ 18 (some 117) HT_ ?_
                               refine pv_ 19 (some 118) HT_ ?_
                               refine pv_ 20 (some 119) HT_ ?_
                               refine pv_ 21 (some 120) HT_ ?_
                               refine pv_ 22 (some 121) HT_ ?_
                               refine pv_ 24 (some 123) HT_ ?_
                               refine pv_ 25 (some 124) HT_ ?_
                               refine tw_ 17 (some 116) HT_ HW_ hHeld ?_
                               refine tw_ 23 (some 122) HT_ HW_ hHeld ?_
                               refine pv_ 26 (some 125) HT_ ?_
                               refine tw_ 27 (some 126) HT_ HW_ hHeld ?_
                               refine pv_ 28 (some 127) HT_ ?_
                               refine pv_ 29 (some 128) HT_ ?_
                               refine tw_ 30 (some 129) HT_ HW_ hHeld ?_
                               refine pv_ 31 (some 130) HT_ ?_
                               refine pv_ 32 (some 131) HT_ ?_
                               refine pv_ 33 (some 132) HT_ ?_
                               refine done_ (done_of HT_.out (by kernel_rfl)) ?_
                               try go_wp2
                               go_ret
                               exact ⟨by first | rfl | (simp [errW_none, errW_some] <;> rfl) | (simp only [← hji45]; first | rfl | (simp [errW_none, errW_some] <;> rfl)) | (simp [*, errW_none, errW_some] <;> rfl), iL HB⟩
                              ·rw [if_neg c50] at H
                               have c50b0 : decide (((rd_T46 l1 (rd ((rd_T46 l1 x6_2).f2) x7_5)).f0) ≤ ((rd_T46 l1 (rd ((rd_T46 l1 x6_2).f2) (ji45))).f0)) = false := decide_eq_false c50
                               clear c50
                               by_cases c52 : (rd ((rd_T46 l1 x6_2).f2) x7_5) < (x5_5.length : Int)
                               ·rw [if_pos c52] at H
                                have c52b0 : decide ((rd ((rd_T46 l1 x6_2).f2) x7_5) < (x5_5.length : Int)) = true := decide_eq_true c52
                                clear c52
                                obtain ⟨y297, hy297⟩ : ∃ y_ : List Int, y_ = (x5_5.set ((rd ((rd_T46 l1 x6_2).f2) x7_5) : Int).toNat (wrap64 ((rd x5_5 (rd ((rd_T46 l1 x6_2).f2) x7_5)) + 1))) := ⟨_, rfl⟩
                                replace H : (ancepsref54_CheckTree.l1 k5 l1 y297 x6_2 (wrap64 (x7_5 + 1)) l0_0) = some r := by first | (rw [hy297]; with_reducible exact H) | (have H2_ := (Option.bind_some _ _).symm.trans H; rw [hy297]; with_reducible exact H2_) | (have H2_ := (Option.bind_some _ _).symm.trans H; with_reducible exact H2_) | with_reducible exact H | (rw [hy297]; exact H) | exact H
                                have Ny297 := Aside0.mk hy297
                                clear hy297
                                have H' := Aside0.mk H
                                clear H
                                have p289 := oD (0 ≤ (x6_2 : Int))
                                have q289 := oD (x6_2 < (l1.length : Int))
                                obtain ⟨ad289, A289_2, c289_2, e289, hx289_0, hx289_1, hx289_2, hl289_2, hi289_2⟩ := at_T46 HR1.out x6_2 p289 q289
                                cases e289
                                replace hx289_0 := (HB.out.cell (World.block_lt_of_cell? w _ hx289_0)).trans hx289_0
                                replace hx289_1 := (HB.out.cell (World.block_lt_of_cell? w _ hx289_1)).trans hx289_1
                                replace hx289_2 := (HB.out.cell (World.block_lt_of_cell? w _ hx289_2)).trans hx289_2
                                have HR289_2 := Aside0.mk hi289_2
                                have HC289_2 := Aside0.mk hl289_2
                                clear hi289_2 hl289_2
                                replace p289 := eq_true p289
                                replace q289 := eq_true q289
                                have p290 := oD (0 ≤ (x6_2 : Int))
                                have q290 := oD (x6_2 < (l1.length : Int))
                                obtain ⟨ad290, A290_2, c290_2, e290, hx290_0, hx290_1, hx290_2, hl290_2, hi290_2⟩ := at_T46 HR1.out x6_2 p290 q290
                                obtain rfl : ad289 = ad290 := (by injection e290)
                                replace hx290_0 := (HB.out.cell (World.block_lt_of_cell? w _ hx290_0)).trans hx290_0
                                replace hx290_1 := (HB.out.cell (World.block_lt_of_cell? w _ hx290_1)).trans hx290_1
                                replace hx290_2 := (HB.out.cell (World.block_lt_of_cell? w _ hx290_2)).trans hx290_2
                                have HR290_2 := Aside0.mk hi290_2
                                have HC290_2 := Aside0.mk hl290_2
                                clear hi290_2 hl290_2
                                replace p290 := eq_true p290
                                replace q290 := eq_true q290
                                have ea_ := Option.some.inj (hx289_2.symm.trans hx290_2)
                                injection ea_ with ea_ en_ ec_
                                subst ea_
                                subst ec_
                                clear en_
                                have p291 := oD (0 ≤ (x7_5 : Int))
                                have q291 := oD (x7_5 < (((rd_T46 l1 x6_2).f2).length : Int))
                                obtain ⟨ad291, e291, hx291_0⟩ := Kd.at_int HR290_2.out x7_5 p291 q291
                                cases e291
                                replace hx291_0 := (HB.out.cell (World.block_lt_of_cell? w _ hx291_0)).trans hx291_0
                                replace p291 := eq_true p291
                                replace q291 := eq_true q291
                                try go_wp2
                                have n0_ := Aside0.mk (Kd.R_drew HO_5.out)
                                have n1_ := Aside0.mk (blk_drew BK277.out)
                                have n2_ := Aside0.mk (below_drew1 HB.out)
                                clear HO_5
                                clear BK277
                                clear HB
                                have HO_5 := n0_
                                have BK277 := n1_
                                have HB := n2_
                                clear n0_ n1_ n2_
                                have p292 := oD (0 ≤ ((rd ((rd_T46 l1 x6_2).f2) x7_5) : Int))
                                have q292 := oD ((rd ((rd_T46 l1 x6_2).f2) x7_5) < (l1.length : Int))
                                obtain ⟨ad292, A292_2, c292_2, e292, hx292_0, hx292_1, hx292_2, hl292_2, hi292_2⟩ := at_T46 HR1.out (rd ((rd_T46 l1 x6_2).f2) x7_5) p292 q292
                                have hw292_2 := hx292_2
                                have hw292_1 := hx292_1
                                have hw292_0 := hx292_0
                                obtain rfl : ad289 = ad292 := (by injection e292)
                                replace hx292_0 := (HB.out.cell (World.block_lt_of_cell? w _ hx292_0)).trans hx292_0
                                replace hx292_1 := (HB.out.cell (World.block_lt_of_cell? w _ hx292_1)).trans hx292_1
                                replace hx292_2 := (HB.out.cell (World.block_lt_of_cell? w _ hx292_2)).trans hx292_2
                                have HR292_2 := Aside0.mk hi292_2
                                have HC292_2 := Aside0.mk hl292_2
                                clear hi292_2 hl292_2
                                replace p292 := eq_true p292
                                replace q292 := eq_true q292
                                have p293 := oD (0 ≤ (x6_2 : Int))
                                have q293 := oD (x6_2 < (l1.length : Int))
                                obtain ⟨ad293, A293_2, c293_2, e293, hx293_0, hx293_1, hx293_2, hl293_2, hi293_2⟩ := at_T46 HR1.out x6_2 p293 q293
                                have hw293_2 := hx293_2
                                have hw293_1 := hx293_1
                                have hw293_0 := hx293_0
                                obtain rfl : ad289 = ad293 := (by injection e293)
                                replace hx293_0 := (HB.out.cell (World.block_lt_of_cell? w _ hx293_0)).trans hx293_0
                                replace hx293_1 := (HB.out.cell (World.block_lt_of_cell? w _ hx293_1)).trans hx293_1
                                replace hx293_2 := (HB.out.cell (World.block_lt_of_cell? w _ hx293_2)).trans hx293_2
                                have HR293_2 := Aside0.mk hi293_2
                                have HC293_2 := Aside0.mk hl293_2
                                clear hi293_2 hl293_2
                                replace p293 := eq_true p293
                                replace q293 := eq_true q293
                                have p294 := oD (0 ≤ ((ji45) : Int))
                                have q294 := oD ((ji45) < (((rd_T46 l1 x6_2).f2).length : Int))
                                obtain ⟨ad294, e294, hx294_0⟩ := Kd.at_int HR293_2.out (ji45) p294 q294
                                have hw294_0 := hx294_0
                                cases e294
                                replace hx294_0 := (HB.out.cell (World.block_lt_of_cell? w _ hx294_0)).trans hx294_0
                                replace p294 := eq_true p294
                                replace q294 := eq_true q294
                                have p295 := oD (0 ≤ ((rd ((rd_T46 l1 x6_2).f2) (ji45)) : Int))
                                have q295 := oD ((rd ((rd_T46 l1 x6_2).f2) (ji45)) < (l1.length : Int))
                                obtain ⟨ad295, A295_2, c295_2, e295, hx295_0, hx295_1, hx295_2, hl295_2, hi295_2⟩ := at_T46 HR1.out (rd ((rd_T46 l1 x6_2).f2) (ji45)) p295 q295
                                have hw295_2 := hx295_2
                                have hw295_1 := hx295_1
                                have hw295_0 := hx295_0
                                obtain rfl : ad289 = ad295 := (by injection e295)
                                replace hx295_0 := (HB.out.cell (World.block_lt_of_cell? w _ hx295_0)).trans hx295_0
                                replace hx295_1 := (HB.out.cell (World.block_lt_of_cell? w _ hx295_1)).trans hx295_1
                                replace hx295_2 := (HB.out.cell (World.block_lt_of_cell? w _ hx295_2)).trans hx295_2
                                have HR295_2 := Aside0.mk hi295_2
                                have HC295_2 := Aside0.mk hl295_2
                                clear hi295_2 hl295_2
                                replace p295 := eq_true p295
                                replace q295 := eq_true q295
                                refine start_ (n := 34) (S := fun w' => w'.cell? (ad289.add (((rd ((rd_T46 l1 x6_2).f2) x7_5)).toNat * 3)) = some (.int .i64 ((rd_T46 l1 (rd ((rd_T46 l1 x6_2).f2) x7_5)).f0)) ∧ w'.cell? ⟨(ad289.add (((rd ((rd_T46 l1 x6_2).f2) x7_5)).toNat * 3)).block, (ad289.add (((rd ((rd_T46 l1 x6_2).f2) x7_5)).toNat * 3)).off + 1, none⟩ = some (.bool ((rd_T46 l1 (rd ((rd_T46 l1 x6_2).f2) x7_5)).f1)) ∧ w'.cell? ⟨(ad289.add (((rd ((rd_T46 l1 x6_2).f2) x7_5)).toNat * 3)).block, (ad289.add (((rd ((rd_T46 l1 x6_2).f2) x7_5)).toNat * 3)).off + 2, none⟩ = some (.slice A292_2 ((rd_T46 l1 (rd ((rd_T46 l1 x6_2).f2) x7_5)).f2).length c292_2) ∧ w'.cell? (ad289.add ((x6_2).toNat * 3)) = some (.int .i64 ((rd_T46 l1 x6_2).f0)) ∧ w'.cell? ⟨(ad289.add ((x6_2).toNat * 3)).block, (ad289.add ((x6_2).toNat * 3)).off + 1, none⟩ = some (.bool ((rd_T46 l1 x6_2).f1)) ∧ w'.cell? ⟨(ad289.add ((x6_2).toNat * 3)).block, (ad289.add ((x6_2).toNat * 3)).off + 2, none⟩ = some (.slice (some ad294) ((rd_T46 l1 x6_2).f2).length c293_2) ∧ w'.cell? (ad294.add ((ji45)).toNat) = some (.int .i64 (rd ((rd_T46 l1 x6_2).f2) (ji45))) ∧ w'.cell? (ad289.add (((rd ((rd_T46 l1 x6_2).f2) (ji45))).toNat * 3)) = some (.int .i64 ((rd_T46 l1 (rd ((rd_T46 l1 x6_2).f2) (ji45))).f0)) ∧ w'.cell? ⟨(ad289.add (((rd ((rd_T46 l1 x6_2).f2) (ji45))).toNat * 3)).block, (ad289.add (((rd ((rd_T46 l1 x6_2).f2) (ji45))).toNat * 3)).off + 1, none⟩ = some (.bool ((rd_T46 l1 (rd ((rd_T46 l1 x6_2).f2) (ji45))).f1)) ∧ w'.cell? ⟨(ad289.add (((rd ((rd_T46 l1 x6_2).f2) (ji45))).toNat * 3)).block, (ad289.add (((rd ((rd_T46 l1 x6_2).f2) (ji45))).toNat * 3)).off + 2, none⟩ = some (.slice A295_2 ((rd_T46 l1 (rd ((rd_T46 l1 x6_2).f2) (ji45))).f2).length c295_2)) (ds := []) #[false, false, false, false, false, false, false, false, false, false, false, false, false, false, false, false, false, false, false, false, false, false, false, false, false, false, false, false, false, false, false, false, false, false] (by kernel_rfl) rfl rfl ⟨((HB.out.cell (World.block_lt_of_cell? w _ hw292_0)).trans hw292_0), ((HB.out.cell (World.block_lt_of_cell? w _ hw292_1)).trans hw292_1), ((HB.out.cell (World.block_lt_of_cell? w _ hw292_2)).trans hw292_2), ((HB.out.cell (World.block_lt_of_cell? w _ hw293_0)).trans hw293_0), ((HB.out.cell (World.block_lt_of_cell? w _ hw293_1)).trans hw293_1), ((HB.out.cell (World.block_lt_of_cell? w _ hw293_2)).trans hw293_2), ((HB.out.cell (World.block_lt_of_cell? w _ hw294_0)).trans hw294_0), ((HB.out.cell (World.block_lt_of_cell? w _ hw295_0)).trans hw295_0), ((HB.out.cell (World.block_lt_of_cell? w _ hw295_1)).trans hw295_1), ((HB.out.cell (World.block_lt_of_cell? w _ hw295_2)).trans hw295_2)⟩ (fun hHeld => ?_); refine with_tabW ancepsref54_CheckTree.tab15 ancepsref54_CheckTree.bits15 (fun HT_ HW_ => ?_)
                                generalize wr.drew = w54 at HO_5 BK277 HB HR292_2 HR293_2 HR295_2 hx292_0 hx292_1 hx292_2 hx293_0 hx293_1 hx293_2 hx294_0 hx295_0 hx295_1 hx295_2 hHeld ⊢
                                refine pv_ 0 (some 99) HT_ ?_
                                refine pv_ 1 (some 100) HT_ ?_
                                refine pv_ 2 (some 101) HT_ ?_
                                refine pv_ 3 (some 102) HT_ ?_
                                refine pv_ 4 (some 103) HT_ ?_
                                refine pv_ 5 (some 104) HT_ ?_
                                refine pv_ 6 (some 105) HT_ ?_
                                refine pv_ 7 (some 106) HT_ ?_
                                refine pv_ 8 (some 107) HT_ ?_
                                refine pv_ 9 (some 108) HT_ ?_
                                refine pv_ 10 (some 109) HT_ ?_
                                refine pv_ 11 (some 110) HT_ ?_
                                refine pv_ 12 (some 111) HT_ ?_
                                refine pv_ 13 (some 112) HT_ ?_
                                refine pv_ 14 (some 113) HT_ ?_
                                refine pv_ 15 (some 114) HT_ ?_
                                refine pv_ 16 (some 115) HT_ ?_
                                refine pv_ 18 (some 117) HT_ ?_
                                refine pv_ 19 (some 118) HT_ ?_
                                refine pv_ 20 (some 119) HT_ ?_
                                refine pv_ 21 (some 120) HT_ ?_
                                refine pv_ 22 (some 121) HT_ ?_
                                refine pv_ 24 (some 123) HT_ ?_
                                refine pv_ 25 (some 124) HT_ ?_
                                refine tw_ 17 (some 116) HT_ HW_ hHeld ?_
                                refine tw_ 23 (some 122) HT_ HW_ hHeld ?_
                                refine pv_ 26 (some 125) HT_ ?_
                                refine tw_ 27 (some 126) HT_ HW_ hHeld ?_
                                refine pv_ 28 (some 127) HT_ ?_
                                refine pv_ 29 (some 128) HT_ ?_
                                refine tw_ 30 (some 129) HT_ HW_ hHeld ?_
                                refine pv_ 31 (some 130) HT_ ?_
                                refine pv_ 32 (some 131) HT_ ?_
                                refine pv_ 33 (some 132) HT_ ?_
                                refine done_ (done_of HT_.out (by kernel_rfl)) ?_
                                obtain ⟨Ao55, co55, eo55⟩ := Kd.R_slice HO_5.out
                                subst eo55
                                have p296 := oD (0 ≤ ((rd ((rd_T46 l1 x6_2).f2) x7_5) : Int))
                                have q296 := oD ((rd ((rd_T46 l1 x6_2).f2) x7_5) < (x5_5.length : Int))
                                obtain ⟨ad296, e296, hx296_0⟩ := Kd.at_int (Kd.R_reads' HO_5.out).2.2 (rd ((rd_T46 l1 x6_2).f2) x7_5) p296 q296
                                cases e296
                                replace p296 := eq_true p296
                                replace q296 := eq_true q296
                                have p53 := oD (0 ≤ ((rd ((rd_T46 l1 x6_2).f2) x7_5) : Int))
                                have q53 := oD (((rd ((rd_T46 l1 x6_2).f2) x7_5) : Int) < ((x5_5.length : Int) : Int))
                                obtain ⟨go53, co53, eo53, gb53, gl53, cl53, HG53⟩ := Kd.R_form HO_5.out (by omega)
                                (first | cases eo53 | (injection eo53 with ea_ en_ ec_; (first | subst ea_ | (injection ea_ with ea_; subst ea_)); subst ec_; clear en_))
                                have GB53 := Aside0.mk gb53
                                have GG53 := Aside0.mk HG53
                                clear gb53 gl53 HG53
                                (first | simp only [add_plain] at hx296_0 | skip)
                                obtain ⟨hx53_0, hf53_0⟩ := Kd.R_celln 0 HO_5.out ((rd ((rd_T46 l1 x6_2).f2) x7_5) : Int) p53 q53
                                replace p53 := eq_true p53
                                replace q53 := eq_true q53
                                obtain ⟨hy56_, hz56_⟩ := Kd.R_celln 0 HO_5.out ((rd ((rd_T46 l1 x6_2).f2) x7_5) : Int) (of_decide_eq_true (by first | (with_reducible assumption) | assumption)) (of_decide_eq_true (by first | (with_reducible assumption) | assumption))
                                have HP56 := Kd.R_putg HO_5.out ((rd ((rd_T46 l1 x6_2).f2) x7_5) : Int) (wrap64 ((rd x5_5 (rd ((rd_T46 l1 x6_2).f2) x7_5)) + 1))
                                (try (obtain ⟨hx53_0, hf53_0⟩ := Kd.R_celln 0 HO_5.out ((rd ((rd_T46 l1 x6_2).f2) x7_5) : Int) (by first | omega | exact of_eq_true p53) (by first | omega | exact of_eq_true q53)))
                                try go_wp2_with (first | ((with_reducible refine gate_store (t := 3) (p := 138) rfl ?_); refine store_event (t := 3) (p := 138) (v := ?vo_w57) (w1 := (w54.setCell ⟨go53, ((rd ((rd_T46 l1 x6_2).f2) x7_5) : Int).toNat, none⟩ (.int .i64 (wrap64 ((rd x5_5 (rd ((rd_T46 l1 x6_2).f2) x7_5)) + 1))))) ?hg ?ho ?hn ?hr ?_; (case ho => rfl); (case hg => rfl); (case hn => rfl); (case hr => first | (go_simp; done) | (go_simp; rfl)); intro w57 hw; have hg : w54.grownBy w57 (some go53) := (by rw [hw]; exact HP56.2); have hp_ : Kd.R (Kd.int .i64) 3 w57 w.heap.size (fun _ => True) (.slice (some ⟨go53, 0, none⟩) x5_5.length co55) y297 := (by rw [hw, Ny297.out]; exact HP56.1); clear HP56; have n0_ := Aside0.mk (hp_); have n1_ := Aside0.mk (blk_grown (g := gb277) (o := .cells #[.slice A0_0 l0_0.length c0_0] 26 (0, 0)) (iB BK277) hg (Kd.R_ne HO_5.out BK277.out (by decide))); have n2_ := Aside0.mk ((by rw [hw]; exact below_set (HB.out) GB53.out : Below w.heap.size w w57)); clear HO_5; clear BK277; clear HB; have HO_5 := n0_; have BK277 := n1_; have HB := n2_; clear n0_ n1_ n2_; clear hg hw hp_))
                                go_roundg k5
                                case measure => have := HJ2.out; have := HK2.out; have := HJ20.out; have := HJ25.out; have := HK5.out; omega
                                case rel => exact ⟨(y297), (wrap64 (x7_5 + 1)), eV, H', ⟨by have := HJ2.out; have := HK2.out; have := HJ20.out; have := HJ25.out; have := HK5.out; omega⟩, ⟨iR HO_5⟩, ⟨iB BK277⟩, ⟨iL HB⟩⟩
                               ·rw [if_neg c52] at H
                                exact absurd H (by simp)
                             ·rw [if_neg c49] at H
                              exact absurd H (by simp)
                            ·rw [if_neg c48] at H
                             exact absurd H (by simp)
                           ·rw [if_neg c47] at H
                            exact absurd H (by simp)
                          ·rw [if_neg c46] at H
                           exact absurd H (by simp)
                         ·rw [if_neg c44] at H
                          exact absurd H (by simp)
                        ·rw [if_neg c43] at H
                         exact absurd H (by simp)
                       ·rw [if_neg c42] at H
                        have c42b0 : decide (0 < x7_5) = false := decide_eq_false c42
                        clear c42
                        by_cases c58 : 0 ≤ (rd ((rd_T46 l1 x6_2).f2) x7_5)
                        ·rw [if_pos c58] at H
                         have c58b0 : decide (0 ≤ (rd ((rd_T46 l1 x6_2).f2) x7_5)) = true := decide_eq_true c58
                         clear c58
                         by_cases c59 : (rd ((rd_T46 l1 x6_2).f2) x7_5) < (x5_5.length : Int)
                         ·rw [if_pos c59] at H
                          have c59b0 : decide ((rd ((rd_T46 l1 x6_2).f2) x7_5) < (x5_5.length : Int)) = true := decide_eq_true c59
                          clear c59
                          obtain ⟨y299, hy299⟩ : ∃ y_ : List Int, y_ = (x5_5.set ((rd ((rd_T46 l1 x6_2).f2) x7_5) : Int).toNat (wrap64 ((rd x5_5 (rd ((rd_T46 l1 x6_2).f2) x7_5)) + 1))) := ⟨_, rfl⟩
                          replace H : (ancepsref54_CheckTree.l1 k5 l1 y299 x6_2 (wrap64 (x7_5 + 1)) l0_0) = some r := by first | (rw [hy299]; with_reducible exact H) | (have H2_ := (Option.bind_some _ _).symm.trans H; rw [hy299]; with_reducible exact H2_) | (have H2_ := (Option.bind_some _ _).symm.trans H; with_reducible exact H2_) | with_reducible exact H | (rw [hy299]; exact H) | exact H
                          have Ny299 := Aside0.mk hy299
                          clear hy299
                          have H' := Aside0.mk H
                          clear H
                          have p289 := oD (0 ≤ (x6_2 : Int))
                          have q289 := oD (x6_2 < (l1.length : Int))
                          obtain ⟨ad289, A289_2, c289_2, e289, hx289_0, hx289_1, hx289_2, hl289_2, hi289_2⟩ := at_T46 HR1.out x6_2 p289 q289
                          cases e289
                          replace hx289_0 := (HB.out.cell (World.block_lt_of_cell? w _ hx289_0)).trans hx289_0
                          replace hx289_1 := (HB.out.cell (World.block_lt_of_cell? w _ hx289_1)).trans hx289_1
                          replace hx289_2 := (HB.out.cell (World.block_lt_of_cell? w _ hx289_2)).trans hx289_2
                          have HR289_2 := Aside0.mk hi289_2
                          have HC289_2 := Aside0.mk hl289_2
                          clear hi289_2 hl289_2
                          replace p289 := eq_true p289
                          replace q289 := eq_true q289
                          have p290 := oD (0 ≤ (x6_2 : Int))
                          have q290 := oD (x6_2 < (l1.length : Int))
                          obtain ⟨ad290, A290_2, c290_2, e290, hx290_0, hx290_1, hx290_2, hl290_2, hi290_2⟩ := at_T46 HR1.out x6_2 p290 q290
                          obtain rfl : ad289 = ad290 := (by injection e290)
                          replace hx290_0 := (HB.out.cell (World.block_lt_of_cell? w _ hx290_0)).trans hx290_0
                          replace hx290_1 := (HB.out.cell (World.block_lt_of_cell? w _ hx290_1)).trans hx290_1
                          replace hx290_2 := (HB.out.cell (World.block_lt_of_cell? w _ hx290_2)).trans hx290_2
                          have HR290_2 := Aside0.mk hi290_2
                          have HC290_2 := Aside0.mk hl290_2
                          clear hi290_2 hl290_2
                          replace p290 := eq_true p290
                          replace q290 := eq_true q290
                          have ea_ := Option.some.inj (hx289_2.symm.trans hx290_2)
                          injection ea_ with ea_ en_ ec_
                          subst ea_
                          subst ec_
                          clear en_
                          have p291 := oD (0 ≤ (x7_5 : Int))
                          have q291 := oD (x7_5 < (((rd_T46 l1 x6_2).f2).length : Int))
                          obtain ⟨ad291, e291, hx291_0⟩ := Kd.at_int HR290_2.out x7_5 p291 q291
                          cases e291
                          replace hx291_0 := (HB.out.cell (World.block_lt_of_cell? w _ hx291_0)).trans hx291_0
                          replace p291 := eq_true p291
                          replace q291 := eq_true q291
                          try go_wp2
                          have n0_ := Aside0.mk (Kd.R_drew HO_5.out)
                          have n1_ := Aside0.mk (blk_drew BK277.out)
                          have n2_ := Aside0.mk (below_drew1 HB.out)
                          clear HO_5
                          clear BK277
                          clear HB
                          have HO_5 := n0_
                          have BK277 := n1_
                          have HB := n2_
                          clear n0_ n1_ n2_
                          refine start_ (n := 34) (S := fun w' => True) (ds := []) #[false, false, false, false, false, false, false, false, false, false, false, false, false, false, false, false, false, false, false, false, false, false, false, false, false, false, false, false, false, false, false, false, false, false] (by kernel_rfl) rfl rfl trivial (fun hHeld => ?_); refine with_tabW ancepsref54_CheckTree.tab15 ancepsref54_CheckTree.bits15 (fun HT_ HW_ => ?_)
                          generalize wr.drew = w61 at HO_5 BK277 HB hHeld ⊢
                          refine pv_ 0 (some 99) HT_ ?_
                          refine pv_ 1 (some 100) HT_ ?_
                          refine pv_ 2 (some 101) HT_ ?_
                          refine pv_ 3 (some 102) HT_ ?_
                          refine pv_ 4 (some 103) HT_ ?_
                          refine pv_ 5 (some 104) HT_ ?_
                          refine pv_ 6 (some 105) HT_ ?_
                          refine pv_ 7 (some 106) HT_ ?_
                          refine pv_ 8 (some 107) HT_ ?_
                          refine pv_ 9 (some 108) HT_ ?_
                          refine pv_ 10 (some 109) HT_ ?_
                          refine pv_ 11 (some 110) HT_ ?_
                          refine pv_ 12 (some 111) HT_ ?_
                          refine pn_ 13 (some 112) HT_ ?_
                          refine pn_ 14 (some 113) HT_ ?_
                          refine pn_ 15 (some 114) HT_ ?_
                          refine pn_ 16 (some 115) HT_ ?_
                          refine pn_ 17 (some 116) HT_ ?_
                          refine pn_ 18 (some 117) HT_ ?_
                          refine pn_ 19 (some 118) HT_ ?_
                          refine pn_ 20 (some 119) HT_ ?_
                          refine pn_ 21 (some 120) HT_ ?_
                          refine pn_ 22 (some 121) HT_ ?_
                          refine pn_ 23 (some 122) HT_ ?_
                          refine pn_ 24 (some 123) HT_ ?_
                          refine pn_ 25 (some 124) HT_ ?_
                          refine pn_ 26 (some 125) HT_ ?_
                          refine pn_ 27 (some 126) HT_ ?_
                          refine pn_ 28 (some 127) HT_ ?_
                          refine pn_ 29 (some 128) HT_ ?_
                          refine pn_ 30 (some 129) HT_ ?_
                          refine pn_ 31 (some 130) HT_ ?_
                          refine pv_ 32 (some 131) HT_ ?_
                          refine pv_ 33 (some 132) HT_ ?_
                          refine done_ (done_of HT_.out (by kernel_rfl)) ?_
                          obtain ⟨Ao62, co62, eo62⟩ := Kd.R_slice HO_5.out
                          subst eo62
                          have p298 := oD (0 ≤ ((rd ((rd_T46 l1 x6_2).f2) x7_5) : Int))
                          have q298 := oD ((rd ((rd_T46 l1 x6_2).f2) x7_5) < (x5_5.length : Int))
                          obtain ⟨ad298, e298, hx298_0⟩ := Kd.at_int (Kd.R_reads' HO_5.out).2.2 (rd ((rd_T46 l1 x6_2).f2) x7_5) p298 q298
                          cases e298
                          replace p298 := eq_true p298
                          replace q298 := eq_true q298
                          have p60 := oD (0 ≤ ((rd ((rd_T46 l1 x6_2).f2) x7_5) : Int))
                          have q60 := oD (((rd ((rd_T46 l1 x6_2).f2) x7_5) : Int) < ((x5_5.length : Int) : Int))
                          obtain ⟨go60, co60, eo60, gb60, gl60, cl60, HG60⟩ := Kd.R_form HO_5.out (by omega)
                          (first | cases eo60 | (injection eo60 with ea_ en_ ec_; (first | subst ea_ | (injection ea_ with ea_; subst ea_)); subst ec_; clear en_))
                          have GB60 := Aside0.mk gb60
                          have GG60 := Aside0.mk HG60
                          clear gb60 gl60 HG60
                          (first | simp only [add_plain] at hx298_0 | skip)
                          obtain ⟨hx60_0, hf60_0⟩ := Kd.R_celln 0 HO_5.out ((rd ((rd_T46 l1 x6_2).f2) x7_5) : Int) p60 q60
                          replace p60 := eq_true p60
                          replace q60 := eq_true q60
                          obtain ⟨hy63_, hz63_⟩ := Kd.R_celln 0 HO_5.out ((rd ((rd_T46 l1 x6_2).f2) x7_5) : Int) (of_decide_eq_true (by first | (with_reducible assumption) | assumption)) (of_decide_eq_true (by first | (with_reducible assumption) | assumption))
                          have HP63 := Kd.R_putg HO_5.out ((rd ((rd_T46 l1 x6_2).f2) x7_5) : Int) (wrap64 ((rd x5_5 (rd ((rd_T46 l1 x6_2).f2) x7_5)) + 1))
                          (try (obtain ⟨hx60_0, hf60_0⟩ := Kd.R_celln 0 HO_5.out ((rd ((rd_T46 l1 x6_2).f2) x7_5) : Int) (by first | omega | exact of_eq_true p60) (by first | omega | exact of_eq_true q60)))
                          try go_wp2_with (first | ((with_reducible refine gate_store (t := 3) (p := 138) rfl ?_); refine store_event (t := 3) (p := 138) (v := ?vo_w64) (w1 := (w61.setCell ⟨go60, ((rd ((rd_T46 l1 x6_2).f2) x7_5) : Int).toNat, none⟩ (.int .i64 (wrap64 ((rd x5_5 (rd ((rd_T46 l1 x6_2).f2) x7_5)) + 1))))) ?hg ?ho ?hn ?hr ?_; (case ho => rfl); (case hg => rfl); (case hn => rfl); (case hr => first | (go_simp; done) | (go_simp; rfl)); intro w64 hw; have hg : w61.grownBy w64 (some go60) := (by rw [hw]; exact HP63.2); have hp_ : Kd.R (Kd.int .i64) 3 w64 w.heap.size (fun _ => True) (.slice (some ⟨go60, 0, none⟩) x5_5.length co62) y299 := (by rw [hw, Ny299.out]; exact HP63.1); clear HP63; have n0_ := Aside0.mk (hp_); have n1_ := Aside0.mk (blk_grown (g := gb277) (o := .cells #[.slice A0_0 l0_0.length c0_0] 26 (0, 0)) (iB BK277) hg (Kd.R_ne HO_5.out BK277.out (by decide))); have n2_ := Aside0.mk ((by rw [hw]; exact below_set (HB.out) GB60.out : Below w.heap.size w w64)); clear HO_5; clear BK277; clear HB; have HO_5 := n0_; have BK277 := n1_; have HB := n2_; clear n0_ n1_ n2_; clear hg hw hp_))
                          go_roundg k5
                          case measure => have := HJ2.out; have := HK2.out; have := HJ20.out; have := HJ25.out; have := HK5.out; omega
                          case rel => exact ⟨(y299), (wrap64 (x7_5 + 1)), eV, H', ⟨by have := HJ2.out; have := HK2.out; have := HJ20.out; have := HJ25.out; have := HK5.out; omega⟩, ⟨iR HO_5⟩, ⟨iB BK277⟩, ⟨iL HB⟩⟩
                         ·rw [if_neg c59] at H
                          exact absurd H (by simp)
                        ·rw [if_neg c58] at H
                         exact absurd H (by simp)
                    ·rw [if_neg c37] at H
                     exact absurd H (by simp)
                   ·rw [if_neg c36] at H
                    have c36b0 : decide (x7_5 < (((rd_T46 l1 x6_2).f2).length : Int)) = false := decide_eq_false c36
                    clear c36
                    have H' := Aside0.mk H
                    clear H
                    have p289 := oD (0 ≤ (x6_2 : Int))
                    have q289 := oD (x6_2 < (l1.length : Int))
                    obtain ⟨ad289, A289_2, c289_2, e289, hx289_0, hx289_1, hx289_2, hl289_2, hi289_2⟩ := at_T46 HR1.out x6_2 p289 q289
                    cases e289
                    replace hx289_0 := (HB.out.cell (World.block_lt_of_cell? w _ hx289_0)).trans hx289_0
                    replace hx289_1 := (HB.out.cell (World.block_lt_of_cell? w _ hx289_1)).trans hx289_1
                    replace hx289_2 := (HB.out.cell (World.block_lt_of_cell? w _ hx289_2)).trans hx289_2
                    have HR289_2 := Aside0.mk hi289_2
                    have HC289_2 := Aside0.mk hl289_2
                    clear hi289_2 hl289_2
                    replace p289 := eq_true p289
                    replace q289 := eq_true q289
                    go_wp2
                    go_roundg k5
                    case measure => have := HJ2.out; have := HK2.out; have := HJ20.out; have := HJ25.out; have := HK5.out; omega
                    case rel => exact ⟨(wrap64 (x6_2 + 1)), (x5_5), eV, H', ⟨by have := HJ2.out; have := HK2.out; have := HJ20.out; have := HJ25.out; have := HK5.out; omega⟩, ⟨iR HO_5⟩, ⟨iB BK277⟩, ⟨iL HB⟩⟩
                  ·rw [if_neg c35] at H
                   exact absurd H (by simp)
                 ·rw [if_neg c34] at H
                  exact absurd H (by simp)
        ·rw [if_neg c20] at H
         have c20b0 : decide (x6_2 < (l1.length : Int)) = false := decide_eq_false c20
         clear c20
         have H' := Aside0.mk H
         clear H
         go_wp2
         go_loopg [9] k2 (fun kq v9 w' => ∃ (x9_3 : Int), v9 = .int .i64 x9_3 ∧ Aside0 (ancepsref54_CheckTree.l2 kq l1 x27_2 x9_3 l0_0 = some r) ∧ Aside0 (kq ≤ k2) ∧ Aside0 (Kd.R (Kd.int .i64) 3 w' w.heap.size (fun _ => True) v281 x27_2) ∧ Aside0 (w'.heap[gb277]? = some (.cells #[(.slice A0_0 l0_0.length c0_0)] 26 (0, 0))) ∧ Aside0 (Below w.heap.size w w'))
         case atStart => exact ⟨(1), eV, H', ⟨Nat.le_refl _⟩, ⟨iR HO_27⟩, ⟨iB BK277⟩, ⟨iL HB⟩⟩
         case round =>
          clear H'
          (try clear c2); (try clear p2); (try clear q2); (try clear hx2); (try clear c3); (try clear c4); (try clear c5); (try clear p5); (try clear q5); (try clear hx5); (try clear hf5); (try clear p6); (try clear q6); (try clear hx6); (try clear hf6); (try clear c20); (try clear c20b0); (try clear c28); (try clear p28); (try clear q28); (try clear hx28); (try clear c29); (try clear p29); (try clear q29); (try clear hx29); (try clear c34); (try clear c35); (try clear c36); (try clear c36b0); (try clear c37); (try clear c42); (try clear c42b0); (try clear c43); (try clear c44); (try clear c46); (try clear c47); (try clear c48); (try clear c49); (try clear c52); (try clear p53); (try clear q53); (try clear hx53); (try clear hf53); (try clear c58); (try clear c58b0); (try clear c59); (try clear c59b0); (try clear p60); (try clear q60); (try clear hx60); (try clear hf60); (try clear p64); (try clear hx289_0); (try clear hx289_1); (try clear hx289_2); (try clear hx290_0); (try clear hx290_1); (try clear hx290_2); (try clear hx291_0); (try clear hx296_0); (try clear hx298_0); (try clear hx53_0); (try clear hx60_0); (try clear p289); (try clear p290); (try clear p291); (try clear p296); (try clear p298); (try clear p53); (try clear p60); (try clear q289); (try clear q290); (try clear q291); (try clear q296); (try clear q298); (try clear q53); (try clear q60)
          obtain ⟨x9_3, rfl, HA, HK3, HO_5, BK277, HB⟩ := hrel
          cases gk with
          | zero => exact absurd HA.out (by simp [ancepsref54_CheckTree.l2])
          | succ k3 =>
           have H := HA.out
           clear HA
           simp only [ancepsref54_CheckTree.l2] at H
           by_cases c65 : x9_3 < (l1.length : Int)
           ·rw [if_pos c65] at H
            have c65b0 : decide (x9_3 < (l1.length : Int)) = true := decide_eq_true c65
            clear c65
            by_cases c66 : 0 ≤ x9_3
            ·rw [if_pos c66] at H
             have c66b0 : decide (0 ≤ x9_3) = true := decide_eq_true c66
             clear c66
             by_cases c67 : x9_3 < (x27_2.length : Int)
             ·rw [if_pos c67] at H
              have c67b0 : decide (x9_3 < (x27_2.length : Int)) = true := decide_eq_true c67
              clear c67
              by_cases c68 : (rd x27_2 x9_3) = 1
              ·rw [if_pos c68] at H
               have c68b0 : ((rd x27_2 x9_3) == 1) = true := beq_iff_eq.mpr c68
               have c68b1 : ((rd x27_2 x9_3) != 1) = false := bne_eq_false_iff_eq.mpr c68
               clear c68
               have H' := Aside0.mk H
               clear H
               obtain ⟨Ao69, co69, eo69⟩ := Kd.R_slice HO_5.out
               subst eo69
               have p300 := oD (0 ≤ (x9_3 : Int))
               have q300 := oD (x9_3 < (x27_2.length : Int))
               obtain ⟨ad300, e300, hx300_0⟩ := Kd.at_int (Kd.R_reads' HO_5.out).2.2 x9_3 p300 q300
               cases e300
               replace p300 := eq_true p300
               replace q300 := eq_true q300
               go_wp2
               go_roundg k3
               case measure => have := HJ2.out; have := HK2.out; have := HK3.out; omega
               case rel => exact ⟨(wrap64 (x9_3 + 1)), eV, H', ⟨by have := HJ2.out; have := HK2.out; have := HK3.out; omega⟩, ⟨iR HO_5⟩, ⟨iB BK277⟩, ⟨iL HB⟩⟩
              ·rw [if_neg c68] at H
               have c68b0 : ((rd x27_2 x9_3) == 1) = false := beq_eq_false_iff_ne.mpr c68
               have c68b1 : ((rd x27_2 x9_3) != 1) = true := bne_iff_ne.mpr c68
               obtain rfl := Option.some.inj H
               obtain ⟨Ao70, co70, eo70⟩ := Kd.R_slice HO_5.out
               subst eo70
               have p300 := oD (0 ≤ (x9_3 : Int))
               have q300 := oD (x9_3 < (x27_2.length : Int))
               obtain ⟨ad300, e300, hx300_0⟩ := Kd.at_int (Kd.R_reads' HO_5.out).2.2 x9_3 p300 q300
               cases e300
               replace p300 := eq_true p300
               replace q300 := eq_true q300
               go_wp2
               go_ret
               exact ⟨eV, iL HB⟩
             ·rw [if_neg c67] at H
              exact absurd H (by simp)
            ·rw [if_neg c66] at H
             exact absurd H (by simp)
           ·rw [if_neg c65] at H
            have c65b0 : decide (x9_3 < (l1.length : Int)) = false := decide_eq_false c65
            clear c65
            replace H := Option.bind_eq_some_iff.mp H
            obtain ⟨t301, A710, H⟩ := H
            try dsimp only at H
            have A71 := Aside0.mk A710
            clear A710
            replace H := Option.bind_eq_some_iff.mp H
            obtain ⟨t304, A720, H⟩ := H
            replace H : (some t304) = some r := H
            have A72 := Aside0.mk A720
            clear A720
            obtain rfl := Option.some.inj H
            try go_wp2
            have n0_ := Aside0.mk (Kd.R_drew HO_5.out)
            have n1_ := Aside0.mk (blk_drew BK277.out)
            have n2_ := Aside0.mk (below_drew1 HB.out)
            clear HO_5
            clear BK277
            clear HB
            have HO_5 := n0_
            have BK277 := n1_
            have HB := n2_
            clear n0_ n1_ n2_
            refine start_ (n := 6) (S := fun w' => w'.cell? ⟨gb277, 0, none⟩ = some (.slice A0_0 l0_0.length c0_0)) (ds := []) #[false, false, false, false, false, false] (by kernel_rfl) rfl rfl ((blk_cell BK277.out 0).trans rfl) (fun hHeld => ?_)
            generalize wr.drew = w73 at HO_5 BK277 HB hHeld ⊢
            refine ph_ 0 (some 150) ?_
            refine ph_ 2 (some 152) ?_
            refine take_ (i := 3) (N := some 153) (v := ?_) (a' := ?_) #[true, false, true, true, false, false] rfl rfl (by kernel_rfl) (fun _ _ _ h => h) (Or.inl ⟨by rfl, ?_⟩) hHeld ?_ ?_
            rotate_left
            ·intro w' s0
             go_simp
             with_reducible rfl
            rotate_left
            ·simp only [Act.put, List.setIfInBounds_toArray, List.set_cons_zero, List.set_cons_succ, i64_w, i32_w]
             rfl
            refine one_ (i := 1) (N := some 151) #[true, true, true, true, false, false] rfl rfl (by kernel_rfl) (by decide) (fun K hK => ?_)
            refine goes_ Try.func44 (by kernel_rfl) rfl #[.slice A1 l1.length c1, .int .i64 0, .slice none 0 0] (by rfl) rfl rfl (by (try simp only [List.map_toArray, List.map_cons, List.map_nil]); first | done | rfl | (simp only [List.length_drop, List.length_take]; rfl)) ?_
            refine (ancepsref54_spell.calls k3 _ _ l1 0 _ _ ([] : List Int) t301 _ ?side1 ?side2 ?side3 ?side4 A71.out).mono ?_
            (case side1 => exact iC HR1 HB)
            (case side2 => exact HC1.out)
            (case side3 => exact Kd.C_nil _ _)
            (case side4 => exact Nat.le_refl _)
            rintro e w74 ⟨v302, rfl, ho0, hb⟩
            refine ⟨_, rfl, ?_⟩
            have n0_ := jR HO_5 hb
            have n1_ := Aside0.mk (Kd.R_lower ho0 (below_size (iL HB)))
            have n2_ := jB BK277 hb
            have n3_ := jL HB hb
            clear HO_5
            clear BK277
            clear HB
            have HO_5 := n0_
            have HO303 := n1_
            have BK277 := n2_
            have HB := n3_
            clear n0_ n1_ n2_ n3_
            (try clear hb)
            (try clear hb2)
            (try clear hk)
            (try clear hi)
            (try clear ho0)
            obtain ⟨Ao75, co75, eo75⟩ := Kd.R_slice HO303.out
            (first | subst eo75 | (injection eo75 with f1_ f2_ f3_; have f4_ := f1_.symm; have f5_ := f3_.symm; clear f1_ f2_ f3_; subst f4_; subst f5_))
            refine hK.out _ _ ((blk_cell BK277.out 0).trans rfl) (fun hHeld => ?_)
            clear hK K
            refine norm_ (a' := ?_) ?_ ?_
            rotate_left
            ·show Act.put _ (some 151) _ = _
             simp only [Act.put, List.setIfInBounds_toArray, List.set_cons_zero, List.set_cons_succ, i64_w, i32_w]
             rfl
            refine one_ (i := 4) (N := some 154) #[true, true, true, true, true, false] rfl rfl (by kernel_rfl) (by decide) (fun K hK => ?_)
            refine goes_ Try.func43 (by kernel_rfl) rfl #[.slice Ao75 t301.length co75, .slice A0_0 l0_0.length c0_0] (by rfl) rfl rfl (by (try simp only [List.map_toArray, List.map_cons, List.map_nil]); first | done | rfl | (simp only [List.length_drop, List.length_take]; rfl)) ?_
            with_reducible refine (ancepsref54_Strings.calls k3 _ _ t301 _ _ l0_0 t304 _ ?side1 ?side2 ?side3 ?side4 A72.out).mono ?_
            (case side1 => repeat (first | exact (Kd.R_reads' HO303.out).2.2 | (with_reducible refine Kd.C_alloc ?_ _) | (with_reducible refine Kd.C_drewN ?_ _) | (with_reducible refine Kd.C_drew ?_)))
            (case side2 => exact (Kd.R_reads' HO303.out).2.1)
            (case side3 => exact iC HR0_0 HB)
            (case side4 => exact HC0_0.out)
            rintro e w' ⟨rfl, ⟨nd, rfl⟩⟩
            refine ⟨_, rfl, ?_⟩
            refine hK.out _ _ ((blk_cell BK277.out 0).trans rfl) (fun hHeld => ?_)
            clear hK K
            refine norm_ (a' := ?_) ?_ ?_
            rotate_left
            ·show Act.put _ (some 154) _ = _
             simp only [Act.put, List.setIfInBounds_toArray, List.set_cons_zero, List.set_cons_succ, i64_w, i32_w]
             rfl
            refine ph_ 5 (some 4) ?_
            refine done_ (by kernel_rfl) ?_
            try go_wp2
            go_ret
            exact ⟨eV, iL HB⟩
     ·rw [if_neg c17] at H
      exact absurd H (by simp)
    ·rw [if_neg c16] at H
     exact absurd H (by simp)

end Go.Proofs.Ytdaooagikacboaa.X
