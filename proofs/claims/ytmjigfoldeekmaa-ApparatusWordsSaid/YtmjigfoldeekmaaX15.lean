-- shortened
-- thinned
-- halved indents
-- printed by this session's xprint.py: out of the translation, by the kit's print with additions; Lean checks it
import Derived.Test.YtmjigfoldeekmaaXC
import Derived.Test.YtmjigfoldeekmaaWN
import Derived.Test.YtmjigfoldeekmaaWShare
import Derived.Test.YtmjigfoldeekmaaWRepsOne
import Derived.Test.YtmjigfoldeekmaaWGuard
import Derived.Test.YtmjigfoldeekmaaX0
import Derived.Test.YtmjigfoldeekmaaX13
import Derived.Test.YtmjigfoldeekmaaX14
import Derived.Test.YtmjigfoldeekmaaXA
namespace Go.Proofs.Ytmjigfoldeekmaa.X
open Go.RowKit Go.Proofs.YtmjigfoldeekmaaW.PrintWords Go.Proofs.YtmjigfoldeekmaaW.PrintLast Go.Proofs.YtmjigfoldeekmaaW.PrintMore
attribute [local go_sem] max2_int min2_int max_two min_two max_three min_three max_four min_four isSome_setCell binOp_gtr_str binOp_leq_str binOp_geq_str   -- for this text's walks alone
set_option linter.unusedVariables false
set_option linter.unusedSimpArgs false

/-! ### ancepsref57_Words: function 11 -/
mutual
def ancepsref57_Words.l0 : Nat → List ByteArray → List ByteArray → Int → List (List Int) → Option ((List (S29)) × Int)
 | 0, _, _, _, _ => none
 | k + 1, x6, x8, x10, x34 => if x10 ≥ 0 then (if 0 ≤ (wrap64 ((x8.length : Int) + 1)) then (if (wrap64 ((x8.length : Int) + 1) : Int).toNat ≤ 35184372088832 then (if 0 ≤ x10 then (if x10 < (x34.length : Int) then (ancepsref57_Words.l1 k x6 x8 x10 (x8.length : Int) (x34.set (x10 : Int).toNat (List.replicate (wrap64 ((x8.length : Int) + 1) : Int).toNat 0))) else (none)) else (none)) else (none)) else (none)) else (ancepsref57_Words.l2 k x6 x8 ([] : List (S29)) 0 0 x34)
def ancepsref57_Words.l1 : Nat → List ByteArray → List ByteArray → Int → Int → List (List Int) → Option ((List (S29)) × Int)
 | 0, _, _, _, _, _ => none
 | k + 1, x6, x8, x10, x11, x34 => if x11 ≥ 0 then (if 0 ≤ x10 then (if x10 < (x34.length : Int) then (if 0 ≤ x11 then (if x11 < ((rd_L9 x34 x10).length : Int) then ((some (x34.set (x10 : Int).toNat ((rd_L9 x34 x10).set (x11 : Int).toNat (wrap64 ((wrap64 ((wrap64 ((x6.length : Int) - x10)) + (x8.length : Int))) - x11))) : List (List Int))).bind fun y282 => (if x10 < (x6.length : Int) then (if x11 < (x8.length : Int) then ((ancepsref57_unlike.f (rdOf ByteArray.empty x6 x10) (rdOf ByteArray.empty x8 x11)).bind fun t286 => (if 0 ≤ (wrap64 (x10 + 1)) then (if (wrap64 (x10 + 1)) < (x34.length : Int) then (if 0 ≤ (wrap64 (x11 + 1)) then (if (wrap64 (x11 + 1)) < ((rd_L9 y282 (wrap64 (x10 + 1))).length : Int) then (if x11 < ((rd_L9 y282 (wrap64 (x10 + 1))).length : Int) then (if (wrap64 (x11 + 1)) < ((rd_L9 y282 x10).length : Int) then (if x11 < ((rd_L9 y282 x10).length : Int) then (ancepsref57_Words.l1 k x6 x8 x10 (wrap64 (x11 - 1)) (y282.set (x10 : Int).toNat ((rd_L9 y282 x10).set (x11 : Int).toNat (mn (mn (wrap64 (t286 + (rd (rd_L9 y282 (wrap64 (x10 + 1))) (wrap64 (x11 + 1))))) (wrap64 (1 + (rd (rd_L9 y282 (wrap64 (x10 + 1))) x11)))) (wrap64 (1 + (rd (rd_L9 y282 x10) (wrap64 (x11 + 1))))))))) else (none)) else (none)) else (none)) else (none)) else (none)) else (none)) else (none))) else (ancepsref57_Words.l1 k x6 x8 x10 (wrap64 (x11 - 1)) y282)) else (ancepsref57_Words.l1 k x6 x8 x10 (wrap64 (x11 - 1)) y282))) else (none)) else (none)) else (none)) else (none)) else (ancepsref57_Words.l0 k x6 x8 (wrap64 (x10 - 1)) x34)
def ancepsref57_Words.l2 : Nat → List ByteArray → List ByteArray → List (S29) → Int → Int → List (List Int) → Option ((List (S29)) × Int)
 | 0, _, _, _, _, _, _ => none
 | k + 1, x6, x8, x12, x13, x14, x34 => if x13 < (x6.length : Int) then (ancepsref57_Words.j3 k x6 x8 x34 x12 x13 x14 true) else (ancepsref57_Words.j3 k x6 x8 x34 x12 x13 x14 (decide (x14 < (x8.length : Int))))
def ancepsref57_Words.j3 : Nat → List ByteArray → List ByteArray → List (List Int) → List (S29) → Int → Int → Bool → Option ((List (S29)) × Int)
 | 0, _, _, _, _, _, _, _ => none
 | k + 1, x6, x8, x9, x12, x13, x14, x132 => if x132 = true then (if x13 < (x6.length : Int) then (if x14 < (x8.length : Int) then (if 0 ≤ x13 then (if x13 < (x9.length : Int) then (if 0 ≤ x14 then (if x14 < ((rd_L9 x9 x13).length : Int) then ((ancepsref57_unlike.f (rdOf ByteArray.empty x6 x13) (rdOf ByteArray.empty x8 x14)).bind fun t300 => (if 0 ≤ (wrap64 (x13 + 1)) then (if (wrap64 (x13 + 1)) < (x9.length : Int) then (if 0 ≤ (wrap64 (x14 + 1)) then (if (wrap64 (x14 + 1)) < ((rd_L9 x9 (wrap64 (x13 + 1))).length : Int) then (ancepsref57_Words.j4 k x6 x8 x9 x12 x13 x14 ((rd (rd_L9 x9 x13) x14) == (wrap64 (t300 + (rd (rd_L9 x9 (wrap64 (x13 + 1))) (wrap64 (x14 + 1))))))) else (none)) else (none)) else (none)) else (none))) else (none)) else (none)) else (none)) else (none)) else (ancepsref57_Words.j4 k x6 x8 x9 x12 x13 x14 false)) else (ancepsref57_Words.j4 k x6 x8 x9 x12 x13 x14 false)) else (some (x12, 0))
def ancepsref57_Words.j4 : Nat → List ByteArray → List ByteArray → List (List Int) → List (S29) → Int → Int → Bool → Option ((List (S29)) × Int)
 | 0, _, _, _, _, _, _, _ => none
 | k + 1, x6, x8, x9, x12, x13, x14, x140 => if x140 = true then (if x12.length < 8796093022208 then (ancepsref57_Words.l2 k x6 x8 (x12 ++ [(⟨x13, x14⟩ : S29)]) (wrap64 (x13 + 1)) (wrap64 (x14 + 1)) x9) else (none)) else (if x13 < (x6.length : Int) then (if 0 ≤ x13 then (if x13 < (x9.length : Int) then (if 0 ≤ x14 then (if x14 < ((rd_L9 x9 x13).length : Int) then (if 0 ≤ (wrap64 (x13 + 1)) then (if (wrap64 (x13 + 1)) < (x9.length : Int) then (if x14 < ((rd_L9 x9 (wrap64 (x13 + 1))).length : Int) then (if (rd (rd_L9 x9 x13) x14) = (wrap64 (1 + (rd (rd_L9 x9 (wrap64 (x13 + 1))) x14))) then (if x12.length < 8796093022208 then (ancepsref57_Words.l2 k x6 x8 (x12 ++ [(⟨x13, (-1)⟩ : S29)]) (wrap64 (x13 + 1)) x14 x9) else (none)) else (if x12.length < 8796093022208 then (ancepsref57_Words.l2 k x6 x8 (x12 ++ [(⟨(-1), x14⟩ : S29)]) x13 (wrap64 (x14 + 1)) x9) else (none))) else (none)) else (none)) else (none)) else (none)) else (none)) else (none)) else (none)) else (if x12.length < 8796093022208 then (ancepsref57_Words.l2 k x6 x8 (x12 ++ [(⟨(-1), x14⟩ : S29)]) x13 (wrap64 (x14 + 1)) x9) else (none)))
end
def ancepsref57_Words.f (k : Nat) (a0 : ByteArray) (a1 : ByteArray) : Option ((List (S29)) × Int) := (ancepsref01_All.f k a0).bind fun bt264 => (if bt264.2 = 0 then ((ancepsref01_All.f k a1).bind fun bt268 => (if bt268.2 = 0 then (if 0 ≤ (wrap64 ((bt264.1.length : Int) + 1)) then (if (wrap64 ((bt264.1.length : Int) + 1) : Int).toNat ≤ 11728124029610 then (ancepsref57_Words.l0 k bt264.1 bt268.1 (bt264.1.length : Int) (List.replicate (wrap64 ((bt264.1.length : Int) + 1) : Int).toNat [])) else (none)) else (none)) else (some (([] : List (S29)), bt268.2)))) else (some (([] : List (S29)), bt264.2)))
theorem ancepsref57_Words.mono_l : ∀ k, (∀ y0 y1 y2 y3, LeO (ancepsref57_Words.l0 k y0 y1 y2 y3) (ancepsref57_Words.l0 (k + 1) y0 y1 y2 y3)) ∧ (∀ y0 y1 y2 y3 y4, LeO (ancepsref57_Words.l1 k y0 y1 y2 y3 y4) (ancepsref57_Words.l1 (k + 1) y0 y1 y2 y3 y4)) ∧ (∀ y0 y1 y2 y3 y4 y5, LeO (ancepsref57_Words.l2 k y0 y1 y2 y3 y4 y5) (ancepsref57_Words.l2 (k + 1) y0 y1 y2 y3 y4 y5)) ∧ (∀ y0 y1 y2 y3 y4 y5 y6, LeO (ancepsref57_Words.j3 k y0 y1 y2 y3 y4 y5 y6) (ancepsref57_Words.j3 (k + 1) y0 y1 y2 y3 y4 y5 y6)) ∧ (∀ y0 y1 y2 y3 y4 y5 y6, LeO (ancepsref57_Words.j4 k y0 y1 y2 y3 y4 y5 y6) (ancepsref57_Words.j4 (k + 1) y0 y1 y2 y3 y4 y5 y6))
 | 0 => ⟨fun _ _ _ _ r h => by simp [ancepsref57_Words.l0] at h, fun _ _ _ _ _ r h => by simp [ancepsref57_Words.l1] at h, fun _ _ _ _ _ _ r h => by simp [ancepsref57_Words.l2] at h, fun _ _ _ _ _ _ _ r h => by simp [ancepsref57_Words.j3] at h, fun _ _ _ _ _ _ _ r h => by simp [ancepsref57_Words.j4] at h⟩
 | k + 1 => by
  obtain ⟨ih0, ih1, ih2, ih3, ih4⟩ := ancepsref57_Words.mono_l k
  refine ⟨?_, ?_, ?_, ?_, ?_⟩
  ·intro y0 y1 y2 y3
   unfold ancepsref57_Words.l0
   repeat' first
   | (with_reducible exact ih0 _ _ _ _)
   | (with_reducible exact ih1 _ _ _ _ _)
   | (with_reducible exact ih2 _ _ _ _ _ _)
   | (with_reducible exact ih3 _ _ _ _ _ _ _)
   | (with_reducible exact ih4 _ _ _ _ _ _ _)
   | (with_reducible exact ancepsref01_All.mono _ _)
   | (with_reducible exact LeO.refl _)
   | (with_reducible exact LeO.none _)
   | (with_reducible refine LeO.ite ?_ ?_)
   | (with_reducible refine LeO.bind ?_ (fun _ => ?_))
   | exact ih0 _ _ _ _
   | exact ih1 _ _ _ _ _
   | exact ih2 _ _ _ _ _ _
   | exact ih3 _ _ _ _ _ _ _
   | exact ih4 _ _ _ _ _ _ _
   | exact ancepsref01_All.mono _ _
   | exact LeO.none _
   | refine LeO.ite ?_ ?_
   | refine LeO.bind ?_ (fun _ => ?_)
  ·intro y0 y1 y2 y3 y4
   unfold ancepsref57_Words.l1
   repeat' first
   | (with_reducible exact ih0 _ _ _ _)
   | (with_reducible exact ih1 _ _ _ _ _)
   | (with_reducible exact ih2 _ _ _ _ _ _)
   | (with_reducible exact ih3 _ _ _ _ _ _ _)
   | (with_reducible exact ih4 _ _ _ _ _ _ _)
   | (with_reducible exact ancepsref01_All.mono _ _)
   | (with_reducible exact LeO.refl _)
   | (with_reducible exact LeO.none _)
   | (with_reducible refine LeO.ite ?_ ?_)
   | (with_reducible refine LeO.bind ?_ (fun _ => ?_))
   | exact ih0 _ _ _ _
   | exact ih1 _ _ _ _ _
   | exact ih2 _ _ _ _ _ _
   | exact ih3 _ _ _ _ _ _ _
   | exact ih4 _ _ _ _ _ _ _
   | exact ancepsref01_All.mono _ _
   | exact LeO.none _
   | refine LeO.ite ?_ ?_
   | refine LeO.bind ?_ (fun _ => ?_)
  ·intro y0 y1 y2 y3 y4 y5
   unfold ancepsref57_Words.l2
   repeat' first
   | (with_reducible exact ih0 _ _ _ _)
   | (with_reducible exact ih1 _ _ _ _ _)
   | (with_reducible exact ih2 _ _ _ _ _ _)
   | (with_reducible exact ih3 _ _ _ _ _ _ _)
   | (with_reducible exact ih4 _ _ _ _ _ _ _)
   | (with_reducible exact ancepsref01_All.mono _ _)
   | (with_reducible exact LeO.refl _)
   | (with_reducible exact LeO.none _)
   | (with_reducible refine LeO.ite ?_ ?_)
   | (with_reducible refine LeO.bind ?_ (fun _ => ?_))
   | exact ih0 _ _ _ _
   | exact ih1 _ _ _ _ _
   | exact ih2 _ _ _ _ _ _
   | exact ih3 _ _ _ _ _ _ _
   | exact ih4 _ _ _ _ _ _ _
   | exact ancepsref01_All.mono _ _
   | exact LeO.none _
   | refine LeO.ite ?_ ?_
   | refine LeO.bind ?_ (fun _ => ?_)
  ·intro y0 y1 y2 y3 y4 y5 y6
   unfold ancepsref57_Words.j3
   repeat' first
   | (with_reducible exact ih0 _ _ _ _)
   | (with_reducible exact ih1 _ _ _ _ _)
   | (with_reducible exact ih2 _ _ _ _ _ _)
   | (with_reducible exact ih3 _ _ _ _ _ _ _)
   | (with_reducible exact ih4 _ _ _ _ _ _ _)
   | (with_reducible exact ancepsref01_All.mono _ _)
   | (with_reducible exact LeO.refl _)
   | (with_reducible exact LeO.none _)
   | (with_reducible refine LeO.ite ?_ ?_)
   | (with_reducible refine LeO.bind ?_ (fun _ => ?_))
   | exact ih0 _ _ _ _
   | exact ih1 _ _ _ _ _
   | exact ih2 _ _ _ _ _ _
   | exact ih3 _ _ _ _ _ _ _
   | exact ih4 _ _ _ _ _ _ _
   | exact ancepsref01_All.mono _ _
   | exact LeO.none _
   | refine LeO.ite ?_ ?_
   | refine LeO.bind ?_ (fun _ => ?_)
  ·intro y0 y1 y2 y3 y4 y5 y6
   unfold ancepsref57_Words.j4
   repeat' first
   | (with_reducible exact ih0 _ _ _ _)
   | (with_reducible exact ih1 _ _ _ _ _)
   | (with_reducible exact ih2 _ _ _ _ _ _)
   | (with_reducible exact ih3 _ _ _ _ _ _ _)
   | (with_reducible exact ih4 _ _ _ _ _ _ _)
   | (with_reducible exact ancepsref01_All.mono _ _)
   | (with_reducible exact LeO.refl _)
   | (with_reducible exact LeO.none _)
   | (with_reducible refine LeO.ite ?_ ?_)
   | (with_reducible refine LeO.bind ?_ (fun _ => ?_))
   | exact ih0 _ _ _ _
   | exact ih1 _ _ _ _ _
   | exact ih2 _ _ _ _ _ _
   | exact ih3 _ _ _ _ _ _ _
   | exact ih4 _ _ _ _ _ _ _
   | exact ancepsref01_All.mono _ _
   | exact LeO.none _
   | refine LeO.ite ?_ ?_
   | refine LeO.bind ?_ (fun _ => ?_)
theorem ancepsref57_Words.mono : ∀ a0 a1 k, LeO (ancepsref57_Words.f k a0 a1) (ancepsref57_Words.f (k + 1) a0 a1) := by
 intro a0 a1 k
 obtain ⟨ih0, ih1, ih2, ih3, ih4⟩ := ancepsref57_Words.mono_l k
 unfold ancepsref57_Words.f
 repeat' first
   | (with_reducible exact ih0 _ _ _ _)
   | (with_reducible exact ih1 _ _ _ _ _)
   | (with_reducible exact ih2 _ _ _ _ _ _)
   | (with_reducible exact ih3 _ _ _ _ _ _ _)
   | (with_reducible exact ih4 _ _ _ _ _ _ _)
   | (with_reducible exact ancepsref01_All.mono _ _)
   | (with_reducible exact LeO.refl _)
   | (with_reducible exact LeO.none _)
   | (with_reducible refine LeO.ite ?_ ?_)
   | (with_reducible refine LeO.bind ?_ (fun _ => ?_))
   | exact ih0 _ _ _ _
   | exact ih1 _ _ _ _ _
   | exact ih2 _ _ _ _ _ _
   | exact ih3 _ _ _ _ _ _ _
   | exact ih4 _ _ _ _ _ _ _
   | exact ancepsref01_All.mono _ _
   | exact LeO.none _
   | refine LeO.ite ?_ ?_
   | refine LeO.bind ?_ (fun _ => ?_)
def ancepsref57_Words.T17 : Bool × List (List Nat × List Nat) := (true, [([], []), ([], []), ([0, 1], [0, 1]), ([2], [2]), ([], []), ([], []), ([], []), ([5, 6], [5, 6]), ([7], [7]), ([], []), ([], []), ([9, 10], [9, 10]), ([11], [11]), ([8, 12], [8, 12]), ([], []), ([], []), ([15], [15]), ([14, 16], [14, 16]), ([17], [17]), ([], []), ([19], [19]), ([18, 20], [18, 20]), ([21], [21]), ([13, 22], [13, 22]), ([], []), ([], []), ([25], [25]), ([24, 26], [24, 26]), ([27], [27]), ([], []), ([28, 29], [28, 29]), ([30], [30]), ([31], [31]), ([], []), ([], []), ([33, 34], [33, 34]), ([35], [35]), ([], []), ([37], [37]), ([36, 38], [36, 38]), ([39], [39]), ([40], [40]), ([23, 32, 41], [23, 32, 41]), ([3, 4, 0, 1, 2, 3, 4, 5, 6, 7, 8, 9, 10, 11, 12, 13, 14, 15, 16, 17, 18, 19, 20, 21, 22, 23, 24, 25, 26, 27, 28, 29, 30, 31, 32, 33, 34, 35, 36, 37, 38, 39, 40, 41, 42], [3, 4]), ([43, 42, 13, 0, 1, 2, 3, 4, 5, 6, 7, 8, 9, 10, 11, 12, 13, 14, 15, 16, 17, 18, 19, 20, 21, 22, 23, 24, 25, 26, 27, 28, 29, 30, 31, 32, 33, 34, 35, 36, 37, 38, 39, 40, 41, 42], [42, 43])])
def ancepsref57_Words.B17 : List Nat := [0, 0, 3, 7, 0, 0, 0, 96, 224, 0, 0, 1536, 3584, 8160, 0, 0, 32768, 114688, 245760, 0, 524288, 2080768, 4177920, 8388576, 0, 0, 33554432, 117440512, 251658240, 0, 1056964608, 2130706432, 4278190080, 0, 0, 25769803776, 60129542144, 0, 137438953472, 541165879296, 1090921693184, 2190433320960, 4398046511072, 8796093022207, 17592186044415]
theorem ancepsref57_Words.tab17 : rtab .any (opsOf Try.f11 17) = ancepsref57_Words.T17 := by kernel_rfl
theorem ancepsref57_Words.bits17 : waitsOk ancepsref57_Words.T17.2 ancepsref57_Words.B17 = true := by kernel_rfl
def ancepsref57_Words.T23 : Bool × List (List Nat × List Nat) := (true, [([], []), ([], []), ([1], [1]), ([0, 2], [0, 2]), ([3], [3]), ([4], [4]), ([4], [4]), ([6, 4], [4, 6]), ([5, 7, 4], [4, 5, 7]), ([4, 8], [4, 8]), ([9, 4], [9]), ([10], [10]), ([10], [10]), ([11, 12, 10], [10, 11, 12]), ([13, 10], [10, 13]), ([10], [10]), ([14, 15, 10], [10, 14, 15]), ([16, 10], [10, 16]), ([10], [10]), ([10], [10]), ([18, 19, 10], [10, 18, 19]), ([20, 10], [10, 20]), ([10], [10]), ([10], [10]), ([22, 23, 10], [10, 22, 23]), ([24, 10], [10, 24]), ([21, 25, 10, 10], [10, 21, 25]), ([10], [10]), ([10], [10]), ([28, 10], [10, 28]), ([27, 29, 10], [10, 27, 29]), ([30, 10], [10, 30]), ([10], [10]), ([32, 10], [10, 32]), ([31, 33, 10], [10, 31, 33]), ([34, 10], [10, 34]), ([26, 35, 10], [10, 26, 35]), ([17, 36, 10], [10, 17, 36]), ([10, 37], [10, 37]), ([38, 26], [38])])
def ancepsref57_Words.B23 : List Nat := [0, 0, 2, 7, 15, 31, 31, 95, 255, 511, 1023, 2047, 2047, 8191, 16383, 2047, 65535, 131071, 2047, 2047, 788479, 1837055, 2047, 2047, 12584959, 29362175, 66848767, 2047, 2047, 268437503, 939526143, 2013267967, 2047, 4294969343, 17045653503, 34225522687, 68719216639, 137438953471, 274877906943, 549755813887]
theorem ancepsref57_Words.tab23 : rtab .any (opsOf Try.f11 23) = ancepsref57_Words.T23 := by kernel_rfl
theorem ancepsref57_Words.bits23 : waitsOk ancepsref57_Words.T23.2 ancepsref57_Words.B23 = true := by kernel_rfl
def ancepsref57_Words.T26 : Bool × List (List Nat × List Nat) := (true, [([], []), ([], []), ([1], [1]), ([0, 2], [0, 2]), ([3], [3]), ([4], [4]), ([4], [4]), ([5, 6, 4], [4, 5, 6]), ([7, 4], [4, 7]), ([4], [4]), ([8, 9, 4], [4, 8, 9]), ([10, 4], [4, 10]), ([4], [4]), ([4], [4]), ([13, 4], [4, 13]), ([12, 14, 4], [4, 12, 14]), ([15, 4], [4, 15]), ([4], [4]), ([16, 17, 4], [4, 16, 17]), ([18, 4], [4, 18]), ([19, 4], [4, 19]), ([11, 20, 4], [4, 11, 20]), ([4, 21], [4, 21]), ([22, 4], [22])])
def ancepsref57_Words.B26 : List Nat := [0, 0, 2, 7, 15, 31, 31, 127, 255, 31, 1023, 2047, 31, 31, 8223, 28703, 61471, 31, 258079, 520223, 1044511, 2097151, 4194303, 8388607]
theorem ancepsref57_Words.tab26 : rtab .any (opsOf Try.f11 26) = ancepsref57_Words.T26 := by kernel_rfl
theorem ancepsref57_Words.bits26 : waitsOk ancepsref57_Words.T26.2 ancepsref57_Words.B26 = true := by kernel_rfl
set_option maxHeartbeats 8000000 in
set_option maxRecDepth 100000 in
theorem ancepsref57_Words.calls (k : Nat) (a0 : ByteArray) (a1 : ByteArray) (r1 : List (S29)) (r2 : Int) (w : World) (h : ancepsref57_Words.f k a0 a1 = some (r1, r2)) :
  Calls Try.prog 11 #[.string a0, .string a1] w fun e w' => ∃ v0_ : Value, e = .returned (.tuple #[v0_, .int .i64 r2]) ∧ Kd.R k29 29 w' w.heap.size (fun _ => True) v0_ r1 ∧ Below w.heap.size w w' := by
 have hu29 := Try.underlying29
 have HB := Aside0.mk (Below.refl w.heap.size w)
 have H : ((ancepsref01_All.f k a0).bind fun bt264 => (if bt264.2 = 0 then ((ancepsref01_All.f k a1).bind fun bt268 => (if bt268.2 = 0 then (if 0 ≤ (wrap64 ((bt264.1.length : Int) + 1)) then (if (wrap64 ((bt264.1.length : Int) + 1) : Int).toNat ≤ 11728124029610 then (ancepsref57_Words.l0 k bt264.1 bt268.1 (bt264.1.length : Int) (List.replicate (wrap64 ((bt264.1.length : Int) + 1) : Int).toNat [])) else (none)) else (none)) else (some (([] : List (S29)), bt268.2)))) else (some (([] : List (S29)), bt264.2)))) = some (r1, r2) := h
 clear h
 replace H := Option.bind_eq_some_iff.mp H
 obtain ⟨⟨t264, t265⟩, A30, H⟩ := H
 try dsimp only at H
 have A3 := Aside0.mk A30
 clear A30
 by_cases c4 : t265 = 0
 ·rw [if_pos c4] at H
  have c4b0 : (t265 == 0) = true := beq_iff_eq.mpr c4
  have c4b1 : (t265 != 0) = false := bne_eq_false_iff_eq.mpr c4
  clear c4
  replace H := Option.bind_eq_some_iff.mp H
  obtain ⟨⟨t268, t269⟩, A50, H⟩ := H
  try dsimp only at H
  have A5 := Aside0.mk A50
  clear A50
  by_cases c6 : t269 = 0
  ·rw [if_pos c6] at H
   have c6b0 : (t269 == 0) = true := beq_iff_eq.mpr c6
   have c6b1 : (t269 != 0) = false := bne_eq_false_iff_eq.mpr c6
   clear c6
   obtain ⟨ji7, hji7⟩ : ∃ j_ : Int, (wrap64 ((t264.length : Int) + 1)) = j_ := ⟨_, rfl⟩
   replace H : (if 0 ≤ (ji7) then (if (ji7 : Int).toNat ≤ 11728124029610 then (ancepsref57_Words.l0 k t264 t268 (t264.length : Int) (List.replicate (ji7 : Int).toNat [])) else (none)) else (none)) = some (r1, r2) := by first | (rw [hji7] at H; exact H) | (simp only [hji7] at H ⊢; exact H)
   (try rw [hji7] at A3)
   (try rw [hji7] at A5)
   have hji7w : (IntKind.i64.wrap ((t264.length : Int) + 1)) = ji7 := (i64_w _).trans hji7
   by_cases c8 : 0 ≤ (ji7)
   ·rw [if_pos c8] at H
    have c8b0 := eq_true c8
    have c8b1 : decide (0 ≤ (ji7)) = true := decide_eq_true c8
    clear c8
    by_cases c9 : (ji7 : Int).toNat ≤ 11728124029610
    ·rw [if_pos c9] at H
     have c9b0 := eq_true c9
     have c9b1 : decide ((ji7 : Int).toNat ≤ 11728124029610) = true := decide_eq_true c9
     clear c9
     obtain ⟨y272, hy272⟩ : ∃ y_ : List (List Int), y_ = (List.replicate (ji7 : Int).toNat []) := ⟨_, rfl⟩
     replace H : (ancepsref57_Words.l0 k t264 t268 (t264.length : Int) y272) = some (r1, r2) := by first | (rw [hy272]; with_reducible exact H) | (have H2_ := (Option.bind_some _ _).symm.trans H; rw [hy272]; with_reducible exact H2_) | (have H2_ := (Option.bind_some _ _).symm.trans H; with_reducible exact H2_) | with_reducible exact H | (rw [hy272]; exact H) | exact H
     have Ny272 := Aside0.mk hy272
     clear hy272
     have H' := Aside0.mk H
     clear H
     go_enter Try.func11, Try.ntmps11
     go_wp2_with (first | ((with_reducible refine gate_callee (f := 14) rfl ?_); refine gL_ (some 17) Try.func14 #[.string a0] ?_; (with_reducible refine (ancepsref01_All.calls k a0 t264 t265 _ A3.out).mono ?_); rintro e w10 ⟨v266, rfl, ho0, hb⟩; refine ⟨_, rfl, ?_⟩; have n0_ := Aside0.mk (Kd.R_lower ho0 (below_size (iL HB))); have n1_ := jL HB hb; clear HB; have HO267 := n0_; have HB := n1_; clear n0_ n1_; (try clear hb); (try clear hb2); (try clear hk); (try clear hi); (try clear ho0)) | ((with_reducible refine gate_callee (f := 14) rfl ?_); refine gL_ (some 25) Try.func14 #[.string a1] ?_; (with_reducible refine (ancepsref01_All.calls k a1 t268 t269 _ A5.out).mono ?_); rintro e w11 ⟨v270, rfl, ho0, hb⟩; refine ⟨_, rfl, ?_⟩; have n0_ := Aside0.mk (Kd.R_elder' (iR HO267) (Kd.R_base ho0) hb); have n1_ := Aside0.mk (Kd.R_lower (Kd.R_new' ho0 (Kd.R_lt (iR HO267))) (below_size (iL HB))); have n2_ := jL HB hb; clear HO267; clear HB; have HO267 := n0_; have HO271 := n1_; have HB := n2_; clear n0_ n1_ n2_; (try clear hb); (try clear hb2); (try clear hk); (try clear hi); (try clear ho0); obtain ⟨Ao12, co12, eo12⟩ := Kd.R_slice HO267.out; subst eo12) | ((with_reducible refine gate_dst (N := 34) rfl ?_); (try (refine gate_guard (by rfl) ?_; dsimp only)); refine Kd.S_make (Kd.slice 3 (Kd.int .i64)) _ 52 rfl (N := 34) rfl 68 _ _ rfl ji7 rfl rfl Try.underlying68 (.slice none 0 0) 24 info52 rfl (by decide) (by omega) [] (ok := fun _ => True) (okp := fun _ => True) ⟨_, rfl, Kd.R_nil _ _ _ _ _⟩ (fun _ hk => hk) trivial (of_decide_eq_true (by first | (with_reducible assumption) | assumption)) (Nat.le_trans (Nat.mul_le_mul_right _ (of_decide_eq_true (by first | (with_reducible assumption) | assumption) : ji7.toNat ≤ 11728124029610)) (by omega)) (Below.refl _ _) (Nat.le_refl _) ?_; intro v273 w13 ho14 hb hg_ hnew_; clear hg_ hnew_; (first | rw [← Ny272.out] at ho14 | (simp only [Int.reduceToNat] at ho14; rw [← Ny272.out] at ho14)); have n0_ := jR HO267 hb; have n1_ := jR HO271 hb; have n2_ := Aside0.mk (Kd.S_lower ho14 (below_size (iL HB))); have n3_ := jL HB hb; clear HO267; clear HO271; clear HB; have HO267 := n0_; have HO271 := n1_; have HO274 := n2_; have HB := n3_; clear n0_ n1_ n2_ n3_; clear hb ho14))
     go_loopg [10] k (fun kq v10 w' => ∃ (x10_1 : Int) (x34_1 : List (List Int)), v10 = .int .i64 x10_1 ∧ Aside0 (ancepsref57_Words.l0 kq t264 t268 x10_1 x34_1 = some (r1, r2)) ∧ Aside0 (kq ≤ k) ∧ Aside0 (Kd.R Kd.string 9 w' w.heap.size (fun k_ => some k_ ≠ (v270 : Value).ownBlock) (.slice Ao12 t264.length co12) t264) ∧ Aside0 (Kd.R Kd.string 9 w' w.heap.size (fun k_ => some k_ ≠ ((.slice Ao12 t264.length co12) : Value).ownBlock) v270 t268) ∧ Aside0 (Kd.S (Kd.slice 3 (Kd.int .i64)) 52 w' w.heap.size (fun _ => True) v273 x34_1) ∧ Aside0 (Below w.heap.size w w'))
     case atStart => exact ⟨((t264.length : Int)), (y272), (by first | rfl | (simp; done) | (simp [*]; done)), H', ⟨Nat.le_refl _⟩, ⟨by (with_reducible repeat (first | apply Kd.R_alloc | apply Kd.R_drewN | apply Kd.R_drew)); exact Kd.R_mono HO267.out (fun _ hk => hk.2)⟩, ⟨by (with_reducible repeat (first | apply Kd.R_alloc | apply Kd.R_drewN | apply Kd.R_drew)); exact Kd.R_mono HO271.out (fun _ hk => hk.2)⟩, ⟨by (with_reducible repeat (first | apply Kd.S_alloc | apply Kd.S_drewN | apply Kd.S_drew)); exact HO274.out⟩, ⟨by repeat (first | (with_reducible first | exact HB.out | apply below_alloc | apply pw_below_drewN | apply below_drew1) | exact HB.out)⟩⟩
     case round =>
      clear H'
      try clear c1
      try clear p2
      try clear c4
      try clear c4b0
      try clear c4b1
      try clear c6
      try clear c6b0
      try clear c6b1
      try clear p6
      try clear c8
      try clear c8b0
      try clear c8b1
      try clear c9
      try clear c9b0
      try clear c9b1
      try clear c11
      try clear c14
      obtain ⟨x10_1, x34_1, rfl, HA, HK1, HO_6, HO_8, HO_34, HB⟩ := hrel
      cases gk with
      | zero => exact absurd HA.out (by simp [ancepsref57_Words.l0])
      | succ k1 =>
       have H := HA.out
       clear HA
       simp only [ancepsref57_Words.l0] at H
       by_cases c15 : x10_1 ≥ 0
       ·rw [if_pos c15] at H
        have c15b0 : decide (0 ≤ x10_1) = true := decide_eq_true c15
        clear c15
        obtain ⟨ji16, hji16⟩ : ∃ j_ : Int, (wrap64 ((t268.length : Int) + 1)) = j_ := ⟨_, rfl⟩
        replace H : (if 0 ≤ (ji16) then (if (ji16 : Int).toNat ≤ 35184372088832 then (if 0 ≤ x10_1 then (if x10_1 < (x34_1.length : Int) then (ancepsref57_Words.l1 k1 t264 t268 x10_1 (t268.length : Int) (x34_1.set (x10_1 : Int).toNat (List.replicate (ji16 : Int).toNat 0))) else (none)) else (none)) else (none)) else (none)) = some (r1, r2) := by first | (rw [hji16] at H; exact H) | (simp only [hji16] at H ⊢; exact H)
        have hji16w : (IntKind.i64.wrap ((t268.length : Int) + 1)) = ji16 := (i64_w _).trans hji16
        by_cases c17 : 0 ≤ (ji16)
        ·rw [if_pos c17] at H
         have c17b0 := eq_true c17
         have c17b1 : decide (0 ≤ (ji16)) = true := decide_eq_true c17
         clear c17
         by_cases c18 : (ji16 : Int).toNat ≤ 35184372088832
         ·rw [if_pos c18] at H
          have c18b0 := eq_true c18
          have c18b1 : decide ((ji16 : Int).toNat ≤ 35184372088832) = true := decide_eq_true c18
          clear c18
          obtain ⟨y275, hy275⟩ : ∃ y_ : List Int, y_ = (List.replicate (ji16 : Int).toNat 0) := ⟨_, rfl⟩
          replace H : (if 0 ≤ x10_1 then (if x10_1 < (x34_1.length : Int) then (ancepsref57_Words.l1 k1 t264 t268 x10_1 (t268.length : Int) (x34_1.set (x10_1 : Int).toNat y275)) else (none)) else (none)) = some (r1, r2) := by first | (rw [hy275]; with_reducible exact H) | (have H2_ := (Option.bind_some _ _).symm.trans H; rw [hy275]; with_reducible exact H2_) | (have H2_ := (Option.bind_some _ _).symm.trans H; with_reducible exact H2_) | with_reducible exact H | (rw [hy275]; exact H) | exact H
          have Ny275 := Aside0.mk hy275
          clear hy275
          by_cases c19 : 0 ≤ x10_1
          ·rw [if_pos c19] at H
           have c19b0 : decide (0 ≤ x10_1) = true := decide_eq_true c19
           clear c19
           by_cases c20 : x10_1 < (x34_1.length : Int)
           ·rw [if_pos c20] at H
            have c20b0 : decide (x10_1 < (x34_1.length : Int)) = true := decide_eq_true c20
            clear c20
            obtain ⟨y278, hy278⟩ : ∃ y_ : List (List Int), y_ = (x34_1.set (x10_1 : Int).toNat y275) := ⟨_, rfl⟩
            replace H : (ancepsref57_Words.l1 k1 t264 t268 x10_1 (t268.length : Int) y278) = some (r1, r2) := by first | (rw [hy278]; with_reducible exact H) | (have H2_ := (Option.bind_some _ _).symm.trans H; rw [hy278]; with_reducible exact H2_) | (have H2_ := (Option.bind_some _ _).symm.trans H; with_reducible exact H2_) | with_reducible exact H | (rw [hy278]; exact H) | exact H
            have Ny278 := Aside0.mk hy278
            clear hy278
            have H' := Aside0.mk H
            clear H
            obtain ⟨Ao22, co22, eo22⟩ := Kd.R_slice HO_8.out
            subst eo22
            go_wp2_with (first | ((with_reducible refine gate_dst (N := 46) rfl ?_); (try (refine gate_guard (by rfl) ?_; dsimp only)); refine Kd.R_make (Kd.int .i64) _ 3 rfl (N := 46) rfl 52 _ _ rfl ji16 rfl rfl Try.underlying52 (.int .i64 0) 8 info3 rfl (by decide) (by omega) 0 (ok := fun _ => True) (okp := fun _ => True) rfl (fun _ hk => hk) trivial (of_decide_eq_true (by first | (with_reducible assumption) | assumption)) (Nat.le_trans (Nat.mul_le_mul_right _ (of_decide_eq_true (by first | (with_reducible assumption) | assumption) : ji16.toNat ≤ 35184372088832)) (by omega)) (Below.refl _ _) (Nat.le_refl _) ?_; intro v276 w23 ho24 hb hg_ hnew_; clear hg_ hnew_; (first | rw [← Ny275.out] at ho24 | (simp only [Int.reduceToNat] at ho24; rw [← Ny275.out] at ho24)); have n0_ := jR HO_6 hb; have n1_ := jR HO_8 hb; have n2_ := Aside0.mk (Kd.S_elder' (by (with_reducible repeat (first | apply Kd.S_alloc | apply Kd.S_drewN | apply Kd.S_drew)); exact HO_34.out) (Kd.R_base ho24) hb); have n3_ := Aside0.mk (Kd.R_lower ho24 (below_size (iL HB))); have n4_ := jL HB hb; clear HO_6; clear HO_8; clear HO_34; clear HB; have HO_6 := n0_; have HO_8 := n1_; have HO_34 := n2_; have HO277 := n3_; have HB := n4_; clear n0_ n1_ n2_ n3_ n4_; clear hb ho24; have p21 : 0 ≤ (x10_1 : Int) := of_decide_eq_true (by first | (with_reducible assumption) | assumption); have q21 : (x10_1 : Int) < ((x34_1.length : Int) : Int) := of_decide_eq_true (by first | (with_reducible assumption) | assumption); obtain ⟨go21, co21, eo21, gb21, gl21, cl21, HG21⟩ := Kd.S_form HO_34.out (by omega); (first | cases eo21 | (injection eo21 with ea_ en_ ec_; (first | subst ea_ | (injection ea_ with ea_; subst ea_)); subst ec_; clear en_)); have GB21 := Aside0.mk gb21; have GG21 := Aside0.mk HG21; clear gb21 gl21 HG21; obtain ⟨_, ce21, hcl21, hM21, hcc21, hfr21, _, _⟩ := Kd.S_elem HO_34.out [] (x10_1 : Int) p21 q21; obtain ⟨ve21_0, rfl, ge21_0⟩ := hM21; have hx21_0 := hcc21 0 _ rfl; have hf21_0 := hfr21 0; (try simp only [show ((Kd.slice 3 (Kd.int .i64))).sz = 1 from rfl, Nat.mul_one, Nat.add_zero] at hx21_0); (try simp only [show ((Kd.slice 3 (Kd.int .i64))).sz = 1 from rfl, Nat.mul_one, Nat.add_zero] at hf21_0); (try clear hM21); clear hcl21 hcc21 hfr21; replace p21 := eq_true p21; replace q21 := eq_true q21; have n_ := Aside0.mk (Kd.S_mono (ok' := (fun k_ => some k_ ≠ (v276 : Value).ownBlock)) HO_34.out (fun k_ hk => hk.2)); clear HO_34; have HO_34 := n_; clear n_; have HX25 := Aside0.mk (show Kd.S (Kd.slice 3 (Kd.int .i64)) 52 w23 w.heap.size (fun k_ => ((fun _ => True)) k_ ∧ ¬ ((fun k_ => some k_ = (v276 : Value).ownBlock)) k_) (.slice (some ⟨go21, 0, none⟩) x34_1.length co21) x34_1 from (by (with_reducible repeat (first | apply Kd.S_alloc | apply Kd.S_drewN | apply Kd.S_drew)); exact Kd.S_mono HO_34.out (fun k_ hk => ⟨trivial, fun e_ => hk e_⟩))); obtain ⟨oki25, ce25, hcl25, hM25, hcc25, hfr25, hoki25, hH25⟩ := Kd.S_elem HX25.out [] (x10_1 : Int) (of_decide_eq_true (by first | (with_reducible assumption) | assumption)) (by have h_ : (x10_1 : Int) < ((x34_1.length : Int) : Int) := of_decide_eq_true (by first | (with_reducible assumption) | assumption); first | exact h_ | (have e_ := (Kd.S_reads' HO_34.out).1; omega) | simpa using h_); obtain ⟨ve25_0, rfl, ge25_0⟩ := hM25; have HP25 := Kd.S_seg hH25 (of_decide_eq_true (by first | (with_reducible assumption) | assumption)) (by have h_ : (x10_1 : Int) < ((x34_1.length : Int) : Int) := of_decide_eq_true (by first | (with_reducible assumption) | assumption); first | exact h_ | (have e_ := (Kd.S_reads' HO_34.out).1; omega) | simpa using h_) (seg := [v276]) (j := 0) (show 1 ≤ 1 from by decide) (x' := y275) (Kd.M_row (Kd.R_mono (Kd.R_tight rfl (Kd.R_mono (ok' := fun k_ => ((fun _ => True)) k_ ∧ k_ ≠ go21) (Kd.R_apart' (HO277.out) (Kd.S_typed HO_34.out) (by decide)) (fun k_ hk => ⟨trivial, fun e_ => (hk.2) (by rw [e_]; rfl)⟩))) (fun _ h_ => Or.inr (h_)))) (fun _ hk => hk) (fun k_ hk_ => ((Kd.R_mono (ok' := fun k_ => ((fun _ => True)) k_ ∧ k_ ≠ go21) (Kd.R_apart' (HO277.out) (Kd.S_typed HO_34.out) (by decide)) (fun k_ hk => ⟨trivial, fun e_ => (hk.2) (by rw [e_]; rfl)⟩))).1 k_ hk_.symm); have hx25_0 := hcc25 0 _ rfl; (try simp only [show ((Kd.slice 3 (Kd.int .i64))).sz = 1 from rfl, Nat.mul_one, Nat.add_zero] at hx25_0); have hf25_0 := hfr25 0; (try simp only [show ((Kd.slice 3 (Kd.int .i64))).sz = 1 from rfl, Nat.mul_one, Nat.add_zero] at hf25_0); (try clear hM25); clear hcl25 hcc25 hfr25 hoki25 hH25; (try simp only [show ((Kd.slice 3 (Kd.int .i64))).sz = 1 from rfl, Nat.mul_one, Nat.add_zero] at HP25)) | ((with_reducible refine gate_store (t := 52) (p := 47) rfl ?_); refine store_event (t := 52) (p := 47) (v := ?vo_w26) (w1 := (w23.setCell ⟨go21, (x10_1 : Int).toNat, none⟩ (v276))) ?hg ?ho ?hn ?hr ?_; (case ho => rfl); (case hg => rfl); (case hn => rfl); (case hr => first | (go_simp; done) | (go_simp; rfl) | (obtain ⟨a_, c_, e_⟩ := Kd.R_slice HO277.out; subst e_; first | (go_simp; done) | (go_simp; rfl))); intro w26 hw; have hg : w23.grownBy w26 (some go21) := (by rw [hw]; exact HP25.2); have hp_ : Kd.S (Kd.slice 3 (Kd.int .i64)) 52 w26 w.heap.size (fun _ => True) (.slice (some ⟨go21, 0, none⟩) x34_1.length co21) y278 := (by rw [hw, Ny278.out]; exact HP25.1); clear HP25; have n0_ := Aside0.mk (Kd.R_over' (v := (.slice (some ⟨go21, 0, none⟩) x34_1.length co21)) (iR HO_6) (Kd.S_typed HO_34.out) (by decide) hg); have n1_ := Aside0.mk (Kd.R_over' (v := (.slice (some ⟨go21, 0, none⟩) x34_1.length co21)) (iR HO_8) (Kd.S_typed HO_34.out) (by decide) hg); have n2_ := Aside0.mk (hp_); have n3_ := Aside0.mk ((by rw [hw]; exact below_set (HB.out) GB21.out : Below w.heap.size w w26)); clear HO_6; clear HO_8; clear HO_34; clear HB; clear HO277; have HO_6 := n0_; have HO_8 := n1_; have HO_34 := n2_; have HB := n3_; clear n0_ n1_ n2_ n3_; clear hg hw hp_))
            go_loopg [11] k1 (fun kq v11 w' => ∃ (x11_2 : Int) (x34_2 : List (List Int)), v11 = .int .i64 x11_2 ∧ Aside0 (ancepsref57_Words.l1 kq t264 t268 x10_1 x11_2 x34_2 = some (r1, r2)) ∧ Aside0 (kq ≤ k1) ∧ Aside0 (Kd.R Kd.string 9 w' w.heap.size (fun k_ => some k_ ≠ ((.slice Ao22 t268.length co22) : Value).ownBlock) (.slice Ao12 t264.length co12) t264) ∧ Aside0 (Kd.R Kd.string 9 w' w.heap.size (fun k_ => some k_ ≠ ((.slice Ao12 t264.length co12) : Value).ownBlock) (.slice Ao22 t268.length co22) t268) ∧ Aside0 (Kd.S (Kd.slice 3 (Kd.int .i64)) 52 w' w.heap.size (fun _ => True) (.slice (some ⟨go21, 0, none⟩) x34_1.length co21) x34_2) ∧ Aside0 (Below w.heap.size w w'))
            case atStart => exact ⟨((t268.length : Int)), (y278), (by first | rfl | (simp; done) | (simp [*]; done)), H', ⟨Nat.le_refl _⟩, ⟨by (with_reducible repeat (first | apply Kd.R_alloc | apply Kd.R_drewN | apply Kd.R_drew)); exact HO_6.out⟩, ⟨by (with_reducible repeat (first | apply Kd.R_alloc | apply Kd.R_drewN | apply Kd.R_drew)); exact HO_8.out⟩, ⟨by (with_reducible repeat (first | apply Kd.S_alloc | apply Kd.S_drewN | apply Kd.S_drew)); exact HO_34.out⟩, ⟨by repeat (first | (with_reducible first | exact HB.out | apply below_alloc | apply pw_below_drewN | apply below_drew1) | exact HB.out)⟩⟩
            case round =>
             clear H'
             try clear c1
             try clear c2
             try clear p2
             try clear q2
             try clear hx2
             try clear hf2
             try clear c4
             try clear c4b0
             try clear c4b1
             try clear c6
             try clear c6b0
             try clear c6b1
             try clear p6
             try clear c8
             try clear c8b0
             try clear c8b1
             try clear c9
             try clear c9b0
             try clear c9b1
             try clear c11
             try clear c14
             try clear c15
             try clear c15b0
             try clear c17
             try clear c17b0
             try clear c17b1
             try clear c18
             try clear c18b0
             try clear c18b1
             try clear c19
             try clear c19b0
             try clear c20
             try clear c20b0
             try clear c21
             try clear p21
             try clear q21
             try clear hx21
             try clear hf21
             try clear c25
             try clear hx25
             try clear hf25
             try clear hx21_0
             try clear hx25_0
             try clear p2
             try clear p21
             try clear p6
             try clear q21
             obtain ⟨x11_2, x34_2, rfl, HA, HK2, HO_6, HO_8, HO_34, HB⟩ := hrel
             have hl34_2 := (Kd.S_reads' HO_34.out).1
             rw [hl34_2] at HO_34
             (try simp only [hl34_2])
             (try simp only [hl34_2] at HO_6)
             (try simp only [hl34_2] at HO_8)
             cases gk with
             | zero => exact absurd HA.out (by simp [ancepsref57_Words.l1])
             | succ k2 =>
              have H := HA.out
              clear HA
              simp only [ancepsref57_Words.l1] at H
              by_cases c27 : x11_2 ≥ 0
              ·rw [if_pos c27] at H
               have c27b0 : decide (0 ≤ x11_2) = true := decide_eq_true c27
               clear c27
               by_cases c28 : 0 ≤ x10_1
               ·rw [if_pos c28] at H
                have c28b0 : decide (0 ≤ x10_1) = true := decide_eq_true c28
                clear c28
                by_cases c29 : x10_1 < (x34_2.length : Int)
                ·rw [if_pos c29] at H
                 have c29b0 : decide (x10_1 < (x34_2.length : Int)) = true := decide_eq_true c29
                 (try simp only [hl34_2] at c29b0)
                 clear c29
                 by_cases c30 : 0 ≤ x11_2
                 ·rw [if_pos c30] at H
                  have c30b0 : decide (0 ≤ x11_2) = true := decide_eq_true c30
                  clear c30
                  by_cases c31 : x11_2 < ((rd_L9 x34_2 x10_1).length : Int)
                  ·rw [if_pos c31] at H
                   have c31b0 : decide (x11_2 < ((rd_L9 x34_2 x10_1).length : Int)) = true := decide_eq_true c31
                   (try simp only [hl34_2] at c31b0)
                   clear c31
                   obtain ⟨y280, hy280⟩ : ∃ y_ : List Int, y_ = ((rd_L9 x34_2 x10_1).set (x11_2 : Int).toNat (wrap64 ((wrap64 ((wrap64 ((t264.length : Int) - x10_1)) + (t268.length : Int))) - x11_2))) := ⟨_, rfl⟩
                   replace H : ((some (x34_2.set (x10_1 : Int).toNat y280 : List (List Int))).bind fun y282 => (if x10_1 < (t264.length : Int) then (if x11_2 < (t268.length : Int) then ((ancepsref57_unlike.f (rdOf ByteArray.empty t264 x10_1) (rdOf ByteArray.empty t268 x11_2)).bind fun t286 => (if 0 ≤ (wrap64 (x10_1 + 1)) then (if (wrap64 (x10_1 + 1)) < (x34_2.length : Int) then (if 0 ≤ (wrap64 (x11_2 + 1)) then (if (wrap64 (x11_2 + 1)) < ((rd_L9 y282 (wrap64 (x10_1 + 1))).length : Int) then (if x11_2 < ((rd_L9 y282 (wrap64 (x10_1 + 1))).length : Int) then (if (wrap64 (x11_2 + 1)) < ((rd_L9 y282 x10_1).length : Int) then (if x11_2 < ((rd_L9 y282 x10_1).length : Int) then (ancepsref57_Words.l1 k2 t264 t268 x10_1 (wrap64 (x11_2 - 1)) (y282.set (x10_1 : Int).toNat ((rd_L9 y282 x10_1).set (x11_2 : Int).toNat (mn (mn (wrap64 (t286 + (rd (rd_L9 y282 (wrap64 (x10_1 + 1))) (wrap64 (x11_2 + 1))))) (wrap64 (1 + (rd (rd_L9 y282 (wrap64 (x10_1 + 1))) x11_2)))) (wrap64 (1 + (rd (rd_L9 y282 x10_1) (wrap64 (x11_2 + 1))))))))) else (none)) else (none)) else (none)) else (none)) else (none)) else (none)) else (none))) else (ancepsref57_Words.l1 k2 t264 t268 x10_1 (wrap64 (x11_2 - 1)) y282)) else (ancepsref57_Words.l1 k2 t264 t268 x10_1 (wrap64 (x11_2 - 1)) y282))) = some (r1, r2) := by first | (rw [hy280]; with_reducible exact H) | (have H2_ := (Option.bind_some _ _).symm.trans H; rw [hy280]; with_reducible exact H2_) | (have H2_ := (Option.bind_some _ _).symm.trans H; with_reducible exact H2_) | with_reducible exact H | (rw [hy280]; exact H) | exact H
                   have Ny280 := Aside0.mk hy280
                   clear hy280
                   obtain ⟨y282, hy282⟩ : ∃ y_ : List (List Int), y_ = (x34_2.set (x10_1 : Int).toNat y280) := ⟨_, rfl⟩
                   replace H : (if x10_1 < (t264.length : Int) then (if x11_2 < (t268.length : Int) then ((ancepsref57_unlike.f (rdOf ByteArray.empty t264 x10_1) (rdOf ByteArray.empty t268 x11_2)).bind fun t286 => (if 0 ≤ (wrap64 (x10_1 + 1)) then (if (wrap64 (x10_1 + 1)) < (x34_2.length : Int) then (if 0 ≤ (wrap64 (x11_2 + 1)) then (if (wrap64 (x11_2 + 1)) < ((rd_L9 y282 (wrap64 (x10_1 + 1))).length : Int) then (if x11_2 < ((rd_L9 y282 (wrap64 (x10_1 + 1))).length : Int) then (if (wrap64 (x11_2 + 1)) < ((rd_L9 y282 x10_1).length : Int) then (if x11_2 < ((rd_L9 y282 x10_1).length : Int) then (ancepsref57_Words.l1 k2 t264 t268 x10_1 (wrap64 (x11_2 - 1)) (y282.set (x10_1 : Int).toNat ((rd_L9 y282 x10_1).set (x11_2 : Int).toNat (mn (mn (wrap64 (t286 + (rd (rd_L9 y282 (wrap64 (x10_1 + 1))) (wrap64 (x11_2 + 1))))) (wrap64 (1 + (rd (rd_L9 y282 (wrap64 (x10_1 + 1))) x11_2)))) (wrap64 (1 + (rd (rd_L9 y282 x10_1) (wrap64 (x11_2 + 1))))))))) else (none)) else (none)) else (none)) else (none)) else (none)) else (none)) else (none))) else (ancepsref57_Words.l1 k2 t264 t268 x10_1 (wrap64 (x11_2 - 1)) y282)) else (ancepsref57_Words.l1 k2 t264 t268 x10_1 (wrap64 (x11_2 - 1)) y282)) = some (r1, r2) := by first | (rw [hy282]; with_reducible exact H) | (have H2_ := (Option.bind_some _ _).symm.trans H; rw [hy282]; with_reducible exact H2_) | (have H2_ := (Option.bind_some _ _).symm.trans H; with_reducible exact H2_) | with_reducible exact H | (rw [hy282]; exact H) | exact H
                   have Ny282 := Aside0.mk hy282
                   clear hy282
                   by_cases c33 : x10_1 < (t264.length : Int)
                   ·rw [if_pos c33] at H
                    have c33b0 : decide (x10_1 < (t264.length : Int)) = true := decide_eq_true c33
                    (try simp only [hl34_2] at c33b0)
                    clear c33
                    by_cases c34 : x11_2 < (t268.length : Int)
                    ·rw [if_pos c34] at H
                     have c34b0 : decide (x11_2 < (t268.length : Int)) = true := decide_eq_true c34
                     (try simp only [hl34_2] at c34b0)
                     clear c34
                     replace H := Option.bind_eq_some_iff.mp H
                     obtain ⟨t286, A350, H⟩ := H
                     try dsimp only at H
                     have A35 := Aside0.mk A350
                     clear A350
                     obtain ⟨ji36, hji36⟩ : ∃ j_ : Int, (wrap64 (x10_1 + 1)) = j_ := ⟨_, rfl⟩
                     replace H : (if 0 ≤ (ji36) then (if (ji36) < (x34_2.length : Int) then (if 0 ≤ (wrap64 (x11_2 + 1)) then (if (wrap64 (x11_2 + 1)) < ((rd_L9 y282 (ji36)).length : Int) then (if x11_2 < ((rd_L9 y282 (ji36)).length : Int) then (if (wrap64 (x11_2 + 1)) < ((rd_L9 y282 x10_1).length : Int) then (if x11_2 < ((rd_L9 y282 x10_1).length : Int) then (ancepsref57_Words.l1 k2 t264 t268 x10_1 (wrap64 (x11_2 - 1)) (y282.set (x10_1 : Int).toNat ((rd_L9 y282 x10_1).set (x11_2 : Int).toNat (mn (mn (wrap64 (t286 + (rd (rd_L9 y282 (ji36)) (wrap64 (x11_2 + 1))))) (wrap64 (1 + (rd (rd_L9 y282 (ji36)) x11_2)))) (wrap64 (1 + (rd (rd_L9 y282 x10_1) (wrap64 (x11_2 + 1))))))))) else (none)) else (none)) else (none)) else (none)) else (none)) else (none)) else (none)) = some (r1, r2) := by first | (rw [hji36] at H; exact H) | (simp only [hji36] at H ⊢; exact H)
                     (try rw [hji36] at A35)
                     have hji36w : (IntKind.i64.wrap (x10_1 + 1)) = ji36 := (i64_w _).trans hji36
                     by_cases c37 : 0 ≤ (ji36)
                     ·rw [if_pos c37] at H
                      have c37b0 : decide (0 ≤ (ji36)) = true := decide_eq_true c37
                      clear c37
                      by_cases c38 : (ji36) < (x34_2.length : Int)
                      ·as_aux_lemma =>
                        rw [if_pos c38] at H
                        have c38b0 : decide ((ji36) < (x34_2.length : Int)) = true := decide_eq_true c38
                        (try simp only [hl34_2] at c38b0)
                        clear c38
                        obtain ⟨ji39, hji39⟩ : ∃ j_ : Int, (wrap64 (x11_2 + 1)) = j_ := ⟨_, rfl⟩
                        replace H : (if 0 ≤ (ji39) then (if (ji39) < ((rd_L9 y282 (ji36)).length : Int) then (if x11_2 < ((rd_L9 y282 (ji36)).length : Int) then (if (ji39) < ((rd_L9 y282 x10_1).length : Int) then (if x11_2 < ((rd_L9 y282 x10_1).length : Int) then (ancepsref57_Words.l1 k2 t264 t268 x10_1 (wrap64 (x11_2 - 1)) (y282.set (x10_1 : Int).toNat ((rd_L9 y282 x10_1).set (x11_2 : Int).toNat (mn (mn (wrap64 (t286 + (rd (rd_L9 y282 (ji36)) (ji39)))) (wrap64 (1 + (rd (rd_L9 y282 (ji36)) x11_2)))) (wrap64 (1 + (rd (rd_L9 y282 x10_1) (ji39)))))))) else (none)) else (none)) else (none)) else (none)) else (none)) = some (r1, r2) := by first | (rw [hji39] at H; exact H) | (simp only [hji39] at H ⊢; exact H)
                        (try rw [hji39] at A35)
                        have hji39w : (IntKind.i64.wrap (x11_2 + 1)) = ji39 := (i64_w _).trans hji39
                        by_cases c40 : 0 ≤ (ji39)
                        ·rw [if_pos c40] at H
                         have c40b0 : decide (0 ≤ (ji39)) = true := decide_eq_true c40
                         clear c40
                         by_cases c41 : (ji39) < ((rd_L9 y282 (ji36)).length : Int)
                         ·rw [if_pos c41] at H
                          have c41b0 : decide ((ji39) < ((rd_L9 y282 (ji36)).length : Int)) = true := decide_eq_true c41
                          (try simp only [hl34_2] at c41b0)
                          clear c41
                          by_cases c42 : x11_2 < ((rd_L9 y282 (ji36)).length : Int)
                          ·rw [if_pos c42] at H
                           have c42b0 : decide (x11_2 < ((rd_L9 y282 (ji36)).length : Int)) = true := decide_eq_true c42
                           (try simp only [hl34_2] at c42b0)
                           clear c42
                           by_cases c43 : (ji39) < ((rd_L9 y282 x10_1).length : Int)
                           ·rw [if_pos c43] at H
                            have c43b0 : decide ((ji39) < ((rd_L9 y282 x10_1).length : Int)) = true := decide_eq_true c43
                            (try simp only [hl34_2] at c43b0)
                            clear c43
                            obtain ⟨ji44, hji44⟩ : ∃ j_ : Int, (mn (wrap64 (t286 + (rd (rd_L9 y282 (ji36)) (ji39)))) (wrap64 (1 + (rd (rd_L9 y282 (ji36)) x11_2)))) = j_ := ⟨_, rfl⟩
                            replace H : (if x11_2 < ((rd_L9 y282 x10_1).length : Int) then (ancepsref57_Words.l1 k2 t264 t268 x10_1 (wrap64 (x11_2 - 1)) (y282.set (x10_1 : Int).toNat ((rd_L9 y282 x10_1).set (x11_2 : Int).toNat (mn (ji44) (wrap64 (1 + (rd (rd_L9 y282 x10_1) (ji39)))))))) else (none)) = some (r1, r2) := by first | (rw [hji44] at H; exact H) | (simp only [hji44] at H ⊢; exact H)
                            (try rw [hji44] at A35)
                            have hji44_ : (if (wrap64 (1 + (rd (rd_L9 y282 (ji36)) x11_2))) < (wrap64 (t286 + (rd (rd_L9 y282 (ji36)) (ji39)))) then (wrap64 (1 + (rd (rd_L9 y282 (ji36)) x11_2))) else (wrap64 (t286 + (rd (rd_L9 y282 (ji36)) (ji39))))) = ji44 := hji44
                            obtain ⟨ji45, hji45⟩ : ∃ j_ : Int, (mn (ji44) (wrap64 (1 + (rd (rd_L9 y282 x10_1) (ji39))))) = j_ := ⟨_, rfl⟩
                            replace H : (if x11_2 < ((rd_L9 y282 x10_1).length : Int) then (ancepsref57_Words.l1 k2 t264 t268 x10_1 (wrap64 (x11_2 - 1)) (y282.set (x10_1 : Int).toNat ((rd_L9 y282 x10_1).set (x11_2 : Int).toNat (ji45)))) else (none)) = some (r1, r2) := by first | (rw [hji45] at H; exact H) | (simp only [hji45] at H ⊢; exact H)
                            (try rw [hji45] at A35)
                            have hji45_ : (if (wrap64 (1 + (rd (rd_L9 y282 x10_1) (ji39)))) < (ji44) then (wrap64 (1 + (rd (rd_L9 y282 x10_1) (ji39)))) else (ji44)) = ji45 := hji45
                            by_cases c46 : x11_2 < ((rd_L9 y282 x10_1).length : Int)
                            ·rw [if_pos c46] at H
                             have c46b0 : decide (x11_2 < ((rd_L9 y282 x10_1).length : Int)) = true := decide_eq_true c46
                             (try simp only [hl34_2] at c46b0)
                             clear c46
                             obtain ⟨y293, hy293⟩ : ∃ y_ : List Int, y_ = ((rd_L9 y282 x10_1).set (x11_2 : Int).toNat (ji45)) := ⟨_, rfl⟩
                             replace H : (ancepsref57_Words.l1 k2 t264 t268 x10_1 (wrap64 (x11_2 - 1)) (y282.set (x10_1 : Int).toNat y293)) = some (r1, r2) := by first | (rw [hy293]; with_reducible exact H) | (have H2_ := (Option.bind_some _ _).symm.trans H; rw [hy293]; with_reducible exact H2_) | (have H2_ := (Option.bind_some _ _).symm.trans H; with_reducible exact H2_) | with_reducible exact H | (rw [hy293]; exact H) | exact H
                             have Ny293 := Aside0.mk hy293
                             clear hy293
                             obtain ⟨y295, hy295⟩ : ∃ y_ : List (List Int), y_ = (y282.set (x10_1 : Int).toNat y293) := ⟨_, rfl⟩
                             replace H : (ancepsref57_Words.l1 k2 t264 t268 x10_1 (wrap64 (x11_2 - 1)) y295) = some (r1, r2) := by first | (rw [hy295]; with_reducible exact H) | (have H2_ := (Option.bind_some _ _).symm.trans H; rw [hy295]; with_reducible exact H2_) | (have H2_ := (Option.bind_some _ _).symm.trans H; with_reducible exact H2_) | with_reducible exact H | (rw [hy295]; exact H) | exact H
                             have Ny295 := Aside0.mk hy295
                             clear hy295
                             have H' := Aside0.mk H
                             clear H
                             have p279 : 0 ≤ (x10_1 : Int) := of_decide_eq_true (by first | (with_reducible assumption) | assumption)
                             have q279 : x10_1 < (x34_2.length : Int) := of_decide_eq_true (by first | (with_reducible assumption) | assumption)
                             obtain ⟨ad279, A279_0, c279_0, e279, hx279_0, hl279_0, hi279_0⟩ := at_L9 (Kd.S_reads' HO_34.out).2.2 x10_1 p279 q279
                             obtain rfl : (⟨go21, 0, none⟩ : Addr) = ad279 := (by injection e279)
                             obtain ⟨ce279, hce279, hMe279, hcc279⟩ := Kd.S_get HO_34.out [] x10_1 p279 (by first | exact q279 | exact of_decide_eq_true (by first | (with_reducible assumption) | assumption) | (have e_ := (Kd.S_reads' HO_34.out).1; omega))
                             obtain ⟨ve279_0, rfl, ge279_0⟩ := hMe279
                             have hv279_0 := hcc279 0 _ rfl
                             rw [Nat.add_zero, show ((Kd.slice 3 (Kd.int .i64))).sz = 1 from rfl, Nat.mul_one] at hv279_0
                             replace hv279_0 := Option.some.inj (hv279_0.symm.trans hx279_0)
                             rw [hv279_0] at ge279_0
                             have HL279_0 := Aside0.mk (show Kd.R (Kd.int .i64) 3 _ _ _ _ (rd_L9 x34_2 x10_1) from ge279_0)
                             clear hv279_0 ge279_0
                             have HX279_0 := Aside0.mk hx279_0
                             clear hcc279 hce279
                             (first | simp only [add_plain] at hx279_0 | simp only [add_at] at hx279_0 | simp only [Addr.add, Nat.zero_add] at hx279_0 | skip)
                             have HR279_0 := Aside0.mk hi279_0
                             have HC279_0 := Aside0.mk hl279_0
                             clear hi279_0 hl279_0
                             replace p279 := eq_true p279
                             replace q279 := eq_true q279
                             have p32 : 0 ≤ (x11_2 : Int) := of_decide_eq_true (by first | (with_reducible assumption) | assumption)
                             have q32 : (x11_2 : Int) < (((rd_L9 x34_2 x10_1).length : Int) : Int) := of_decide_eq_true (by first | (with_reducible assumption) | assumption)
                             obtain ⟨go32, co32, eo32, gb32, gl32, cl32, HG32⟩ := Kd.R_form HL279_0.out (by omega)
                             (first | cases eo32 | (injection eo32 with ea_ en_ ec_; (first | subst ea_ | (injection ea_ with ea_; subst ea_)); subst ec_; clear en_))
                             have GB32 := Aside0.mk gb32
                             have GG32 := Aside0.mk HG32
                             clear gb32 gl32 HG32
                             obtain ⟨hx32_0, hf32_0⟩ := Kd.R_celln 0 HL279_0.out (x11_2 : Int) p32 q32
                             replace p32 := eq_true p32
                             replace q32 := eq_true q32
                             have hq48 : (x10_1 : Int) < (x34_2.length : Int) := (by have h_ : (x10_1 : Int) < ((x34_2.length : Int) : Int) := of_decide_eq_true (by first | (with_reducible assumption) | assumption); first | exact h_ | (have e_ := (Kd.S_reads' HO_34.out).1; omega) | simpa only [List.length_set, List.length_set] using h_)
                             obtain ⟨oki48, ce48, hcl48, hM48, hcc48, hok48, hbk48⟩ := Kd.S_borrow HO_34.out [] (x10_1 : Int) (of_decide_eq_true (by first | (with_reducible assumption) | assumption)) hq48
                             obtain ⟨ve48_0, rfl, ge48_0⟩ := hM48
                             have hv48 := hcc48 0 _ rfl
                             rw [Nat.add_zero, show ((Kd.slice 3 (Kd.int .i64))).sz = 1 from rfl, Nat.mul_one] at hv48
                             replace hv48 := Option.some.inj (hv48.symm.trans HX279_0.out)
                             subst hv48
                             clear hcc48 hcl48
                             replace ge48_0 := (show Kd.R (Kd.int .i64) 3 _ _ _ _ (rd_L9 x34_2 x10_1) from ge48_0)
                             have HP48 := Kd.R_putg ge48_0 (x11_2 : Int) (wrap64 ((wrap64 ((wrap64 ((t264.length : Int) - x10_1)) + (t268.length : Int))) - x11_2))
                             try go_wp2_with (first | ((with_reducible refine gate_store (t := 3) (p := 68) rfl ?_); refine store_event (t := 3) (p := 68) (v := ?vo_w49) (w1 := (wr.setCell ⟨go32, (x11_2 : Int).toNat, none⟩ (.int .i64 (wrap64 ((wrap64 ((wrap64 ((t264.length : Int) - x10_1)) + (t268.length : Int))) - x11_2))))) ?hg ?ho ?hn ?hr ?_; (case ho => rfl); (case hg => rfl); (case hn => rfl); (case hr => first | (go_simp; done) | (go_simp; rfl)); intro w49 hw; have hg : wr.grownBy w49 (some go32) := (by rw [hw]; exact HP48.2); have hz_ : Kd.R (Kd.int .i64) 3 w49 w.heap.size oki48 (.slice (some ⟨go32, 0, none⟩) (rd_L9 x34_2 x10_1).length c279_0) y280 := (by rw [hw, Ny280.out]; exact HP48.1); have hp_ : Kd.S (Kd.slice 3 (Kd.int .i64)) 52 w49 w.heap.size (fun _ => True) (.slice (some ⟨go21, 0, none⟩) x34_2.length co21) y282 := (by rw [Ny282.out]; exact hbk48 hg (fun k_ e_ => by injection e_ with e_; subst e_; exact ge48_0.1 _ rfl) (Kd.M_row hz_)); have hm_ := Kd.R_mono hz_ hok48; clear HP48 hbk48; have n0_ := Aside0.mk (Kd.R_over' (v := (.slice (some ⟨go32, 0, none⟩) (rd_L9 x34_2 x10_1).length c279_0)) (iR HO_6) (Kd.R_typed HL279_0.out) (by decide) hg); have n1_ := Aside0.mk (Kd.R_over' (v := (.slice (some ⟨go32, 0, none⟩) (rd_L9 x34_2 x10_1).length c279_0)) (iR HO_8) (Kd.R_typed HL279_0.out) (by decide) hg); have n2_ := Aside0.mk (hp_); have n3_ := Aside0.mk ((by rw [hw]; exact below_set (HB.out) GB32.out : Below w.heap.size w w49)); have n4_ := Aside0.mk (hm_); have n5_ := Aside0.mk ((Kd.R_reads' hm_).2.1); clear HO_6; clear HO_8; clear HO_34; clear HB; clear HL279_0; have HO_6 := n0_; have HO_8 := n1_; have HO_34 := n2_; have HB := n3_; have HL319 := n4_; have HC281 := n5_; clear n0_ n1_ n2_ n3_ n4_ n5_; clear hg hw hp_ hz_ hm_ hok48))
                             have n0_ := Aside0.mk (Kd.R_drew HO_6.out)
                             have n1_ := Aside0.mk (Kd.R_drew HO_8.out)
                             have n2_ := Aside0.mk (Kd.S_drew HO_34.out)
                             have n3_ := Aside0.mk (Kd.R_drew HL319.out)
                             have n4_ := Aside0.mk (below_drew1 HB.out)
                             clear HO_6
                             clear HO_8
                             clear HO_34
                             clear HL319
                             clear HB
                             have HO_6 := n0_
                             have HO_8 := n1_
                             have HO_34 := n2_
                             have HL319 := n3_
                             have HB := n4_
                             clear n0_ n1_ n2_ n3_ n4_
                             have p283 : 0 ≤ (x10_1 : Int) := of_decide_eq_true (by first | (with_reducible assumption) | assumption)
                             have q283 : x10_1 < (y282.length : Int) := (by have h_ : (x10_1 : Int) < ((x34_2.length : Int) : Int) := of_decide_eq_true (by first | (with_reducible assumption) | assumption); first | (have e_ := (Kd.S_reads' HO_34.out).1; omega) | simpa only [Ny282.out, List.length_set] using h_)
                             have ql283 : ((x10_1 : Int) < ((x34_2.length : Int) : Int)) = True := eq_true (of_decide_eq_true (by first | (with_reducible assumption) | assumption))
                             obtain ⟨ad283, A283_0, c283_0, e283, hx283_0, hl283_0, hi283_0⟩ := at_L9 (Kd.S_reads' HO_34.out).2.2 x10_1 p283 q283
                             obtain rfl : (⟨go21, 0, none⟩ : Addr) = ad283 := (by injection e283)
                             obtain ⟨ce283, hce283, hMe283, hcc283⟩ := Kd.S_get HO_34.out [] x10_1 p283 (by first | exact q283 | exact of_decide_eq_true (by first | (with_reducible assumption) | assumption) | (have e_ := (Kd.S_reads' HO_34.out).1; omega))
                             obtain ⟨ve283_0, rfl, ge283_0⟩ := hMe283
                             have hv283_0 := hcc283 0 _ rfl
                             rw [Nat.add_zero, show ((Kd.slice 3 (Kd.int .i64))).sz = 1 from rfl, Nat.mul_one] at hv283_0
                             replace hv283_0 := Option.some.inj (hv283_0.symm.trans hx283_0)
                             rw [hv283_0] at ge283_0
                             have HL283_0 := Aside0.mk (show Kd.R (Kd.int .i64) 3 _ _ _ _ (rd_L9 y282 x10_1) from ge283_0)
                             clear hv283_0 ge283_0
                             have HX283_0 := Aside0.mk hx283_0
                             clear hcc283 hce283
                             (first | simp only [add_plain] at hx283_0 | simp only [add_at] at hx283_0 | simp only [Addr.add, Nat.zero_add] at hx283_0 | skip)
                             have HR283_0 := Aside0.mk hi283_0
                             have HC283_0 := Aside0.mk hl283_0
                             clear hi283_0 hl283_0
                             replace p283 := eq_true p283
                             replace q283 := eq_true q283
                             have p284 : 0 ≤ (x10_1 : Int) := of_decide_eq_true (by first | (with_reducible assumption) | assumption)
                             have q284 : x10_1 < (t264.length : Int) := of_decide_eq_true (by first | (with_reducible assumption) | assumption)
                             obtain ⟨ad284, e284, hx284_0⟩ := Kd.at_string (Kd.R_reads' HO_6.out).2.2 x10_1 p284 q284
                             cases e284
                             replace p284 := eq_true p284
                             replace q284 := eq_true q284
                             have p285 : 0 ≤ (x11_2 : Int) := of_decide_eq_true (by first | (with_reducible assumption) | assumption)
                             have q285 : x11_2 < (t268.length : Int) := of_decide_eq_true (by first | (with_reducible assumption) | assumption)
                             obtain ⟨ad285, e285, hx285_0⟩ := Kd.at_string (Kd.R_reads' HO_8.out).2.2 x11_2 p285 q285
                             cases e285
                             replace p285 := eq_true p285
                             replace q285 := eq_true q285
                             have p287 : 0 ≤ ((ji36) : Int) := of_decide_eq_true (by first | (with_reducible assumption) | assumption)
                             have q287 : (ji36) < (y282.length : Int) := (by have h_ : ((ji36) : Int) < ((x34_2.length : Int) : Int) := of_decide_eq_true (by first | (with_reducible assumption) | assumption); first | (have e_ := (Kd.S_reads' HO_34.out).1; omega) | simpa only [Ny282.out, List.length_set] using h_)
                             have ql287 : (((ji36) : Int) < ((x34_2.length : Int) : Int)) = True := eq_true (of_decide_eq_true (by first | (with_reducible assumption) | assumption))
                             obtain ⟨ad287, A287_0, c287_0, e287, hx287_0, hl287_0, hi287_0⟩ := at_L9 (Kd.S_reads' HO_34.out).2.2 (ji36) p287 q287
                             obtain rfl : (⟨go21, 0, none⟩ : Addr) = ad287 := (by injection e287)
                             obtain ⟨ce287, hce287, hMe287, hcc287⟩ := Kd.S_get HO_34.out [] (ji36) p287 (by first | exact q287 | exact of_decide_eq_true (by first | (with_reducible assumption) | assumption) | (have e_ := (Kd.S_reads' HO_34.out).1; omega))
                             obtain ⟨ve287_0, rfl, ge287_0⟩ := hMe287
                             have hv287_0 := hcc287 0 _ rfl
                             rw [Nat.add_zero, show ((Kd.slice 3 (Kd.int .i64))).sz = 1 from rfl, Nat.mul_one] at hv287_0
                             replace hv287_0 := Option.some.inj (hv287_0.symm.trans hx287_0)
                             rw [hv287_0] at ge287_0
                             have HL287_0 := Aside0.mk (show Kd.R (Kd.int .i64) 3 _ _ _ _ (rd_L9 y282 (ji36)) from ge287_0)
                             clear hv287_0 ge287_0
                             have HX287_0 := Aside0.mk hx287_0
                             clear hcc287 hce287
                             (first | simp only [add_plain] at hx287_0 | simp only [add_at] at hx287_0 | simp only [Addr.add, Nat.zero_add] at hx287_0 | skip)
                             have HR287_0 := Aside0.mk hi287_0
                             have HC287_0 := Aside0.mk hl287_0
                             clear hi287_0 hl287_0
                             replace p287 := eq_true p287
                             replace q287 := eq_true q287
                             have p288 : 0 ≤ ((ji39) : Int) := of_decide_eq_true (by first | (with_reducible assumption) | assumption)
                             have q288 : (ji39) < ((rd_L9 y282 (ji36)).length : Int) := of_decide_eq_true (by first | (with_reducible assumption) | assumption)
                             obtain ⟨ad288, e288, hx288_0⟩ := Kd.at_int (by repeat (first | (with_reducible exact HR287_0.out) | (with_reducible refine Kd.C_alloc ?_ _) | (with_reducible refine Kd.C_drewN ?_ _) | (with_reducible refine Kd.C_drew ?_) | exact HR287_0.out)) (ji39) p288 q288
                             cases e288
                             replace p288 := eq_true p288
                             replace q288 := eq_true q288
                             have p289 : 0 ≤ ((ji36) : Int) := of_decide_eq_true (by first | (with_reducible assumption) | assumption)
                             have q289 : (ji36) < (y282.length : Int) := (by have h_ : ((ji36) : Int) < ((x34_2.length : Int) : Int) := of_decide_eq_true (by first | (with_reducible assumption) | assumption); first | (have e_ := (Kd.S_reads' HO_34.out).1; omega) | simpa only [Ny282.out, List.length_set] using h_)
                             have ql289 : (((ji36) : Int) < ((x34_2.length : Int) : Int)) = True := eq_true (of_decide_eq_true (by first | (with_reducible assumption) | assumption))
                             obtain ⟨ad289, A289_0, c289_0, e289, hx289_0, hl289_0, hi289_0⟩ := at_L9 (Kd.S_reads' HO_34.out).2.2 (ji36) p289 q289
                             obtain rfl : (⟨go21, 0, none⟩ : Addr) = ad289 := (by injection e289)
                             obtain ⟨ce289, hce289, hMe289, hcc289⟩ := Kd.S_get HO_34.out [] (ji36) p289 (by first | exact q289 | exact of_decide_eq_true (by first | (with_reducible assumption) | assumption) | (have e_ := (Kd.S_reads' HO_34.out).1; omega))
                             obtain ⟨ve289_0, rfl, ge289_0⟩ := hMe289
                             have hv289_0 := hcc289 0 _ rfl
                             rw [Nat.add_zero, show ((Kd.slice 3 (Kd.int .i64))).sz = 1 from rfl, Nat.mul_one] at hv289_0
                             replace hv289_0 := Option.some.inj (hv289_0.symm.trans hx289_0)
                             rw [hv289_0] at ge289_0
                             have HL289_0 := Aside0.mk (show Kd.R (Kd.int .i64) 3 _ _ _ _ (rd_L9 y282 (ji36)) from ge289_0)
                             clear hv289_0 ge289_0
                             have HX289_0 := Aside0.mk hx289_0
                             clear hcc289 hce289
                             (first | simp only [add_plain] at hx289_0 | simp only [add_at] at hx289_0 | simp only [Addr.add, Nat.zero_add] at hx289_0 | skip)
                             have HR289_0 := Aside0.mk hi289_0
                             have HC289_0 := Aside0.mk hl289_0
                             clear hi289_0 hl289_0
                             replace p289 := eq_true p289
                             replace q289 := eq_true q289
                             have ea_ := Option.some.inj (hx287_0.symm.trans hx289_0)
                             injection ea_ with ea_ en_ ec_
                             subst ea_
                             subst ec_
                             clear en_
                             have p290 : 0 ≤ (x11_2 : Int) := of_decide_eq_true (by first | (with_reducible assumption) | assumption)
                             have q290 : x11_2 < ((rd_L9 y282 (ji36)).length : Int) := of_decide_eq_true (by first | (with_reducible assumption) | assumption)
                             obtain ⟨ad290, e290, hx290_0⟩ := Kd.at_int (by repeat (first | (with_reducible exact HR289_0.out) | (with_reducible refine Kd.C_alloc ?_ _) | (with_reducible refine Kd.C_drewN ?_ _) | (with_reducible refine Kd.C_drew ?_) | exact HR289_0.out)) x11_2 p290 q290
                             cases e290
                             replace p290 := eq_true p290
                             replace q290 := eq_true q290
                             have p291 : 0 ≤ (x10_1 : Int) := of_decide_eq_true (by first | (with_reducible assumption) | assumption)
                             have q291 : x10_1 < (y282.length : Int) := (by have h_ : (x10_1 : Int) < ((x34_2.length : Int) : Int) := of_decide_eq_true (by first | (with_reducible assumption) | assumption); first | (have e_ := (Kd.S_reads' HO_34.out).1; omega) | simpa only [Ny282.out, List.length_set] using h_)
                             have ql291 : ((x10_1 : Int) < ((x34_2.length : Int) : Int)) = True := eq_true (of_decide_eq_true (by first | (with_reducible assumption) | assumption))
                             obtain ⟨ad291, A291_0, c291_0, e291, hx291_0, hl291_0, hi291_0⟩ := at_L9 (Kd.S_reads' HO_34.out).2.2 x10_1 p291 q291
                             obtain rfl : (⟨go21, 0, none⟩ : Addr) = ad291 := (by injection e291)
                             obtain ⟨ce291, hce291, hMe291, hcc291⟩ := Kd.S_get HO_34.out [] x10_1 p291 (by first | exact q291 | exact of_decide_eq_true (by first | (with_reducible assumption) | assumption) | (have e_ := (Kd.S_reads' HO_34.out).1; omega))
                             obtain ⟨ve291_0, rfl, ge291_0⟩ := hMe291
                             have hv291_0 := hcc291 0 _ rfl
                             rw [Nat.add_zero, show ((Kd.slice 3 (Kd.int .i64))).sz = 1 from rfl, Nat.mul_one] at hv291_0
                             replace hv291_0 := Option.some.inj (hv291_0.symm.trans hx291_0)
                             rw [hv291_0] at ge291_0
                             have HL291_0 := Aside0.mk (show Kd.R (Kd.int .i64) 3 _ _ _ _ (rd_L9 y282 x10_1) from ge291_0)
                             clear hv291_0 ge291_0
                             have HX291_0 := Aside0.mk hx291_0
                             clear hcc291 hce291
                             (first | simp only [add_plain] at hx291_0 | simp only [add_at] at hx291_0 | simp only [Addr.add, Nat.zero_add] at hx291_0 | skip)
                             have HR291_0 := Aside0.mk hi291_0
                             have HC291_0 := Aside0.mk hl291_0
                             clear hi291_0 hl291_0
                             replace p291 := eq_true p291
                             replace q291 := eq_true q291
                             have ea_ := Option.some.inj (hx283_0.symm.trans hx291_0)
                             injection ea_ with ea_ en_ ec_
                             subst ea_
                             subst ec_
                             clear en_
                             have p292 : 0 ≤ ((ji39) : Int) := of_decide_eq_true (by first | (with_reducible assumption) | assumption)
                             have q292 : (ji39) < ((rd_L9 y282 x10_1).length : Int) := of_decide_eq_true (by first | (with_reducible assumption) | assumption)
                             obtain ⟨ad292, e292, hx292_0⟩ := Kd.at_int (by repeat (first | (with_reducible exact HR291_0.out) | (with_reducible refine Kd.C_alloc ?_ _) | (with_reducible refine Kd.C_drewN ?_ _) | (with_reducible refine Kd.C_drew ?_) | exact HR291_0.out)) (ji39) p292 q292
                             cases e292
                             replace p292 := eq_true p292
                             replace q292 := eq_true q292
                             refine start_ (n := 45) (S := fun w' => w'.cell? ⟨go21, (x10_1).toNat, none⟩ = some (.slice (some ad292) (rd_L9 y282 x10_1).length c283_0) ∧ w'.cell? (ad284.add (x10_1).toNat) = some (.string (rdOf ByteArray.empty t264 x10_1)) ∧ w'.cell? (ad285.add (x11_2).toNat) = some (.string (rdOf ByteArray.empty t268 x11_2)) ∧ w'.cell? ⟨go21, ((ji36)).toNat, none⟩ = some (.slice (some ad288) (rd_L9 y282 (ji36)).length c287_0) ∧ w'.cell? (ad288.add ((ji39)).toNat) = some (.int .i64 (rd (rd_L9 y282 (ji36)) (ji39))) ∧ w'.cell? ⟨go21, ((ji36)).toNat, none⟩ = some (.slice (some ad288) (rd_L9 y282 (ji36)).length c287_0) ∧ w'.cell? (ad288.add (x11_2).toNat) = some (.int .i64 (rd (rd_L9 y282 (ji36)) x11_2)) ∧ w'.cell? ⟨go21, (x10_1).toNat, none⟩ = some (.slice (some ad292) (rd_L9 y282 x10_1).length c283_0) ∧ w'.cell? (ad292.add ((ji39)).toNat) = some (.int .i64 (rd (rd_L9 y282 x10_1) (ji39)))) (ds := [44]) #[false, false, false, false, false, false, false, false, false, false, false, false, false, false, false, false, false, false, false, false, false, false, false, false, false, false, false, false, false, false, false, false, false, false, false, false, false, false, false, false, false, false, false, false, false] (by kernel_rfl) rfl rfl ⟨hx283_0, hx284_0, hx285_0, hx287_0, hx288_0, hx289_0, hx290_0, hx291_0, hx292_0⟩ (fun hHeld => ?_); refine with_tabW ancepsref57_Words.tab17 ancepsref57_Words.bits17 (fun HT_ HW_ => ?_)
                             generalize w49.drew = w50 at HO_6 HO_8 HO_34 HL319 HB HL283_0 HL287_0 HL289_0 HL291_0 HR283_0 HR287_0 HR289_0 HR291_0 HX283_0 HX287_0 HX289_0 HX291_0 hx283_0 hx284_0 hx285_0 hx287_0 hx288_0 hx289_0 hx290_0 hx291_0 hx292_0 hHeld ⊢
                             refine pv_ 0 (some 79) HT_ ?_
                             refine pv_ 1 (some 80) HT_ ?_
                             refine pv_ 2 (some 81) HT_ ?_
                             refine pv_ 4 (some 83) HT_ ?_
                             refine pv_ 5 (some 84) HT_ ?_
                             refine pv_ 6 (some 85) HT_ ?_
                             refine pv_ 7 (some 86) HT_ ?_
                             refine pv_ 9 (some 88) HT_ ?_
                             refine pv_ 10 (some 89) HT_ ?_
                             refine pv_ 11 (some 90) HT_ ?_
                             refine pv_ 14 (some 93) HT_ ?_
                             refine pv_ 15 (some 94) HT_ ?_
                             refine pv_ 16 (some 95) HT_ ?_
                             refine pv_ 17 (some 96) HT_ ?_
                             refine pv_ 19 (some 98) HT_ ?_
                             refine pv_ 20 (some 99) HT_ ?_
                             refine pv_ 24 (some 103) HT_ ?_
                             refine pv_ 25 (some 104) HT_ ?_
                             refine pv_ 26 (some 105) HT_ ?_
                             refine pv_ 27 (some 106) HT_ ?_
                             refine pv_ 29 (some 108) HT_ ?_
                             refine pv_ 33 (some 112) HT_ ?_
                             refine pv_ 34 (some 113) HT_ ?_
                             refine pv_ 35 (some 114) HT_ ?_
                             refine pv_ 37 (some 116) HT_ ?_
                             refine pv_ 38 (some 117) HT_ ?_
                             refine take_ (i := 3) (N := some 82) (v := ?_) (a' := ?_) #[true, true, true, true, true, true, true, true, false, true, true, true, false, false, true, true, true, true, false, true, true, false, false, false, true, true, true, true, false, true, false, false, false, true, true, true, false, true, true, false, false, false, false, false, false] rfl rfl (take_ofW HT_.out HW_.out (by kernel_rfl)) (fun _ _ _ h => h) (Or.inl ⟨by rfl, ?_⟩) hHeld ?_ ?_
                             rotate_left
                             ·rintro w' ⟨s0, s1, s2, s3, s4, s5, s6, s7, s8⟩
                              go_simp
                              with_reducible rfl
                             rotate_left
                             ·simp only [Act.put, List.setIfInBounds_toArray, List.set_cons_zero, List.set_cons_succ, i64_w, i32_w]
                              rfl
                             refine take_ (i := 8) (N := some 87) (v := ?_) (a' := ?_) #[true, true, true, true, true, true, true, true, true, true, true, true, false, false, true, true, true, true, false, true, true, false, false, false, true, true, true, true, false, true, false, false, false, true, true, true, false, true, true, false, false, false, false, false, false] rfl rfl (take_ofW HT_.out HW_.out (by kernel_rfl)) (fun _ _ _ h => h) (Or.inl ⟨by rfl, ?_⟩) hHeld ?_ ?_
                             rotate_left
                             ·rintro w' ⟨s0, s1, s2, s3, s4, s5, s6, s7, s8⟩
                              go_simp
                              with_reducible rfl
                             rotate_left
                             ·simp only [Act.put, List.setIfInBounds_toArray, List.set_cons_zero, List.set_cons_succ, i64_w, i32_w]
                              rfl
                             refine take_ (i := 12) (N := some 91) (v := ?_) (a' := ?_) #[true, true, true, true, true, true, true, true, true, true, true, true, true, false, true, true, true, true, false, true, true, false, false, false, true, true, true, true, false, true, false, false, false, true, true, true, false, true, true, false, false, false, false, false, false] rfl rfl (take_ofW HT_.out HW_.out (by kernel_rfl)) (fun _ _ _ h => h) (Or.inl ⟨by rfl, ?_⟩) hHeld ?_ ?_
                             rotate_left
                             ·rintro w' ⟨s0, s1, s2, s3, s4, s5, s6, s7, s8⟩
                              go_simp
                              with_reducible rfl
                             rotate_left
                             ·simp only [Act.put, List.setIfInBounds_toArray, List.set_cons_zero, List.set_cons_succ, i64_w, i32_w]
                              rfl
                             refine take_ (i := 18) (N := some 97) (v := ?_) (a' := ?_) #[true, true, true, true, true, true, true, true, true, true, true, true, true, false, true, true, true, true, true, true, true, false, false, false, true, true, true, true, false, true, false, false, false, true, true, true, false, true, true, false, false, false, false, false, false] rfl rfl (take_ofW HT_.out HW_.out (by kernel_rfl)) (fun _ _ _ h => h) (Or.inl ⟨by rfl, ?_⟩) hHeld ?_ ?_
                             rotate_left
                             ·rintro w' ⟨s0, s1, s2, s3, s4, s5, s6, s7, s8⟩
                              go_simp
                              with_reducible rfl
                             rotate_left
                             ·simp only [Act.put, List.setIfInBounds_toArray, List.set_cons_zero, List.set_cons_succ, i64_w, i32_w]
                              rfl
                             refine pv_ 21 (some 100) HT_ ?_
                             refine take_ (i := 22) (N := some 101) (v := ?_) (a' := ?_) #[true, true, true, true, true, true, true, true, true, true, true, true, true, false, true, true, true, true, true, true, true, true, true, false, true, true, true, true, false, true, false, false, false, true, true, true, false, true, true, false, false, false, false, false, false] rfl rfl (take_ofW HT_.out HW_.out (by kernel_rfl)) (fun _ _ _ h => h) (Or.inl ⟨by rfl, ?_⟩) hHeld ?_ ?_
                             rotate_left
                             ·rintro w' ⟨s0, s1, s2, s3, s4, s5, s6, s7, s8⟩
                              go_simp
                              with_reducible rfl
                             rotate_left
                             ·simp only [Act.put, List.setIfInBounds_toArray, List.set_cons_zero, List.set_cons_succ, i64_w, i32_w]
                              rfl
                             refine take_ (i := 28) (N := some 107) (v := ?_) (a' := ?_) #[true, true, true, true, true, true, true, true, true, true, true, true, true, false, true, true, true, true, true, true, true, true, true, false, true, true, true, true, true, true, false, false, false, true, true, true, false, true, true, false, false, false, false, false, false] rfl rfl (take_ofW HT_.out HW_.out (by kernel_rfl)) (fun _ _ _ h => h) (Or.inl ⟨by rfl, ?_⟩) hHeld ?_ ?_
                             rotate_left
                             ·rintro w' ⟨s0, s1, s2, s3, s4, s5, s6, s7, s8⟩
                              go_simp
                              with_reducible rfl
                             rotate_left
                             ·simp only [Act.put, List.setIfInBounds_toArray, List.set_cons_zero, List.set_cons_succ, i64_w, i32_w]
                              rfl
                             refine pv_ 30 (some 109) HT_ ?_
                             refine take_ (i := 31) (N := some 110) (v := ?_) (a' := ?_) #[true, true, true, true, true, true, true, true, true, true, true, true, true, false, true, true, true, true, true, true, true, true, true, false, true, true, true, true, true, true, true, true, false, true, true, true, false, true, true, false, false, false, false, false, false] rfl rfl (take_ofW HT_.out HW_.out (by kernel_rfl)) (fun _ _ _ h => h) (Or.inl ⟨by rfl, ?_⟩) hHeld ?_ ?_
                             rotate_left
                             ·rintro w' ⟨s0, s1, s2, s3, s4, s5, s6, s7, s8⟩
                              go_simp
                              with_reducible rfl
                             rotate_left
                             ·simp only [Act.put, List.setIfInBounds_toArray, List.set_cons_zero, List.set_cons_succ, i64_w, i32_w]
                              rfl
                             refine pv_ 32 (some 111) HT_ ?_
                             refine take_ (i := 36) (N := some 115) (v := ?_) (a' := ?_) #[true, true, true, true, true, true, true, true, true, true, true, true, true, false, true, true, true, true, true, true, true, true, true, false, true, true, true, true, true, true, true, true, true, true, true, true, true, true, true, false, false, false, false, false, false] rfl rfl (take_ofW HT_.out HW_.out (by kernel_rfl)) (fun _ _ _ h => h) (Or.inl ⟨by rfl, ?_⟩) hHeld ?_ ?_
                             rotate_left
                             ·rintro w' ⟨s0, s1, s2, s3, s4, s5, s6, s7, s8⟩
                              go_simp
                              with_reducible rfl
                             rotate_left
                             ·simp only [Act.put, List.setIfInBounds_toArray, List.set_cons_zero, List.set_cons_succ, i64_w, i32_w]
                              rfl
                             refine pv_ 39 (some 118) HT_ ?_
                             refine take_ (i := 40) (N := some 119) (v := ?_) (a' := ?_) #[true, true, true, true, true, true, true, true, true, true, true, true, true, false, true, true, true, true, true, true, true, true, true, false, true, true, true, true, true, true, true, true, true, true, true, true, true, true, true, true, true, false, false, false, false] rfl rfl (take_ofW HT_.out HW_.out (by kernel_rfl)) (fun _ _ _ h => h) (Or.inl ⟨by rfl, ?_⟩) hHeld ?_ ?_
                             rotate_left
                             ·rintro w' ⟨s0, s1, s2, s3, s4, s5, s6, s7, s8⟩
                              go_simp
                              with_reducible rfl
                             rotate_left
                             ·simp only [Act.put, List.setIfInBounds_toArray, List.set_cons_zero, List.set_cons_succ, i64_w, i32_w]
                              rfl
                             refine pv_ 41 (some 120) HT_ ?_
                             refine one_ (i := 13) (N := some 92) #[true, true, true, true, true, true, true, true, true, true, true, true, true, true, true, true, true, true, true, true, true, true, true, false, true, true, true, true, true, true, true, true, true, true, true, true, true, true, true, true, true, true, false, false, false] rfl rfl (one_of HT_.out (by kernel_rfl)) (by decide) (fun K hK => ?_)
                             refine goes_ Try.func38 (by kernel_rfl) rfl #[.string (rdOf ByteArray.empty t264 x10_1), .string (rdOf ByteArray.empty t268 x11_2)] (by rfl) rfl rfl (by (try simp only [List.map_toArray, List.map_cons, List.map_nil]); first | done | rfl | (simp only [List.length_drop, List.length_take]; rfl)) ?_
                             with_reducible refine (ancepsref57_unlike.calls (rdOf ByteArray.empty t264 x10_1) (rdOf ByteArray.empty t268 x11_2) t286 _ A35.out).mono ?_
                             rintro e w' ⟨rfl, ⟨nd, rfl⟩⟩
                             refine ⟨_, rfl, ?_⟩
                             have p47 : 0 ≤ (x11_2 : Int) := of_decide_eq_true (by first | (with_reducible assumption) | assumption)
                             have q47 : (x11_2 : Int) < (((rd_L9 y282 x10_1).length : Int) : Int) := of_decide_eq_true (by first | (with_reducible assumption) | assumption)
                             obtain ⟨go47, co47, eo47, gb47, gl47, cl47, HG47⟩ := Kd.R_form HL283_0.out (by omega)
                             (first | cases eo47 | (injection eo47 with ea_ en_ ec_; (first | subst ea_ | (injection ea_ with ea_; subst ea_)); subst ec_; clear en_))
                             have GB47 := Aside0.mk gb47
                             have GG47 := Aside0.mk HG47
                             clear gb47 gl47 HG47
                             (first | simp only [add_plain] at hx292_0 | skip)
                             obtain ⟨hx47_0, hf47_0⟩ := Kd.R_celln 0 HL283_0.out (x11_2 : Int) p47 q47
                             replace p47 := eq_true p47
                             replace q47 := eq_true q47
                             have hq51 : (x10_1 : Int) < (x34_2.length : Int) := (by have h_ : (x10_1 : Int) < ((x34_2.length : Int) : Int) := of_decide_eq_true (by first | (with_reducible assumption) | assumption); first | exact h_ | (have e_ := (Kd.S_reads' HO_34.out).1; omega) | simpa only [Ny282.out, List.length_set] using h_)
                             obtain ⟨oki51, ce51, hcl51, hM51, hcc51, hok51, hbk51⟩ := Kd.S_borrow HO_34.out [] (x10_1 : Int) (of_decide_eq_true (by first | (with_reducible assumption) | assumption)) hq51
                             obtain ⟨ve51_0, rfl, ge51_0⟩ := hM51
                             have hv51 := hcc51 0 _ rfl
                             rw [Nat.add_zero, show ((Kd.slice 3 (Kd.int .i64))).sz = 1 from rfl, Nat.mul_one] at hv51
                             replace hv51 := Option.some.inj (hv51.symm.trans HX283_0.out)
                             subst hv51
                             clear hcc51 hcl51
                             replace ge51_0 := (show Kd.R (Kd.int .i64) 3 _ _ _ _ (rd_L9 y282 x10_1) from ge51_0)
                             have HP51 := Kd.R_putg ge51_0 (x11_2 : Int) ji45
                             rw [← Ny293.out] at HP51
                             have HS51 := hbk51 HP51.2 (fun k_ e_ => by injection e_ with e_; subst e_; exact ge51_0.1 _ rfl) (x' := y293) (Kd.M_row HP51.1)
                             rw [← Ny295.out] at HS51
                             have HQ51 := Aside0.mk HS51
                             clear HP51 HS51 hbk51 hok51
                             refine hK.out _ _ ⟨hHeld.1, hHeld.2.1, hHeld.2.2.1, hHeld.2.2.2.1, hHeld.2.2.2.2.1, hHeld.2.2.2.2.2.1, hHeld.2.2.2.2.2.2.1, hHeld.2.2.2.2.2.2.2.1, hHeld.2.2.2.2.2.2.2.2⟩ (fun hHeld => ?_)
                             clear hK K
                             refine norm_ (a' := ?_) ?_ ?_
                             rotate_left
                             ·show Act.put _ (some 92) _ = _
                              simp only [Act.put, List.setIfInBounds_toArray, List.set_cons_zero, List.set_cons_succ, i64_w, i32_w]
                              rfl
                             refine pv_ 23 (some 102) HT_ ?_
                             refine pv_ 42 (some 121) HT_ ?_
                             refine pv_ 43 (some 122) HT_ ?_
                             refine last_ (i := 44) (N := none) #[true, true, true, true, true, true, true, true, true, true, true, true, true, true, true, true, true, true, true, true, true, true, true, true, true, true, true, true, true, true, true, true, true, true, true, true, true, true, true, true, true, true, true, true, true] rfl rfl (one_of HT_.out (by kernel_rfl)) (by decide) (fun K hK => ?_)
                             refine skip_ (w1 := ?_) (by rfl) rfl ?_ ?_
                             rotate_left
                             ·go_simp
                              rfl
                             refine hK.out _ _ ?_
                             clear hK K
                             refine done_ (done_of HT_.out (by kernel_rfl)) ?_
                             try go_wp2
                             (try simp only [← hl34_2])
                             go_roundg k2
                             case measure => have := HK1.out; have := HK2.out; omega
                             case rel => exact ⟨(wrap64 (x11_2 - 1)), (y295), (by first | rfl | (simp; done) | (simp [*]; done)), H', ⟨by have := HK1.out; have := HK2.out; omega⟩, ⟨by (try simp only [hl34_2]); (with_reducible repeat (first | apply Kd.R_alloc | apply Kd.R_drewN | apply Kd.R_drew)); exact Kd.R_mono (Kd.R_far (p := ⟨go47, (x11_2 : Int).toNat, none⟩) (Kd.R_types HO_6.out GG47.out (by decide)) (fun _ hk => hk.2) (.int .i64 ji45)) (fun _ hk => hk.1)⟩, ⟨by (try simp only [hl34_2]); (with_reducible repeat (first | apply Kd.R_alloc | apply Kd.R_drewN | apply Kd.R_drew)); exact Kd.R_mono (Kd.R_far (p := ⟨go47, (x11_2 : Int).toNat, none⟩) (Kd.R_types HO_8.out GG47.out (by decide)) (fun _ hk => hk.2) (.int .i64 ji45)) (fun _ hk => hk.1)⟩, ⟨by (try simp only [hl34_2]); (with_reducible repeat (first | apply Kd.S_alloc | apply Kd.S_drewN | apply Kd.S_drew)); exact HQ51.out⟩, ⟨by repeat (first | (with_reducible first | exact HB.out | apply below_alloc | apply pw_below_drewN | apply below_drew1 | refine below_set ?_ GB47.out) | exact HB.out)⟩⟩
                            ·rw [if_neg c46] at H
                             exact absurd H (by simp)
                           ·rw [if_neg c43] at H
                            exact absurd H (by simp)
                          ·rw [if_neg c42] at H
                           exact absurd H (by simp)
                         ·rw [if_neg c41] at H
                          exact absurd H (by simp)
                        ·rw [if_neg c40] at H
                         exact absurd H (by simp)
                      ·rw [if_neg c38] at H
                       exact absurd H (by simp)
                     ·rw [if_neg c37] at H
                      exact absurd H (by simp)
                    ·as_aux_lemma =>
                      rw [if_neg c34] at H
                      have c34b0 : decide (x11_2 < (t268.length : Int)) = false := decide_eq_false c34
                      (try simp only [hl34_2] at c34b0)
                      clear c34
                      have H' := Aside0.mk H
                      clear H
                      have p279 : 0 ≤ (x10_1 : Int) := of_decide_eq_true (by first | (with_reducible assumption) | assumption)
                      have q279 : x10_1 < (x34_2.length : Int) := of_decide_eq_true (by first | (with_reducible assumption) | assumption)
                      obtain ⟨ad279, A279_0, c279_0, e279, hx279_0, hl279_0, hi279_0⟩ := at_L9 (Kd.S_reads' HO_34.out).2.2 x10_1 p279 q279
                      obtain rfl : (⟨go21, 0, none⟩ : Addr) = ad279 := (by injection e279)
                      obtain ⟨ce279, hce279, hMe279, hcc279⟩ := Kd.S_get HO_34.out [] x10_1 p279 (by first | exact q279 | exact of_decide_eq_true (by first | (with_reducible assumption) | assumption) | (have e_ := (Kd.S_reads' HO_34.out).1; omega))
                      obtain ⟨ve279_0, rfl, ge279_0⟩ := hMe279
                      have hv279_0 := hcc279 0 _ rfl
                      rw [Nat.add_zero, show ((Kd.slice 3 (Kd.int .i64))).sz = 1 from rfl, Nat.mul_one] at hv279_0
                      replace hv279_0 := Option.some.inj (hv279_0.symm.trans hx279_0)
                      rw [hv279_0] at ge279_0
                      have HL279_0 := Aside0.mk (show Kd.R (Kd.int .i64) 3 _ _ _ _ (rd_L9 x34_2 x10_1) from ge279_0)
                      clear hv279_0 ge279_0
                      have HX279_0 := Aside0.mk hx279_0
                      clear hcc279 hce279
                      (first | simp only [add_plain] at hx279_0 | simp only [add_at] at hx279_0 | simp only [Addr.add, Nat.zero_add] at hx279_0 | skip)
                      have HR279_0 := Aside0.mk hi279_0
                      have HC279_0 := Aside0.mk hl279_0
                      clear hi279_0 hl279_0
                      replace p279 := eq_true p279
                      replace q279 := eq_true q279
                      have p32 : 0 ≤ (x11_2 : Int) := of_decide_eq_true (by first | (with_reducible assumption) | assumption)
                      have q32 : (x11_2 : Int) < (((rd_L9 x34_2 x10_1).length : Int) : Int) := of_decide_eq_true (by first | (with_reducible assumption) | assumption)
                      obtain ⟨go32, co32, eo32, gb32, gl32, cl32, HG32⟩ := Kd.R_form HL279_0.out (by omega)
                      (first | cases eo32 | (injection eo32 with ea_ en_ ec_; (first | subst ea_ | (injection ea_ with ea_; subst ea_)); subst ec_; clear en_))
                      have GB32 := Aside0.mk gb32
                      have GG32 := Aside0.mk HG32
                      clear gb32 gl32 HG32
                      obtain ⟨hx32_0, hf32_0⟩ := Kd.R_celln 0 HL279_0.out (x11_2 : Int) p32 q32
                      replace p32 := eq_true p32
                      replace q32 := eq_true q32
                      have hq53 : (x10_1 : Int) < (x34_2.length : Int) := (by have h_ : (x10_1 : Int) < ((x34_2.length : Int) : Int) := of_decide_eq_true (by first | (with_reducible assumption) | assumption); first | exact h_ | (have e_ := (Kd.S_reads' HO_34.out).1; omega) | simpa only [List.length_set, List.length_set] using h_)
                      obtain ⟨oki53, ce53, hcl53, hM53, hcc53, hok53, hbk53⟩ := Kd.S_borrow HO_34.out [] (x10_1 : Int) (of_decide_eq_true (by first | (with_reducible assumption) | assumption)) hq53
                      obtain ⟨ve53_0, rfl, ge53_0⟩ := hM53
                      have hv53 := hcc53 0 _ rfl
                      rw [Nat.add_zero, show ((Kd.slice 3 (Kd.int .i64))).sz = 1 from rfl, Nat.mul_one] at hv53
                      replace hv53 := Option.some.inj (hv53.symm.trans HX279_0.out)
                      subst hv53
                      clear hcc53 hcl53
                      replace ge53_0 := (show Kd.R (Kd.int .i64) 3 _ _ _ _ (rd_L9 x34_2 x10_1) from ge53_0)
                      have HP53 := Kd.R_putg ge53_0 (x11_2 : Int) (wrap64 ((wrap64 ((wrap64 ((t264.length : Int) - x10_1)) + (t268.length : Int))) - x11_2))
                      go_wp2_with (first | ((with_reducible refine gate_store (t := 3) (p := 68) rfl ?_); refine store_event (t := 3) (p := 68) (v := ?vo_w54) (w1 := (wr.setCell ⟨go32, (x11_2 : Int).toNat, none⟩ (.int .i64 (wrap64 ((wrap64 ((wrap64 ((t264.length : Int) - x10_1)) + (t268.length : Int))) - x11_2))))) ?hg ?ho ?hn ?hr ?_; (case ho => rfl); (case hg => rfl); (case hn => rfl); (case hr => first | (go_simp; done) | (go_simp; rfl)); intro w54 hw; have hg : wr.grownBy w54 (some go32) := (by rw [hw]; exact HP53.2); have hz_ : Kd.R (Kd.int .i64) 3 w54 w.heap.size oki53 (.slice (some ⟨go32, 0, none⟩) (rd_L9 x34_2 x10_1).length c279_0) y280 := (by rw [hw, Ny280.out]; exact HP53.1); have hp_ : Kd.S (Kd.slice 3 (Kd.int .i64)) 52 w54 w.heap.size (fun _ => True) (.slice (some ⟨go21, 0, none⟩) x34_2.length co21) y282 := (by rw [Ny282.out]; exact hbk53 hg (fun k_ e_ => by injection e_ with e_; subst e_; exact ge53_0.1 _ rfl) (Kd.M_row hz_)); have hm_ := Kd.R_mono hz_ hok53; clear HP53 hbk53; have n0_ := Aside0.mk (Kd.R_over' (v := (.slice (some ⟨go32, 0, none⟩) (rd_L9 x34_2 x10_1).length c279_0)) (iR HO_6) (Kd.R_typed HL279_0.out) (by decide) hg); have n1_ := Aside0.mk (Kd.R_over' (v := (.slice (some ⟨go32, 0, none⟩) (rd_L9 x34_2 x10_1).length c279_0)) (iR HO_8) (Kd.R_typed HL279_0.out) (by decide) hg); have n2_ := Aside0.mk (hp_); have n3_ := Aside0.mk ((by rw [hw]; exact below_set (HB.out) GB32.out : Below w.heap.size w w54)); have n4_ := Aside0.mk (hm_); have n5_ := Aside0.mk ((Kd.R_reads' hm_).2.1); clear HO_6; clear HO_8; clear HO_34; clear HB; clear HL279_0; have HO_6 := n0_; have HO_8 := n1_; have HO_34 := n2_; have HB := n3_; have HL320 := n4_; have HC281 := n5_; clear n0_ n1_ n2_ n3_ n4_ n5_; clear hg hw hp_ hz_ hm_ hok53))
                      (try simp only [← hl34_2])
                      go_roundg k2
                      case measure => have := HK1.out; have := HK2.out; omega
                      case rel => exact ⟨(wrap64 (x11_2 - 1)), (y282), (by first | rfl | (simp; done) | (simp [*]; done)), H', ⟨by have := HK1.out; have := HK2.out; omega⟩, ⟨by (try simp only [hl34_2]); (with_reducible repeat (first | apply Kd.R_alloc | apply Kd.R_drewN | apply Kd.R_drew)); exact HO_6.out⟩, ⟨by (try simp only [hl34_2]); (with_reducible repeat (first | apply Kd.R_alloc | apply Kd.R_drewN | apply Kd.R_drew)); exact HO_8.out⟩, ⟨by (try simp only [hl34_2]); (with_reducible repeat (first | apply Kd.S_alloc | apply Kd.S_drewN | apply Kd.S_drew)); exact HO_34.out⟩, ⟨by repeat (first | (with_reducible first | exact HB.out | apply below_alloc | apply pw_below_drewN | apply below_drew1) | exact HB.out)⟩⟩
                   ·as_aux_lemma =>
                     rw [if_neg c33] at H
                     have c33b0 : decide (x10_1 < (t264.length : Int)) = false := decide_eq_false c33
                     (try simp only [hl34_2] at c33b0)
                     clear c33
                     have H' := Aside0.mk H
                     clear H
                     have p279 : 0 ≤ (x10_1 : Int) := of_decide_eq_true (by first | (with_reducible assumption) | assumption)
                     have q279 : x10_1 < (x34_2.length : Int) := of_decide_eq_true (by first | (with_reducible assumption) | assumption)
                     obtain ⟨ad279, A279_0, c279_0, e279, hx279_0, hl279_0, hi279_0⟩ := at_L9 (Kd.S_reads' HO_34.out).2.2 x10_1 p279 q279
                     obtain rfl : (⟨go21, 0, none⟩ : Addr) = ad279 := (by injection e279)
                     obtain ⟨ce279, hce279, hMe279, hcc279⟩ := Kd.S_get HO_34.out [] x10_1 p279 (by first | exact q279 | exact of_decide_eq_true (by first | (with_reducible assumption) | assumption) | (have e_ := (Kd.S_reads' HO_34.out).1; omega))
                     obtain ⟨ve279_0, rfl, ge279_0⟩ := hMe279
                     have hv279_0 := hcc279 0 _ rfl
                     rw [Nat.add_zero, show ((Kd.slice 3 (Kd.int .i64))).sz = 1 from rfl, Nat.mul_one] at hv279_0
                     replace hv279_0 := Option.some.inj (hv279_0.symm.trans hx279_0)
                     rw [hv279_0] at ge279_0
                     have HL279_0 := Aside0.mk (show Kd.R (Kd.int .i64) 3 _ _ _ _ (rd_L9 x34_2 x10_1) from ge279_0)
                     clear hv279_0 ge279_0
                     have HX279_0 := Aside0.mk hx279_0
                     clear hcc279 hce279
                     (first | simp only [add_plain] at hx279_0 | simp only [add_at] at hx279_0 | simp only [Addr.add, Nat.zero_add] at hx279_0 | skip)
                     have HR279_0 := Aside0.mk hi279_0
                     have HC279_0 := Aside0.mk hl279_0
                     clear hi279_0 hl279_0
                     replace p279 := eq_true p279
                     replace q279 := eq_true q279
                     have p32 : 0 ≤ (x11_2 : Int) := of_decide_eq_true (by first | (with_reducible assumption) | assumption)
                     have q32 : (x11_2 : Int) < (((rd_L9 x34_2 x10_1).length : Int) : Int) := of_decide_eq_true (by first | (with_reducible assumption) | assumption)
                     obtain ⟨go32, co32, eo32, gb32, gl32, cl32, HG32⟩ := Kd.R_form HL279_0.out (by omega)
                     (first | cases eo32 | (injection eo32 with ea_ en_ ec_; (first | subst ea_ | (injection ea_ with ea_; subst ea_)); subst ec_; clear en_))
                     have GB32 := Aside0.mk gb32
                     have GG32 := Aside0.mk HG32
                     clear gb32 gl32 HG32
                     obtain ⟨hx32_0, hf32_0⟩ := Kd.R_celln 0 HL279_0.out (x11_2 : Int) p32 q32
                     replace p32 := eq_true p32
                     replace q32 := eq_true q32
                     have hq55 : (x10_1 : Int) < (x34_2.length : Int) := (by have h_ : (x10_1 : Int) < ((x34_2.length : Int) : Int) := of_decide_eq_true (by first | (with_reducible assumption) | assumption); first | exact h_ | (have e_ := (Kd.S_reads' HO_34.out).1; omega) | simpa only [List.length_set, List.length_set] using h_)
                     obtain ⟨oki55, ce55, hcl55, hM55, hcc55, hok55, hbk55⟩ := Kd.S_borrow HO_34.out [] (x10_1 : Int) (of_decide_eq_true (by first | (with_reducible assumption) | assumption)) hq55
                     obtain ⟨ve55_0, rfl, ge55_0⟩ := hM55
                     have hv55 := hcc55 0 _ rfl
                     rw [Nat.add_zero, show ((Kd.slice 3 (Kd.int .i64))).sz = 1 from rfl, Nat.mul_one] at hv55
                     replace hv55 := Option.some.inj (hv55.symm.trans HX279_0.out)
                     subst hv55
                     clear hcc55 hcl55
                     replace ge55_0 := (show Kd.R (Kd.int .i64) 3 _ _ _ _ (rd_L9 x34_2 x10_1) from ge55_0)
                     have HP55 := Kd.R_putg ge55_0 (x11_2 : Int) (wrap64 ((wrap64 ((wrap64 ((t264.length : Int) - x10_1)) + (t268.length : Int))) - x11_2))
                     go_wp2_with (first | ((with_reducible refine gate_store (t := 3) (p := 68) rfl ?_); refine store_event (t := 3) (p := 68) (v := ?vo_w56) (w1 := (wr.setCell ⟨go32, (x11_2 : Int).toNat, none⟩ (.int .i64 (wrap64 ((wrap64 ((wrap64 ((t264.length : Int) - x10_1)) + (t268.length : Int))) - x11_2))))) ?hg ?ho ?hn ?hr ?_; (case ho => rfl); (case hg => rfl); (case hn => rfl); (case hr => first | (go_simp; done) | (go_simp; rfl)); intro w56 hw; have hg : wr.grownBy w56 (some go32) := (by rw [hw]; exact HP55.2); have hz_ : Kd.R (Kd.int .i64) 3 w56 w.heap.size oki55 (.slice (some ⟨go32, 0, none⟩) (rd_L9 x34_2 x10_1).length c279_0) y280 := (by rw [hw, Ny280.out]; exact HP55.1); have hp_ : Kd.S (Kd.slice 3 (Kd.int .i64)) 52 w56 w.heap.size (fun _ => True) (.slice (some ⟨go21, 0, none⟩) x34_2.length co21) y282 := (by rw [Ny282.out]; exact hbk55 hg (fun k_ e_ => by injection e_ with e_; subst e_; exact ge55_0.1 _ rfl) (Kd.M_row hz_)); have hm_ := Kd.R_mono hz_ hok55; clear HP55 hbk55; have n0_ := Aside0.mk (Kd.R_over' (v := (.slice (some ⟨go32, 0, none⟩) (rd_L9 x34_2 x10_1).length c279_0)) (iR HO_6) (Kd.R_typed HL279_0.out) (by decide) hg); have n1_ := Aside0.mk (Kd.R_over' (v := (.slice (some ⟨go32, 0, none⟩) (rd_L9 x34_2 x10_1).length c279_0)) (iR HO_8) (Kd.R_typed HL279_0.out) (by decide) hg); have n2_ := Aside0.mk (hp_); have n3_ := Aside0.mk ((by rw [hw]; exact below_set (HB.out) GB32.out : Below w.heap.size w w56)); have n4_ := Aside0.mk (hm_); have n5_ := Aside0.mk ((Kd.R_reads' hm_).2.1); clear HO_6; clear HO_8; clear HO_34; clear HB; clear HL279_0; have HO_6 := n0_; have HO_8 := n1_; have HO_34 := n2_; have HB := n3_; have HL321 := n4_; have HC281 := n5_; clear n0_ n1_ n2_ n3_ n4_ n5_; clear hg hw hp_ hz_ hm_ hok55))
                     (try simp only [← hl34_2])
                     go_roundg k2
                     case measure => have := HK1.out; have := HK2.out; omega
                     case rel => exact ⟨(wrap64 (x11_2 - 1)), (y282), (by first | rfl | (simp; done) | (simp [*]; done)), H', ⟨by have := HK1.out; have := HK2.out; omega⟩, ⟨by (try simp only [hl34_2]); (with_reducible repeat (first | apply Kd.R_alloc | apply Kd.R_drewN | apply Kd.R_drew)); exact HO_6.out⟩, ⟨by (try simp only [hl34_2]); (with_reducible repeat (first | apply Kd.R_alloc | apply Kd.R_drewN | apply Kd.R_drew)); exact HO_8.out⟩, ⟨by (try simp only [hl34_2]); (with_reducible repeat (first | apply Kd.S_alloc | apply Kd.S_drewN | apply Kd.S_drew)); exact HO_34.out⟩, ⟨by repeat (first | (with_reducible first | exact HB.out | apply below_alloc | apply pw_below_drewN | apply below_drew1) | exact HB.out)⟩⟩
                  ·rw [if_neg c31] at H
                   exact absurd H (by simp)
                 ·rw [if_neg c30] at H
                  exact absurd H (by simp)
                ·rw [if_neg c29] at H
                 exact absurd H (by simp)
               ·rw [if_neg c28] at H
                exact absurd H (by simp)
              ·rw [if_neg c27] at H
               have c27b0 : decide (0 ≤ x11_2) = false := decide_eq_false c27
               clear c27
               have H' := Aside0.mk H
               clear H
               go_wp2
               (try simp only [← hl34_2])
               go_roundg k2
               case measure => have := HK1.out; have := HK2.out; omega
               case rel => exact ⟨(wrap64 (x10_1 - 1)), (x34_2), (by first | rfl | (simp; done) | (simp [*]; done)), H', ⟨by have := HK1.out; have := HK2.out; omega⟩, ⟨by (try simp only [hl34_2]); (with_reducible repeat (first | apply Kd.R_alloc | apply Kd.R_drewN | apply Kd.R_drew)); exact HO_6.out⟩, ⟨by (try simp only [hl34_2]); (with_reducible repeat (first | apply Kd.R_alloc | apply Kd.R_drewN | apply Kd.R_drew)); exact HO_8.out⟩, ⟨by (try simp only [hl34_2]); (with_reducible repeat (first | apply Kd.S_alloc | apply Kd.S_drewN | apply Kd.S_drew)); exact HO_34.out⟩, ⟨by repeat (first | (with_reducible first | exact HB.out | apply below_alloc | apply pw_below_drewN | apply below_drew1) | exact HB.out)⟩⟩
           ·rw [if_neg c20] at H
            exact absurd H (by simp)
          ·rw [if_neg c19] at H
           exact absurd H (by simp)
         ·rw [if_neg c18] at H
          exact absurd H (by simp)
        ·rw [if_neg c17] at H
         exact absurd H (by simp)
       ·rw [if_neg c15] at H
        have c15b0 : decide (0 ≤ x10_1) = false := decide_eq_false c15
        clear c15
        have H' := Aside0.mk H
        clear H
        go_wp2
        go_loopg [12, 13, 14] k1 (fun kq v12 v13 v14 w' => ∃ (x12_2 : List (S29)) (x13_2 : Int) (x14_2 : Int), v13 = .int .i64 x13_2 ∧ v14 = .int .i64 x14_2 ∧ Aside0 (ancepsref57_Words.l2 kq t264 t268 x12_2 x13_2 x14_2 x34_1 = some (r1, r2)) ∧ Aside0 (kq ≤ k1) ∧ Aside0 (Kd.R Kd.string 9 w' w.heap.size (fun k_ => some k_ ≠ (v270 : Value).ownBlock) (.slice Ao12 t264.length co12) t264) ∧ Aside0 (Kd.R Kd.string 9 w' w.heap.size (fun k_ => some k_ ≠ ((.slice Ao12 t264.length co12) : Value).ownBlock) v270 t268) ∧ Aside0 (Kd.R k29 29 w' w.heap.size (fun _ => True) v12 x12_2) ∧ Aside0 (Kd.S (Kd.slice 3 (Kd.int .i64)) 52 w' w.heap.size (fun _ => True) v273 x34_1) ∧ Aside0 (Below w.heap.size w w'))
        case atStart => exact ⟨(([] : List (S29))), (0), (0), (by first | rfl | (simp; done) | (simp [*]; done)), (by first | rfl | (simp; done) | (simp [*]; done)), H', ⟨Nat.le_refl _⟩, ⟨by (with_reducible repeat (first | apply Kd.R_alloc | apply Kd.R_drewN | apply Kd.R_drew)); exact HO_6.out⟩, ⟨by (with_reducible repeat (first | apply Kd.R_alloc | apply Kd.R_drewN | apply Kd.R_drew)); exact HO_8.out⟩, ⟨by first | exact Kd.R_nil _ _ _ _ _ | exact Kd.N_nil _ _ _ _ _ | exact Kd.V_nil _ _ _ _ _ | exact Kd.Q_nil _ _ _ _ _ | exact Kd.S_nil _ _ _ _ _⟩, ⟨by (with_reducible repeat (first | apply Kd.S_alloc | apply Kd.S_drewN | apply Kd.S_drew)); exact HO_34.out⟩, ⟨by repeat (first | (with_reducible first | exact HB.out | apply below_alloc | apply pw_below_drewN | apply below_drew1) | exact HB.out)⟩⟩
        case round =>
         clear H'
         try clear c1
         try clear c2
         try clear p2
         try clear q2
         try clear hx2
         try clear c3
         try clear p3
         try clear q3
         try clear hx3
         try clear hf3
         try clear c4
         try clear p4
         try clear q4
         try clear hx4
         try clear hf4
         try clear c5
         try clear q5
         try clear p6
         try clear c15
         try clear c15b0
         try clear c17
         try clear c18
         try clear c19
         try clear c20
         try clear c27
         try clear c27b0
         try clear p27
         try clear q27
         try clear hx27
         try clear c28
         try clear p28
         try clear q28
         try clear hx28
         try clear c29
         try clear p29
         try clear q29
         try clear hx29
         try clear c30
         try clear c31
         try clear p32
         try clear q32
         try clear hx32
         try clear hf32
         try clear c33
         try clear c33b0
         try clear c34
         try clear c34b0
         try clear c37
         try clear c38
         try clear c40
         try clear c41
         try clear c42
         try clear c43
         try clear c46
         try clear p47
         try clear q47
         try clear hx47
         try clear hf47
         try clear c51
         try clear q51
         try clear c53
         try clear q53
         try clear c55
         try clear q55
         try clear hx279_0
         try clear hx283_0
         try clear hx284_0
         try clear hx285_0
         try clear hx287_0
         try clear hx288_0
         try clear hx289_0
         try clear hx290_0
         try clear hx291_0
         try clear hx292_0
         try clear hx32_0
         try clear hx47_0
         try clear p279
         try clear p289
         try clear p290
         try clear p291
         try clear p292
         try clear p32
         try clear p47
         try clear q279
         try clear q289
         try clear q290
         try clear q291
         try clear q292
         try clear q32
         try clear q47
         obtain ⟨x12_2, x13_2, x14_2, rfl, rfl, HA, HK2, HO_6, HO_8, HO_12, HO_34, HB⟩ := hrel
         cases gk with
         | zero => exact absurd HA.out (by simp [ancepsref57_Words.l2])
         | succ k2 =>
          have H := HA.out
          clear HA
          simp only [ancepsref57_Words.l2] at H
          have HC57 := Aside0.mk H
          clear H
          go_upto_region 20 with (fail)
          go_cut [132] (fun v132 wc => ∃ (kq : Nat) (x132_56 : Bool), v132 = .bool x132_56 ∧ Aside0 (ancepsref57_Words.j3 kq t264 t268 x34_1 x12_2 x13_2 x14_2 x132_56 = some (r1, r2)) ∧ Aside0 (kq ≤ k2) ∧ Aside0 (Kd.R Kd.string 9 wc w.heap.size (fun k_ => some k_ ≠ (v270 : Value).ownBlock) (.slice Ao12 t264.length co12) t264) ∧ Aside0 (Kd.R Kd.string 9 wc w.heap.size (fun k_ => some k_ ≠ ((.slice Ao12 t264.length co12) : Value).ownBlock) v270 t268) ∧ Aside0 (Kd.S (Kd.slice 3 (Kd.int .i64)) 52 wc w.heap.size (fun _ => True) v273 x34_1) ∧ Aside0 (Kd.R k29 29 wc w.heap.size (fun _ => True) u12 x12_2) ∧ Aside0 (Below w.heap.size w wc))
          case first =>
           have H := HC57.out
           clear HC57
           by_cases c58 : x13_2 < (t264.length : Int)
           ·rw [if_pos c58] at H
            have c58b0 : decide (x13_2 < (t264.length : Int)) = true := decide_eq_true c58
            clear c58
            (first | rw [c58b0] | (simp only [i64_w, i32_w]; rw [c58b0]) | skip)
            have H' := Aside0.mk H
            clear H
            go_wp2
            go_meet
            case rel => exact ⟨_, (true), (by first | rfl | (simp; done) | (simp [*]; done)), H', ⟨by have := HK1.out; have := HK2.out; first | omega | exact Nat.le_refl _⟩, ⟨by (with_reducible repeat (first | apply Kd.R_alloc | apply Kd.R_drewN | apply Kd.R_drew)); exact HO_6.out⟩, ⟨by (with_reducible repeat (first | apply Kd.R_alloc | apply Kd.R_drewN | apply Kd.R_drew)); exact HO_8.out⟩, ⟨by (with_reducible repeat (first | apply Kd.S_alloc | apply Kd.S_drewN | apply Kd.S_drew)); exact HO_34.out⟩, ⟨by (with_reducible repeat (first | apply Kd.R_alloc | apply Kd.R_drewN | apply Kd.R_drew)); exact HO_12.out⟩, ⟨by repeat (first | (with_reducible first | exact HB.out | apply below_alloc | apply pw_below_drewN | apply below_drew1) | exact HB.out)⟩⟩
           ·rw [if_neg c58] at H
            have c58b0 : decide (x13_2 < (t264.length : Int)) = false := decide_eq_false c58
            clear c58
            (first | rw [c58b0] | (simp only [i64_w, i32_w]; rw [c58b0]) | skip)
            have H' := Aside0.mk H
            clear H
            obtain ⟨Ao59, co59, eo59⟩ := Kd.R_slice HO_8.out
            subst eo59
            go_wp2
            go_meet
            case rel => exact ⟨_, (decide (x14_2 < (t268.length : Int))), (by first | rfl | (simp; done) | (simp [*]; done)), H', ⟨by have := HK1.out; have := HK2.out; first | omega | exact Nat.le_refl _⟩, ⟨by (with_reducible repeat (first | apply Kd.R_alloc | apply Kd.R_drewN | apply Kd.R_drew)); exact HO_6.out⟩, ⟨by (with_reducible repeat (first | apply Kd.R_alloc | apply Kd.R_drewN | apply Kd.R_drew)); exact HO_8.out⟩, ⟨by (with_reducible repeat (first | apply Kd.S_alloc | apply Kd.S_drewN | apply Kd.S_drew)); exact HO_34.out⟩, ⟨by (with_reducible repeat (first | apply Kd.R_alloc | apply Kd.R_drewN | apply Kd.R_drew)); exact HO_12.out⟩, ⟨by repeat (first | (with_reducible first | exact HB.out | apply below_alloc | apply pw_below_drewN | apply below_drew1) | exact HB.out)⟩⟩
          case rest =>
           clear HC57
           try clear c1
           try clear c2
           try clear p2
           try clear q2
           try clear hx2
           try clear c3
           try clear p3
           try clear q3
           try clear hx3
           try clear hf3
           try clear c4
           try clear p4
           try clear q4
           try clear hx4
           try clear hf4
           try clear c5
           try clear q5
           try clear p6
           try clear c15
           try clear c15b0
           try clear c17
           try clear c18
           try clear c19
           try clear c20
           try clear c27
           try clear c27b0
           try clear p27
           try clear q27
           try clear hx27
           try clear c28
           try clear p28
           try clear q28
           try clear hx28
           try clear c29
           try clear p29
           try clear q29
           try clear hx29
           try clear c30
           try clear c31
           try clear p32
           try clear q32
           try clear hx32
           try clear hf32
           try clear c33
           try clear c33b0
           try clear c34
           try clear c34b0
           try clear c37
           try clear c38
           try clear c40
           try clear c41
           try clear c42
           try clear c43
           try clear c46
           try clear p47
           try clear q47
           try clear hx47
           try clear hf47
           try clear c51
           try clear q51
           try clear c53
           try clear q53
           try clear c55
           try clear q55
           try clear c58
           try clear c58b0
           try clear hx279_0
           try clear hx283_0
           try clear hx284_0
           try clear hx285_0
           try clear hx287_0
           try clear hx288_0
           try clear hx289_0
           try clear hx290_0
           try clear hx291_0
           try clear hx292_0
           try clear hx32_0
           try clear hx47_0
           try clear p2
           try clear p27
           try clear p279
           try clear p28
           try clear p289
           try clear p29
           try clear p290
           try clear p291
           try clear p292
           try clear p3
           try clear p32
           try clear p4
           try clear p47
           try clear p6
           try clear q2
           try clear q27
           try clear q279
           try clear q28
           try clear q289
           try clear q29
           try clear q290
           try clear q291
           try clear q292
           try clear q3
           try clear q32
           try clear q4
           try clear q47
           try clear q5
           try clear q51
           try clear q53
           try clear q55
           obtain ⟨kq, x132_56, rfl, HA, HJ56, HO_6, HO_8, HO_9, HO_12, HB⟩ := hcut
           cases kq with
           | zero => exact absurd HA.out (by simp [ancepsref57_Words.j3])
           | succ kj56 =>
            have H := HA.out
            clear HA
            simp only [ancepsref57_Words.j3] at H
            by_cases c60 : x132_56 = true
            ·subst c60
             have H1 : (if x13_2 < (t264.length : Int) then (if x14_2 < (t268.length : Int) then (if 0 ≤ x13_2 then (if x13_2 < (x34_1.length : Int) then (if 0 ≤ x14_2 then (if x14_2 < ((rd_L9 x34_1 x13_2).length : Int) then ((ancepsref57_unlike.f (rdOf ByteArray.empty t264 x13_2) (rdOf ByteArray.empty t268 x14_2)).bind fun t300 => (if 0 ≤ (wrap64 (x13_2 + 1)) then (if (wrap64 (x13_2 + 1)) < (x34_1.length : Int) then (if 0 ≤ (wrap64 (x14_2 + 1)) then (if (wrap64 (x14_2 + 1)) < ((rd_L9 x34_1 (wrap64 (x13_2 + 1))).length : Int) then (ancepsref57_Words.j4 kj56 t264 t268 x34_1 x12_2 x13_2 x14_2 ((rd (rd_L9 x34_1 x13_2) x14_2) == (wrap64 (t300 + (rd (rd_L9 x34_1 (wrap64 (x13_2 + 1))) (wrap64 (x14_2 + 1))))))) else (none)) else (none)) else (none)) else (none))) else (none)) else (none)) else (none)) else (none)) else (ancepsref57_Words.j4 kj56 t264 t268 x34_1 x12_2 x13_2 x14_2 false)) else (ancepsref57_Words.j4 kj56 t264 t268 x34_1 x12_2 x13_2 x14_2 false)) = some (r1, r2) := by rw [if_pos rfl] at H; exact H
             clear H
             have H := H1
             clear H1
             have HC61 := Aside0.mk H
             clear H
             go_upto_region 23 with (fail)
             go_cut [140] (fun v140 wc => ∃ (kq : Nat) (x140_60 : Bool), v140 = .bool x140_60 ∧ Aside0 (ancepsref57_Words.j4 kq t264 t268 x34_1 x12_2 x13_2 x14_2 x140_60 = some (r1, r2)) ∧ Aside0 (kq ≤ kj56) ∧ Aside0 (Kd.R Kd.string 9 wc w.heap.size (fun k_ => some k_ ≠ (v270 : Value).ownBlock) (.slice Ao12 t264.length co12) t264) ∧ Aside0 (Kd.R Kd.string 9 wc w.heap.size (fun k_ => some k_ ≠ ((.slice Ao12 t264.length co12) : Value).ownBlock) v270 t268) ∧ Aside0 (Kd.S (Kd.slice 3 (Kd.int .i64)) 52 wc w.heap.size (fun _ => True) v273 x34_1) ∧ Aside0 (Kd.R k29 29 wc w.heap.size (fun _ => True) u12 x12_2) ∧ Aside0 (Below w.heap.size w wc))
             case first =>
              have H := HC61.out
              clear HC61
              by_cases c62 : x13_2 < (t264.length : Int)
              ·as_aux_lemma =>
                rw [if_pos c62] at H
                have c62b0 : decide (x13_2 < (t264.length : Int)) = true := decide_eq_true c62
                clear c62
                (first | rw [c62b0] | (simp only [i64_w, i32_w]; rw [c62b0]) | skip)
                by_cases c63 : x14_2 < (t268.length : Int)
                ·rw [if_pos c63] at H
                 have c63b0 : decide (x14_2 < (t268.length : Int)) = true := decide_eq_true c63
                 clear c63
                 by_cases c64 : 0 ≤ x13_2
                 ·rw [if_pos c64] at H
                  have c64b0 : decide (0 ≤ x13_2) = true := decide_eq_true c64
                  clear c64
                  by_cases c65 : x13_2 < (x34_1.length : Int)
                  ·rw [if_pos c65] at H
                   have c65b0 : decide (x13_2 < (x34_1.length : Int)) = true := decide_eq_true c65
                   clear c65
                   by_cases c66 : 0 ≤ x14_2
                   ·rw [if_pos c66] at H
                    have c66b0 : decide (0 ≤ x14_2) = true := decide_eq_true c66
                    clear c66
                    by_cases c67 : x14_2 < ((rd_L9 x34_1 x13_2).length : Int)
                    ·rw [if_pos c67] at H
                     have c67b0 : decide (x14_2 < ((rd_L9 x34_1 x13_2).length : Int)) = true := decide_eq_true c67
                     clear c67
                     replace H := Option.bind_eq_some_iff.mp H
                     obtain ⟨t300, A680, H⟩ := H
                     try dsimp only at H
                     have A68 := Aside0.mk A680
                     clear A680
                     obtain ⟨ji69, hji69⟩ : ∃ j_ : Int, (wrap64 (x13_2 + 1)) = j_ := ⟨_, rfl⟩
                     replace H : (if 0 ≤ (ji69) then (if (ji69) < (x34_1.length : Int) then (if 0 ≤ (wrap64 (x14_2 + 1)) then (if (wrap64 (x14_2 + 1)) < ((rd_L9 x34_1 (ji69)).length : Int) then (ancepsref57_Words.j4 kj56 t264 t268 x34_1 x12_2 x13_2 x14_2 ((rd (rd_L9 x34_1 x13_2) x14_2) == (wrap64 (t300 + (rd (rd_L9 x34_1 (ji69)) (wrap64 (x14_2 + 1))))))) else (none)) else (none)) else (none)) else (none)) = some (r1, r2) := by first | (rw [hji69] at H; exact H) | (simp only [hji69] at H ⊢; exact H)
                     (try rw [hji69] at A68)
                     have hji69w : (IntKind.i64.wrap (x13_2 + 1)) = ji69 := (i64_w _).trans hji69
                     by_cases c70 : 0 ≤ (ji69)
                     ·rw [if_pos c70] at H
                      have c70b0 : decide (0 ≤ (ji69)) = true := decide_eq_true c70
                      clear c70
                      by_cases c71 : (ji69) < (x34_1.length : Int)
                      ·rw [if_pos c71] at H
                       have c71b0 : decide ((ji69) < (x34_1.length : Int)) = true := decide_eq_true c71
                       clear c71
                       obtain ⟨ji72, hji72⟩ : ∃ j_ : Int, (wrap64 (x14_2 + 1)) = j_ := ⟨_, rfl⟩
                       replace H : (if 0 ≤ (ji72) then (if (ji72) < ((rd_L9 x34_1 (ji69)).length : Int) then (ancepsref57_Words.j4 kj56 t264 t268 x34_1 x12_2 x13_2 x14_2 ((rd (rd_L9 x34_1 x13_2) x14_2) == (wrap64 (t300 + (rd (rd_L9 x34_1 (ji69)) (ji72)))))) else (none)) else (none)) = some (r1, r2) := by first | (rw [hji72] at H; exact H) | (simp only [hji72] at H ⊢; exact H)
                       (try rw [hji72] at A68)
                       have hji72w : (IntKind.i64.wrap (x14_2 + 1)) = ji72 := (i64_w _).trans hji72
                       by_cases c73 : 0 ≤ (ji72)
                       ·rw [if_pos c73] at H
                        have c73b0 : decide (0 ≤ (ji72)) = true := decide_eq_true c73
                        clear c73
                        by_cases c74 : (ji72) < ((rd_L9 x34_1 (ji69)).length : Int)
                        ·rw [if_pos c74] at H
                         have c74b0 : decide ((ji72) < ((rd_L9 x34_1 (ji69)).length : Int)) = true := decide_eq_true c74
                         clear c74
                         have H' := Aside0.mk H
                         clear H
                         try go_wp2
                         have n0_ := Aside0.mk (Kd.R_drew HO_6.out)
                         have n1_ := Aside0.mk (Kd.R_drew HO_8.out)
                         have n2_ := Aside0.mk (Kd.S_drew HO_9.out)
                         have n3_ := Aside0.mk (Kd.R_drew HO_12.out)
                         have n4_ := Aside0.mk (below_drew1 HB.out)
                         clear HO_6
                         clear HO_8
                         clear HO_9
                         clear HO_12
                         clear HB
                         have HO_6 := n0_
                         have HO_8 := n1_
                         have HO_9 := n2_
                         have HO_12 := n3_
                         have HB := n4_
                         clear n0_ n1_ n2_ n3_ n4_
                         obtain ⟨Ao76, co76, eo76⟩ := Kd.R_slice HO_8.out
                         (first | subst eo76 | (injection eo76 with f1_ f2_ f3_; have f4_ := f1_.symm; have f5_ := f3_.symm; clear f1_ f2_ f3_; subst f4_; subst f5_))
                         obtain ⟨Ao77, co77, eo77⟩ := Kd.S_slice HO_9.out
                         (first | subst eo77 | (injection eo77 with f1_ f2_ f3_; have f4_ := f1_.symm; have f5_ := f3_.symm; clear f1_ f2_ f3_; subst f4_; subst f5_))
                         have p296 : 0 ≤ (x13_2 : Int) := of_decide_eq_true (by first | (with_reducible assumption) | assumption)
                         have q296 : x13_2 < (x34_1.length : Int) := of_decide_eq_true (by first | (with_reducible assumption) | assumption)
                         obtain ⟨ad296, A296_0, c296_0, e296, hx296_0, hl296_0, hi296_0⟩ := at_L9 (Kd.S_reads' HO_9.out).2.2 x13_2 p296 q296
                         cases e296
                         obtain ⟨ce296, hce296, hMe296, hcc296⟩ := Kd.S_get HO_9.out [] x13_2 p296 (by first | exact q296 | exact of_decide_eq_true (by first | (with_reducible assumption) | assumption) | (have e_ := (Kd.S_reads' HO_9.out).1; omega))
                         obtain ⟨ve296_0, rfl, ge296_0⟩ := hMe296
                         have hv296_0 := hcc296 0 _ rfl
                         rw [Nat.add_zero, show ((Kd.slice 3 (Kd.int .i64))).sz = 1 from rfl, Nat.mul_one] at hv296_0
                         replace hv296_0 := Option.some.inj (hv296_0.symm.trans hx296_0)
                         rw [hv296_0] at ge296_0
                         have HL296_0 := Aside0.mk (show Kd.R (Kd.int .i64) 3 _ _ _ _ (rd_L9 x34_1 x13_2) from ge296_0)
                         clear hv296_0 ge296_0
                         have HX296_0 := Aside0.mk hx296_0
                         clear hcc296 hce296
                         have HR296_0 := Aside0.mk hi296_0
                         have HC296_0 := Aside0.mk hl296_0
                         clear hi296_0 hl296_0
                         replace p296 := eq_true p296
                         replace q296 := eq_true q296
                         have p297 : 0 ≤ (x14_2 : Int) := of_decide_eq_true (by first | (with_reducible assumption) | assumption)
                         have q297 : x14_2 < ((rd_L9 x34_1 x13_2).length : Int) := of_decide_eq_true (by first | (with_reducible assumption) | assumption)
                         obtain ⟨ad297, e297, hx297_0⟩ := Kd.at_int (by repeat (first | (with_reducible exact HR296_0.out) | (with_reducible refine Kd.C_alloc ?_ _) | (with_reducible refine Kd.C_drewN ?_ _) | (with_reducible refine Kd.C_drew ?_) | exact HR296_0.out)) x14_2 p297 q297
                         cases e297
                         replace p297 := eq_true p297
                         replace q297 := eq_true q297
                         have p298 : 0 ≤ (x13_2 : Int) := of_decide_eq_true (by first | (with_reducible assumption) | assumption)
                         have q298 : x13_2 < (t264.length : Int) := of_decide_eq_true (by first | (with_reducible assumption) | assumption)
                         obtain ⟨ad298, e298, hx298_0⟩ := Kd.at_string (Kd.R_reads' HO_6.out).2.2 x13_2 p298 q298
                         cases e298
                         replace p298 := eq_true p298
                         replace q298 := eq_true q298
                         have p299 : 0 ≤ (x14_2 : Int) := of_decide_eq_true (by first | (with_reducible assumption) | assumption)
                         have q299 : x14_2 < (t268.length : Int) := of_decide_eq_true (by first | (with_reducible assumption) | assumption)
                         obtain ⟨ad299, e299, hx299_0⟩ := Kd.at_string (Kd.R_reads' HO_8.out).2.2 x14_2 p299 q299
                         cases e299
                         replace p299 := eq_true p299
                         replace q299 := eq_true q299
                         have p301 : 0 ≤ ((ji69) : Int) := of_decide_eq_true (by first | (with_reducible assumption) | assumption)
                         have q301 : (ji69) < (x34_1.length : Int) := of_decide_eq_true (by first | (with_reducible assumption) | assumption)
                         obtain ⟨ad301, A301_0, c301_0, e301, hx301_0, hl301_0, hi301_0⟩ := at_L9 (Kd.S_reads' HO_9.out).2.2 (ji69) p301 q301
                         obtain rfl : ad296 = ad301 := (by injection e301)
                         obtain ⟨ce301, hce301, hMe301, hcc301⟩ := Kd.S_get HO_9.out [] (ji69) p301 (by first | exact q301 | exact of_decide_eq_true (by first | (with_reducible assumption) | assumption) | (have e_ := (Kd.S_reads' HO_9.out).1; omega))
                         obtain ⟨ve301_0, rfl, ge301_0⟩ := hMe301
                         have hv301_0 := hcc301 0 _ rfl
                         rw [Nat.add_zero, show ((Kd.slice 3 (Kd.int .i64))).sz = 1 from rfl, Nat.mul_one] at hv301_0
                         replace hv301_0 := Option.some.inj (hv301_0.symm.trans hx301_0)
                         rw [hv301_0] at ge301_0
                         have HL301_0 := Aside0.mk (show Kd.R (Kd.int .i64) 3 _ _ _ _ (rd_L9 x34_1 (ji69)) from ge301_0)
                         clear hv301_0 ge301_0
                         have HX301_0 := Aside0.mk hx301_0
                         clear hcc301 hce301
                         have HR301_0 := Aside0.mk hi301_0
                         have HC301_0 := Aside0.mk hl301_0
                         clear hi301_0 hl301_0
                         replace p301 := eq_true p301
                         replace q301 := eq_true q301
                         have p302 : 0 ≤ ((ji72) : Int) := of_decide_eq_true (by first | (with_reducible assumption) | assumption)
                         have q302 : (ji72) < ((rd_L9 x34_1 (ji69)).length : Int) := of_decide_eq_true (by first | (with_reducible assumption) | assumption)
                         obtain ⟨ad302, e302, hx302_0⟩ := Kd.at_int (by repeat (first | (with_reducible exact HR301_0.out) | (with_reducible refine Kd.C_alloc ?_ _) | (with_reducible refine Kd.C_drewN ?_ _) | (with_reducible refine Kd.C_drew ?_) | exact HR301_0.out)) (ji72) p302 q302
                         cases e302
                         replace p302 := eq_true p302
                         replace q302 := eq_true q302
                         refine start_ (n := 40) (S := fun w' => w'.cell? (ad296.add (x13_2).toNat) = some (.slice (some ad297) (rd_L9 x34_1 x13_2).length c296_0) ∧ w'.cell? (ad297.add (x14_2).toNat) = some (.int .i64 (rd (rd_L9 x34_1 x13_2) x14_2)) ∧ w'.cell? (ad298.add (x13_2).toNat) = some (.string (rdOf ByteArray.empty t264 x13_2)) ∧ w'.cell? (ad299.add (x14_2).toNat) = some (.string (rdOf ByteArray.empty t268 x14_2)) ∧ w'.cell? (ad296.add ((ji69)).toNat) = some (.slice (some ad302) (rd_L9 x34_1 (ji69)).length c301_0) ∧ w'.cell? (ad302.add ((ji72)).toNat) = some (.int .i64 (rd (rd_L9 x34_1 (ji69)) (ji72)))) (ds := []) #[false, false, false, false, false, false, false, false, false, false, false, false, false, false, false, false, false, false, false, false, false, false, false, false, false, false, false, false, false, false, false, false, false, false, false, false, false, false, false, false] (by kernel_rfl) rfl rfl ⟨hx296_0, hx297_0, hx298_0, hx299_0, hx301_0, hx302_0⟩ (fun hHeld => ?_); refine with_tabW ancepsref57_Words.tab23 ancepsref57_Words.bits23 (fun HT_ HW_ => ?_)
                         generalize wc.drew = w75 at HO_6 HO_8 HO_9 HO_12 HB HL296_0 HL301_0 HR296_0 HR301_0 HX296_0 HX301_0 hx296_0 hx297_0 hx298_0 hx299_0 hx301_0 hx302_0 hHeld ⊢
                         refine pv_ 0 (some 141) HT_ ?_
                         refine pv_ 1 (some 142) HT_ ?_
                         refine pv_ 2 (some 143) HT_ ?_
                         refine pv_ 3 (some 144) HT_ ?_
                         refine pv_ 4 (some 145) HT_ ?_
                         refine pv_ 5 (some 146) HT_ ?_
                         refine pv_ 6 (some 147) HT_ ?_
                         refine pv_ 7 (some 148) HT_ ?_
                         refine pv_ 8 (some 149) HT_ ?_
                         refine pv_ 9 (some 150) HT_ ?_
                         refine pv_ 10 (some 151) HT_ ?_
                         refine pv_ 11 (some 152) HT_ ?_
                         refine pv_ 12 (some 153) HT_ ?_
                         refine pv_ 13 (some 154) HT_ ?_
                         refine pv_ 15 (some 156) HT_ ?_
                         refine pv_ 18 (some 159) HT_ ?_
                         refine pv_ 19 (some 160) HT_ ?_
                         refine pv_ 20 (some 161) HT_ ?_
                         refine pv_ 22 (some 163) HT_ ?_
                         refine pv_ 23 (some 164) HT_ ?_
                         refine pv_ 24 (some 165) HT_ ?_
                         refine pv_ 27 (some 168) HT_ ?_
                         refine pv_ 28 (some 169) HT_ ?_
                         refine pv_ 29 (some 170) HT_ ?_
                         refine pv_ 30 (some 171) HT_ ?_
                         refine pv_ 32 (some 173) HT_ ?_
                         refine pv_ 33 (some 174) HT_ ?_
                         refine take_ (i := 14) (N := some 155) (v := ?_) (a' := ?_) #[true, true, true, true, true, true, true, true, true, true, true, true, true, true, true, true, false, false, true, true, true, false, true, true, true, false, false, true, true, true, true, false, true, true, false, false, false, false, false, false] rfl rfl (take_ofW HT_.out HW_.out (by kernel_rfl)) (fun _ _ _ h => h) (Or.inl ⟨by rfl, ?_⟩) hHeld ?_ ?_
                         rotate_left
                         ·rintro w' ⟨s0, s1, s2, s3, s4, s5⟩
                          go_simp
                          with_reducible rfl
                         rotate_left
                         ·simp only [Act.put, List.setIfInBounds_toArray, List.set_cons_zero, List.set_cons_succ, i64_w, i32_w]
                          rfl
                         refine pv_ 16 (some 157) HT_ ?_
                         refine take_ (i := 17) (N := some 158) (v := ?_) (a' := ?_) #[true, true, true, true, true, true, true, true, true, true, true, true, true, true, true, true, true, true, true, true, true, false, true, true, true, false, false, true, true, true, true, false, true, true, false, false, false, false, false, false] rfl rfl (take_ofW HT_.out HW_.out (by kernel_rfl)) (fun _ _ _ h => h) (Or.inl ⟨by rfl, ?_⟩) hHeld ?_ ?_
                         rotate_left
                         ·rintro w' ⟨s0, s1, s2, s3, s4, s5⟩
                          go_simp
                          with_reducible rfl
                         rotate_left
                         ·simp only [Act.put, List.setIfInBounds_toArray, List.set_cons_zero, List.set_cons_succ, i64_w, i32_w]
                          rfl
                         refine take_ (i := 21) (N := some 162) (v := ?_) (a' := ?_) #[true, true, true, true, true, true, true, true, true, true, true, true, true, true, true, true, true, true, true, true, true, true, true, true, true, false, false, true, true, true, true, false, true, true, false, false, false, false, false, false] rfl rfl (take_ofW HT_.out HW_.out (by kernel_rfl)) (fun _ _ _ h => h) (Or.inl ⟨by rfl, ?_⟩) hHeld ?_ ?_
                         rotate_left
                         ·rintro w' ⟨s0, s1, s2, s3, s4, s5⟩
                          go_simp
                          with_reducible rfl
                         rotate_left
                         ·simp only [Act.put, List.setIfInBounds_toArray, List.set_cons_zero, List.set_cons_succ, i64_w, i32_w]
                          rfl
                         refine take_ (i := 25) (N := some 166) (v := ?_) (a' := ?_) #[true, true, true, true, true, true, true, true, true, true, true, true, true, true, true, true, true, true, true, true, true, true, true, true, true, true, false, true, true, true, true, false, true, true, false, false, false, false, false, false] rfl rfl (take_ofW HT_.out HW_.out (by kernel_rfl)) (fun _ _ _ h => h) (Or.inl ⟨by rfl, ?_⟩) hHeld ?_ ?_
                         rotate_left
                         ·rintro w' ⟨s0, s1, s2, s3, s4, s5⟩
                          go_simp
                          with_reducible rfl
                         rotate_left
                         ·simp only [Act.put, List.setIfInBounds_toArray, List.set_cons_zero, List.set_cons_succ, i64_w, i32_w]
                          rfl
                         refine take_ (i := 31) (N := some 172) (v := ?_) (a' := ?_) #[true, true, true, true, true, true, true, true, true, true, true, true, true, true, true, true, true, true, true, true, true, true, true, true, true, true, false, true, true, true, true, true, true, true, false, false, false, false, false, false] rfl rfl (take_ofW HT_.out HW_.out (by kernel_rfl)) (fun _ _ _ h => h) (Or.inl ⟨by rfl, ?_⟩) hHeld ?_ ?_
                         rotate_left
                         ·rintro w' ⟨s0, s1, s2, s3, s4, s5⟩
                          go_simp
                          with_reducible rfl
                         rotate_left
                         ·simp only [Act.put, List.setIfInBounds_toArray, List.set_cons_zero, List.set_cons_succ, i64_w, i32_w]
                          rfl
                         refine pv_ 34 (some 175) HT_ ?_
                         refine take_ (i := 35) (N := some 176) (v := ?_) (a' := ?_) #[true, true, true, true, true, true, true, true, true, true, true, true, true, true, true, true, true, true, true, true, true, true, true, true, true, true, false, true, true, true, true, true, true, true, true, true, false, false, false, false] rfl rfl (take_ofW HT_.out HW_.out (by kernel_rfl)) (fun _ _ _ h => h) (Or.inl ⟨by rfl, ?_⟩) hHeld ?_ ?_
                         rotate_left
                         ·rintro w' ⟨s0, s1, s2, s3, s4, s5⟩
                          go_simp
                          with_reducible rfl
                         rotate_left
                         ·simp only [Act.put, List.setIfInBounds_toArray, List.set_cons_zero, List.set_cons_succ, i64_w, i32_w]
                          rfl
                         refine one_ (i := 26) (N := some 167) #[true, true, true, true, true, true, true, true, true, true, true, true, true, true, true, true, true, true, true, true, true, true, true, true, true, true, true, true, true, true, true, true, true, true, true, true, false, false, false, false] rfl rfl (one_of HT_.out (by kernel_rfl)) (by decide) (fun K hK => ?_)
                         refine goes_ Try.func38 (by kernel_rfl) rfl #[.string (rdOf ByteArray.empty t264 x13_2), .string (rdOf ByteArray.empty t268 x14_2)] (by rfl) rfl rfl (by (try simp only [List.map_toArray, List.map_cons, List.map_nil]); first | done | rfl | (simp only [List.length_drop, List.length_take]; rfl)) ?_
                         with_reducible refine (ancepsref57_unlike.calls (rdOf ByteArray.empty t264 x13_2) (rdOf ByteArray.empty t268 x14_2) t300 _ A68.out).mono ?_
                         rintro e w' ⟨rfl, ⟨nd, rfl⟩⟩
                         refine ⟨_, rfl, ?_⟩
                         refine hK.out _ _ ⟨hHeld.1, hHeld.2.1, hHeld.2.2.1, hHeld.2.2.2.1, hHeld.2.2.2.2.1, hHeld.2.2.2.2.2⟩ (fun hHeld => ?_)
                         clear hK K
                         refine norm_ (a' := ?_) ?_ ?_
                         rotate_left
                         ·show Act.put _ (some 167) _ = _
                          simp only [Act.put, List.setIfInBounds_toArray, List.set_cons_zero, List.set_cons_succ, i64_w, i32_w]
                          rfl
                         refine pv_ 36 (some 177) HT_ ?_
                         refine pv_ 37 (some 178) HT_ ?_
                         refine pv_ 38 (some 179) HT_ ?_
                         refine pv_ 39 (some 140) HT_ ?_
                         refine done_ (done_of HT_.out (by kernel_rfl)) ?_
                         try go_wp2
                         go_meet
                         case rel => exact ⟨_, (((rd (rd_L9 x34_1 x13_2) x14_2) == (wrap64 (t300 + (rd (rd_L9 x34_1 (ji69)) (ji72)))))), (by first | rfl | (simp; done) | (simp only [← hji69, ← hji72] <;> (first | rfl | simp)) | (simp [*]; done)), H', ⟨by have := HK1.out; have := HK2.out; have := HJ56.out; first | omega | exact Nat.le_refl _⟩, ⟨by (with_reducible repeat (first | apply Kd.R_alloc | apply Kd.R_drewN | apply Kd.R_drew)); exact HO_6.out⟩, ⟨by (with_reducible repeat (first | apply Kd.R_alloc | apply Kd.R_drewN | apply Kd.R_drew)); exact HO_8.out⟩, ⟨by (with_reducible repeat (first | apply Kd.S_alloc | apply Kd.S_drewN | apply Kd.S_drew)); exact HO_9.out⟩, ⟨by (with_reducible repeat (first | apply Kd.R_alloc | apply Kd.R_drewN | apply Kd.R_drew)); exact HO_12.out⟩, ⟨by repeat (first | (with_reducible first | exact HB.out | apply below_alloc | apply pw_below_drewN | apply below_drew1) | exact HB.out)⟩⟩
                        ·rw [if_neg c74] at H
                         exact absurd H (by simp)
                       ·rw [if_neg c73] at H
                        exact absurd H (by simp)
                      ·rw [if_neg c71] at H
                       exact absurd H (by simp)
                     ·rw [if_neg c70] at H
                      exact absurd H (by simp)
                    ·rw [if_neg c67] at H
                     exact absurd H (by simp)
                   ·rw [if_neg c66] at H
                    exact absurd H (by simp)
                  ·rw [if_neg c65] at H
                   exact absurd H (by simp)
                 ·rw [if_neg c64] at H
                  exact absurd H (by simp)
                ·rw [if_neg c63] at H
                 have c63b0 : decide (x14_2 < (t268.length : Int)) = false := decide_eq_false c63
                 clear c63
                 have H' := Aside0.mk H
                 clear H
                 try go_wp2
                 have n0_ := Aside0.mk (Kd.R_drew HO_6.out)
                 have n1_ := Aside0.mk (Kd.R_drew HO_8.out)
                 have n2_ := Aside0.mk (Kd.S_drew HO_9.out)
                 have n3_ := Aside0.mk (Kd.R_drew HO_12.out)
                 have n4_ := Aside0.mk (below_drew1 HB.out)
                 clear HO_6
                 clear HO_8
                 clear HO_9
                 clear HO_12
                 clear HB
                 have HO_6 := n0_
                 have HO_8 := n1_
                 have HO_9 := n2_
                 have HO_12 := n3_
                 have HB := n4_
                 clear n0_ n1_ n2_ n3_ n4_
                 obtain ⟨Ao79, co79, eo79⟩ := Kd.R_slice HO_8.out
                 (first | subst eo79 | (injection eo79 with f1_ f2_ f3_; have f4_ := f1_.symm; have f5_ := f3_.symm; clear f1_ f2_ f3_; subst f4_; subst f5_))
                 refine start_ (n := 40) (S := fun w' => True) (ds := []) #[false, false, false, false, false, false, false, false, false, false, false, false, false, false, false, false, false, false, false, false, false, false, false, false, false, false, false, false, false, false, false, false, false, false, false, false, false, false, false, false] (by kernel_rfl) rfl rfl trivial (fun hHeld => ?_); refine with_tabW ancepsref57_Words.tab23 ancepsref57_Words.bits23 (fun HT_ HW_ => ?_)
                 generalize wc.drew = w78 at HO_6 HO_8 HO_9 HO_12 HB hHeld ⊢
                 refine pv_ 0 (some 141) HT_ ?_
                 refine pv_ 1 (some 142) HT_ ?_
                 refine pv_ 2 (some 143) HT_ ?_
                 refine pv_ 3 (some 144) HT_ ?_
                 refine pv_ 4 (some 145) HT_ ?_
                 refine pv_ 5 (some 146) HT_ ?_
                 refine pv_ 6 (some 147) HT_ ?_
                 refine pv_ 7 (some 148) HT_ ?_
                 refine pv_ 8 (some 149) HT_ ?_
                 refine pv_ 9 (some 150) HT_ ?_
                 refine pv_ 10 (some 151) HT_ ?_
                 refine pn_ 11 (some 152) HT_ ?_
                 refine pn_ 12 (some 153) HT_ ?_
                 refine pn_ 13 (some 154) HT_ ?_
                 refine pn_ 14 (some 155) HT_ ?_
                 refine pn_ 15 (some 156) HT_ ?_
                 refine pn_ 16 (some 157) HT_ ?_
                 refine pn_ 17 (some 158) HT_ ?_
                 refine pn_ 18 (some 159) HT_ ?_
                 refine pn_ 19 (some 160) HT_ ?_
                 refine pn_ 20 (some 161) HT_ ?_
                 refine pn_ 21 (some 162) HT_ ?_
                 refine pn_ 22 (some 163) HT_ ?_
                 refine pn_ 23 (some 164) HT_ ?_
                 refine pn_ 24 (some 165) HT_ ?_
                 refine pn_ 25 (some 166) HT_ ?_
                 refine pn_ 26 (some 167) HT_ ?_
                 refine pn_ 27 (some 168) HT_ ?_
                 refine pn_ 28 (some 169) HT_ ?_
                 refine pn_ 29 (some 170) HT_ ?_
                 refine pn_ 30 (some 171) HT_ ?_
                 refine pn_ 31 (some 172) HT_ ?_
                 refine pn_ 32 (some 173) HT_ ?_
                 refine pn_ 33 (some 174) HT_ ?_
                 refine pn_ 34 (some 175) HT_ ?_
                 refine pn_ 35 (some 176) HT_ ?_
                 refine pn_ 36 (some 177) HT_ ?_
                 refine pn_ 37 (some 178) HT_ ?_
                 refine pv_ 38 (some 179) HT_ ?_
                 refine pv_ 39 (some 140) HT_ ?_
                 refine done_ (done_of HT_.out (by kernel_rfl)) ?_
                 try go_wp2
                 go_meet
                 case rel => exact ⟨_, (false), (by first | rfl | (simp; done) | (simp [*]; done)), H', ⟨by have := HK1.out; have := HK2.out; have := HJ56.out; first | omega | exact Nat.le_refl _⟩, ⟨by (with_reducible repeat (first | apply Kd.R_alloc | apply Kd.R_drewN | apply Kd.R_drew)); exact HO_6.out⟩, ⟨by (with_reducible repeat (first | apply Kd.R_alloc | apply Kd.R_drewN | apply Kd.R_drew)); exact HO_8.out⟩, ⟨by (with_reducible repeat (first | apply Kd.S_alloc | apply Kd.S_drewN | apply Kd.S_drew)); exact HO_9.out⟩, ⟨by (with_reducible repeat (first | apply Kd.R_alloc | apply Kd.R_drewN | apply Kd.R_drew)); exact HO_12.out⟩, ⟨by repeat (first | (with_reducible first | exact HB.out | apply below_alloc | apply pw_below_drewN | apply below_drew1) | exact HB.out)⟩⟩
              ·as_aux_lemma =>
                rw [if_neg c62] at H
                have c62b0 : decide (x13_2 < (t264.length : Int)) = false := decide_eq_false c62
                clear c62
                (first | rw [c62b0] | (simp only [i64_w, i32_w]; rw [c62b0]) | skip)
                have H' := Aside0.mk H
                clear H
                try go_wp2
                have n0_ := Aside0.mk (Kd.R_drew HO_6.out)
                have n1_ := Aside0.mk (Kd.R_drew HO_8.out)
                have n2_ := Aside0.mk (Kd.S_drew HO_9.out)
                have n3_ := Aside0.mk (Kd.R_drew HO_12.out)
                have n4_ := Aside0.mk (below_drew1 HB.out)
                clear HO_6
                clear HO_8
                clear HO_9
                clear HO_12
                clear HB
                have HO_6 := n0_
                have HO_8 := n1_
                have HO_9 := n2_
                have HO_12 := n3_
                have HB := n4_
                clear n0_ n1_ n2_ n3_ n4_
                refine start_ (n := 40) (S := fun w' => True) (ds := []) #[false, false, false, false, false, false, false, false, false, false, false, false, false, false, false, false, false, false, false, false, false, false, false, false, false, false, false, false, false, false, false, false, false, false, false, false, false, false, false, false] (by kernel_rfl) rfl rfl trivial (fun hHeld => ?_); refine with_tabW ancepsref57_Words.tab23 ancepsref57_Words.bits23 (fun HT_ HW_ => ?_)
                generalize wc.drew = w80 at HO_6 HO_8 HO_9 HO_12 HB hHeld ⊢
                refine pv_ 0 (some 141) HT_ ?_
                refine pv_ 1 (some 142) HT_ ?_
                refine pv_ 2 (some 143) HT_ ?_
                refine pv_ 3 (some 144) HT_ ?_
                refine pv_ 4 (some 145) HT_ ?_
                refine pn_ 5 (some 146) HT_ ?_
                refine pn_ 6 (some 147) HT_ ?_
                refine pn_ 7 (some 148) HT_ ?_
                refine pn_ 8 (some 149) HT_ ?_
                refine pv_ 9 (some 150) HT_ ?_
                refine pv_ 10 (some 151) HT_ ?_
                refine pn_ 11 (some 152) HT_ ?_
                refine pn_ 12 (some 153) HT_ ?_
                refine pn_ 13 (some 154) HT_ ?_
                refine pn_ 14 (some 155) HT_ ?_
                refine pn_ 15 (some 156) HT_ ?_
                refine pn_ 16 (some 157) HT_ ?_
                refine pn_ 17 (some 158) HT_ ?_
                refine pn_ 18 (some 159) HT_ ?_
                refine pn_ 19 (some 160) HT_ ?_
                refine pn_ 20 (some 161) HT_ ?_
                refine pn_ 21 (some 162) HT_ ?_
                refine pn_ 22 (some 163) HT_ ?_
                refine pn_ 23 (some 164) HT_ ?_
                refine pn_ 24 (some 165) HT_ ?_
                refine pn_ 25 (some 166) HT_ ?_
                refine pn_ 26 (some 167) HT_ ?_
                refine pn_ 27 (some 168) HT_ ?_
                refine pn_ 28 (some 169) HT_ ?_
                refine pn_ 29 (some 170) HT_ ?_
                refine pn_ 30 (some 171) HT_ ?_
                refine pn_ 31 (some 172) HT_ ?_
                refine pn_ 32 (some 173) HT_ ?_
                refine pn_ 33 (some 174) HT_ ?_
                refine pn_ 34 (some 175) HT_ ?_
                refine pn_ 35 (some 176) HT_ ?_
                refine pn_ 36 (some 177) HT_ ?_
                refine pn_ 37 (some 178) HT_ ?_
                refine pv_ 38 (some 179) HT_ ?_
                refine pv_ 39 (some 140) HT_ ?_
                refine done_ (done_of HT_.out (by kernel_rfl)) ?_
                try go_wp2
                go_meet
                case rel => exact ⟨_, (false), (by first | rfl | (simp; done) | (simp [*]; done)), H', ⟨by have := HK1.out; have := HK2.out; have := HJ56.out; first | omega | exact Nat.le_refl _⟩, ⟨by (with_reducible repeat (first | apply Kd.R_alloc | apply Kd.R_drewN | apply Kd.R_drew)); exact HO_6.out⟩, ⟨by (with_reducible repeat (first | apply Kd.R_alloc | apply Kd.R_drewN | apply Kd.R_drew)); exact HO_8.out⟩, ⟨by (with_reducible repeat (first | apply Kd.S_alloc | apply Kd.S_drewN | apply Kd.S_drew)); exact HO_9.out⟩, ⟨by (with_reducible repeat (first | apply Kd.R_alloc | apply Kd.R_drewN | apply Kd.R_drew)); exact HO_12.out⟩, ⟨by repeat (first | (with_reducible first | exact HB.out | apply below_alloc | apply pw_below_drewN | apply below_drew1) | exact HB.out)⟩⟩
             case rest =>
              clear HC61
              try clear p2
              try clear c3
              try clear c6
              try clear p6
              try clear c7
              try clear c38
              try clear c62
              try clear c62b0
              try clear c63
              try clear c63b0
              try clear c64
              try clear p64
              try clear c65
              try clear c66
              try clear c67
              try clear c70
              try clear c71
              try clear c73
              try clear c74
              obtain ⟨kq, x140_60, rfl, HA, HJ60, HO_6, HO_8, HO_9, HO_12, HB⟩ := hcut
              cases kq with
              | zero => exact absurd HA.out (by simp [ancepsref57_Words.j4])
              | succ kj60 =>
               have H := HA.out
               clear HA
               simp only [ancepsref57_Words.j4] at H
               by_cases c81 : x140_60 = true
               ·subst c81
                have H1 : (if x12_2.length < 8796093022208 then (ancepsref57_Words.l2 kj60 t264 t268 (x12_2 ++ [(⟨x13_2, x14_2⟩ : S29)]) (wrap64 (x13_2 + 1)) (wrap64 (x14_2 + 1)) x34_1) else (none)) = some (r1, r2) := by rw [if_pos rfl] at H; exact H
                clear H
                have H := H1
                clear H1
                by_cases c82 : x12_2.length < 8796093022208
                ·rw [if_pos c82] at H
                 have LMc82 := Aside0.mk c82
                 clear c82
                 obtain ⟨y303, hy303⟩ : ∃ y_ : List (S29), y_ = (x12_2 ++ [(⟨x13_2, x14_2⟩ : S29)]) := ⟨_, rfl⟩
                 replace H : (ancepsref57_Words.l2 kj60 t264 t268 y303 (wrap64 (x13_2 + 1)) (wrap64 (x14_2 + 1)) x34_1) = some (r1, r2) := by first | (rw [hy303]; with_reducible exact H) | (have H2_ := (Option.bind_some _ _).symm.trans H; rw [hy303]; with_reducible exact H2_) | (have H2_ := (Option.bind_some _ _).symm.trans H; with_reducible exact H2_) | with_reducible exact H | (rw [hy303]; exact H) | exact H
                 have Ny303 := Aside0.mk hy303
                 clear hy303
                 have H' := Aside0.mk H
                 clear H
                 go_wp2_with (first | ((with_reducible refine gate_builtin (b := .append) (xs := #[.tmp 180, .tmp 184]) rfl ?_); (try (refine gate_guard (by rfl) ?_; dsimp only)); at_builtin; refine Kd.R_append k29 (w0 := w) w.heap.size rfl (.tmp 180) (.tmp 184) 23 29 (.agg #[(.int .i64 0), (.int .i64 0)]) 16 rfl Try.underlying23 info29 rfl (by decide) (by omega) u12 x12_2 (⟨x13_2, x14_2⟩ : S29) [.int .i64 x13_2, .int .i64 x14_2] (fun _ => True) (fun _ => False) rfl rfl ?aP (fun _ hk => hk.elim) ?aF ?aO ?aB ?aS ?aL ?_; (case aP => exact k29_mkM _ _ _ (⟨x13_2, x14_2⟩ : S29)); (case aB => exact (iL HB)); (case aF => exact (fun _ _ => trivial)); (case aO => exact (iR HO_12)); (case aS => exact (below_size (iL HB))); (case aL => have := LMc82.out; omega); intro v304 w83 ho hb hg hat; rw [← Ny303.out] at ho; have n0_ := Aside0.mk (Kd.R_over' (iR HO_6) (Kd.R_typed (iR HO_12)) (by decide) hg); have n1_ := Aside0.mk (Kd.R_over' (iR HO_8) (Kd.R_typed (iR HO_12)) (by decide) hg); have n2_ := Aside0.mk (Kd.S_over' (by (with_reducible repeat (first | apply Kd.S_alloc | apply Kd.S_drewN | apply Kd.S_drew)); exact HO_9.out) (Kd.R_typed (iR HO_12)) (by decide) hg); have n3_ := Aside0.mk (hb); have n4_ := Aside0.mk (ho); clear HO_6; clear HO_8; clear HO_9; clear HB; clear HO_12; have HO_6 := n0_; have HO_8 := n1_; have HO_9 := n2_; have HB := n3_; have HO305 := n4_; clear n0_ n1_ n2_ n3_ n4_; clear ho hb hg hat))
                 go_roundg kj60
                 case measure => have := HK1.out; have := HK2.out; have := HJ56.out; have := HJ60.out; omega
                 case rel => exact ⟨(y303), (wrap64 (x13_2 + 1)), (wrap64 (x14_2 + 1)), (by first | rfl | (simp; done) | (simp [*]; done)), (by first | rfl | (simp; done) | (simp [*]; done)), H', ⟨by have := HK1.out; have := HK2.out; have := HJ56.out; have := HJ60.out; omega⟩, ⟨by (with_reducible repeat (first | apply Kd.R_alloc | apply Kd.R_drewN | apply Kd.R_drew)); exact HO_6.out⟩, ⟨by (with_reducible repeat (first | apply Kd.R_alloc | apply Kd.R_drewN | apply Kd.R_drew)); exact HO_8.out⟩, ⟨by (with_reducible repeat (first | apply Kd.R_alloc | apply Kd.R_drewN | apply Kd.R_drew)); exact HO305.out⟩, ⟨by (with_reducible repeat (first | apply Kd.S_alloc | apply Kd.S_drewN | apply Kd.S_drew)); exact HO_9.out⟩, ⟨by repeat (first | (with_reducible first | exact HB.out | apply below_alloc | apply pw_below_drewN | apply below_drew1) | exact HB.out)⟩⟩
                ·rw [if_neg c82] at H
                 exact absurd H (by simp)
               ·replace c81 := Bool.eq_false_iff.mpr c81
                subst c81
                have H1 : (if x13_2 < (t264.length : Int) then (if 0 ≤ x13_2 then (if x13_2 < (x34_1.length : Int) then (if 0 ≤ x14_2 then (if x14_2 < ((rd_L9 x34_1 x13_2).length : Int) then (if 0 ≤ (wrap64 (x13_2 + 1)) then (if (wrap64 (x13_2 + 1)) < (x34_1.length : Int) then (if x14_2 < ((rd_L9 x34_1 (wrap64 (x13_2 + 1))).length : Int) then (if (rd (rd_L9 x34_1 x13_2) x14_2) = (wrap64 (1 + (rd (rd_L9 x34_1 (wrap64 (x13_2 + 1))) x14_2))) then (if x12_2.length < 8796093022208 then (ancepsref57_Words.l2 kj60 t264 t268 (x12_2 ++ [(⟨x13_2, (-1)⟩ : S29)]) (wrap64 (x13_2 + 1)) x14_2 x34_1) else (none)) else (if x12_2.length < 8796093022208 then (ancepsref57_Words.l2 kj60 t264 t268 (x12_2 ++ [(⟨(-1), x14_2⟩ : S29)]) x13_2 (wrap64 (x14_2 + 1)) x34_1) else (none))) else (none)) else (none)) else (none)) else (none)) else (none)) else (none)) else (none)) else (if x12_2.length < 8796093022208 then (ancepsref57_Words.l2 kj60 t264 t268 (x12_2 ++ [(⟨(-1), x14_2⟩ : S29)]) x13_2 (wrap64 (x14_2 + 1)) x34_1) else (none))) = some (r1, r2) := by rw [if_neg (show ¬ (false = true) by decide)] at H; exact H
                clear H
                have H := H1
                clear H1
                by_cases c84 : x13_2 < (t264.length : Int)
                ·as_aux_lemma =>
                  rw [if_pos c84] at H
                  have c84b0 : decide (x13_2 < (t264.length : Int)) = true := decide_eq_true c84
                  clear c84
                  by_cases c85 : 0 ≤ x13_2
                  ·rw [if_pos c85] at H
                   have c85b0 : decide (0 ≤ x13_2) = true := decide_eq_true c85
                   clear c85
                   by_cases c86 : x13_2 < (x34_1.length : Int)
                   ·rw [if_pos c86] at H
                    have c86b0 : decide (x13_2 < (x34_1.length : Int)) = true := decide_eq_true c86
                    clear c86
                    by_cases c87 : 0 ≤ x14_2
                    ·rw [if_pos c87] at H
                     have c87b0 : decide (0 ≤ x14_2) = true := decide_eq_true c87
                     clear c87
                     by_cases c88 : x14_2 < ((rd_L9 x34_1 x13_2).length : Int)
                     ·rw [if_pos c88] at H
                      have c88b0 : decide (x14_2 < ((rd_L9 x34_1 x13_2).length : Int)) = true := decide_eq_true c88
                      clear c88
                      obtain ⟨ji89, hji89⟩ : ∃ j_ : Int, (wrap64 (x13_2 + 1)) = j_ := ⟨_, rfl⟩
                      replace H : (if 0 ≤ (ji89) then (if (ji89) < (x34_1.length : Int) then (if x14_2 < ((rd_L9 x34_1 (ji89)).length : Int) then (if (rd (rd_L9 x34_1 x13_2) x14_2) = (wrap64 (1 + (rd (rd_L9 x34_1 (ji89)) x14_2))) then (if x12_2.length < 8796093022208 then (ancepsref57_Words.l2 kj60 t264 t268 (x12_2 ++ [(⟨x13_2, (-1)⟩ : S29)]) ji89 x14_2 x34_1) else (none)) else (if x12_2.length < 8796093022208 then (ancepsref57_Words.l2 kj60 t264 t268 (x12_2 ++ [(⟨(-1), x14_2⟩ : S29)]) x13_2 (wrap64 (x14_2 + 1)) x34_1) else (none))) else (none)) else (none)) else (none)) = some (r1, r2) := by first | (rw [hji89] at H; exact H) | (simp only [hji89] at H ⊢; exact H)
                      have hji89w : (IntKind.i64.wrap (x13_2 + 1)) = ji89 := (i64_w _).trans hji89
                      by_cases c90 : 0 ≤ (ji89)
                      ·rw [if_pos c90] at H
                       have c90b0 : decide (0 ≤ (ji89)) = true := decide_eq_true c90
                       clear c90
                       by_cases c91 : (ji89) < (x34_1.length : Int)
                       ·rw [if_pos c91] at H
                        have c91b0 : decide ((ji89) < (x34_1.length : Int)) = true := decide_eq_true c91
                        clear c91
                        by_cases c92 : x14_2 < ((rd_L9 x34_1 (ji89)).length : Int)
                        ·rw [if_pos c92] at H
                         have c92b0 : decide (x14_2 < ((rd_L9 x34_1 (ji89)).length : Int)) = true := decide_eq_true c92
                         clear c92
                         by_cases c93 : (rd (rd_L9 x34_1 x13_2) x14_2) = (wrap64 (1 + (rd (rd_L9 x34_1 (ji89)) x14_2)))
                         ·rw [if_pos c93] at H
                          have c93b0 : ((rd (rd_L9 x34_1 x13_2) x14_2) == (wrap64 (1 + (rd (rd_L9 x34_1 (ji89)) x14_2)))) = true := beq_iff_eq.mpr c93
                          have c93b1 : ((rd (rd_L9 x34_1 x13_2) x14_2) != (wrap64 (1 + (rd (rd_L9 x34_1 (ji89)) x14_2)))) = false := bne_eq_false_iff_eq.mpr c93
                          clear c93
                          by_cases c94 : x12_2.length < 8796093022208
                          ·rw [if_pos c94] at H
                           have LMc94 := Aside0.mk c94
                           clear c94
                           obtain ⟨y310, hy310⟩ : ∃ y_ : List (S29), y_ = (x12_2 ++ [(⟨x13_2, (-1)⟩ : S29)]) := ⟨_, rfl⟩
                           replace H : (ancepsref57_Words.l2 kj60 t264 t268 y310 ji89 x14_2 x34_1) = some (r1, r2) := by first | (rw [hy310]; with_reducible exact H) | (have H2_ := (Option.bind_some _ _).symm.trans H; rw [hy310]; with_reducible exact H2_) | (have H2_ := (Option.bind_some _ _).symm.trans H; with_reducible exact H2_) | with_reducible exact H | (rw [hy310]; exact H) | exact H
                           have Ny310 := Aside0.mk hy310
                           clear hy310
                           have H' := Aside0.mk H
                           clear H
                           try go_wp2
                           have n0_ := Aside0.mk (Kd.R_drew HO_6.out)
                           have n1_ := Aside0.mk (Kd.R_drew HO_8.out)
                           have n2_ := Aside0.mk (Kd.S_drew HO_9.out)
                           have n3_ := Aside0.mk (Kd.R_drew HO_12.out)
                           have n4_ := Aside0.mk (below_drew1 HB.out)
                           clear HO_6
                           clear HO_8
                           clear HO_9
                           clear HO_12
                           clear HB
                           have HO_6 := n0_
                           have HO_8 := n1_
                           have HO_9 := n2_
                           have HO_12 := n3_
                           have HB := n4_
                           clear n0_ n1_ n2_ n3_ n4_
                           obtain ⟨Ao96, co96, eo96⟩ := Kd.S_slice HO_9.out
                           (first | subst eo96 | (injection eo96 with f1_ f2_ f3_; have f4_ := f1_.symm; have f5_ := f3_.symm; clear f1_ f2_ f3_; subst f4_; subst f5_))
                           have p306 : 0 ≤ (x13_2 : Int) := of_decide_eq_true (by first | (with_reducible assumption) | assumption)
                           have q306 : x13_2 < (x34_1.length : Int) := of_decide_eq_true (by first | (with_reducible assumption) | assumption)
                           obtain ⟨ad306, A306_0, c306_0, e306, hx306_0, hl306_0, hi306_0⟩ := at_L9 (Kd.S_reads' HO_9.out).2.2 x13_2 p306 q306
                           cases e306
                           obtain ⟨ce306, hce306, hMe306, hcc306⟩ := Kd.S_get HO_9.out [] x13_2 p306 (by first | exact q306 | exact of_decide_eq_true (by first | (with_reducible assumption) | assumption) | (have e_ := (Kd.S_reads' HO_9.out).1; omega))
                           obtain ⟨ve306_0, rfl, ge306_0⟩ := hMe306
                           have hv306_0 := hcc306 0 _ rfl
                           rw [Nat.add_zero, show ((Kd.slice 3 (Kd.int .i64))).sz = 1 from rfl, Nat.mul_one] at hv306_0
                           replace hv306_0 := Option.some.inj (hv306_0.symm.trans hx306_0)
                           rw [hv306_0] at ge306_0
                           have HL306_0 := Aside0.mk (show Kd.R (Kd.int .i64) 3 _ _ _ _ (rd_L9 x34_1 x13_2) from ge306_0)
                           clear hv306_0 ge306_0
                           have HX306_0 := Aside0.mk hx306_0
                           clear hcc306 hce306
                           have HR306_0 := Aside0.mk hi306_0
                           have HC306_0 := Aside0.mk hl306_0
                           clear hi306_0 hl306_0
                           replace p306 := eq_true p306
                           replace q306 := eq_true q306
                           have p307 : 0 ≤ (x14_2 : Int) := of_decide_eq_true (by first | (with_reducible assumption) | assumption)
                           have q307 : x14_2 < ((rd_L9 x34_1 x13_2).length : Int) := of_decide_eq_true (by first | (with_reducible assumption) | assumption)
                           obtain ⟨ad307, e307, hx307_0⟩ := Kd.at_int (by repeat (first | (with_reducible exact HR306_0.out) | (with_reducible refine Kd.C_alloc ?_ _) | (with_reducible refine Kd.C_drewN ?_ _) | (with_reducible refine Kd.C_drew ?_) | exact HR306_0.out)) x14_2 p307 q307
                           cases e307
                           replace p307 := eq_true p307
                           replace q307 := eq_true q307
                           have p308 : 0 ≤ ((ji89) : Int) := of_decide_eq_true (by first | (with_reducible assumption) | assumption)
                           have q308 : (ji89) < (x34_1.length : Int) := of_decide_eq_true (by first | (with_reducible assumption) | assumption)
                           obtain ⟨ad308, A308_0, c308_0, e308, hx308_0, hl308_0, hi308_0⟩ := at_L9 (Kd.S_reads' HO_9.out).2.2 (ji89) p308 q308
                           obtain rfl : ad306 = ad308 := (by injection e308)
                           obtain ⟨ce308, hce308, hMe308, hcc308⟩ := Kd.S_get HO_9.out [] (ji89) p308 (by first | exact q308 | exact of_decide_eq_true (by first | (with_reducible assumption) | assumption) | (have e_ := (Kd.S_reads' HO_9.out).1; omega))
                           obtain ⟨ve308_0, rfl, ge308_0⟩ := hMe308
                           have hv308_0 := hcc308 0 _ rfl
                           rw [Nat.add_zero, show ((Kd.slice 3 (Kd.int .i64))).sz = 1 from rfl, Nat.mul_one] at hv308_0
                           replace hv308_0 := Option.some.inj (hv308_0.symm.trans hx308_0)
                           rw [hv308_0] at ge308_0
                           have HL308_0 := Aside0.mk (show Kd.R (Kd.int .i64) 3 _ _ _ _ (rd_L9 x34_1 (ji89)) from ge308_0)
                           clear hv308_0 ge308_0
                           have HX308_0 := Aside0.mk hx308_0
                           clear hcc308 hce308
                           have HR308_0 := Aside0.mk hi308_0
                           have HC308_0 := Aside0.mk hl308_0
                           clear hi308_0 hl308_0
                           replace p308 := eq_true p308
                           replace q308 := eq_true q308
                           have p309 : 0 ≤ (x14_2 : Int) := of_decide_eq_true (by first | (with_reducible assumption) | assumption)
                           have q309 : x14_2 < ((rd_L9 x34_1 (ji89)).length : Int) := of_decide_eq_true (by first | (with_reducible assumption) | assumption)
                           obtain ⟨ad309, e309, hx309_0⟩ := Kd.at_int (by repeat (first | (with_reducible exact HR308_0.out) | (with_reducible refine Kd.C_alloc ?_ _) | (with_reducible refine Kd.C_drewN ?_ _) | (with_reducible refine Kd.C_drew ?_) | exact HR308_0.out)) x14_2 p309 q309
                           cases e309
                           replace p309 := eq_true p309
                           replace q309 := eq_true q309
                           refine start_ (n := 24) (S := fun w' => w'.cell? (ad306.add (x13_2).toNat) = some (.slice (some ad307) (rd_L9 x34_1 x13_2).length c306_0) ∧ w'.cell? (ad307.add (x14_2).toNat) = some (.int .i64 (rd (rd_L9 x34_1 x13_2) x14_2)) ∧ w'.cell? (ad306.add ((ji89)).toNat) = some (.slice (some ad309) (rd_L9 x34_1 (ji89)).length c308_0) ∧ w'.cell? (ad309.add (x14_2).toNat) = some (.int .i64 (rd (rd_L9 x34_1 (ji89)) x14_2))) (ds := []) #[false, false, false, false, false, false, false, false, false, false, false, false, false, false, false, false, false, false, false, false, false, false, false, false] (by kernel_rfl) rfl rfl ⟨hx306_0, hx307_0, hx308_0, hx309_0⟩ (fun hHeld => ?_); refine with_tabW ancepsref57_Words.tab26 ancepsref57_Words.bits26 (fun HT_ HW_ => ?_)
                           generalize wc.drew = w95 at HO_6 HO_8 HO_9 HO_12 HB HL306_0 HL308_0 HR306_0 HR308_0 HX306_0 HX308_0 hx306_0 hx307_0 hx308_0 hx309_0 hHeld ⊢
                           refine pv_ 0 (some 191) HT_ ?_
                           refine pv_ 1 (some 192) HT_ ?_
                           refine pv_ 2 (some 193) HT_ ?_
                           refine pv_ 3 (some 194) HT_ ?_
                           refine pv_ 4 (some 195) HT_ ?_
                           refine pv_ 5 (some 196) HT_ ?_
                           refine pv_ 6 (some 197) HT_ ?_
                           refine pv_ 7 (some 198) HT_ ?_
                           refine pv_ 9 (some 200) HT_ ?_
                           refine pv_ 12 (some 203) HT_ ?_
                           refine pv_ 13 (some 204) HT_ ?_
                           refine pv_ 14 (some 205) HT_ ?_
                           refine pv_ 15 (some 206) HT_ ?_
                           refine pv_ 17 (some 208) HT_ ?_
                           refine take_ (i := 8) (N := some 199) (v := ?_) (a' := ?_) #[true, true, true, true, true, true, true, true, true, true, false, false, true, true, true, true, false, true, false, false, false, false, false, false] rfl rfl (take_ofW HT_.out HW_.out (by kernel_rfl)) (fun _ _ _ h => h) (Or.inl ⟨by rfl, ?_⟩) hHeld ?_ ?_
                           rotate_left
                           ·rintro w' ⟨s0, s1, s2, s3⟩
                            go_simp
                            with_reducible rfl
                           rotate_left
                           ·simp only [Act.put, List.setIfInBounds_toArray, List.set_cons_zero, List.set_cons_succ, i64_w, i32_w]
                            rfl
                           refine pv_ 10 (some 201) HT_ ?_
                           refine take_ (i := 11) (N := some 202) (v := ?_) (a' := ?_) #[true, true, true, true, true, true, true, true, true, true, true, true, true, true, true, true, false, true, false, false, false, false, false, false] rfl rfl (take_ofW HT_.out HW_.out (by kernel_rfl)) (fun _ _ _ h => h) (Or.inl ⟨by rfl, ?_⟩) hHeld ?_ ?_
                           rotate_left
                           ·rintro w' ⟨s0, s1, s2, s3⟩
                            go_simp
                            with_reducible rfl
                           rotate_left
                           ·simp only [Act.put, List.setIfInBounds_toArray, List.set_cons_zero, List.set_cons_succ, i64_w, i32_w]
                            rfl
                           refine take_ (i := 16) (N := some 207) (v := ?_) (a' := ?_) #[true, true, true, true, true, true, true, true, true, true, true, true, true, true, true, true, true, true, false, false, false, false, false, false] rfl rfl (take_ofW HT_.out HW_.out (by kernel_rfl)) (fun _ _ _ h => h) (Or.inl ⟨by rfl, ?_⟩) hHeld ?_ ?_
                           rotate_left
                           ·rintro w' ⟨s0, s1, s2, s3⟩
                            go_simp
                            with_reducible rfl
                           rotate_left
                           ·simp only [Act.put, List.setIfInBounds_toArray, List.set_cons_zero, List.set_cons_succ, i64_w, i32_w]
                            rfl
                           refine pv_ 18 (some 209) HT_ ?_
                           refine take_ (i := 19) (N := some 210) (v := ?_) (a' := ?_) #[true, true, true, true, true, true, true, true, true, true, true, true, true, true, true, true, true, true, true, true, false, false, false, false] rfl rfl (take_ofW HT_.out HW_.out (by kernel_rfl)) (fun _ _ _ h => h) (Or.inl ⟨by rfl, ?_⟩) hHeld ?_ ?_
                           rotate_left
                           ·rintro w' ⟨s0, s1, s2, s3⟩
                            go_simp
                            with_reducible rfl
                           rotate_left
                           ·simp only [Act.put, List.setIfInBounds_toArray, List.set_cons_zero, List.set_cons_succ, i64_w, i32_w]
                            rfl
                           refine pv_ 20 (some 211) HT_ ?_
                           refine pv_ 21 (some 212) HT_ ?_
                           refine pv_ 22 (some 213) HT_ ?_
                           refine pv_ 23 (some 190) HT_ ?_
                           refine done_ (done_of HT_.out (by kernel_rfl)) ?_
                           try go_wp2_with (first | ((with_reducible refine gate_builtin (b := .append) (xs := #[.tmp 214, .tmp 217]) rfl ?_); (try (refine gate_guard (by rfl) ?_; dsimp only)); at_builtin; refine Kd.R_append k29 (w0 := w) w.heap.size rfl (.tmp 214) (.tmp 217) 23 29 (.agg #[(.int .i64 0), (.int .i64 0)]) 16 rfl Try.underlying23 info29 rfl (by decide) (by omega) u12 x12_2 (⟨x13_2, (-1)⟩ : S29) [.int .i64 x13_2, .int .i64 (-1)] (fun _ => True) (fun _ => False) rfl rfl ?aP (fun _ hk => hk.elim) ?aF ?aO ?aB ?aS ?aL ?_; (case aP => exact k29_mkM _ _ _ (⟨x13_2, (-1)⟩ : S29)); (case aB => exact (iL HB)); (case aF => exact (fun _ _ => trivial)); (case aO => exact (iR HO_12)); (case aS => exact (below_size (iL HB))); (case aL => have := LMc94.out; omega); intro v311 w97 ho hb hg hat; rw [← Ny310.out] at ho; have n0_ := Aside0.mk (Kd.R_over' (iR HO_6) (Kd.R_typed (iR HO_12)) (by decide) hg); have n1_ := Aside0.mk (Kd.R_over' (iR HO_8) (Kd.R_typed (iR HO_12)) (by decide) hg); have n2_ := Aside0.mk (Kd.S_over' (by (with_reducible repeat (first | apply Kd.S_alloc | apply Kd.S_drewN | apply Kd.S_drew)); exact HO_9.out) (Kd.R_typed (iR HO_12)) (by decide) hg); have n3_ := Aside0.mk (Kd.R_over' (iR HL306_0) (Kd.R_typed (iR HO_12)) (by decide) hg); have n4_ := Aside0.mk (Kd.R_over' (iR HL308_0) (Kd.R_typed (iR HO_12)) (by decide) hg); have n5_ := Aside0.mk (hb); have n6_ := Aside0.mk (ho); clear HO_6; clear HO_8; clear HO_9; clear HL306_0; clear HL308_0; clear HB; clear HO_12; have HO_6 := n0_; have HO_8 := n1_; have HO_9 := n2_; have HL306_0 := n3_; have HL308_0 := n4_; have HB := n5_; have HO312 := n6_; clear n0_ n1_ n2_ n3_ n4_ n5_ n6_; clear ho hb hg hat))
                           go_roundg kj60
                           case measure => have := HK1.out; have := HK2.out; have := HJ56.out; have := HJ60.out; omega
                           case rel => exact ⟨(y310), (ji89), (x14_2), (by first | rfl | (simp; done) | (simp only [← hji89] <;> (first | rfl | simp)) | (simp [*]; done)), (by first | rfl | (simp; done) | (simp [*]; done)), H', ⟨by have := HK1.out; have := HK2.out; have := HJ56.out; have := HJ60.out; omega⟩, ⟨by (with_reducible repeat (first | apply Kd.R_alloc | apply Kd.R_drewN | apply Kd.R_drew)); exact HO_6.out⟩, ⟨by (with_reducible repeat (first | apply Kd.R_alloc | apply Kd.R_drewN | apply Kd.R_drew)); exact HO_8.out⟩, ⟨by (with_reducible repeat (first | apply Kd.R_alloc | apply Kd.R_drewN | apply Kd.R_drew)); exact HO312.out⟩, ⟨by (with_reducible repeat (first | apply Kd.S_alloc | apply Kd.S_drewN | apply Kd.S_drew)); exact HO_9.out⟩, ⟨by repeat (first | (with_reducible first | exact HB.out | apply below_alloc | apply pw_below_drewN | apply below_drew1) | exact HB.out)⟩⟩
                          ·rw [if_neg c94] at H
                           exact absurd H (by simp)
                         ·rw [if_neg c93] at H
                          have c93b0 : ((rd (rd_L9 x34_1 x13_2) x14_2) == (wrap64 (1 + (rd (rd_L9 x34_1 (ji89)) x14_2)))) = false := beq_eq_false_iff_ne.mpr c93
                          have c93b1 : ((rd (rd_L9 x34_1 x13_2) x14_2) != (wrap64 (1 + (rd (rd_L9 x34_1 (ji89)) x14_2)))) = true := bne_iff_ne.mpr c93
                          by_cases c98 : x12_2.length < 8796093022208
                          ·rw [if_pos c98] at H
                           have LMc98 := Aside0.mk c98
                           clear c98
                           obtain ⟨y313, hy313⟩ : ∃ y_ : List (S29), y_ = (x12_2 ++ [(⟨(-1), x14_2⟩ : S29)]) := ⟨_, rfl⟩
                           replace H : (ancepsref57_Words.l2 kj60 t264 t268 y313 x13_2 (wrap64 (x14_2 + 1)) x34_1) = some (r1, r2) := by first | (rw [hy313]; with_reducible exact H) | (have H2_ := (Option.bind_some _ _).symm.trans H; rw [hy313]; with_reducible exact H2_) | (have H2_ := (Option.bind_some _ _).symm.trans H; with_reducible exact H2_) | with_reducible exact H | (rw [hy313]; exact H) | exact H
                           have Ny313 := Aside0.mk hy313
                           clear hy313
                           have H' := Aside0.mk H
                           clear H
                           try go_wp2
                           have n0_ := Aside0.mk (Kd.R_drew HO_6.out)
                           have n1_ := Aside0.mk (Kd.R_drew HO_8.out)
                           have n2_ := Aside0.mk (Kd.S_drew HO_9.out)
                           have n3_ := Aside0.mk (Kd.R_drew HO_12.out)
                           have n4_ := Aside0.mk (below_drew1 HB.out)
                           clear HO_6
                           clear HO_8
                           clear HO_9
                           clear HO_12
                           clear HB
                           have HO_6 := n0_
                           have HO_8 := n1_
                           have HO_9 := n2_
                           have HO_12 := n3_
                           have HB := n4_
                           clear n0_ n1_ n2_ n3_ n4_
                           obtain ⟨Ao100, co100, eo100⟩ := Kd.S_slice HO_9.out
                           (first | subst eo100 | (injection eo100 with f1_ f2_ f3_; have f4_ := f1_.symm; have f5_ := f3_.symm; clear f1_ f2_ f3_; subst f4_; subst f5_))
                           have p306 : 0 ≤ (x13_2 : Int) := of_decide_eq_true (by first | (with_reducible assumption) | assumption)
                           have q306 : x13_2 < (x34_1.length : Int) := of_decide_eq_true (by first | (with_reducible assumption) | assumption)
                           obtain ⟨ad306, A306_0, c306_0, e306, hx306_0, hl306_0, hi306_0⟩ := at_L9 (Kd.S_reads' HO_9.out).2.2 x13_2 p306 q306
                           cases e306
                           obtain ⟨ce306, hce306, hMe306, hcc306⟩ := Kd.S_get HO_9.out [] x13_2 p306 (by first | exact q306 | exact of_decide_eq_true (by first | (with_reducible assumption) | assumption) | (have e_ := (Kd.S_reads' HO_9.out).1; omega))
                           obtain ⟨ve306_0, rfl, ge306_0⟩ := hMe306
                           have hv306_0 := hcc306 0 _ rfl
                           rw [Nat.add_zero, show ((Kd.slice 3 (Kd.int .i64))).sz = 1 from rfl, Nat.mul_one] at hv306_0
                           replace hv306_0 := Option.some.inj (hv306_0.symm.trans hx306_0)
                           rw [hv306_0] at ge306_0
                           have HL306_0 := Aside0.mk (show Kd.R (Kd.int .i64) 3 _ _ _ _ (rd_L9 x34_1 x13_2) from ge306_0)
                           clear hv306_0 ge306_0
                           have HX306_0 := Aside0.mk hx306_0
                           clear hcc306 hce306
                           have HR306_0 := Aside0.mk hi306_0
                           have HC306_0 := Aside0.mk hl306_0
                           clear hi306_0 hl306_0
                           replace p306 := eq_true p306
                           replace q306 := eq_true q306
                           have p307 : 0 ≤ (x14_2 : Int) := of_decide_eq_true (by first | (with_reducible assumption) | assumption)
                           have q307 : x14_2 < ((rd_L9 x34_1 x13_2).length : Int) := of_decide_eq_true (by first | (with_reducible assumption) | assumption)
                           obtain ⟨ad307, e307, hx307_0⟩ := Kd.at_int (by repeat (first | (with_reducible exact HR306_0.out) | (with_reducible refine Kd.C_alloc ?_ _) | (with_reducible refine Kd.C_drewN ?_ _) | (with_reducible refine Kd.C_drew ?_) | exact HR306_0.out)) x14_2 p307 q307
                           cases e307
                           replace p307 := eq_true p307
                           replace q307 := eq_true q307
                           have p308 : 0 ≤ ((ji89) : Int) := of_decide_eq_true (by first | (with_reducible assumption) | assumption)
                           have q308 : (ji89) < (x34_1.length : Int) := of_decide_eq_true (by first | (with_reducible assumption) | assumption)
                           obtain ⟨ad308, A308_0, c308_0, e308, hx308_0, hl308_0, hi308_0⟩ := at_L9 (Kd.S_reads' HO_9.out).2.2 (ji89) p308 q308
                           obtain rfl : ad306 = ad308 := (by injection e308)
                           obtain ⟨ce308, hce308, hMe308, hcc308⟩ := Kd.S_get HO_9.out [] (ji89) p308 (by first | exact q308 | exact of_decide_eq_true (by first | (with_reducible assumption) | assumption) | (have e_ := (Kd.S_reads' HO_9.out).1; omega))
                           obtain ⟨ve308_0, rfl, ge308_0⟩ := hMe308
                           have hv308_0 := hcc308 0 _ rfl
                           rw [Nat.add_zero, show ((Kd.slice 3 (Kd.int .i64))).sz = 1 from rfl, Nat.mul_one] at hv308_0
                           replace hv308_0 := Option.some.inj (hv308_0.symm.trans hx308_0)
                           rw [hv308_0] at ge308_0
                           have HL308_0 := Aside0.mk (show Kd.R (Kd.int .i64) 3 _ _ _ _ (rd_L9 x34_1 (ji89)) from ge308_0)
                           clear hv308_0 ge308_0
                           have HX308_0 := Aside0.mk hx308_0
                           clear hcc308 hce308
                           have HR308_0 := Aside0.mk hi308_0
                           have HC308_0 := Aside0.mk hl308_0
                           clear hi308_0 hl308_0
                           replace p308 := eq_true p308
                           replace q308 := eq_true q308
                           have p309 : 0 ≤ (x14_2 : Int) := of_decide_eq_true (by first | (with_reducible assumption) | assumption)
                           have q309 : x14_2 < ((rd_L9 x34_1 (ji89)).length : Int) := of_decide_eq_true (by first | (with_reducible assumption) | assumption)
                           obtain ⟨ad309, e309, hx309_0⟩ := Kd.at_int (by repeat (first | (with_reducible exact HR308_0.out) | (with_reducible refine Kd.C_alloc ?_ _) | (with_reducible refine Kd.C_drewN ?_ _) | (with_reducible refine Kd.C_drew ?_) | exact HR308_0.out)) x14_2 p309 q309
                           cases e309
                           replace p309 := eq_true p309
                           replace q309 := eq_true q309
                           refine start_ (n := 24) (S := fun w' => w'.cell? (ad306.add (x13_2).toNat) = some (.slice (some ad307) (rd_L9 x34_1 x13_2).length c306_0) ∧ w'.cell? (ad307.add (x14_2).toNat) = some (.int .i64 (rd (rd_L9 x34_1 x13_2) x14_2)) ∧ w'.cell? (ad306.add ((ji89)).toNat) = some (.slice (some ad309) (rd_L9 x34_1 (ji89)).length c308_0) ∧ w'.cell? (ad309.add (x14_2).toNat) = some (.int .i64 (rd (rd_L9 x34_1 (ji89)) x14_2))) (ds := []) #[false, false, false, false, false, false, false, false, false, false, false, false, false, false, false, false, false, false, false, false, false, false, false, false] (by kernel_rfl) rfl rfl ⟨hx306_0, hx307_0, hx308_0, hx309_0⟩ (fun hHeld => ?_); refine with_tabW ancepsref57_Words.tab26 ancepsref57_Words.bits26 (fun HT_ HW_ => ?_)
                           generalize wc.drew = w99 at HO_6 HO_8 HO_9 HO_12 HB HL306_0 HL308_0 HR306_0 HR308_0 HX306_0 HX308_0 hx306_0 hx307_0 hx308_0 hx309_0 hHeld ⊢
                           refine pv_ 0 (some 191) HT_ ?_
                           refine pv_ 1 (some 192) HT_ ?_
                           refine pv_ 2 (some 193) HT_ ?_
                           refine pv_ 3 (some 194) HT_ ?_
                           refine pv_ 4 (some 195) HT_ ?_
                           refine pv_ 5 (some 196) HT_ ?_
                           refine pv_ 6 (some 197) HT_ ?_
                           refine pv_ 7 (some 198) HT_ ?_
                           refine pv_ 9 (some 200) HT_ ?_
                           refine pv_ 12 (some 203) HT_ ?_
                           refine pv_ 13 (some 204) HT_ ?_
                           refine pv_ 14 (some 205) HT_ ?_
                           refine pv_ 15 (some 206) HT_ ?_
                           refine pv_ 17 (some 208) HT_ ?_
                           refine take_ (i := 8) (N := some 199) (v := ?_) (a' := ?_) #[true, true, true, true, true, true, true, true, true, true, false, false, true, true, true, true, false, true, false, false, false, false, false, false] rfl rfl (take_ofW HT_.out HW_.out (by kernel_rfl)) (fun _ _ _ h => h) (Or.inl ⟨by rfl, ?_⟩) hHeld ?_ ?_
                           rotate_left
                           ·rintro w' ⟨s0, s1, s2, s3⟩
                            go_simp
                            with_reducible rfl
                           rotate_left
                           ·simp only [Act.put, List.setIfInBounds_toArray, List.set_cons_zero, List.set_cons_succ, i64_w, i32_w]
                            rfl
                           refine pv_ 10 (some 201) HT_ ?_
                           refine take_ (i := 11) (N := some 202) (v := ?_) (a' := ?_) #[true, true, true, true, true, true, true, true, true, true, true, true, true, true, true, true, false, true, false, false, false, false, false, false] rfl rfl (take_ofW HT_.out HW_.out (by kernel_rfl)) (fun _ _ _ h => h) (Or.inl ⟨by rfl, ?_⟩) hHeld ?_ ?_
                           rotate_left
                           ·rintro w' ⟨s0, s1, s2, s3⟩
                            go_simp
                            with_reducible rfl
                           rotate_left
                           ·simp only [Act.put, List.setIfInBounds_toArray, List.set_cons_zero, List.set_cons_succ, i64_w, i32_w]
                            rfl
                           refine take_ (i := 16) (N := some 207) (v := ?_) (a' := ?_) #[true, true, true, true, true, true, true, true, true, true, true, true, true, true, true, true, true, true, false, false, false, false, false, false] rfl rfl (take_ofW HT_.out HW_.out (by kernel_rfl)) (fun _ _ _ h => h) (Or.inl ⟨by rfl, ?_⟩) hHeld ?_ ?_
                           rotate_left
                           ·rintro w' ⟨s0, s1, s2, s3⟩
                            go_simp
                            with_reducible rfl
                           rotate_left
                           ·simp only [Act.put, List.setIfInBounds_toArray, List.set_cons_zero, List.set_cons_succ, i64_w, i32_w]
                            rfl
                           refine pv_ 18 (some 209) HT_ ?_
                           refine take_ (i := 19) (N := some 210) (v := ?_) (a' := ?_) #[true, true, true, true, true, true, true, true, true, true, true, true, true, true, true, true, true, true, true, true, false, false, false, false] rfl rfl (take_ofW HT_.out HW_.out (by kernel_rfl)) (fun _ _ _ h => h) (Or.inl ⟨by rfl, ?_⟩) hHeld ?_ ?_
                           rotate_left
                           ·rintro w' ⟨s0, s1, s2, s3⟩
                            go_simp
                            with_reducible rfl
                           rotate_left
                           ·simp only [Act.put, List.setIfInBounds_toArray, List.set_cons_zero, List.set_cons_succ, i64_w, i32_w]
                            rfl
                           refine pv_ 20 (some 211) HT_ ?_
                           refine pv_ 21 (some 212) HT_ ?_
                           refine pv_ 22 (some 213) HT_ ?_
                           refine pv_ 23 (some 190) HT_ ?_
                           refine done_ (done_of HT_.out (by kernel_rfl)) ?_
                           try go_wp2_with (first | ((with_reducible refine gate_builtin (b := .append) (xs := #[.tmp 133, .tmp 136]) rfl ?_); (try (refine gate_guard (by rfl) ?_; dsimp only)); at_builtin; refine Kd.R_append k29 (w0 := w) w.heap.size rfl (.tmp 133) (.tmp 136) 23 29 (.agg #[(.int .i64 0), (.int .i64 0)]) 16 rfl Try.underlying23 info29 rfl (by decide) (by omega) u12 x12_2 (⟨(-1), x14_2⟩ : S29) [.int .i64 (-1), .int .i64 x14_2] (fun _ => True) (fun _ => False) rfl rfl ?aP (fun _ hk => hk.elim) ?aF ?aO ?aB ?aS ?aL ?_; (case aP => exact k29_mkM _ _ _ (⟨(-1), x14_2⟩ : S29)); (case aB => exact (iL HB)); (case aF => exact (fun _ _ => trivial)); (case aO => exact (iR HO_12)); (case aS => exact (below_size (iL HB))); (case aL => have := LMc98.out; omega); intro v314 w101 ho hb hg hat; rw [← Ny313.out] at ho; have n0_ := Aside0.mk (Kd.R_over' (iR HO_6) (Kd.R_typed (iR HO_12)) (by decide) hg); have n1_ := Aside0.mk (Kd.R_over' (iR HO_8) (Kd.R_typed (iR HO_12)) (by decide) hg); have n2_ := Aside0.mk (Kd.S_over' (by (with_reducible repeat (first | apply Kd.S_alloc | apply Kd.S_drewN | apply Kd.S_drew)); exact HO_9.out) (Kd.R_typed (iR HO_12)) (by decide) hg); have n3_ := Aside0.mk (Kd.R_over' (iR HL306_0) (Kd.R_typed (iR HO_12)) (by decide) hg); have n4_ := Aside0.mk (Kd.R_over' (iR HL308_0) (Kd.R_typed (iR HO_12)) (by decide) hg); have n5_ := Aside0.mk (hb); have n6_ := Aside0.mk (ho); clear HO_6; clear HO_8; clear HO_9; clear HL306_0; clear HL308_0; clear HB; clear HO_12; have HO_6 := n0_; have HO_8 := n1_; have HO_9 := n2_; have HL306_0 := n3_; have HL308_0 := n4_; have HB := n5_; have HO315 := n6_; clear n0_ n1_ n2_ n3_ n4_ n5_ n6_; clear ho hb hg hat))
                           go_roundg kj60
                           case measure => have := HK1.out; have := HK2.out; have := HJ56.out; have := HJ60.out; omega
                           case rel => exact ⟨(y313), (x13_2), (wrap64 (x14_2 + 1)), (by first | rfl | (simp; done) | (simp [*]; done)), (by first | rfl | (simp; done) | (simp [*]; done)), H', ⟨by have := HK1.out; have := HK2.out; have := HJ56.out; have := HJ60.out; omega⟩, ⟨by (with_reducible repeat (first | apply Kd.R_alloc | apply Kd.R_drewN | apply Kd.R_drew)); exact HO_6.out⟩, ⟨by (with_reducible repeat (first | apply Kd.R_alloc | apply Kd.R_drewN | apply Kd.R_drew)); exact HO_8.out⟩, ⟨by (with_reducible repeat (first | apply Kd.R_alloc | apply Kd.R_drewN | apply Kd.R_drew)); exact HO315.out⟩, ⟨by (with_reducible repeat (first | apply Kd.S_alloc | apply Kd.S_drewN | apply Kd.S_drew)); exact HO_9.out⟩, ⟨by repeat (first | (with_reducible first | exact HB.out | apply below_alloc | apply pw_below_drewN | apply below_drew1) | exact HB.out)⟩⟩
                          ·rw [if_neg c98] at H
                           exact absurd H (by simp)
                        ·rw [if_neg c92] at H
                         exact absurd H (by simp)
                       ·rw [if_neg c91] at H
                        exact absurd H (by simp)
                      ·rw [if_neg c90] at H
                       exact absurd H (by simp)
                     ·rw [if_neg c88] at H
                      exact absurd H (by simp)
                    ·rw [if_neg c87] at H
                     exact absurd H (by simp)
                   ·rw [if_neg c86] at H
                    exact absurd H (by simp)
                  ·rw [if_neg c85] at H
                   exact absurd H (by simp)
                ·as_aux_lemma =>
                  rw [if_neg c84] at H
                  have c84b0 : decide (x13_2 < (t264.length : Int)) = false := decide_eq_false c84
                  clear c84
                  by_cases c102 : x12_2.length < 8796093022208
                  ·rw [if_pos c102] at H
                   have LMc102 := Aside0.mk c102
                   clear c102
                   obtain ⟨y316, hy316⟩ : ∃ y_ : List (S29), y_ = (x12_2 ++ [(⟨(-1), x14_2⟩ : S29)]) := ⟨_, rfl⟩
                   replace H : (ancepsref57_Words.l2 kj60 t264 t268 y316 x13_2 (wrap64 (x14_2 + 1)) x34_1) = some (r1, r2) := by first | (rw [hy316]; with_reducible exact H) | (have H2_ := (Option.bind_some _ _).symm.trans H; rw [hy316]; with_reducible exact H2_) | (have H2_ := (Option.bind_some _ _).symm.trans H; with_reducible exact H2_) | with_reducible exact H | (rw [hy316]; exact H) | exact H
                   have Ny316 := Aside0.mk hy316
                   clear hy316
                   have H' := Aside0.mk H
                   clear H
                   try go_wp2
                   have n0_ := Aside0.mk (Kd.R_drew HO_6.out)
                   have n1_ := Aside0.mk (Kd.R_drew HO_8.out)
                   have n2_ := Aside0.mk (Kd.S_drew HO_9.out)
                   have n3_ := Aside0.mk (Kd.R_drew HO_12.out)
                   have n4_ := Aside0.mk (below_drew1 HB.out)
                   clear HO_6
                   clear HO_8
                   clear HO_9
                   clear HO_12
                   clear HB
                   have HO_6 := n0_
                   have HO_8 := n1_
                   have HO_9 := n2_
                   have HO_12 := n3_
                   have HB := n4_
                   clear n0_ n1_ n2_ n3_ n4_
                   refine start_ (n := 24) (S := fun w' => True) (ds := []) #[false, false, false, false, false, false, false, false, false, false, false, false, false, false, false, false, false, false, false, false, false, false, false, false] (by kernel_rfl) rfl rfl trivial (fun hHeld => ?_); refine with_tabW ancepsref57_Words.tab26 ancepsref57_Words.bits26 (fun HT_ HW_ => ?_)
                   generalize wc.drew = w103 at HO_6 HO_8 HO_9 HO_12 HB hHeld ⊢
                   refine pv_ 0 (some 191) HT_ ?_
                   refine pv_ 1 (some 192) HT_ ?_
                   refine pv_ 2 (some 193) HT_ ?_
                   refine pv_ 3 (some 194) HT_ ?_
                   refine pv_ 4 (some 195) HT_ ?_
                   refine pn_ 5 (some 196) HT_ ?_
                   refine pn_ 6 (some 197) HT_ ?_
                   refine pn_ 7 (some 198) HT_ ?_
                   refine pn_ 8 (some 199) HT_ ?_
                   refine pn_ 9 (some 200) HT_ ?_
                   refine pn_ 10 (some 201) HT_ ?_
                   refine pn_ 11 (some 202) HT_ ?_
                   refine pn_ 12 (some 203) HT_ ?_
                   refine pn_ 13 (some 204) HT_ ?_
                   refine pn_ 14 (some 205) HT_ ?_
                   refine pn_ 15 (some 206) HT_ ?_
                   refine pn_ 16 (some 207) HT_ ?_
                   refine pn_ 17 (some 208) HT_ ?_
                   refine pn_ 18 (some 209) HT_ ?_
                   refine pn_ 19 (some 210) HT_ ?_
                   refine pn_ 20 (some 211) HT_ ?_
                   refine pn_ 21 (some 212) HT_ ?_
                   refine pv_ 22 (some 213) HT_ ?_
                   refine pv_ 23 (some 190) HT_ ?_
                   refine done_ (done_of HT_.out (by kernel_rfl)) ?_
                   try go_wp2_with (first | ((with_reducible refine gate_builtin (b := .append) (xs := #[.tmp 133, .tmp 136]) rfl ?_); (try (refine gate_guard (by rfl) ?_; dsimp only)); at_builtin; refine Kd.R_append k29 (w0 := w) w.heap.size rfl (.tmp 133) (.tmp 136) 23 29 (.agg #[(.int .i64 0), (.int .i64 0)]) 16 rfl Try.underlying23 info29 rfl (by decide) (by omega) u12 x12_2 (⟨(-1), x14_2⟩ : S29) [.int .i64 (-1), .int .i64 x14_2] (fun _ => True) (fun _ => False) rfl rfl ?aP (fun _ hk => hk.elim) ?aF ?aO ?aB ?aS ?aL ?_; (case aP => exact k29_mkM _ _ _ (⟨(-1), x14_2⟩ : S29)); (case aB => exact (iL HB)); (case aF => exact (fun _ _ => trivial)); (case aO => exact (iR HO_12)); (case aS => exact (below_size (iL HB))); (case aL => have := LMc102.out; omega); intro v317 w104 ho hb hg hat; rw [← Ny316.out] at ho; have n0_ := Aside0.mk (Kd.R_over' (iR HO_6) (Kd.R_typed (iR HO_12)) (by decide) hg); have n1_ := Aside0.mk (Kd.R_over' (iR HO_8) (Kd.R_typed (iR HO_12)) (by decide) hg); have n2_ := Aside0.mk (Kd.S_over' (by (with_reducible repeat (first | apply Kd.S_alloc | apply Kd.S_drewN | apply Kd.S_drew)); exact HO_9.out) (Kd.R_typed (iR HO_12)) (by decide) hg); have n3_ := Aside0.mk (hb); have n4_ := Aside0.mk (ho); clear HO_6; clear HO_8; clear HO_9; clear HB; clear HO_12; have HO_6 := n0_; have HO_8 := n1_; have HO_9 := n2_; have HB := n3_; have HO318 := n4_; clear n0_ n1_ n2_ n3_ n4_; clear ho hb hg hat))
                   go_roundg kj60
                   case measure => have := HK1.out; have := HK2.out; have := HJ56.out; have := HJ60.out; omega
                   case rel => exact ⟨(y316), (x13_2), (wrap64 (x14_2 + 1)), (by first | rfl | (simp; done) | (simp [*]; done)), (by first | rfl | (simp; done) | (simp [*]; done)), H', ⟨by have := HK1.out; have := HK2.out; have := HJ56.out; have := HJ60.out; omega⟩, ⟨by (with_reducible repeat (first | apply Kd.R_alloc | apply Kd.R_drewN | apply Kd.R_drew)); exact HO_6.out⟩, ⟨by (with_reducible repeat (first | apply Kd.R_alloc | apply Kd.R_drewN | apply Kd.R_drew)); exact HO_8.out⟩, ⟨by (with_reducible repeat (first | apply Kd.R_alloc | apply Kd.R_drewN | apply Kd.R_drew)); exact HO318.out⟩, ⟨by (with_reducible repeat (first | apply Kd.S_alloc | apply Kd.S_drewN | apply Kd.S_drew)); exact HO_9.out⟩, ⟨by repeat (first | (with_reducible first | exact HB.out | apply below_alloc | apply pw_below_drewN | apply below_drew1) | exact HB.out)⟩⟩
                  ·rw [if_neg c102] at H
                   exact absurd H (by simp)
            ·replace c60 := Bool.eq_false_iff.mpr c60
             subst c60
             have H1 : (some (x12_2, 0)) = some (r1, r2) := by rw [if_neg (show ¬ (false = true) by decide)] at H; exact H
             clear H
             have H := H1
             clear H1
             simp only [Option.some.injEq, Prod.mk.injEq] at H
             obtain ⟨rfl, rfl⟩ := H
             go_wp2
             go_ret2
             exact ⟨_, by first | rfl | (simp [errW_none, errW_some] <;> rfl) | (simp only [← hji7]; first | rfl | (simp [errW_none, errW_some] <;> rfl)) | (simp [*, errW_none, errW_some] <;> rfl), by (with_reducible repeat (first | apply Kd.R_alloc | apply Kd.R_drewN | apply Kd.R_drew)); exact HO_12.out, by repeat (first | (with_reducible first | exact HB.out | apply below_alloc | apply pw_below_drewN | apply below_drew1) | exact HB.out)⟩
    ·rw [if_neg c9] at H
     exact absurd H (by simp)
   ·rw [if_neg c8] at H
    exact absurd H (by simp)
  ·rw [if_neg c6] at H
   have c6b0 : (t269 == 0) = false := beq_eq_false_iff_ne.mpr c6
   have c6b1 : (t269 != 0) = true := bne_iff_ne.mpr c6
   simp only [Option.some.injEq, Prod.mk.injEq] at H
   obtain ⟨rfl, rfl⟩ := H
   go_enter Try.func11, Try.ntmps11
   go_wp2_with (first | ((with_reducible refine gate_callee (f := 14) rfl ?_); refine gL_ (some 17) Try.func14 #[.string a0] ?_; (with_reducible refine (ancepsref01_All.calls k a0 t264 t265 _ A3.out).mono ?_); rintro e w105 ⟨v266, rfl, ho0, hb⟩; refine ⟨_, rfl, ?_⟩; have n0_ := Aside0.mk (Kd.R_lower ho0 (below_size (iL HB))); have n1_ := jL HB hb; clear HB; have HO267 := n0_; have HB := n1_; clear n0_ n1_; (try clear hb); (try clear hb2); (try clear hk); (try clear hi); (try clear ho0)) | ((with_reducible refine gate_callee (f := 14) rfl ?_); refine gL_ (some 25) Try.func14 #[.string a1] ?_; (with_reducible refine (ancepsref01_All.calls k a1 t268 t269 _ A5.out).mono ?_); rintro e w106 ⟨v270, rfl, ho0, hb⟩; refine ⟨_, rfl, ?_⟩; have n0_ := Aside0.mk (Kd.R_elder' (iR HO267) (Kd.R_base ho0) hb); have n1_ := Aside0.mk (Kd.R_lower (Kd.R_new' ho0 (Kd.R_lt (iR HO267))) (below_size (iL HB))); have n2_ := jL HB hb; clear HO267; clear HB; have HO267 := n0_; have HO271 := n1_; have HB := n2_; clear n0_ n1_ n2_; (try clear hb); (try clear hb2); (try clear hk); (try clear hi); (try clear ho0)))
   go_ret2
   exact ⟨_, by first | rfl | (simp [errW_none, errW_some] <;> rfl) | (simp [*, errW_none, errW_some] <;> rfl), by first | exact Kd.R_nil _ _ _ _ _ | exact Kd.N_nil _ _ _ _ _ | exact Kd.V_nil _ _ _ _ _ | exact Kd.Q_nil _ _ _ _ _ | exact Kd.S_nil _ _ _ _ _, by repeat (first | (with_reducible first | exact HB.out | apply below_alloc | apply pw_below_drewN | apply below_drew1) | exact HB.out)⟩
 ·rw [if_neg c4] at H
  have c4b0 : (t265 == 0) = false := beq_eq_false_iff_ne.mpr c4
  have c4b1 : (t265 != 0) = true := bne_iff_ne.mpr c4
  simp only [Option.some.injEq, Prod.mk.injEq] at H
  obtain ⟨rfl, rfl⟩ := H
  go_enter Try.func11, Try.ntmps11
  go_wp2_with (first | ((with_reducible refine gate_callee (f := 14) rfl ?_); refine gL_ (some 17) Try.func14 #[.string a0] ?_; (with_reducible refine (ancepsref01_All.calls k a0 t264 t265 _ A3.out).mono ?_); rintro e w107 ⟨v266, rfl, ho0, hb⟩; refine ⟨_, rfl, ?_⟩; have n0_ := Aside0.mk (Kd.R_lower ho0 (below_size (iL HB))); have n1_ := jL HB hb; clear HB; have HO267 := n0_; have HB := n1_; clear n0_ n1_; (try clear hb); (try clear hb2); (try clear hk); (try clear hi); (try clear ho0)))
  go_ret2
  exact ⟨_, by first | rfl | (simp [errW_none, errW_some] <;> rfl) | (simp [*, errW_none, errW_some] <;> rfl), by first | exact Kd.R_nil _ _ _ _ _ | exact Kd.N_nil _ _ _ _ _ | exact Kd.V_nil _ _ _ _ _ | exact Kd.Q_nil _ _ _ _ _ | exact Kd.S_nil _ _ _ _ _, by repeat (first | (with_reducible first | exact HB.out | apply below_alloc | apply pw_below_drewN | apply below_drew1) | exact HB.out)⟩

end Go.Proofs.Ytmjigfoldeekmaa.X
