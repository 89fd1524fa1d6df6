-- shortened
-- thinned
-- halved indents
-- printed by this session's xprint.py: out of the translation, by the kit's print with additions; Lean checks it
import Derived.Test.YtmjigfoldeekmaaWN
import Derived.Test.YtmjigfoldeekmaaWShare
import Derived.Test.YtmjigfoldeekmaaWRepsOne
import Derived.Test.YtmjigfoldeekmaaWGuard
import Derived.Test.YtmjigfoldeekmaaWAt
import Derived.Test.YtmjigfoldeekmaaX0
import Derived.Test.YtmjigfoldeekmaaX5
import Derived.Test.YtmjigfoldeekmaaX9
import Derived.Test.YtmjigfoldeekmaaX11
import Derived.Test.YtmjigfoldeekmaaX14
import Derived.Test.YtmjigfoldeekmaaX18
import Derived.Test.YtmjigfoldeekmaaXA
namespace Go.Proofs.Ytmjigfoldeekmaa.X
open Go.RowKit Go.Proofs.YtmjigfoldeekmaaW.PrintWords Go.Proofs.YtmjigfoldeekmaaW.PrintLast Go.Proofs.YtmjigfoldeekmaaW.PrintMore
attribute [local go_sem] max2_int min2_int max_two min_two max_three min_three max_four min_four isSome_setCell binOp_gtr_str binOp_leq_str binOp_geq_str   -- for this text's walks alone
set_option linter.unusedVariables false
set_option linter.unusedSimpArgs false

/-! ### ancepslaw57_ApparatusGroups: function 6 -/
mutual
def ancepslaw57_ApparatusGroups.j0 : Nat → Bool → List ByteArray → List (S65) → Option (Bool)
 | 0, _, _, _ => none
 | k + 1, x25, x299000, x299001 => if x25 = true then ((ancepslaw57_awake.f k).bind fun t301 => (some t301)) else ((apparatus_Groups.f k x299000 x299001).bind fun bt302 => ((ancepsref57_Groups.f k x299000 x299001).bind fun bt306 => (if bt302.2 = bt306.2 then (ancepslaw57_ApparatusGroups.j1 k bt302.1 bt302.2 bt306.1 ((bt302.1.length : Int) != (bt306.1.length : Int)) x299000 x299001) else (ancepslaw57_ApparatusGroups.j1 k bt302.1 bt302.2 bt306.1 true x299000 x299001))))
def ancepslaw57_ApparatusGroups.j1 : Nat → List (List ByteArray) → Int → List (List ByteArray) → Bool → List ByteArray → List (S65) → Option (Bool)
 | 0, _, _, _, _, _, _ => none
 | k + 1, x3, x4, x5, x46, x299000, x299001 => if x46 = true then (some false) else (if 0 ≤ (x299000.length : Int) then (if ((x299000.length : Int) : Int).toNat ≤ 35184372088832 then (ancepslaw57_ApparatusGroups.l0 k x3 x4 x5 (List.replicate ((x299000.length : Int) : Int).toNat 0) (x3.length : Int) 0 x299000 x299001) else (none)) else (none))
def ancepslaw57_ApparatusGroups.l0 : Nat → List (List ByteArray) → Int → List (List ByteArray) → List Int → Int → Int → List ByteArray → List (S65) → Option (Bool)
 | 0, _, _, _, _, _, _, _, _ => none
 | k + 1, x3, x4, x5, x50, x52, x53, x299000, x299001 => if x53 < x52 then (if 0 ≤ x53 then (if x53 < (x3.length : Int) then (if x53 < (x5.length : Int) then ((ancepsref01_Equal.f k (rd_L8 x3 x53) (rd_L8 x5 x53)).bind fun t315 => (if t315 = true then (ancepslaw57_ApparatusGroups.l1 k x3 x4 x5 x53 x50 x52 x53 (rd_L8 x3 x53) ((rd_L8 x3 x53).length : Int) 0 x299000 x299001) else (some false))) else (none)) else (none)) else (none)) else (if x4 = 0 then (ancepslaw57_ApparatusGroups.l2 k x50 x299000 (x299000.length : Int) 0 x299000 x299001) else (some true))
def ancepslaw57_ApparatusGroups.l1 : Nat → List (List ByteArray) → Int → List (List ByteArray) → Int → List Int → Int → Int → List ByteArray → Int → Int → List ByteArray → List (S65) → Option (Bool)
 | 0, _, _, _, _, _, _, _, _, _, _, _, _ => none
 | k + 1, x3, x4, x5, x8, x50, x52, x53, x65, x66, x67, x299000, x299001 => if x67 < x66 then (if 0 ≤ x67 then (if x67 < (x65.length : Int) then ((slices_Index_string_string.f k x299000 (rdOf ByteArray.empty x65 x67)).bind fun t317 => (if t317 ≥ 0 then (if 0 ≤ t317 then (if t317 < (x50.length : Int) then (ancepslaw57_ApparatusGroups.l1 k x3 x4 x5 x8 (x50.set (t317 : Int).toNat (wrap64 (x8 + 1))) x52 x53 x65 x66 (wrap64 (x67 + 1)) x299000 x299001) else (none)) else (none)) else (ancepslaw57_ApparatusGroups.l1 k x3 x4 x5 x8 x50 x52 x53 x65 x66 (wrap64 (x67 + 1)) x299000 x299001))) else (none)) else (none)) else (ancepslaw57_ApparatusGroups.l0 k x3 x4 x5 x50 x52 (wrap64 (x53 + 1)) x299000 x299001)
def ancepslaw57_ApparatusGroups.l2 : Nat → List Int → List ByteArray → Int → Int → List ByteArray → List (S65) → Option (Bool)
 | 0, _, _, _, _, _, _ => none
 | k + 1, x7, x87, x88, x89, x299000, x299001 => if x89 < x88 then (if 0 ≤ x89 then (if x89 < (x87.length : Int) then (ancepslaw57_ApparatusGroups.l3 k x7 x89 (rdOf ByteArray.empty x87 x89) x87 x88 x89 x299000 (x299000.length : Int) 0 x299000 x299001) else (none)) else (none)) else (some true)
def ancepslaw57_ApparatusGroups.l3 : Nat → List Int → Int → ByteArray → List ByteArray → Int → Int → List ByteArray → Int → Int → List ByteArray → List (S65) → Option (Bool)
 | 0, _, _, _, _, _, _, _, _, _, _, _ => none
 | k + 1, x7, x13, x14, x87, x88, x89, x95, x96, x97, x299000, x299001 => if x97 < x96 then (if 0 ≤ x97 then (if x97 < (x95.length : Int) then ((apparatus_Agree.f k x299000 x299001 x14 (rdOf ByteArray.empty x95 x97)).bind fun bt321 => (if bt321.2 = 0 then (if 0 ≤ x13 then (if x13 < (x7.length : Int) then (if (rd x7 x13) = 0 then (some false) else (if x97 < (x7.length : Int) then (if (((rd x7 x13) == (rd x7 x97)) != (bt321.1 == (x299001.length : Int))) = true then (some false) else (ancepslaw57_ApparatusGroups.l3 k x7 x13 x14 x87 x88 x89 x95 x96 (wrap64 (x97 + 1)) x299000 x299001)) else (none))) else (none)) else (none)) else (some false))) else (none)) else (none)) else (ancepslaw57_ApparatusGroups.l2 k x7 x87 x88 (wrap64 (x89 + 1)) x299000 x299001)
end
def ancepslaw57_ApparatusGroups.f (k : Nat) (l0_0 : List ByteArray) (l0_1 : List (S65)) : Option (Bool) := (ancepslaw57_awake.f k).bind fun t299 => (if t299 = true then ((ancepsref57_Few.f k l0_0 l0_1).bind fun t300 => (ancepslaw57_ApparatusGroups.j0 k (!t300) l0_0 l0_1)) else (ancepslaw57_ApparatusGroups.j0 k true l0_0 l0_1))
theorem ancepslaw57_ApparatusGroups.mono_l : ∀ k, (∀ y0 y1 y2, LeO (ancepslaw57_ApparatusGroups.j0 k y0 y1 y2) (ancepslaw57_ApparatusGroups.j0 (k + 1) y0 y1 y2)) ∧ (∀ y0 y1 y2 y3 y4 y5, LeO (ancepslaw57_ApparatusGroups.j1 k y0 y1 y2 y3 y4 y5) (ancepslaw57_ApparatusGroups.j1 (k + 1) y0 y1 y2 y3 y4 y5)) ∧ (∀ y0 y1 y2 y3 y4 y5 y6 y7, LeO (ancepslaw57_ApparatusGroups.l0 k y0 y1 y2 y3 y4 y5 y6 y7) (ancepslaw57_ApparatusGroups.l0 (k + 1) y0 y1 y2 y3 y4 y5 y6 y7)) ∧ (∀ y0 y1 y2 y3 y4 y5 y6 y7 y8 y9 y10 y11, LeO (ancepslaw57_ApparatusGroups.l1 k y0 y1 y2 y3 y4 y5 y6 y7 y8 y9 y10 y11) (ancepslaw57_ApparatusGroups.l1 (k + 1) y0 y1 y2 y3 y4 y5 y6 y7 y8 y9 y10 y11)) ∧ (∀ y0 y1 y2 y3 y4 y5, LeO (ancepslaw57_ApparatusGroups.l2 k y0 y1 y2 y3 y4 y5) (ancepslaw57_ApparatusGroups.l2 (k + 1) y0 y1 y2 y3 y4 y5)) ∧ (∀ y0 y1 y2 y3 y4 y5 y6 y7 y8 y9 y10, LeO (ancepslaw57_ApparatusGroups.l3 k y0 y1 y2 y3 y4 y5 y6 y7 y8 y9 y10) (ancepslaw57_ApparatusGroups.l3 (k + 1) y0 y1 y2 y3 y4 y5 y6 y7 y8 y9 y10))
 | 0 => ⟨fun _ _ _ r h => by simp [ancepslaw57_ApparatusGroups.j0] at h, fun _ _ _ _ _ _ r h => by simp [ancepslaw57_ApparatusGroups.j1] at h, fun _ _ _ _ _ _ _ _ r h => by simp [ancepslaw57_ApparatusGroups.l0] at h, fun _ _ _ _ _ _ _ _ _ _ _ _ r h => by simp [ancepslaw57_ApparatusGroups.l1] at h, fun _ _ _ _ _ _ r h => by simp [ancepslaw57_ApparatusGroups.l2] at h, fun _ _ _ _ _ _ _ _ _ _ _ r h => by simp [ancepslaw57_ApparatusGroups.l3] at h⟩
 | k + 1 => by
  obtain ⟨ih0, ih1, ih2, ih3, ih4, ih5⟩ := ancepslaw57_ApparatusGroups.mono_l k
  refine ⟨?_, ?_, ?_, ?_, ?_, ?_⟩
  ·intro y0 y1 y2
   unfold ancepslaw57_ApparatusGroups.j0
   repeat' first
   | (with_reducible exact ih0 _ _ _)
   | (with_reducible exact ih1 _ _ _ _ _ _)
   | (with_reducible exact ih2 _ _ _ _ _ _ _ _)
   | (with_reducible exact ih3 _ _ _ _ _ _ _ _ _ _ _ _)
   | (with_reducible exact ih4 _ _ _ _ _ _)
   | (with_reducible exact ih5 _ _ _ _ _ _ _ _ _ _ _)
   | (with_reducible exact ancepslaw57_awake.mono _)
   | (with_reducible exact ancepsref01_Equal.mono _ _ _)
   | (with_reducible exact ancepsref57_Few.mono _ _ _)
   | (with_reducible exact ancepsref57_Groups.mono _ _ _)
   | (with_reducible exact apparatus_Agree.mono _ _ _ _ _)
   | (with_reducible exact apparatus_Groups.mono _ _ _)
   | (with_reducible exact slices_Index_string_string.mono _ _ _)
   | (with_reducible exact LeO.refl _)
   | (with_reducible exact LeO.none _)
   | (with_reducible refine LeO.ite ?_ ?_)
   | (with_reducible refine LeO.bind ?_ (fun _ => ?_))
   | exact ih0 _ _ _
   | exact ih1 _ _ _ _ _ _
   | exact ih2 _ _ _ _ _ _ _ _
   | exact ih3 _ _ _ _ _ _ _ _ _ _ _ _
   | exact ih4 _ _ _ _ _ _
   | exact ih5 _ _ _ _ _ _ _ _ _ _ _
   | exact ancepslaw57_awake.mono _
   | exact ancepsref01_Equal.mono _ _ _
   | exact ancepsref57_Few.mono _ _ _
   | exact ancepsref57_Groups.mono _ _ _
   | exact apparatus_Agree.mono _ _ _ _ _
   | exact apparatus_Groups.mono _ _ _
   | exact slices_Index_string_string.mono _ _ _
   | exact LeO.none _
   | refine LeO.ite ?_ ?_
   | refine LeO.bind ?_ (fun _ => ?_)
  ·intro y0 y1 y2 y3 y4 y5
   unfold ancepslaw57_ApparatusGroups.j1
   repeat' first
   | (with_reducible exact ih0 _ _ _)
   | (with_reducible exact ih1 _ _ _ _ _ _)
   | (with_reducible exact ih2 _ _ _ _ _ _ _ _)
   | (with_reducible exact ih3 _ _ _ _ _ _ _ _ _ _ _ _)
   | (with_reducible exact ih4 _ _ _ _ _ _)
   | (with_reducible exact ih5 _ _ _ _ _ _ _ _ _ _ _)
   | (with_reducible exact ancepslaw57_awake.mono _)
   | (with_reducible exact ancepsref01_Equal.mono _ _ _)
   | (with_reducible exact ancepsref57_Few.mono _ _ _)
   | (with_reducible exact ancepsref57_Groups.mono _ _ _)
   | (with_reducible exact apparatus_Agree.mono _ _ _ _ _)
   | (with_reducible exact apparatus_Groups.mono _ _ _)
   | (with_reducible exact slices_Index_string_string.mono _ _ _)
   | (with_reducible exact LeO.refl _)
   | (with_reducible exact LeO.none _)
   | (with_reducible refine LeO.ite ?_ ?_)
   | (with_reducible refine LeO.bind ?_ (fun _ => ?_))
   | exact ih0 _ _ _
   | exact ih1 _ _ _ _ _ _
   | exact ih2 _ _ _ _ _ _ _ _
   | exact ih3 _ _ _ _ _ _ _ _ _ _ _ _
   | exact ih4 _ _ _ _ _ _
   | exact ih5 _ _ _ _ _ _ _ _ _ _ _
   | exact ancepslaw57_awake.mono _
   | exact ancepsref01_Equal.mono _ _ _
   | exact ancepsref57_Few.mono _ _ _
   | exact ancepsref57_Groups.mono _ _ _
   | exact apparatus_Agree.mono _ _ _ _ _
   | exact apparatus_Groups.mono _ _ _
   | exact slices_Index_string_string.mono _ _ _
   | exact LeO.none _
   | refine LeO.ite ?_ ?_
   | refine LeO.bind ?_ (fun _ => ?_)
  ·intro y0 y1 y2 y3 y4 y5 y6 y7
   unfold ancepslaw57_ApparatusGroups.l0
   repeat' first
   | (with_reducible exact ih0 _ _ _)
   | (with_reducible exact ih1 _ _ _ _ _ _)
   | (with_reducible exact ih2 _ _ _ _ _ _ _ _)
   | (with_reducible exact ih3 _ _ _ _ _ _ _ _ _ _ _ _)
   | (with_reducible exact ih4 _ _ _ _ _ _)
   | (with_reducible exact ih5 _ _ _ _ _ _ _ _ _ _ _)
   | (with_reducible exact ancepslaw57_awake.mono _)
   | (with_reducible exact ancepsref01_Equal.mono _ _ _)
   | (with_reducible exact ancepsref57_Few.mono _ _ _)
   | (with_reducible exact ancepsref57_Groups.mono _ _ _)
   | (with_reducible exact apparatus_Agree.mono _ _ _ _ _)
   | (with_reducible exact apparatus_Groups.mono _ _ _)
   | (with_reducible exact slices_Index_string_string.mono _ _ _)
   | (with_reducible exact LeO.refl _)
   | (with_reducible exact LeO.none _)
   | (with_reducible refine LeO.ite ?_ ?_)
   | (with_reducible refine LeO.bind ?_ (fun _ => ?_))
   | exact ih0 _ _ _
   | exact ih1 _ _ _ _ _ _
   | exact ih2 _ _ _ _ _ _ _ _
   | exact ih3 _ _ _ _ _ _ _ _ _ _ _ _
   | exact ih4 _ _ _ _ _ _
   | exact ih5 _ _ _ _ _ _ _ _ _ _ _
   | exact ancepslaw57_awake.mono _
   | exact ancepsref01_Equal.mono _ _ _
   | exact ancepsref57_Few.mono _ _ _
   | exact ancepsref57_Groups.mono _ _ _
   | exact apparatus_Agree.mono _ _ _ _ _
   | exact apparatus_Groups.mono _ _ _
   | exact slices_Index_string_string.mono _ _ _
   | exact LeO.none _
   | refine LeO.ite ?_ ?_
   | refine LeO.bind ?_ (fun _ => ?_)
  ·intro y0 y1 y2 y3 y4 y5 y6 y7 y8 y9 y10 y11
   unfold ancepslaw57_ApparatusGroups.l1
   repeat' first
   | (with_reducible exact ih0 _ _ _)
   | (with_reducible exact ih1 _ _ _ _ _ _)
   | (with_reducible exact ih2 _ _ _ _ _ _ _ _)
   | (with_reducible exact ih3 _ _ _ _ _ _ _ _ _ _ _ _)
   | (with_reducible exact ih4 _ _ _ _ _ _)
   | (with_reducible exact ih5 _ _ _ _ _ _ _ _ _ _ _)
   | (with_reducible exact ancepslaw57_awake.mono _)
   | (with_reducible exact ancepsref01_Equal.mono _ _ _)
   | (with_reducible exact ancepsref57_Few.mono _ _ _)
   | (with_reducible exact ancepsref57_Groups.mono _ _ _)
   | (with_reducible exact apparatus_Agree.mono _ _ _ _ _)
   | (with_reducible exact apparatus_Groups.mono _ _ _)
   | (with_reducible exact slices_Index_string_string.mono _ _ _)
   | (with_reducible exact LeO.refl _)
   | (with_reducible exact LeO.none _)
   | (with_reducible refine LeO.ite ?_ ?_)
   | (with_reducible refine LeO.bind ?_ (fun _ => ?_))
   | exact ih0 _ _ _
   | exact ih1 _ _ _ _ _ _
   | exact ih2 _ _ _ _ _ _ _ _
   | exact ih3 _ _ _ _ _ _ _ _ _ _ _ _
   | exact ih4 _ _ _ _ _ _
   | exact ih5 _ _ _ _ _ _ _ _ _ _ _
   | exact ancepslaw57_awake.mono _
   | exact ancepsref01_Equal.mono _ _ _
   | exact ancepsref57_Few.mono _ _ _
   | exact ancepsref57_Groups.mono _ _ _
   | exact apparatus_Agree.mono _ _ _ _ _
   | exact apparatus_Groups.mono _ _ _
   | exact slices_Index_string_string.mono _ _ _
   | exact LeO.none _
   | refine LeO.ite ?_ ?_
   | refine LeO.bind ?_ (fun _ => ?_)
  ·intro y0 y1 y2 y3 y4 y5
   unfold ancepslaw57_ApparatusGroups.l2
   repeat' first
   | (with_reducible exact ih0 _ _ _)
   | (with_reducible exact ih1 _ _ _ _ _ _)
   | (with_reducible exact ih2 _ _ _ _ _ _ _ _)
   | (with_reducible exact ih3 _ _ _ _ _ _ _ _ _ _ _ _)
   | (with_reducible exact ih4 _ _ _ _ _ _)
   | (with_reducible exact ih5 _ _ _ _ _ _ _ _ _ _ _)
   | (with_reducible exact ancepslaw57_awake.mono _)
   | (with_reducible exact ancepsref01_Equal.mono _ _ _)
   | (with_reducible exact ancepsref57_Few.mono _ _ _)
   | (with_reducible exact ancepsref57_Groups.mono _ _ _)
   | (with_reducible exact apparatus_Agree.mono _ _ _ _ _)
   | (with_reducible exact apparatus_Groups.mono _ _ _)
   | (with_reducible exact slices_Index_string_string.mono _ _ _)
   | (with_reducible exact LeO.refl _)
   | (with_reducible exact LeO.none _)
   | (with_reducible refine LeO.ite ?_ ?_)
   | (with_reducible refine LeO.bind ?_ (fun _ => ?_))
   | exact ih0 _ _ _
   | exact ih1 _ _ _ _ _ _
   | exact ih2 _ _ _ _ _ _ _ _
   | exact ih3 _ _ _ _ _ _ _ _ _ _ _ _
   | exact ih4 _ _ _ _ _ _
   | exact ih5 _ _ _ _ _ _ _ _ _ _ _
   | exact ancepslaw57_awake.mono _
   | exact ancepsref01_Equal.mono _ _ _
   | exact ancepsref57_Few.mono _ _ _
   | exact ancepsref57_Groups.mono _ _ _
   | exact apparatus_Agree.mono _ _ _ _ _
   | exact apparatus_Groups.mono _ _ _
   | exact slices_Index_string_string.mono _ _ _
   | exact LeO.none _
   | refine LeO.ite ?_ ?_
   | refine LeO.bind ?_ (fun _ => ?_)
  ·intro y0 y1 y2 y3 y4 y5 y6 y7 y8 y9 y10
   unfold ancepslaw57_ApparatusGroups.l3
   repeat' first
   | (with_reducible exact ih0 _ _ _)
   | (with_reducible exact ih1 _ _ _ _ _ _)
   | (with_reducible exact ih2 _ _ _ _ _ _ _ _)
   | (with_reducible exact ih3 _ _ _ _ _ _ _ _ _ _ _ _)
   | (with_reducible exact ih4 _ _ _ _ _ _)
   | (with_reducible exact ih5 _ _ _ _ _ _ _ _ _ _ _)
   | (with_reducible exact ancepslaw57_awake.mono _)
   | (with_reducible exact ancepsref01_Equal.mono _ _ _)
   | (with_reducible exact ancepsref57_Few.mono _ _ _)
   | (with_reducible exact ancepsref57_Groups.mono _ _ _)
   | (with_reducible exact apparatus_Agree.mono _ _ _ _ _)
   | (with_reducible exact apparatus_Groups.mono _ _ _)
   | (with_reducible exact slices_Index_string_string.mono _ _ _)
   | (with_reducible exact LeO.refl _)
   | (with_reducible exact LeO.none _)
   | (with_reducible refine LeO.ite ?_ ?_)
   | (with_reducible refine LeO.bind ?_ (fun _ => ?_))
   | exact ih0 _ _ _
   | exact ih1 _ _ _ _ _ _
   | exact ih2 _ _ _ _ _ _ _ _
   | exact ih3 _ _ _ _ _ _ _ _ _ _ _ _
   | exact ih4 _ _ _ _ _ _
   | exact ih5 _ _ _ _ _ _ _ _ _ _ _
   | exact ancepslaw57_awake.mono _
   | exact ancepsref01_Equal.mono _ _ _
   | exact ancepsref57_Few.mono _ _ _
   | exact ancepsref57_Groups.mono _ _ _
   | exact apparatus_Agree.mono _ _ _ _ _
   | exact apparatus_Groups.mono _ _ _
   | exact slices_Index_string_string.mono _ _ _
   | exact LeO.none _
   | refine LeO.ite ?_ ?_
   | refine LeO.bind ?_ (fun _ => ?_)
theorem ancepslaw57_ApparatusGroups.mono : ∀ a0 a1 k, LeO (ancepslaw57_ApparatusGroups.f k a0 a1) (ancepslaw57_ApparatusGroups.f (k + 1) a0 a1) := by
 intro a0 a1 k
 obtain ⟨ih0, ih1, ih2, ih3, ih4, ih5⟩ := ancepslaw57_ApparatusGroups.mono_l k
 unfold ancepslaw57_ApparatusGroups.f
 repeat' first
   | (with_reducible exact ih0 _ _ _)
   | (with_reducible exact ih1 _ _ _ _ _ _)
   | (with_reducible exact ih2 _ _ _ _ _ _ _ _)
   | (with_reducible exact ih3 _ _ _ _ _ _ _ _ _ _ _ _)
   | (with_reducible exact ih4 _ _ _ _ _ _)
   | (with_reducible exact ih5 _ _ _ _ _ _ _ _ _ _ _)
   | (with_reducible exact ancepslaw57_awake.mono _)
   | (with_reducible exact ancepsref01_Equal.mono _ _ _)
   | (with_reducible exact ancepsref57_Few.mono _ _ _)
   | (with_reducible exact ancepsref57_Groups.mono _ _ _)
   | (with_reducible exact apparatus_Agree.mono _ _ _ _ _)
   | (with_reducible exact apparatus_Groups.mono _ _ _)
   | (with_reducible exact slices_Index_string_string.mono _ _ _)
   | (with_reducible exact LeO.refl _)
   | (with_reducible exact LeO.none _)
   | (with_reducible refine LeO.ite ?_ ?_)
   | (with_reducible refine LeO.bind ?_ (fun _ => ?_))
   | exact ih0 _ _ _
   | exact ih1 _ _ _ _ _ _
   | exact ih2 _ _ _ _ _ _ _ _
   | exact ih3 _ _ _ _ _ _ _ _ _ _ _ _
   | exact ih4 _ _ _ _ _ _
   | exact ih5 _ _ _ _ _ _ _ _ _ _ _
   | exact ancepslaw57_awake.mono _
   | exact ancepsref01_Equal.mono _ _ _
   | exact ancepsref57_Few.mono _ _ _
   | exact ancepsref57_Groups.mono _ _ _
   | exact apparatus_Agree.mono _ _ _ _ _
   | exact apparatus_Groups.mono _ _ _
   | exact slices_Index_string_string.mono _ _ _
   | exact LeO.none _
   | refine LeO.ite ?_ ?_
   | refine LeO.bind ?_ (fun _ => ?_)
set_option maxHeartbeats 8000000 in
set_option maxRecDepth 100000 in
theorem ancepslaw57_ApparatusGroups.calls (k : Nat) (A0_0 : Option Addr) (c0_0 : Nat) (l0_0 : List ByteArray) (A0_1 : Option Addr) (c0_1 : Nat) (l0_1 : List (S65)) (r : Bool) (w : World) (hr0_0 : Kd.C Kd.string w A0_0 l0_0.length l0_0) (hc0_0 : l0_0.length ≤ c0_0) (hr0_1 : Kd.C k65 w A0_1 l0_1.length l0_1) (hc0_1 : l0_1.length ≤ c0_1) (h : ancepslaw57_ApparatusGroups.f k l0_0 l0_1 = some r) :
  Calls Try.prog 6 #[.agg #[.slice A0_0 l0_0.length c0_0, .slice A0_1 l0_1.length c0_1]] w fun e w' => e = .returned (.bool r) ∧ Below w.heap.size w w' := by
 have hu42 := Try.underlying42
 have HR0_0 := Aside0.mk hr0_0
 have HC0_0 := Aside0.mk hc0_0
 clear hr0_0 hc0_0
 have HR0_1 := Aside0.mk hr0_1
 have HC0_1 := Aside0.mk hc0_1
 clear hr0_1 hc0_1
 have HB := Aside0.mk (Below.refl w.heap.size w)
 have H : ((ancepslaw57_awake.f k).bind fun t299 => (if t299 = true then ((ancepsref57_Few.f k l0_0 l0_1).bind fun t300 => (ancepslaw57_ApparatusGroups.j0 k (!t300) l0_0 l0_1)) else (ancepslaw57_ApparatusGroups.j0 k true l0_0 l0_1))) = some r := h
 clear h
 have HC2 := Aside0.mk H
 clear H
 go_enter Try.func6, Try.ntmps6
 go_upto_region 1 with (first | ((with_reducible refine gate_dst (N := 1) rfl ?_); (try (refine gate_guard (by rfl) ?_; dsimp only)); refine bX 1 #[.slice A0_0 l0_0.length c0_0, .slice A0_1 l0_1.length c0_1] 42 ?_; intro gb298 hg w3 hbox hb; have n0_ := jL HB hb; have n1_ := Aside0.mk (hbox); have n2_ := Aside0.mk ((by rw [hg]; exact (below_size (iL HB)) : w.heap.size ≤ gb298)); have n3_ := Aside0.mk ((by rw [hg]; exact (below_size (iL HB)) : w.heap.size ≤ gb298)); clear HB; have HB := n0_; have BK298 := n1_; have GW298 := n2_; have GE298 := n3_; clear n0_ n1_ n2_ n3_; clear hb hbox hg))
 repeat (go_quiet (first | ((with_reducible refine gate_dst (N := 1) rfl ?_); (try (refine gate_guard (by rfl) ?_; dsimp only)); refine bX 1 #[.slice A0_0 l0_0.length c0_0, .slice A0_1 l0_1.length c0_1] 42 ?_; intro gb298 hg w3 hbox hb; have n0_ := jL HB hb; have n1_ := Aside0.mk (hbox); have n2_ := Aside0.mk ((by rw [hg]; exact (below_size (iL HB)) : w.heap.size ≤ gb298)); have n3_ := Aside0.mk ((by rw [hg]; exact (below_size (iL HB)) : w.heap.size ≤ gb298)); clear HB; have HB := n0_; have BK298 := n1_; have GW298 := n2_; have GE298 := n3_; clear n0_ n1_ n2_ n3_; clear hb hbox hg)); go_upto_region 1 with (first | ((with_reducible refine gate_dst (N := 1) rfl ?_); (try (refine gate_guard (by rfl) ?_; dsimp only)); refine bX 1 #[.slice A0_0 l0_0.length c0_0, .slice A0_1 l0_1.length c0_1] 42 ?_; intro gb298 hg w3 hbox hb; have n0_ := jL HB hb; have n1_ := Aside0.mk (hbox); have n2_ := Aside0.mk ((by rw [hg]; exact (below_size (iL HB)) : w.heap.size ≤ gb298)); have n3_ := Aside0.mk ((by rw [hg]; exact (below_size (iL HB)) : w.heap.size ≤ gb298)); clear HB; have HB := n0_; have BK298 := n1_; have GW298 := n2_; have GE298 := n3_; clear n0_ n1_ n2_ n3_; clear hb hbox hg)))
 (try simp only [Act.put, List.setIfInBounds_toArray, List.set_cons_zero, List.set_cons_succ])
 go_cut [25] (fun v25 wc => ∃ (kq : Nat) (x25_1 : Bool), v25 = .bool x25_1 ∧ Aside0 (ancepslaw57_ApparatusGroups.j0 kq x25_1 l0_0 l0_1 = some r) ∧ Aside0 (kq ≤ k) ∧ Aside0 (wc.heap[gb298]? = some (.cells #[(.slice A0_0 l0_0.length c0_0), (.slice A0_1 l0_1.length c0_1)] 42 (0, 0))) ∧ Aside0 (Below w.heap.size w wc))
 case first =>
  have H := HC2.out
  clear HC2
  replace H := Option.bind_eq_some_iff.mp H
  obtain ⟨t299, A40, H⟩ := H
  try dsimp only at H
  have A4 := Aside0.mk A40
  clear A40
  by_cases c5 : t299 = true
  ·subst c5
   have H1 : ((ancepsref57_Few.f k l0_0 l0_1).bind fun t300 => (ancepslaw57_ApparatusGroups.j0 k (!t300) l0_0 l0_1)) = some r := by rw [if_pos rfl] at H; exact H
   clear H
   have H := H1
   clear H1
   replace H := Option.bind_eq_some_iff.mp H
   obtain ⟨t300, A60, H⟩ := H
   try dsimp only at H
   have A6 := Aside0.mk A60
   clear A60
   have H' := Aside0.mk H
   clear H
   go_wp2_with (first | (go_at_call 9; (with_reducible refine (ancepslaw57_awake.calls k  true _ A4.out).mono ?_); rintro e w7 ⟨rfl, hb⟩; have n0_ := jB BK298 hb; have n1_ := jL HB hb; clear BK298; clear HB; have BK298 := n0_; have HB := n1_; clear n0_ n1_; (try clear hb); (try clear hb2); (try clear hk); (try clear hi); have hcz8_0 := cZ BK298 0 (.slice A0_0 l0_0.length c0_0); have hcz8_1 := cZ BK298 1 (.slice A0_1 l0_1.length c0_1); have hfz8_0 := blk_frozen BK298.out 0; have hfz8_1 := blk_frozen BK298.out 1) | (go_at_call 22; (with_reducible refine (ancepsref57_Few.calls k _ _ l0_0 _ _ l0_1 t300 _ ?side1 ?side2 ?side3 ?side4 A6.out).mono ?_); (case side1 => exact iC HR0_0 HB); (case side2 => exact HC0_0.out); (case side3 => exact iC HR0_1 HB); (case side4 => exact HC0_1.out); rintro e w9 ⟨rfl, hb⟩; have n0_ := jB BK298 hb; have n1_ := jL HB hb; clear BK298; clear HB; have BK298 := n0_; have HB := n1_; clear n0_ n1_; (try clear hb); (try clear hb2); (try clear hk); (try clear hi)))
   repeat (go_quiet (first | (go_at_call 9; (with_reducible refine (ancepslaw57_awake.calls k  true _ A4.out).mono ?_); (try clear A4); rintro e w7 ⟨rfl, hb⟩; have n0_ := jB BK298 hb; have n1_ := jL HB hb; clear BK298; clear HB; have BK298 := n0_; have HB := n1_; clear n0_ n1_; (try clear hb); (try clear hb2); (try clear hk); (try clear hi); have hcz8_0 := cZ BK298 0 (.slice A0_0 l0_0.length c0_0); have hcz8_1 := cZ BK298 1 (.slice A0_1 l0_1.length c0_1); have hfz8_0 := blk_frozen BK298.out 0; have hfz8_1 := blk_frozen BK298.out 1) | (go_at_call 22; (with_reducible refine (ancepsref57_Few.calls k _ _ l0_0 _ _ l0_1 t300 _ ?side1 ?side2 ?side3 ?side4 A6.out).mono ?_); (case side1 => exact iC HR0_0 HB); (case side2 => exact HC0_0.out); (case side3 => exact iC HR0_1 HB); (case side4 => exact HC0_1.out); (try clear A6); rintro e w9 ⟨rfl, hb⟩; have n0_ := jB BK298 hb; have n1_ := jL HB hb; clear BK298; clear HB; have BK298 := n0_; have HB := n1_; clear n0_ n1_; (try clear hb); (try clear hb2); (try clear hk); (try clear hi))); try go_wp2_with (first | (go_at_call 9; (with_reducible refine (ancepslaw57_awake.calls k  true _ A4.out).mono ?_); (try clear A4); rintro e w7 ⟨rfl, hb⟩; have n0_ := jB BK298 hb; have n1_ := jL HB hb; clear BK298; clear HB; have BK298 := n0_; have HB := n1_; clear n0_ n1_; (try clear hb); (try clear hb2); (try clear hk); (try clear hi); have hcz8_0 := cZ BK298 0 (.slice A0_0 l0_0.length c0_0); have hcz8_1 := cZ BK298 1 (.slice A0_1 l0_1.length c0_1); have hfz8_0 := blk_frozen BK298.out 0; have hfz8_1 := blk_frozen BK298.out 1) | (go_at_call 22; (with_reducible refine (ancepsref57_Few.calls k _ _ l0_0 _ _ l0_1 t300 _ ?side1 ?side2 ?side3 ?side4 A6.out).mono ?_); (case side1 => exact iC HR0_0 HB); (case side2 => exact HC0_0.out); (case side3 => exact iC HR0_1 HB); (case side4 => exact HC0_1.out); (try clear A6); rintro e w9 ⟨rfl, hb⟩; have n0_ := jB BK298 hb; have n1_ := jL HB hb; clear BK298; clear HB; have BK298 := n0_; have HB := n1_; clear n0_ n1_; (try clear hb); (try clear hb2); (try clear hk); (try clear hi))))
   go_meet
   case rel => exact ⟨_, (!t300), (by first | rfl | (simp; done) | (simp [*]; done)), H', ⟨by first | omega | exact Nat.le_refl _⟩, ⟨by (with_reducible repeat (first | apply blk_drewN | apply blk_drew | apply blk_alloc)); exact BK298.out⟩, ⟨by repeat (first | (with_reducible first | exact HB.out | apply below_alloc | apply pw_below_drewN | apply below_drew1 | refine below_set ?_ GE298.out) | exact HB.out)⟩⟩
  ·replace c5 := Bool.eq_false_iff.mpr c5
   subst c5
   have H1 : (ancepslaw57_ApparatusGroups.j0 k true l0_0 l0_1) = some r := by rw [if_neg (show ¬ (false = true) by decide)] at H; exact H
   clear H
   have H := H1
   clear H1
   have H' := Aside0.mk H
   clear H
   go_wp2_with (first | (go_at_call 9; (with_reducible refine (ancepslaw57_awake.calls k  false _ A4.out).mono ?_); rintro e w10 ⟨rfl, hb⟩; have n0_ := jB BK298 hb; have n1_ := jL HB hb; clear BK298; clear HB; have BK298 := n0_; have HB := n1_; clear n0_ n1_; (try clear hb); (try clear hb2); (try clear hk); (try clear hi)))
   repeat (go_quiet (first | (go_at_call 9; (with_reducible refine (ancepslaw57_awake.calls k  false _ A4.out).mono ?_); (try clear A4); rintro e w10 ⟨rfl, hb⟩; have n0_ := jB BK298 hb; have n1_ := jL HB hb; clear BK298; clear HB; have BK298 := n0_; have HB := n1_; clear n0_ n1_; (try clear hb); (try clear hb2); (try clear hk); (try clear hi))); try go_wp2_with (first | (go_at_call 9; (with_reducible refine (ancepslaw57_awake.calls k  false _ A4.out).mono ?_); (try clear A4); rintro e w10 ⟨rfl, hb⟩; have n0_ := jB BK298 hb; have n1_ := jL HB hb; clear BK298; clear HB; have BK298 := n0_; have HB := n1_; clear n0_ n1_; (try clear hb); (try clear hb2); (try clear hk); (try clear hi))))
   go_meet
   case rel => exact ⟨_, (true), (by first | rfl | (simp; done) | (simp [*]; done)), H', ⟨by first | omega | exact Nat.le_refl _⟩, ⟨by (with_reducible repeat (first | apply blk_drewN | apply blk_drew | apply blk_alloc)); exact BK298.out⟩, ⟨by repeat (first | (with_reducible first | exact HB.out | apply below_alloc | apply pw_below_drewN | apply below_drew1 | refine below_set ?_ GE298.out) | exact HB.out)⟩⟩
 case rest =>
  clear HC2
  try clear p2
  try clear c5
  try clear c6
  try clear hcz8_0
  try clear hcz8_1
  try clear hfz8_0
  try clear hfz8_1
  obtain ⟨kq, x25_1, rfl, HA, HJ1, BK298, HB⟩ := hcut
  cases kq with
  | zero => exact absurd HA.out (by simp [ancepslaw57_ApparatusGroups.j0])
  | succ kj1 =>
   have H := HA.out
   clear HA
   simp only [ancepslaw57_ApparatusGroups.j0] at H
   by_cases c11 : x25_1 = true
   ·subst c11
    have H1 : ((ancepslaw57_awake.f kj1).bind fun t301 => (some t301)) = some r := by rw [if_pos rfl] at H; exact H
    clear H
    have H := H1
    clear H1
    replace H := Option.bind_eq_some_iff.mp H
    obtain ⟨t301, A120, H⟩ := H
    replace H : (some t301) = some r := H
    have A12 := Aside0.mk A120
    clear A120
    obtain rfl := Option.some.inj H
    go_wp2_with (first | (go_at_call 9; (with_reducible refine (ancepslaw57_awake.calls kj1  t301 _ A12.out).mono ?_); rintro e w13 ⟨rfl, hb⟩; have n0_ := jB BK298 hb; have n1_ := jL HB hb; clear BK298; clear HB; have BK298 := n0_; have HB := n1_; clear n0_ n1_; (try clear hb); (try clear hb2); (try clear hk); (try clear hi)))
    repeat (go_quiet (first | (go_at_call 9; (with_reducible refine (ancepslaw57_awake.calls kj1  t301 _ A12.out).mono ?_); (try clear A12); rintro e w13 ⟨rfl, hb⟩; have n0_ := jB BK298 hb; have n1_ := jL HB hb; clear BK298; clear HB; have BK298 := n0_; have HB := n1_; clear n0_ n1_; (try clear hb); (try clear hb2); (try clear hk); (try clear hi))); try go_wp2_with (first | (go_at_call 9; (with_reducible refine (ancepslaw57_awake.calls kj1  t301 _ A12.out).mono ?_); (try clear A12); rintro e w13 ⟨rfl, hb⟩; have n0_ := jB BK298 hb; have n1_ := jL HB hb; clear BK298; clear HB; have BK298 := n0_; have HB := n1_; clear n0_ n1_; (try clear hb); (try clear hb2); (try clear hk); (try clear hi))))
    go_ret
    exact ⟨by first | rfl | (simp [errW_none, errW_some] <;> rfl) | (simp [*, errW_none, errW_some] <;> rfl), by repeat (first | (with_reducible first | exact HB.out | apply below_alloc | apply pw_below_drewN | apply below_drew1 | refine below_set ?_ GE298.out) | exact HB.out)⟩
   ·replace c11 := Bool.eq_false_iff.mpr c11
    subst c11
    have H1 : ((apparatus_Groups.f kj1 l0_0 l0_1).bind fun bt302 => ((ancepsref57_Groups.f kj1 l0_0 l0_1).bind fun bt306 => (if bt302.2 = bt306.2 then (ancepslaw57_ApparatusGroups.j1 kj1 bt302.1 bt302.2 bt306.1 ((bt302.1.length : Int) != (bt306.1.length : Int)) l0_0 l0_1) else (ancepslaw57_ApparatusGroups.j1 kj1 bt302.1 bt302.2 bt306.1 true l0_0 l0_1)))) = some r := by rw [if_neg (show ¬ (false = true) by decide)] at H; exact H
    clear H
    have H := H1
    clear H1
    replace H := Option.bind_eq_some_iff.mp H
    obtain ⟨⟨t302, t305⟩, A140, H⟩ := H
    try dsimp only at H
    have A14 := Aside0.mk A140
    clear A140
    replace H := Option.bind_eq_some_iff.mp H
    obtain ⟨⟨t306, t309⟩, A150, H⟩ := H
    try dsimp only at H
    have A15 := Aside0.mk A150
    clear A150
    have HC16 := Aside0.mk H
    clear H
    have hcz17_0 := cZ BK298 0 (.slice A0_0 l0_0.length c0_0)
    have hcz17_1 := cZ BK298 1 (.slice A0_1 l0_1.length c0_1)
    have hfz17_0 := blk_frozen BK298.out 0
    have hfz17_1 := blk_frozen BK298.out 1
    go_upto_region 5 with (first | (go_at_call 23; (with_reducible refine (apparatus_Groups.calls kj1 _ _ l0_0 _ _ l0_1 t302 t305 _ ?side1 ?side2 ?side3 ?side4 A14.out).mono ?_); (case side1 => exact iC HR0_0 HB); (case side2 => exact HC0_0.out); (case side3 => exact iC HR0_1 HB); (case side4 => exact HC0_1.out); rintro e w18 ⟨v303, rfl, ho0, hb⟩; have n0_ := Aside0.mk (Kd.S_lower ho0 (below_size (iL HB))); have n1_ := jB BK298 hb; have n2_ := jL HB hb; clear BK298; clear HB; have HO304 := n0_; have BK298 := n1_; have HB := n2_; clear n0_ n1_ n2_; (try clear hb); (try clear hb2); (try clear hk); (try clear hi); (try clear ho0); have hcz19_0 := cZ BK298 0 (.slice A0_0 l0_0.length c0_0); have hcz19_1 := cZ BK298 1 (.slice A0_1 l0_1.length c0_1); have hfz19_0 := blk_frozen BK298.out 0; have hfz19_1 := blk_frozen BK298.out 1) | (go_at_call 24; (with_reducible refine (ancepsref57_Groups.calls kj1 _ _ l0_0 _ _ l0_1 t306 t309 _ ?side1 ?side2 ?side3 ?side4 A15.out).mono ?_); (case side1 => exact iC HR0_0 HB); (case side2 => exact HC0_0.out); (case side3 => exact iC HR0_1 HB); (case side4 => exact HC0_1.out); rintro e w20 ⟨v307, rfl, ho0, hb⟩; have n0_ := Aside0.mk (Kd.S_elder' (by (with_reducible repeat (first | apply Kd.S_alloc | apply Kd.S_drewN | apply Kd.S_drew)); exact HO304.out) (Kd.S_base ho0) hb); have n1_ := Aside0.mk (Kd.S_lower (Kd.S_new' ho0 (Kd.S_lt (by (with_reducible repeat (first | apply Kd.S_alloc | apply Kd.S_drewN | apply Kd.S_drew)); exact HO304.out))) (below_size (iL HB))); have n2_ := jB BK298 hb; have n3_ := jL HB hb; clear HO304; clear BK298; clear HB; have HO304 := n0_; have HO308 := n1_; have BK298 := n2_; have HB := n3_; clear n0_ n1_ n2_ n3_; (try clear hb); (try clear hb2); (try clear hk); (try clear hi); (try clear ho0)))
    repeat (go_quiet (first | (go_at_call 23; (with_reducible refine (apparatus_Groups.calls kj1 _ _ l0_0 _ _ l0_1 t302 t305 _ ?side1 ?side2 ?side3 ?side4 A14.out).mono ?_); (case side1 => exact iC HR0_0 HB); (case side2 => exact HC0_0.out); (case side3 => exact iC HR0_1 HB); (case side4 => exact HC0_1.out); (try clear A14); rintro e w18 ⟨v303, rfl, ho0, hb⟩; have n0_ := Aside0.mk (Kd.S_lower ho0 (below_size (iL HB))); have n1_ := jB BK298 hb; have n2_ := jL HB hb; clear BK298; clear HB; have HO304 := n0_; have BK298 := n1_; have HB := n2_; clear n0_ n1_ n2_; (try clear hb); (try clear hb2); (try clear hk); (try clear hi); (try clear ho0); have hcz19_0 := cZ BK298 0 (.slice A0_0 l0_0.length c0_0); have hcz19_1 := cZ BK298 1 (.slice A0_1 l0_1.length c0_1); have hfz19_0 := blk_frozen BK298.out 0; have hfz19_1 := blk_frozen BK298.out 1) | (go_at_call 24; (with_reducible refine (ancepsref57_Groups.calls kj1 _ _ l0_0 _ _ l0_1 t306 t309 _ ?side1 ?side2 ?side3 ?side4 A15.out).mono ?_); (case side1 => exact iC HR0_0 HB); (case side2 => exact HC0_0.out); (case side3 => exact iC HR0_1 HB); (case side4 => exact HC0_1.out); (try clear A15); rintro e w20 ⟨v307, rfl, ho0, hb⟩; have n0_ := Aside0.mk (Kd.S_elder' (by (with_reducible repeat (first | apply Kd.S_alloc | apply Kd.S_drewN | apply Kd.S_drew)); exact HO304.out) (Kd.S_base ho0) hb); have n1_ := Aside0.mk (Kd.S_lower (Kd.S_new' ho0 (Kd.S_lt (by (with_reducible repeat (first | apply Kd.S_alloc | apply Kd.S_drewN | apply Kd.S_drew)); exact HO304.out))) (below_size (iL HB))); have n2_ := jB BK298 hb; have n3_ := jL HB hb; clear HO304; clear BK298; clear HB; have HO304 := n0_; have HO308 := n1_; have BK298 := n2_; have HB := n3_; clear n0_ n1_ n2_ n3_; (try clear hb); (try clear hb2); (try clear hk); (try clear hi); (try clear ho0))); go_upto_region 5 with (first | (go_at_call 23; (with_reducible refine (apparatus_Groups.calls kj1 _ _ l0_0 _ _ l0_1 t302 t305 _ ?side1 ?side2 ?side3 ?side4 A14.out).mono ?_); (case side1 => exact iC HR0_0 HB); (case side2 => exact HC0_0.out); (case side3 => exact iC HR0_1 HB); (case side4 => exact HC0_1.out); (try clear A14); rintro e w18 ⟨v303, rfl, ho0, hb⟩; have n0_ := Aside0.mk (Kd.S_lower ho0 (below_size (iL HB))); have n1_ := jB BK298 hb; have n2_ := jL HB hb; clear BK298; clear HB; have HO304 := n0_; have BK298 := n1_; have HB := n2_; clear n0_ n1_ n2_; (try clear hb); (try clear hb2); (try clear hk); (try clear hi); (try clear ho0); have hcz19_0 := cZ BK298 0 (.slice A0_0 l0_0.length c0_0); have hcz19_1 := cZ BK298 1 (.slice A0_1 l0_1.length c0_1); have hfz19_0 := blk_frozen BK298.out 0; have hfz19_1 := blk_frozen BK298.out 1) | (go_at_call 24; (with_reducible refine (ancepsref57_Groups.calls kj1 _ _ l0_0 _ _ l0_1 t306 t309 _ ?side1 ?side2 ?side3 ?side4 A15.out).mono ?_); (case side1 => exact iC HR0_0 HB); (case side2 => exact HC0_0.out); (case side3 => exact iC HR0_1 HB); (case side4 => exact HC0_1.out); (try clear A15); rintro e w20 ⟨v307, rfl, ho0, hb⟩; have n0_ := Aside0.mk (Kd.S_elder' (by (with_reducible repeat (first | apply Kd.S_alloc | apply Kd.S_drewN | apply Kd.S_drew)); exact HO304.out) (Kd.S_base ho0) hb); have n1_ := Aside0.mk (Kd.S_lower (Kd.S_new' ho0 (Kd.S_lt (by (with_reducible repeat (first | apply Kd.S_alloc | apply Kd.S_drewN | apply Kd.S_drew)); exact HO304.out))) (below_size (iL HB))); have n2_ := jB BK298 hb; have n3_ := jL HB hb; clear HO304; clear BK298; clear HB; have HO304 := n0_; have HO308 := n1_; have BK298 := n2_; have HB := n3_; clear n0_ n1_ n2_ n3_; (try clear hb); (try clear hb2); (try clear hk); (try clear hi); (try clear ho0))))
    (try simp only [Act.put, List.setIfInBounds_toArray, List.set_cons_zero, List.set_cons_succ])
    go_cut [46] (fun v46 wc => ∃ (kq : Nat) (x46_15 : Bool), v46 = .bool x46_15 ∧ Aside0 (ancepslaw57_ApparatusGroups.j1 kq t302 t305 t306 x46_15 l0_0 l0_1 = some r) ∧ Aside0 (kq ≤ kj1) ∧ Aside0 (Kd.S (Kd.slice 9 Kd.string) 34 wc w.heap.size (fun k_ => some k_ ≠ (v307 : Value).ownBlock) v303 t302) ∧ Aside0 (Kd.S (Kd.slice 9 Kd.string) 34 wc w.heap.size (fun k_ => some k_ ≠ (v303 : Value).ownBlock) v307 t306) ∧ Aside0 (wc.heap[gb298]? = some (.cells #[(.slice A0_0 l0_0.length c0_0), (.slice A0_1 l0_1.length c0_1)] 42 (0, 0))) ∧ Aside0 (Below w.heap.size w wc))
    case first =>
     have H := HC16.out
     clear HC16
     by_cases c21 : t305 = t309
     ·rw [if_pos c21] at H
      have c21b0 : (t305 == t309) = true := beq_iff_eq.mpr c21
      have c21b1 : (t305 != t309) = false := bne_eq_false_iff_eq.mpr c21
      clear c21
      (first | rw [c21b0] | (simp only [i64_w, i32_w]; rw [c21b0]) | skip)
      have H' := Aside0.mk H
      clear H
      obtain ⟨Ao22, co22, eo22⟩ := Kd.S_slice HO304.out
      subst eo22
      obtain ⟨Ao23, co23, eo23⟩ := Kd.S_slice HO308.out
      subst eo23
      go_wp2
      repeat (go_quiet (fail); try go_wp2)
      go_meet
      case rel => exact ⟨_, (((t302.length : Int) != (t306.length : Int))), (by first | rfl | (simp; done) | (simp [*]; done)), H', ⟨by have := HJ1.out; first | omega | exact Nat.le_refl _⟩, ⟨by (with_reducible repeat (first | apply Kd.S_alloc | apply Kd.S_drewN | apply Kd.S_drew)); exact Kd.S_mono HO304.out (fun _ hk => hk.2)⟩, ⟨by (with_reducible repeat (first | apply Kd.S_alloc | apply Kd.S_drewN | apply Kd.S_drew)); exact Kd.S_mono HO308.out (fun _ hk => hk.2)⟩, ⟨by (with_reducible repeat (first | apply blk_drewN | apply blk_drew | apply blk_alloc)); exact BK298.out⟩, ⟨by repeat (first | (with_reducible first | exact HB.out | apply below_alloc | apply pw_below_drewN | apply below_drew1 | refine below_set ?_ GE298.out) | exact HB.out)⟩⟩
     ·rw [if_neg c21] at H
      have c21b0 : (t305 == t309) = false := beq_eq_false_iff_ne.mpr c21
      have c21b1 : (t305 != t309) = true := bne_iff_ne.mpr c21
      (first | rw [c21b0] | (simp only [i64_w, i32_w]; rw [c21b0]) | skip)
      have H' := Aside0.mk H
      clear H
      go_wp2
      repeat (go_quiet (fail); try go_wp2)
      go_meet
      case rel => exact ⟨_, (true), (by first | rfl | (simp; done) | (simp [*]; done)), H', ⟨by have := HJ1.out; first | omega | exact Nat.le_refl _⟩, ⟨by (with_reducible repeat (first | apply Kd.S_alloc | apply Kd.S_drewN | apply Kd.S_drew)); exact Kd.S_mono HO304.out (fun _ hk => hk.2)⟩, ⟨by (with_reducible repeat (first | apply Kd.S_alloc | apply Kd.S_drewN | apply Kd.S_drew)); exact Kd.S_mono HO308.out (fun _ hk => hk.2)⟩, ⟨by (with_reducible repeat (first | apply blk_drewN | apply blk_drew | apply blk_alloc)); exact BK298.out⟩, ⟨by repeat (first | (with_reducible first | exact HB.out | apply below_alloc | apply pw_below_drewN | apply below_drew1 | refine below_set ?_ GE298.out) | exact HB.out)⟩⟩
    case rest =>
     clear HC16
     try clear c1
     try clear c2
     try clear p2
     try clear c5
     try clear c6
     try clear c11
     try clear c21
     try clear c21b0
     try clear c21b1
     try clear hcz17_0
     try clear hcz17_1
     try clear hcz19_0
     try clear hcz19_1
     try clear hcz8_0
     try clear hcz8_1
     try clear hfz17_0
     try clear hfz17_1
     try clear hfz19_0
     try clear hfz19_1
     try clear hfz8_0
     try clear hfz8_1
     try clear p2
     obtain ⟨kq, x46_15, rfl, HA, HJ15, HO_3, HO_5, BK298, HB⟩ := hcut
     cases kq with
     | zero => exact absurd HA.out (by simp [ancepslaw57_ApparatusGroups.j1])
     | succ kj15 =>
      have H := HA.out
      clear HA
      simp only [ancepslaw57_ApparatusGroups.j1] at H
      by_cases c24 : x46_15 = true
      ·subst c24
       have H1 : (some false) = some r := by rw [if_pos rfl] at H; exact H
       clear H
       have H := H1
       clear H1
       obtain rfl := Option.some.inj H
       go_wp2
       repeat (go_quiet (fail); try go_wp2)
       go_ret
       exact ⟨by first | rfl | (simp [errW_none, errW_some] <;> rfl) | (simp [*, errW_none, errW_some] <;> rfl), by repeat (first | (with_reducible first | exact HB.out | apply below_alloc | apply pw_below_drewN | apply below_drew1 | refine below_set ?_ GE298.out) | exact HB.out)⟩
      ·replace c24 := Bool.eq_false_iff.mpr c24
       subst c24
       have H1 : (if 0 ≤ (l0_0.length : Int) then (if ((l0_0.length : Int) : Int).toNat ≤ 35184372088832 then (ancepslaw57_ApparatusGroups.l0 kj15 t302 t305 t306 (List.replicate ((l0_0.length : Int) : Int).toNat 0) (t302.length : Int) 0 l0_0 l0_1) else (none)) else (none)) = some r := by rw [if_neg (show ¬ (false = true) by decide)] at H; exact H
       clear H
       have H := H1
       clear H1
       by_cases c25 : 0 ≤ (l0_0.length : Int)
       ·rw [if_pos c25] at H
        have c25b0 := eq_true c25
        have c25b1 : decide (0 ≤ (l0_0.length : Int)) = true := decide_eq_true c25
        clear c25
        by_cases c26 : ((l0_0.length : Int) : Int).toNat ≤ 35184372088832
        ·rw [if_pos c26] at H
         have c26b0 := eq_true c26
         have c26b1 : decide (((l0_0.length : Int) : Int).toNat ≤ 35184372088832) = true := decide_eq_true c26
         clear c26
         obtain ⟨y310, hy310⟩ : ∃ y_ : List Int, y_ = (List.replicate ((l0_0.length : Int) : Int).toNat 0) := ⟨_, rfl⟩
         replace H : (ancepslaw57_ApparatusGroups.l0 kj15 t302 t305 t306 y310 (t302.length : Int) 0 l0_0 l0_1) = some r := by first | (rw [hy310]; with_reducible exact H) | (have H2_ := (Option.bind_some _ _).symm.trans H; rw [hy310]; with_reducible exact H2_) | (have H2_ := (Option.bind_some _ _).symm.trans H; with_reducible exact H2_) | with_reducible exact H | (rw [hy310]; exact H) | exact H
         have Ny310 := Aside0.mk hy310
         clear hy310
         have H' := Aside0.mk H
         clear H
         have hcz27_0 := cZ BK298 0 (.slice A0_0 l0_0.length c0_0)
         have hcz27_1 := cZ BK298 1 (.slice A0_1 l0_1.length c0_1)
         have hfz27_0 := blk_frozen BK298.out 0
         have hfz27_1 := blk_frozen BK298.out 1
         go_wp2_with (first | ((with_reducible refine gate_dst (N := 50) rfl ?_); (try (refine gate_guard (by rfl) ?_; dsimp only)); refine Kd.R_make (Kd.int .i64) _ 3 rfl (N := 50) rfl 52 _ _ rfl (l0_0.length : Int) rfl rfl Try.underlying52 (.int .i64 0) 8 info3 rfl (by decide) (by omega) 0 (ok := fun _ => True) (okp := fun _ => True) rfl (fun _ hk => hk) trivial (of_decide_eq_true (by first | (with_reducible assumption) | assumption)) (Nat.le_trans (Nat.mul_le_mul_right _ (of_decide_eq_true (by first | (with_reducible assumption) | assumption) : (l0_0.length : Int).toNat ≤ 35184372088832)) (by omega)) (Below.refl _ _) (Nat.le_refl _) ?_; intro v311 w28 ho29 hb hg_ hnew_; clear hg_ hnew_; (first | rw [← Ny310.out] at ho29 | (simp only [Int.reduceToNat] at ho29; rw [← Ny310.out] at ho29)); have n0_ := Aside0.mk (Kd.S_below (by (with_reducible repeat (first | apply Kd.S_alloc | apply Kd.S_drewN | apply Kd.S_drew)); exact HO_3.out) hb); have n1_ := Aside0.mk (Kd.S_below (by (with_reducible repeat (first | apply Kd.S_alloc | apply Kd.S_drewN | apply Kd.S_drew)); exact HO_5.out) hb); have n2_ := Aside0.mk (Kd.R_lower ho29 (below_size (iL HB))); have n3_ := jB BK298 hb; have n4_ := jL HB hb; clear HO_3; clear HO_5; clear BK298; clear HB; have HO_3 := n0_; have HO_5 := n1_; have HO312 := n2_; have BK298 := n3_; have HB := n4_; clear n0_ n1_ n2_ n3_ n4_; clear hb ho29; obtain ⟨Ao30, co30, eo30⟩ := Kd.S_slice HO_3.out; subst eo30))
         repeat (go_quiet (first | ((with_reducible refine gate_dst (N := 50) rfl ?_); (try (refine gate_guard (by rfl) ?_; dsimp only)); refine Kd.R_make (Kd.int .i64) _ 3 rfl (N := 50) rfl 52 _ _ rfl (l0_0.length : Int) rfl rfl Try.underlying52 (.int .i64 0) 8 info3 rfl (by decide) (by omega) 0 (ok := fun _ => True) (okp := fun _ => True) rfl (fun _ hk => hk) trivial (of_decide_eq_true (by first | (with_reducible assumption) | assumption)) (Nat.le_trans (Nat.mul_le_mul_right _ (of_decide_eq_true (by first | (with_reducible assumption) | assumption) : (l0_0.length : Int).toNat ≤ 35184372088832)) (by omega)) (Below.refl _ _) (Nat.le_refl _) ?_; intro v311 w28 ho29 hb hg_ hnew_; clear hg_ hnew_; (first | rw [← Ny310.out] at ho29 | (simp only [Int.reduceToNat] at ho29; rw [← Ny310.out] at ho29)); have n0_ := Aside0.mk (Kd.S_below (by (with_reducible repeat (first | apply Kd.S_alloc | apply Kd.S_drewN | apply Kd.S_drew)); exact HO_3.out) hb); have n1_ := Aside0.mk (Kd.S_below (by (with_reducible repeat (first | apply Kd.S_alloc | apply Kd.S_drewN | apply Kd.S_drew)); exact HO_5.out) hb); have n2_ := Aside0.mk (Kd.R_lower ho29 (below_size (iL HB))); have n3_ := jB BK298 hb; have n4_ := jL HB hb; clear HO_3; clear HO_5; clear BK298; clear HB; have HO_3 := n0_; have HO_5 := n1_; have HO312 := n2_; have BK298 := n3_; have HB := n4_; clear n0_ n1_ n2_ n3_ n4_; clear hb ho29; obtain ⟨Ao30, co30, eo30⟩ := Kd.S_slice HO_3.out; subst eo30)); try go_wp2_with (first | ((with_reducible refine gate_dst (N := 50) rfl ?_); (try (refine gate_guard (by rfl) ?_; dsimp only)); refine Kd.R_make (Kd.int .i64) _ 3 rfl (N := 50) rfl 52 _ _ rfl (l0_0.length : Int) rfl rfl Try.underlying52 (.int .i64 0) 8 info3 rfl (by decide) (by omega) 0 (ok := fun _ => True) (okp := fun _ => True) rfl (fun _ hk => hk) trivial (of_decide_eq_true (by first | (with_reducible assumption) | assumption)) (Nat.le_trans (Nat.mul_le_mul_right _ (of_decide_eq_true (by first | (with_reducible assumption) | assumption) : (l0_0.length : Int).toNat ≤ 35184372088832)) (by omega)) (Below.refl _ _) (Nat.le_refl _) ?_; intro v311 w28 ho29 hb hg_ hnew_; clear hg_ hnew_; (first | rw [← Ny310.out] at ho29 | (simp only [Int.reduceToNat] at ho29; rw [← Ny310.out] at ho29)); have n0_ := Aside0.mk (Kd.S_below (by (with_reducible repeat (first | apply Kd.S_alloc | apply Kd.S_drewN | apply Kd.S_drew)); exact HO_3.out) hb); have n1_ := Aside0.mk (Kd.S_below (by (with_reducible repeat (first | apply Kd.S_alloc | apply Kd.S_drewN | apply Kd.S_drew)); exact HO_5.out) hb); have n2_ := Aside0.mk (Kd.R_lower ho29 (below_size (iL HB))); have n3_ := jB BK298 hb; have n4_ := jL HB hb; clear HO_3; clear HO_5; clear BK298; clear HB; have HO_3 := n0_; have HO_5 := n1_; have HO312 := n2_; have BK298 := n3_; have HB := n4_; clear n0_ n1_ n2_ n3_ n4_; clear hb ho29; obtain ⟨Ao30, co30, eo30⟩ := Kd.S_slice HO_3.out; subst eo30)))
         go_loopg [53] kj15 (fun kq v53 w' => ∃ (x50_3 : List Int) (x53_3 : Int), v53 = .int .i64 x53_3 ∧ Aside0 (ancepslaw57_ApparatusGroups.l0 kq t302 t305 t306 x50_3 (t302.length : Int) x53_3 l0_0 l0_1 = some r) ∧ Aside0 (kq ≤ kj15) ∧ Aside0 (Kd.S (Kd.slice 9 Kd.string) 34 w' w.heap.size (fun k_ => some k_ ≠ (v307 : Value).ownBlock) (.slice Ao30 t302.length co30) t302) ∧ Aside0 (Kd.S (Kd.slice 9 Kd.string) 34 w' w.heap.size (fun k_ => some k_ ≠ ((.slice Ao30 t302.length co30) : Value).ownBlock) v307 t306) ∧ Aside0 (Kd.R (Kd.int .i64) 3 w' w.heap.size (fun _ => True) v311 x50_3) ∧ Aside0 (w'.heap[gb298]? = some (.cells #[(.slice A0_0 l0_0.length c0_0), (.slice A0_1 l0_1.length c0_1)] 42 (0, 0))) ∧ Aside0 (Below w.heap.size w w'))
         case atStart => exact ⟨(y310), (0), (by first | rfl | (simp; done) | (simp [*]; done)), H', ⟨Nat.le_refl _⟩, ⟨by (with_reducible repeat (first | apply Kd.S_alloc | apply Kd.S_drewN | apply Kd.S_drew)); exact HO_3.out⟩, ⟨by (with_reducible repeat (first | apply Kd.S_alloc | apply Kd.S_drewN | apply Kd.S_drew)); exact HO_5.out⟩, ⟨by (with_reducible repeat (first | apply Kd.R_alloc | apply Kd.R_drewN | apply Kd.R_drew)); exact HO312.out⟩, ⟨by (with_reducible repeat (first | apply blk_drewN | apply blk_drew | apply blk_alloc)); exact BK298.out⟩, ⟨by repeat (first | (with_reducible first | exact HB.out | apply below_alloc | apply pw_below_drewN | apply below_drew1 | refine below_set ?_ GE298.out) | exact HB.out)⟩⟩
         case round =>
          clear H'
          try clear c1
          try clear c2
          try clear p2
          try clear c5
          try clear c6
          try clear c11
          try clear c21
          try clear c21b0
          try clear c21b1
          try clear c24
          try clear c25
          try clear c25b0
          try clear c25b1
          try clear c26
          try clear c26b0
          try clear c26b1
          try clear hcz17_0
          try clear hcz17_1
          try clear hcz19_0
          try clear hcz19_1
          try clear hcz27_0
          try clear hcz27_1
          try clear hcz8_0
          try clear hcz8_1
          try clear hfz17_0
          try clear hfz17_1
          try clear hfz19_0
          try clear hfz19_1
          try clear hfz27_0
          try clear hfz27_1
          try clear hfz8_0
          try clear hfz8_1
          try clear p2
          obtain ⟨x50_3, x53_3, rfl, HA, HK3, HO_3, HO_5, HO_50, BK298, HB⟩ := hrel
          cases gk with
          | zero => exact absurd HA.out (by simp [ancepslaw57_ApparatusGroups.l0])
          | succ k3 =>
           have H := HA.out
           clear HA
           simp only [ancepslaw57_ApparatusGroups.l0] at H
           by_cases c31 : x53_3 < (t302.length : Int)
           ·rw [if_pos c31] at H
            have c31b0 : decide (x53_3 < (t302.length : Int)) = true := decide_eq_true c31
            clear c31
            by_cases c32 : 0 ≤ x53_3
            ·rw [if_pos c32] at H
             have c32b0 : decide (0 ≤ x53_3) = true := decide_eq_true c32
             clear c32
             by_cases c33 : x53_3 < (t302.length : Int)
             ·rw [if_pos c33] at H
              have c33b0 : decide (x53_3 < (t302.length : Int)) = true := decide_eq_true c33
              clear c33
              by_cases c34 : x53_3 < (t306.length : Int)
              ·rw [if_pos c34] at H
               have c34b0 : decide (x53_3 < (t306.length : Int)) = true := decide_eq_true c34
               clear c34
               replace H := Option.bind_eq_some_iff.mp H
               obtain ⟨t315, A350, H⟩ := H
               try dsimp only at H
               have A35 := Aside0.mk A350
               clear A350
               by_cases c36 : t315 = true
               ·subst c36
                have H1 : (ancepslaw57_ApparatusGroups.l1 k3 t302 t305 t306 x53_3 x50_3 (t302.length : Int) x53_3 (rd_L8 t302 x53_3) ((rd_L8 t302 x53_3).length : Int) 0 l0_0 l0_1) = some r := by rw [if_pos rfl] at H; exact H
                clear H
                have H := H1
                clear H1
                have H' := Aside0.mk H
                clear H
                have p313 : 0 ≤ (x53_3 : Int) := of_decide_eq_true (by first | (with_reducible assumption) | assumption)
                have q313 : x53_3 < (t302.length : Int) := of_decide_eq_true (by first | (with_reducible assumption) | assumption)
                obtain ⟨ad313, A313_0, c313_0, e313, hx313_0, hl313_0, hi313_0⟩ := at_L8 (Kd.S_reads' HO_3.out).2.2 x53_3 p313 q313
                cases e313
                obtain ⟨ce313, hce313, hMe313, hcc313⟩ := Kd.S_get HO_3.out [] x53_3 p313 (by first | exact q313 | exact of_decide_eq_true (by first | (with_reducible assumption) | assumption) | (have e_ := (Kd.S_reads' HO_3.out).1; omega))
                obtain ⟨ve313_0, rfl, ge313_0⟩ := hMe313
                have hv313_0 := hcc313 0 _ rfl
                rw [Nat.add_zero, show ((Kd.slice 9 Kd.string)).sz = 1 from rfl, Nat.mul_one] at hv313_0
                replace hv313_0 := Option.some.inj (hv313_0.symm.trans hx313_0)
                rw [hv313_0] at ge313_0
                have HL313_0 := Aside0.mk (show Kd.R Kd.string 9 _ _ _ _ (rd_L8 t302 x53_3) from ge313_0)
                clear hv313_0 ge313_0
                clear hcc313 hce313
                have HR313_0 := Aside0.mk hi313_0
                have HC313_0 := Aside0.mk hl313_0
                clear hi313_0 hl313_0
                replace p313 := eq_true p313
                replace q313 := eq_true q313
                obtain ⟨Ao37, co37, eo37⟩ := Kd.S_slice HO_5.out
                subst eo37
                have p314 : 0 ≤ (x53_3 : Int) := of_decide_eq_true (by first | (with_reducible assumption) | assumption)
                have q314 : x53_3 < (t306.length : Int) := of_decide_eq_true (by first | (with_reducible assumption) | assumption)
                obtain ⟨ad314, A314_0, c314_0, e314, hx314_0, hl314_0, hi314_0⟩ := at_L8 (Kd.S_reads' HO_5.out).2.2 x53_3 p314 q314
                cases e314
                obtain ⟨ce314, hce314, hMe314, hcc314⟩ := Kd.S_get HO_5.out [] x53_3 p314 (by first | exact q314 | exact of_decide_eq_true (by first | (with_reducible assumption) | assumption) | (have e_ := (Kd.S_reads' HO_5.out).1; omega))
                obtain ⟨ve314_0, rfl, ge314_0⟩ := hMe314
                have hv314_0 := hcc314 0 _ rfl
                rw [Nat.add_zero, show ((Kd.slice 9 Kd.string)).sz = 1 from rfl, Nat.mul_one] at hv314_0
                replace hv314_0 := Option.some.inj (hv314_0.symm.trans hx314_0)
                rw [hv314_0] at ge314_0
                have HL314_0 := Aside0.mk (show Kd.R Kd.string 9 _ _ _ _ (rd_L8 t306 x53_3) from ge314_0)
                clear hv314_0 ge314_0
                clear hcc314 hce314
                have HR314_0 := Aside0.mk hi314_0
                have HC314_0 := Aside0.mk hl314_0
                clear hi314_0 hl314_0
                replace p314 := eq_true p314
                replace q314 := eq_true q314
                go_wp2_with (first | (go_at_call 21; (with_reducible refine (ancepsref01_Equal.calls k3 _ _ (rd_L8 t302 x53_3) _ _ (rd_L8 t306 x53_3) true _ ?side1 ?side2 ?side3 ?side4 A35.out).mono ?_); (case side1 => repeat (first | exact (by repeat (first | (with_reducible exact HR313_0.out) | (with_reducible refine Kd.C_alloc ?_ _) | (with_reducible refine Kd.C_drewN ?_ _) | (with_reducible refine Kd.C_drew ?_) | exact HR313_0.out)) | (with_reducible refine Kd.C_alloc ?_ _) | (with_reducible refine Kd.C_drewN ?_ _) | (with_reducible refine Kd.C_drew ?_))); (case side2 => exact HC313_0.out); (case side3 => repeat (first | exact (by repeat (first | (with_reducible exact HR314_0.out) | (with_reducible refine Kd.C_alloc ?_ _) | (with_reducible refine Kd.C_drewN ?_ _) | (with_reducible refine Kd.C_drew ?_) | exact HR314_0.out)) | (with_reducible refine Kd.C_alloc ?_ _) | (with_reducible refine Kd.C_drewN ?_ _) | (with_reducible refine Kd.C_drew ?_))); (case side4 => exact HC314_0.out); rintro e w' ⟨rfl, ⟨nd, rfl⟩⟩; (try first | exact ⟨rfl, _, World.drewN_drewN _ _ _⟩ | exact ⟨rfl, _, Eq.trans (World.drewN_drewN _ _ _) (congrArg (World.drewN _) (Nat.add_assoc _ _ _))⟩)))
                repeat (go_quiet (first | (go_at_call 21; (with_reducible refine (ancepsref01_Equal.calls k3 _ _ (rd_L8 t302 x53_3) _ _ (rd_L8 t306 x53_3) true _ ?side1 ?side2 ?side3 ?side4 A35.out).mono ?_); (case side1 => repeat (first | exact (by repeat (first | (with_reducible exact HR313_0.out) | (with_reducible refine Kd.C_alloc ?_ _) | (with_reducible refine Kd.C_drewN ?_ _) | (with_reducible refine Kd.C_drew ?_) | exact HR313_0.out)) | (with_reducible refine Kd.C_alloc ?_ _) | (with_reducible refine Kd.C_drewN ?_ _) | (with_reducible refine Kd.C_drew ?_))); (case side2 => exact HC313_0.out); (case side3 => repeat (first | exact (by repeat (first | (with_reducible exact HR314_0.out) | (with_reducible refine Kd.C_alloc ?_ _) | (with_reducible refine Kd.C_drewN ?_ _) | (with_reducible refine Kd.C_drew ?_) | exact HR314_0.out)) | (with_reducible refine Kd.C_alloc ?_ _) | (with_reducible refine Kd.C_drewN ?_ _) | (with_reducible refine Kd.C_drew ?_))); (case side4 => exact HC314_0.out); (try clear A35); rintro e w' ⟨rfl, ⟨nd, rfl⟩⟩; (try first | exact ⟨rfl, _, World.drewN_drewN _ _ _⟩ | exact ⟨rfl, _, Eq.trans (World.drewN_drewN _ _ _) (congrArg (World.drewN _) (Nat.add_assoc _ _ _))⟩))); try go_wp2_with (first | (go_at_call 21; (with_reducible refine (ancepsref01_Equal.calls k3 _ _ (rd_L8 t302 x53_3) _ _ (rd_L8 t306 x53_3) true _ ?side1 ?side2 ?side3 ?side4 A35.out).mono ?_); (case side1 => repeat (first | exact (by repeat (first | (with_reducible exact HR313_0.out) | (with_reducible refine Kd.C_alloc ?_ _) | (with_reducible refine Kd.C_drewN ?_ _) | (with_reducible refine Kd.C_drew ?_) | exact HR313_0.out)) | (with_reducible refine Kd.C_alloc ?_ _) | (with_reducible refine Kd.C_drewN ?_ _) | (with_reducible refine Kd.C_drew ?_))); (case side2 => exact HC313_0.out); (case side3 => repeat (first | exact (by repeat (first | (with_reducible exact HR314_0.out) | (with_reducible refine Kd.C_alloc ?_ _) | (with_reducible refine Kd.C_drewN ?_ _) | (with_reducible refine Kd.C_drew ?_) | exact HR314_0.out)) | (with_reducible refine Kd.C_alloc ?_ _) | (with_reducible refine Kd.C_drewN ?_ _) | (with_reducible refine Kd.C_drew ?_))); (case side4 => exact HC314_0.out); (try clear A35); rintro e w' ⟨rfl, ⟨nd, rfl⟩⟩; (try first | exact ⟨rfl, _, World.drewN_drewN _ _ _⟩ | exact ⟨rfl, _, Eq.trans (World.drewN_drewN _ _ _) (congrArg (World.drewN _) (Nat.add_assoc _ _ _))⟩))))
                go_loopg [67] k3 (fun kq v67 w' => ∃ (x50_4 : List Int) (x67_4 : Int), v67 = .int .i64 x67_4 ∧ Aside0 (ancepslaw57_ApparatusGroups.l1 kq t302 t305 t306 x53_3 x50_4 (t302.length : Int) x53_3 (rd_L8 t302 x53_3) ((rd_L8 t302 x53_3).length : Int) x67_4 l0_0 l0_1 = some r) ∧ Aside0 (kq ≤ k3) ∧ Aside0 (Kd.S (Kd.slice 9 Kd.string) 34 w' w.heap.size (fun k_ => some k_ ≠ ((.slice (some ad314) t306.length co37) : Value).ownBlock) (.slice (some ad313) t302.length co30) t302) ∧ Aside0 (Kd.S (Kd.slice 9 Kd.string) 34 w' w.heap.size (fun k_ => some k_ ≠ ((.slice (some ad313) t302.length co30) : Value).ownBlock) (.slice (some ad314) t306.length co37) t306) ∧ Aside0 (Kd.R (Kd.int .i64) 3 w' w.heap.size (fun _ => True) v311 x50_4) ∧ Aside0 (w'.heap[gb298]? = some (.cells #[(.slice A0_0 l0_0.length c0_0), (.slice A0_1 l0_1.length c0_1)] 42 (0, 0))) ∧ Aside0 (Below w.heap.size w w') ∧ Aside0 (Kd.R Kd.string 9 w' w.heap.size (fun _ => True) (.slice A313_0 (rd_L8 t302 x53_3).length c313_0) (rd_L8 t302 x53_3)))
                case atStart => exact ⟨(x50_3), (0), (by first | rfl | (simp; done) | (simp [*]; done)), H', ⟨Nat.le_refl _⟩, ⟨by (with_reducible repeat (first | apply Kd.S_alloc | apply Kd.S_drewN | apply Kd.S_drew)); exact HO_3.out⟩, ⟨by (with_reducible repeat (first | apply Kd.S_alloc | apply Kd.S_drewN | apply Kd.S_drew)); exact HO_5.out⟩, ⟨by (with_reducible repeat (first | apply Kd.R_alloc | apply Kd.R_drewN | apply Kd.R_drew)); exact HO_50.out⟩, ⟨by (with_reducible repeat (first | apply blk_drewN | apply blk_drew | apply blk_alloc)); exact BK298.out⟩, ⟨by repeat (first | (with_reducible first | exact HB.out | apply below_alloc | apply pw_below_drewN | apply below_drew1 | refine below_set ?_ GE298.out) | exact HB.out)⟩, ⟨by (with_reducible repeat (first | apply Kd.R_alloc | apply Kd.R_drewN | apply Kd.R_drew)); exact Kd.R_mono HL313_0.out (fun _ _ => trivial)⟩⟩
                case round =>
                 clear H'
                 try clear c1
                 try clear c2
                 try clear p2
                 try clear c3
                 try clear p3
                 try clear q3
                 try clear hx3
                 try clear c5
                 try clear c6
                 try clear c11
                 try clear c21
                 try clear c21b0
                 try clear c21b1
                 try clear c24
                 try clear c25
                 try clear c25b0
                 try clear c25b1
                 try clear c26
                 try clear c26b0
                 try clear c26b1
                 try clear c31
                 try clear c31b0
                 try clear p31
                 try clear q31
                 try clear hx31
                 try clear c32
                 try clear c32b0
                 try clear c33
                 try clear c33b0
                 try clear c34
                 try clear c34b0
                 try clear c36
                 try clear hcz17_0
                 try clear hcz17_1
                 try clear hcz19_0
                 try clear hcz19_1
                 try clear hcz27_0
                 try clear hcz27_1
                 try clear hcz8_0
                 try clear hcz8_1
                 try clear hfz17_0
                 try clear hfz17_1
                 try clear hfz19_0
                 try clear hfz19_1
                 try clear hfz27_0
                 try clear hfz27_1
                 try clear hfz8_0
                 try clear hfz8_1
                 try clear hx313_0
                 try clear hx314_0
                 try clear p2
                 try clear p313
                 try clear p314
                 try clear q313
                 try clear q314
                 obtain ⟨x50_4, x67_4, rfl, HA, HK4, HO_3, HO_5, HO_50, BK298, HB, HG_⟩ := hrel
                 cases gk with
                 | zero => exact absurd HA.out (by simp [ancepslaw57_ApparatusGroups.l1])
                 | succ k4 =>
                  have H := HA.out
                  clear HA
                  simp only [ancepslaw57_ApparatusGroups.l1] at H
                  by_cases c38 : x67_4 < ((rd_L8 t302 x53_3).length : Int)
                  ·rw [if_pos c38] at H
                   have c38b0 : decide (x67_4 < ((rd_L8 t302 x53_3).length : Int)) = true := decide_eq_true c38
                   clear c38
                   by_cases c39 : 0 ≤ x67_4
                   ·rw [if_pos c39] at H
                    have c39b0 : decide (0 ≤ x67_4) = true := decide_eq_true c39
                    clear c39
                    by_cases c40 : x67_4 < ((rd_L8 t302 x53_3).length : Int)
                    ·rw [if_pos c40] at H
                     have c40b0 : decide (x67_4 < ((rd_L8 t302 x53_3).length : Int)) = true := decide_eq_true c40
                     clear c40
                     replace H := Option.bind_eq_some_iff.mp H
                     obtain ⟨t317, A410, H⟩ := H
                     try dsimp only at H
                     have A41 := Aside0.mk A410
                     clear A410
                     by_cases c42 : t317 ≥ 0
                     ·rw [if_pos c42] at H
                      have c42b0 : decide (0 ≤ t317) = true := decide_eq_true c42
                      clear c42
                      by_cases c43 : 0 ≤ t317
                      ·rw [if_pos c43] at H
                       have c43b0 : decide (0 ≤ t317) = true := decide_eq_true c43
                       clear c43
                       by_cases c44 : t317 < (x50_4.length : Int)
                       ·rw [if_pos c44] at H
                        have c44b0 : decide (t317 < (x50_4.length : Int)) = true := decide_eq_true c44
                        clear c44
                        obtain ⟨y318, hy318⟩ : ∃ y_ : List Int, y_ = (x50_4.set (t317 : Int).toNat (wrap64 (x53_3 + 1))) := ⟨_, rfl⟩
                        replace H : (ancepslaw57_ApparatusGroups.l1 k4 t302 t305 t306 x53_3 y318 (t302.length : Int) x53_3 (rd_L8 t302 x53_3) ((rd_L8 t302 x53_3).length : Int) (wrap64 (x67_4 + 1)) l0_0 l0_1) = some r := by first | (rw [hy318]; with_reducible exact H) | (have H2_ := (Option.bind_some _ _).symm.trans H; rw [hy318]; with_reducible exact H2_) | (have H2_ := (Option.bind_some _ _).symm.trans H; with_reducible exact H2_) | with_reducible exact H | (rw [hy318]; exact H) | exact H
                        have Ny318 := Aside0.mk hy318
                        clear hy318
                        have H' := Aside0.mk H
                        clear H
                        have p316 : 0 ≤ (x67_4 : Int) := of_decide_eq_true (by first | (with_reducible assumption) | assumption)
                        have q316 : x67_4 < ((rd_L8 t302 x53_3).length : Int) := of_decide_eq_true (by first | (with_reducible assumption) | assumption)
                        obtain ⟨ad316, e316, hx316_0⟩ := Kd.at_string (Kd.R_reads' HG_.out).2.2 x67_4 p316 q316
                        cases e316
                        skip
                        replace p316 := eq_true p316
                        replace q316 := eq_true q316
                        have hcz46_0 := cZ BK298 0 (.slice A0_0 l0_0.length c0_0)
                        have hcz46_1 := cZ BK298 1 (.slice A0_1 l0_1.length c0_1)
                        have hfz46_0 := blk_frozen BK298.out 0
                        have hfz46_1 := blk_frozen BK298.out 1
                        go_wp2_with (first | (go_at_call 25; (with_reducible refine (slices_Index_string_string.calls k4 _ _ l0_0 (rdOf ByteArray.empty (rd_L8 t302 x53_3) x67_4) t317 _ ?side1 ?side2 A41.out).mono ?_); (case side1 => exact iC HR0_0 HB); (case side2 => exact HC0_0.out); rintro e w' ⟨rfl, ⟨nd, rfl⟩⟩; (try first | exact ⟨rfl, _, World.drewN_drewN _ _ _⟩ | exact ⟨rfl, _, Eq.trans (World.drewN_drewN _ _ _) (congrArg (World.drewN _) (Nat.add_assoc _ _ _))⟩); have p45 : 0 ≤ (t317 : Int) := of_decide_eq_true (by first | (with_reducible assumption) | assumption); have q45 : (t317 : Int) < ((x50_4.length : Int) : Int) := of_decide_eq_true (by first | (with_reducible assumption) | assumption); obtain ⟨go45, co45, eo45, gb45, gl45, cl45, HG45⟩ := Kd.R_form HO_50.out (by omega); (first | cases eo45 | (injection eo45 with ea_ en_ ec_; (first | subst ea_ | (injection ea_ with ea_; subst ea_)); subst ec_; clear en_)); have GB45 := Aside0.mk gb45; have GG45 := Aside0.mk HG45; clear gb45 gl45 HG45; obtain ⟨hx45_0, hf45_0⟩ := Kd.R_celln 0 HO_50.out (t317 : Int) p45 q45; replace p45 := eq_true p45; replace q45 := eq_true q45; obtain ⟨hy47_, hz47_⟩ := Kd.R_celln 0 HO_50.out (t317 : Int) (of_decide_eq_true (by first | (with_reducible assumption) | assumption)) (of_decide_eq_true (by first | (with_reducible assumption) | assumption)); have HP47 := Kd.R_putg HO_50.out (t317 : Int) (wrap64 (x53_3 + 1)); (try (obtain ⟨hx45_0, hf45_0⟩ := Kd.R_celln 0 HO_50.out (t317 : Int) (by first | omega | exact of_eq_true p45) (by first | omega | exact of_eq_true q45)))) | ((with_reducible refine gate_store (t := 3) (p := 81) rfl ?_); (try (rw [drewN_self wr]; generalize hq_ : World.drewN wr _ = wr; have n0_ := Aside0.mk (Kd.S_at hq_ HO_3.out); have n1_ := Aside0.mk (Kd.S_at hq_ HO_5.out); have n2_ := Aside0.mk (Kd.R_at hq_ HO_50.out); have n3_ := Aside0.mk (blk_at hq_ BK298.out); have n4_ := Aside0.mk (below_at hq_ HB.out); have HG2_ := Aside0.mk (Kd.R_at hq_ HG_.out); clear hq_ HG_ HO_3 HO_5 HO_50 BK298 HB; have HO_3 := n0_; have HO_5 := n1_; have HO_50 := n2_; have BK298 := n3_; have HG_ := HG2_; clear HG2_; have HB := n4_; clear n0_ n1_ n2_ n3_ n4_; (try (obtain ⟨hy47_, hz47_⟩ := Kd.R_celln 0 HO_50.out (t317 : Int) (of_decide_eq_true (by first | (with_reducible assumption) | assumption)) (of_decide_eq_true (by first | (with_reducible assumption) | assumption)))); (try (have HP47 := Kd.R_putg HO_50.out (t317 : Int) (wrap64 (x53_3 + 1)))); (try (try (obtain ⟨hx45_0, hf45_0⟩ := Kd.R_celln 0 HO_50.out (t317 : Int) (by first | omega | exact of_eq_true p45) (by first | omega | exact of_eq_true q45)))))); refine store_event (t := 3) (p := 81) (v := ?vo_w48) (w1 := (wr.setCell ⟨go45, (t317 : Int).toNat, none⟩ (.int .i64 (wrap64 (x53_3 + 1))))) ?hg ?ho ?hn ?hr ?_; (case ho => rfl); (case hg => rfl); (case hn => rfl); (case hr => first | (go_simp; done) | (go_simp; rfl)); intro w48 hw; have hg : wr.grownBy w48 (some go45) := (by rw [hw]; exact HP47.2); have hp_ : Kd.R (Kd.int .i64) 3 w48 w.heap.size (fun _ => True) (.slice (some ⟨go45, 0, none⟩) x50_4.length co45) y318 := (by rw [hw, Ny318.out]; exact HP47.1); clear HP47; have n0_ := Aside0.mk (Kd.S_over' (v := (.slice (some ⟨go45, 0, none⟩) x50_4.length co45)) (by (with_reducible repeat (first | apply Kd.S_alloc | apply Kd.S_drewN | apply Kd.S_drew)); exact HO_3.out) (Kd.R_typed HO_50.out) (by decide) hg); have n1_ := Aside0.mk (Kd.S_over' (v := (.slice (some ⟨go45, 0, none⟩) x50_4.length co45)) (by (with_reducible repeat (first | apply Kd.S_alloc | apply Kd.S_drewN | apply Kd.S_drew)); exact HO_5.out) (Kd.R_typed HO_50.out) (by decide) hg); have HG2_ := Aside0.mk (Kd.R_over' (v := (.slice (some ⟨go45, 0, none⟩) x50_4.length co45)) (by (with_reducible repeat (first | apply Kd.R_alloc | apply Kd.R_drewN | apply Kd.R_drew)); exact HG_.out) (Kd.R_typed HO_50.out) (by decide) hg); clear HG_; have HG_ := HG2_; clear HG2_; have n2_ := Aside0.mk (hp_); have n3_ := Aside0.mk (blk_grown (g := gb298) (o := .cells #[.slice A0_0 l0_0.length c0_0, .slice A0_1 l0_1.length c0_1] 42 (0, 0)) (iB BK298) hg (Kd.R_ne HO_50.out BK298.out (by decide))); have n4_ := Aside0.mk ((by rw [hw]; exact below_set (HB.out) GB45.out : Below w.heap.size w w48)); clear HO_3; clear HO_5; clear HO_50; clear BK298; clear HB; have HO_3 := n0_; have HO_5 := n1_; have HO_50 := n2_; have BK298 := n3_; have HB := n4_; clear n0_ n1_ n2_ n3_ n4_; clear hg hw hp_))
                        repeat (go_quiet (first | (go_at_call 25; (with_reducible refine (slices_Index_string_string.calls k4 _ _ l0_0 (rdOf ByteArray.empty (rd_L8 t302 x53_3) x67_4) t317 _ ?side1 ?side2 A41.out).mono ?_); (case side1 => exact iC HR0_0 HB); (case side2 => exact HC0_0.out); (try clear A41); rintro e w' ⟨rfl, ⟨nd, rfl⟩⟩; (try first | exact ⟨rfl, _, World.drewN_drewN _ _ _⟩ | exact ⟨rfl, _, Eq.trans (World.drewN_drewN _ _ _) (congrArg (World.drewN _) (Nat.add_assoc _ _ _))⟩); have p45 : 0 ≤ (t317 : Int) := of_decide_eq_true (by first | (with_reducible assumption) | assumption); have q45 : (t317 : Int) < ((x50_4.length : Int) : Int) := of_decide_eq_true (by first | (with_reducible assumption) | assumption); obtain ⟨go45, co45, eo45, gb45, gl45, cl45, HG45⟩ := Kd.R_form HO_50.out (by omega); (first | cases eo45 | (injection eo45 with ea_ en_ ec_; (first | subst ea_ | (injection ea_ with ea_; subst ea_)); subst ec_; clear en_)); have GB45 := Aside0.mk gb45; have GG45 := Aside0.mk HG45; clear gb45 gl45 HG45; obtain ⟨hx45_0, hf45_0⟩ := Kd.R_celln 0 HO_50.out (t317 : Int) p45 q45; replace p45 := eq_true p45; replace q45 := eq_true q45; obtain ⟨hy47_, hz47_⟩ := Kd.R_celln 0 HO_50.out (t317 : Int) (of_decide_eq_true (by first | (with_reducible assumption) | assumption)) (of_decide_eq_true (by first | (with_reducible assumption) | assumption)); have HP47 := Kd.R_putg HO_50.out (t317 : Int) (wrap64 (x53_3 + 1)); (try (obtain ⟨hx45_0, hf45_0⟩ := Kd.R_celln 0 HO_50.out (t317 : Int) (by first | omega | exact of_eq_true p45) (by first | omega | exact of_eq_true q45)))) | ((with_reducible refine gate_store (t := 3) (p := 81) rfl ?_); (try (rw [drewN_self wr]; generalize hq_ : World.drewN wr _ = wr; have n0_ := Aside0.mk (Kd.S_at hq_ HO_3.out); have n1_ := Aside0.mk (Kd.S_at hq_ HO_5.out); have n2_ := Aside0.mk (Kd.R_at hq_ HO_50.out); have n3_ := Aside0.mk (blk_at hq_ BK298.out); have n4_ := Aside0.mk (below_at hq_ HB.out); have HG2_ := Aside0.mk (Kd.R_at hq_ HG_.out); clear hq_ HG_ HO_3 HO_5 HO_50 BK298 HB; have HO_3 := n0_; have HO_5 := n1_; have HO_50 := n2_; have BK298 := n3_; have HG_ := HG2_; clear HG2_; have HB := n4_; clear n0_ n1_ n2_ n3_ n4_; (try (obtain ⟨hy47_, hz47_⟩ := Kd.R_celln 0 HO_50.out (t317 : Int) (of_decide_eq_true (by first | (with_reducible assumption) | assumption)) (of_decide_eq_true (by first | (with_reducible assumption) | assumption)))); (try (have HP47 := Kd.R_putg HO_50.out (t317 : Int) (wrap64 (x53_3 + 1)))); (try (try (obtain ⟨hx45_0, hf45_0⟩ := Kd.R_celln 0 HO_50.out (t317 : Int) (by first | omega | exact of_eq_true p45) (by first | omega | exact of_eq_true q45)))))); refine store_event (t := 3) (p := 81) (v := ?vo_w48) (w1 := (wr.setCell ⟨go45, (t317 : Int).toNat, none⟩ (.int .i64 (wrap64 (x53_3 + 1))))) ?hg ?ho ?hn ?hr ?_; (case ho => rfl); (case hg => rfl); (case hn => rfl); (case hr => first | (go_simp; done) | (go_simp; rfl)); intro w48 hw; have hg : wr.grownBy w48 (some go45) := (by rw [hw]; exact HP47.2); have hp_ : Kd.R (Kd.int .i64) 3 w48 w.heap.size (fun _ => True) (.slice (some ⟨go45, 0, none⟩) x50_4.length co45) y318 := (by rw [hw, Ny318.out]; exact HP47.1); clear HP47; have n0_ := Aside0.mk (Kd.S_over' (v := (.slice (some ⟨go45, 0, none⟩) x50_4.length co45)) (by (with_reducible repeat (first | apply Kd.S_alloc | apply Kd.S_drewN | apply Kd.S_drew)); exact HO_3.out) (Kd.R_typed HO_50.out) (by decide) hg); have n1_ := Aside0.mk (Kd.S_over' (v := (.slice (some ⟨go45, 0, none⟩) x50_4.length co45)) (by (with_reducible repeat (first | apply Kd.S_alloc | apply Kd.S_drewN | apply Kd.S_drew)); exact HO_5.out) (Kd.R_typed HO_50.out) (by decide) hg); have HG2_ := Aside0.mk (Kd.R_over' (v := (.slice (some ⟨go45, 0, none⟩) x50_4.length co45)) (by (with_reducible repeat (first | apply Kd.R_alloc | apply Kd.R_drewN | apply Kd.R_drew)); exact HG_.out) (Kd.R_typed HO_50.out) (by decide) hg); clear HG_; have HG_ := HG2_; clear HG2_; have n2_ := Aside0.mk (hp_); have n3_ := Aside0.mk (blk_grown (g := gb298) (o := .cells #[.slice A0_0 l0_0.length c0_0, .slice A0_1 l0_1.length c0_1] 42 (0, 0)) (iB BK298) hg (Kd.R_ne HO_50.out BK298.out (by decide))); have n4_ := Aside0.mk ((by rw [hw]; exact below_set (HB.out) GB45.out : Below w.heap.size w w48)); clear HO_3; clear HO_5; clear HO_50; clear BK298; clear HB; have HO_3 := n0_; have HO_5 := n1_; have HO_50 := n2_; have BK298 := n3_; have HB := n4_; clear n0_ n1_ n2_ n3_ n4_; clear hg hw hp_)); try go_wp2_with (first | (go_at_call 25; (with_reducible refine (slices_Index_string_string.calls k4 _ _ l0_0 (rdOf ByteArray.empty (rd_L8 t302 x53_3) x67_4) t317 _ ?side1 ?side2 A41.out).mono ?_); (case side1 => exact iC HR0_0 HB); (case side2 => exact HC0_0.out); (try clear A41); rintro e w' ⟨rfl, ⟨nd, rfl⟩⟩; (try first | exact ⟨rfl, _, World.drewN_drewN _ _ _⟩ | exact ⟨rfl, _, Eq.trans (World.drewN_drewN _ _ _) (congrArg (World.drewN _) (Nat.add_assoc _ _ _))⟩); have p45 : 0 ≤ (t317 : Int) := of_decide_eq_true (by first | (with_reducible assumption) | assumption); have q45 : (t317 : Int) < ((x50_4.length : Int) : Int) := of_decide_eq_true (by first | (with_reducible assumption) | assumption); obtain ⟨go45, co45, eo45, gb45, gl45, cl45, HG45⟩ := Kd.R_form HO_50.out (by omega); (first | cases eo45 | (injection eo45 with ea_ en_ ec_; (first | subst ea_ | (injection ea_ with ea_; subst ea_)); subst ec_; clear en_)); have GB45 := Aside0.mk gb45; have GG45 := Aside0.mk HG45; clear gb45 gl45 HG45; obtain ⟨hx45_0, hf45_0⟩ := Kd.R_celln 0 HO_50.out (t317 : Int) p45 q45; replace p45 := eq_true p45; replace q45 := eq_true q45; obtain ⟨hy47_, hz47_⟩ := Kd.R_celln 0 HO_50.out (t317 : Int) (of_decide_eq_true (by first | (with_reducible assumption) | assumption)) (of_decide_eq_true (by first | (with_reducible assumption) | assumption)); have HP47 := Kd.R_putg HO_50.out (t317 : Int) (wrap64 (x53_3 + 1)); (try (obtain ⟨hx45_0, hf45_0⟩ := Kd.R_celln 0 HO_50.out (t317 : Int) (by first | omega | exact of_eq_true p45) (by first | omega | exact of_eq_true q45)))) | ((with_reducible refine gate_store (t := 3) (p := 81) rfl ?_); (try (rw [drewN_self wr]; generalize hq_ : World.drewN wr _ = wr; have n0_ := Aside0.mk (Kd.S_at hq_ HO_3.out); have n1_ := Aside0.mk (Kd.S_at hq_ HO_5.out); have n2_ := Aside0.mk (Kd.R_at hq_ HO_50.out); have n3_ := Aside0.mk (blk_at hq_ BK298.out); have n4_ := Aside0.mk (below_at hq_ HB.out); clear hq_ HO_3 HO_5 HO_50 BK298 HB; have HO_3 := n0_; have HO_5 := n1_; have HO_50 := n2_; have BK298 := n3_; have HB := n4_; clear n0_ n1_ n2_ n3_ n4_; (try (obtain ⟨hy47_, hz47_⟩ := Kd.R_celln 0 HO_50.out (t317 : Int) (of_decide_eq_true (by first | (with_reducible assumption) | assumption)) (of_decide_eq_true (by first | (with_reducible assumption) | assumption)))); (try (have HP47 := Kd.R_putg HO_50.out (t317 : Int) (wrap64 (x53_3 + 1)))); (try (try (obtain ⟨hx45_0, hf45_0⟩ := Kd.R_celln 0 HO_50.out (t317 : Int) (by first | omega | exact of_eq_true p45) (by first | omega | exact of_eq_true q45)))))); refine store_event (t := 3) (p := 81) (v := ?vo_w48) (w1 := (wr.setCell ⟨go45, (t317 : Int).toNat, none⟩ (.int .i64 (wrap64 (x53_3 + 1))))) ?hg ?ho ?hn ?hr ?_; (case ho => rfl); (case hg => rfl); (case hn => rfl); (case hr => first | (go_simp; done) | (go_simp; rfl)); intro w48 hw; have hg : wr.grownBy w48 (some go45) := (by rw [hw]; exact HP47.2); have hp_ : Kd.R (Kd.int .i64) 3 w48 w.heap.size (fun _ => True) (.slice (some ⟨go45, 0, none⟩) x50_4.length co45) y318 := (by rw [hw, Ny318.out]; exact HP47.1); clear HP47; have n0_ := Aside0.mk (Kd.S_over' (v := (.slice (some ⟨go45, 0, none⟩) x50_4.length co45)) (by (with_reducible repeat (first | apply Kd.S_alloc | apply Kd.S_drewN | apply Kd.S_drew)); exact HO_3.out) (Kd.R_typed HO_50.out) (by decide) hg); have n1_ := Aside0.mk (Kd.S_over' (v := (.slice (some ⟨go45, 0, none⟩) x50_4.length co45)) (by (with_reducible repeat (first | apply Kd.S_alloc | apply Kd.S_drewN | apply Kd.S_drew)); exact HO_5.out) (Kd.R_typed HO_50.out) (by decide) hg); have n2_ := Aside0.mk (hp_); have n3_ := Aside0.mk (blk_grown (g := gb298) (o := .cells #[.slice A0_0 l0_0.length c0_0, .slice A0_1 l0_1.length c0_1] 42 (0, 0)) (iB BK298) hg (Kd.R_ne HO_50.out BK298.out (by decide))); have n4_ := Aside0.mk ((by rw [hw]; exact below_set (HB.out) GB45.out : Below w.heap.size w w48)); clear HO_3; clear HO_5; clear HO_50; clear BK298; clear HB; have HO_3 := n0_; have HO_5 := n1_; have HO_50 := n2_; have BK298 := n3_; have HB := n4_; clear n0_ n1_ n2_ n3_ n4_; clear hg hw hp_)))
                        go_roundg k4
                        case measure => have := HJ1.out; have := HJ15.out; have := HK3.out; have := HK4.out; omega
                        case rel => exact ⟨(y318), (wrap64 (x67_4 + 1)), (by first | rfl | (simp; done) | (simp [*]; done)), H', ⟨by have := HJ1.out; have := HJ15.out; have := HK3.out; have := HK4.out; omega⟩, ⟨by (with_reducible repeat (first | apply Kd.S_alloc | apply Kd.S_drewN | apply Kd.S_drew)); exact HO_3.out⟩, ⟨by (with_reducible repeat (first | apply Kd.S_alloc | apply Kd.S_drewN | apply Kd.S_drew)); exact HO_5.out⟩, ⟨by (with_reducible repeat (first | apply Kd.R_alloc | apply Kd.R_drewN | apply Kd.R_drew)); exact HO_50.out⟩, ⟨by (with_reducible repeat (first | apply blk_drewN | apply blk_drew | apply blk_alloc)); exact BK298.out⟩, ⟨by repeat (first | (with_reducible first | exact HB.out | apply below_alloc | apply pw_below_drewN | apply below_drew1 | refine below_set ?_ GE298.out) | exact HB.out)⟩, ⟨by (with_reducible repeat (first | apply Kd.R_alloc | apply Kd.R_drewN | apply Kd.R_drew)); exact HG_.out⟩⟩
                       ·rw [if_neg c44] at H
                        exact absurd H (by simp)
                      ·rw [if_neg c43] at H
                       exact absurd H (by simp)
                     ·rw [if_neg c42] at H
                      have c42b0 : decide (0 ≤ t317) = false := decide_eq_false c42
                      clear c42
                      have H' := Aside0.mk H
                      clear H
                      have p316 : 0 ≤ (x67_4 : Int) := of_decide_eq_true (by first | (with_reducible assumption) | assumption)
                      have q316 : x67_4 < ((rd_L8 t302 x53_3).length : Int) := of_decide_eq_true (by first | (with_reducible assumption) | assumption)
                      obtain ⟨ad316, e316, hx316_0⟩ := Kd.at_string (Kd.R_reads' HG_.out).2.2 x67_4 p316 q316
                      cases e316
                      skip
                      replace p316 := eq_true p316
                      replace q316 := eq_true q316
                      have hcz49_0 := cZ BK298 0 (.slice A0_0 l0_0.length c0_0)
                      have hcz49_1 := cZ BK298 1 (.slice A0_1 l0_1.length c0_1)
                      have hfz49_0 := blk_frozen BK298.out 0
                      have hfz49_1 := blk_frozen BK298.out 1
                      go_wp2_with (first | (go_at_call 25; (with_reducible refine (slices_Index_string_string.calls k4 _ _ l0_0 (rdOf ByteArray.empty (rd_L8 t302 x53_3) x67_4) t317 _ ?side1 ?side2 A41.out).mono ?_); (case side1 => exact iC HR0_0 HB); (case side2 => exact HC0_0.out); rintro e w' ⟨rfl, ⟨nd, rfl⟩⟩; (try first | exact ⟨rfl, _, World.drewN_drewN _ _ _⟩ | exact ⟨rfl, _, Eq.trans (World.drewN_drewN _ _ _) (congrArg (World.drewN _) (Nat.add_assoc _ _ _))⟩)))
                      repeat (go_quiet (first | (go_at_call 25; (with_reducible refine (slices_Index_string_string.calls k4 _ _ l0_0 (rdOf ByteArray.empty (rd_L8 t302 x53_3) x67_4) t317 _ ?side1 ?side2 A41.out).mono ?_); (case side1 => exact iC HR0_0 HB); (case side2 => exact HC0_0.out); (try clear A41); rintro e w' ⟨rfl, ⟨nd, rfl⟩⟩; (try first | exact ⟨rfl, _, World.drewN_drewN _ _ _⟩ | exact ⟨rfl, _, Eq.trans (World.drewN_drewN _ _ _) (congrArg (World.drewN _) (Nat.add_assoc _ _ _))⟩))); try go_wp2_with (first | (go_at_call 25; (with_reducible refine (slices_Index_string_string.calls k4 _ _ l0_0 (rdOf ByteArray.empty (rd_L8 t302 x53_3) x67_4) t317 _ ?side1 ?side2 A41.out).mono ?_); (case side1 => exact iC HR0_0 HB); (case side2 => exact HC0_0.out); (try clear A41); rintro e w' ⟨rfl, ⟨nd, rfl⟩⟩; (try first | exact ⟨rfl, _, World.drewN_drewN _ _ _⟩ | exact ⟨rfl, _, Eq.trans (World.drewN_drewN _ _ _) (congrArg (World.drewN _) (Nat.add_assoc _ _ _))⟩))))
                      go_roundg k4
                      case measure => have := HJ1.out; have := HJ15.out; have := HK3.out; have := HK4.out; omega
                      case rel => exact ⟨(x50_4), (wrap64 (x67_4 + 1)), (by first | rfl | (simp; done) | (simp [*]; done)), H', ⟨by have := HJ1.out; have := HJ15.out; have := HK3.out; have := HK4.out; omega⟩, ⟨by (with_reducible repeat (first | apply Kd.S_alloc | apply Kd.S_drewN | apply Kd.S_drew)); exact HO_3.out⟩, ⟨by (with_reducible repeat (first | apply Kd.S_alloc | apply Kd.S_drewN | apply Kd.S_drew)); exact HO_5.out⟩, ⟨by (with_reducible repeat (first | apply Kd.R_alloc | apply Kd.R_drewN | apply Kd.R_drew)); exact HO_50.out⟩, ⟨by (with_reducible repeat (first | apply blk_drewN | apply blk_drew | apply blk_alloc)); exact BK298.out⟩, ⟨by repeat (first | (with_reducible first | exact HB.out | apply below_alloc | apply pw_below_drewN | apply below_drew1 | refine below_set ?_ GE298.out) | exact HB.out)⟩, ⟨by (with_reducible repeat (first | apply Kd.R_alloc | apply Kd.R_drewN | apply Kd.R_drew)); exact HG_.out⟩⟩
                    ·rw [if_neg c40] at H
                     exact absurd H (by simp)
                   ·rw [if_neg c39] at H
                    exact absurd H (by simp)
                  ·rw [if_neg c38] at H
                   have c38b0 : decide (x67_4 < ((rd_L8 t302 x53_3).length : Int)) = false := decide_eq_false c38
                   clear c38
                   have H' := Aside0.mk H
                   clear H
                   go_wp2
                   repeat (go_quiet (fail); try go_wp2)
                   go_roundg k4
                   case measure => have := HJ1.out; have := HJ15.out; have := HK3.out; have := HK4.out; omega
                   case rel => exact ⟨(x50_4), (wrap64 (x53_3 + 1)), (by first | rfl | (simp; done) | (simp [*]; done)), H', ⟨by have := HJ1.out; have := HJ15.out; have := HK3.out; have := HK4.out; omega⟩, ⟨by (with_reducible repeat (first | apply Kd.S_alloc | apply Kd.S_drewN | apply Kd.S_drew)); exact HO_3.out⟩, ⟨by (with_reducible repeat (first | apply Kd.S_alloc | apply Kd.S_drewN | apply Kd.S_drew)); exact HO_5.out⟩, ⟨by (with_reducible repeat (first | apply Kd.R_alloc | apply Kd.R_drewN | apply Kd.R_drew)); exact HO_50.out⟩, ⟨by (with_reducible repeat (first | apply blk_drewN | apply blk_drew | apply blk_alloc)); exact BK298.out⟩, ⟨by repeat (first | (with_reducible first | exact HB.out | apply below_alloc | apply pw_below_drewN | apply below_drew1 | refine below_set ?_ GE298.out) | exact HB.out)⟩⟩
               ·replace c36 := Bool.eq_false_iff.mpr c36
                subst c36
                have H1 : (some false) = some r := by rw [if_neg (show ¬ (false = true) by decide)] at H; exact H
                clear H
                have H := H1
                clear H1
                obtain rfl := Option.some.inj H
                have p313 : 0 ≤ (x53_3 : Int) := of_decide_eq_true (by first | (with_reducible assumption) | assumption)
                have q313 : x53_3 < (t302.length : Int) := of_decide_eq_true (by first | (with_reducible assumption) | assumption)
                obtain ⟨ad313, A313_0, c313_0, e313, hx313_0, hl313_0, hi313_0⟩ := at_L8 (Kd.S_reads' HO_3.out).2.2 x53_3 p313 q313
                cases e313
                obtain ⟨ce313, hce313, hMe313, hcc313⟩ := Kd.S_get HO_3.out [] x53_3 p313 (by first | exact q313 | exact of_decide_eq_true (by first | (with_reducible assumption) | assumption) | (have e_ := (Kd.S_reads' HO_3.out).1; omega))
                obtain ⟨ve313_0, rfl, ge313_0⟩ := hMe313
                have hv313_0 := hcc313 0 _ rfl
                rw [Nat.add_zero, show ((Kd.slice 9 Kd.string)).sz = 1 from rfl, Nat.mul_one] at hv313_0
                replace hv313_0 := Option.some.inj (hv313_0.symm.trans hx313_0)
                rw [hv313_0] at ge313_0
                have HL313_0 := Aside0.mk (show Kd.R Kd.string 9 _ _ _ _ (rd_L8 t302 x53_3) from ge313_0)
                clear hv313_0 ge313_0
                clear hcc313 hce313
                have HR313_0 := Aside0.mk hi313_0
                have HC313_0 := Aside0.mk hl313_0
                clear hi313_0 hl313_0
                replace p313 := eq_true p313
                replace q313 := eq_true q313
                obtain ⟨Ao50, co50, eo50⟩ := Kd.S_slice HO_5.out
                subst eo50
                have p314 : 0 ≤ (x53_3 : Int) := of_decide_eq_true (by first | (with_reducible assumption) | assumption)
                have q314 : x53_3 < (t306.length : Int) := of_decide_eq_true (by first | (with_reducible assumption) | assumption)
                obtain ⟨ad314, A314_0, c314_0, e314, hx314_0, hl314_0, hi314_0⟩ := at_L8 (Kd.S_reads' HO_5.out).2.2 x53_3 p314 q314
                cases e314
                obtain ⟨ce314, hce314, hMe314, hcc314⟩ := Kd.S_get HO_5.out [] x53_3 p314 (by first | exact q314 | exact of_decide_eq_true (by first | (with_reducible assumption) | assumption) | (have e_ := (Kd.S_reads' HO_5.out).1; omega))
                obtain ⟨ve314_0, rfl, ge314_0⟩ := hMe314
                have hv314_0 := hcc314 0 _ rfl
                rw [Nat.add_zero, show ((Kd.slice 9 Kd.string)).sz = 1 from rfl, Nat.mul_one] at hv314_0
                replace hv314_0 := Option.some.inj (hv314_0.symm.trans hx314_0)
                rw [hv314_0] at ge314_0
                have HL314_0 := Aside0.mk (show Kd.R Kd.string 9 _ _ _ _ (rd_L8 t306 x53_3) from ge314_0)
                clear hv314_0 ge314_0
                clear hcc314 hce314
                have HR314_0 := Aside0.mk hi314_0
                have HC314_0 := Aside0.mk hl314_0
                clear hi314_0 hl314_0
                replace p314 := eq_true p314
                replace q314 := eq_true q314
                go_wp2_with (first | (go_at_call 21; (with_reducible refine (ancepsref01_Equal.calls k3 _ _ (rd_L8 t302 x53_3) _ _ (rd_L8 t306 x53_3) false _ ?side1 ?side2 ?side3 ?side4 A35.out).mono ?_); (case side1 => repeat (first | exact (by repeat (first | (with_reducible exact HR313_0.out) | (with_reducible refine Kd.C_alloc ?_ _) | (with_reducible refine Kd.C_drewN ?_ _) | (with_reducible refine Kd.C_drew ?_) | exact HR313_0.out)) | (with_reducible refine Kd.C_alloc ?_ _) | (with_reducible refine Kd.C_drewN ?_ _) | (with_reducible refine Kd.C_drew ?_))); (case side2 => exact HC313_0.out); (case side3 => repeat (first | exact (by repeat (first | (with_reducible exact HR314_0.out) | (with_reducible refine Kd.C_alloc ?_ _) | (with_reducible refine Kd.C_drewN ?_ _) | (with_reducible refine Kd.C_drew ?_) | exact HR314_0.out)) | (with_reducible refine Kd.C_alloc ?_ _) | (with_reducible refine Kd.C_drewN ?_ _) | (with_reducible refine Kd.C_drew ?_))); (case side4 => exact HC314_0.out); rintro e w' ⟨rfl, ⟨nd, rfl⟩⟩; (try first | exact ⟨rfl, _, World.drewN_drewN _ _ _⟩ | exact ⟨rfl, _, Eq.trans (World.drewN_drewN _ _ _) (congrArg (World.drewN _) (Nat.add_assoc _ _ _))⟩)))
                repeat (go_quiet (first | (go_at_call 21; (with_reducible refine (ancepsref01_Equal.calls k3 _ _ (rd_L8 t302 x53_3) _ _ (rd_L8 t306 x53_3) false _ ?side1 ?side2 ?side3 ?side4 A35.out).mono ?_); (case side1 => repeat (first | exact (by repeat (first | (with_reducible exact HR313_0.out) | (with_reducible refine Kd.C_alloc ?_ _) | (with_reducible refine Kd.C_drewN ?_ _) | (with_reducible refine Kd.C_drew ?_) | exact HR313_0.out)) | (with_reducible refine Kd.C_alloc ?_ _) | (with_reducible refine Kd.C_drewN ?_ _) | (with_reducible refine Kd.C_drew ?_))); (case side2 => exact HC313_0.out); (case side3 => repeat (first | exact (by repeat (first | (with_reducible exact HR314_0.out) | (with_reducible refine Kd.C_alloc ?_ _) | (with_reducible refine Kd.C_drewN ?_ _) | (with_reducible refine Kd.C_drew ?_) | exact HR314_0.out)) | (with_reducible refine Kd.C_alloc ?_ _) | (with_reducible refine Kd.C_drewN ?_ _) | (with_reducible refine Kd.C_drew ?_))); (case side4 => exact HC314_0.out); (try clear A35); rintro e w' ⟨rfl, ⟨nd, rfl⟩⟩; (try first | exact ⟨rfl, _, World.drewN_drewN _ _ _⟩ | exact ⟨rfl, _, Eq.trans (World.drewN_drewN _ _ _) (congrArg (World.drewN _) (Nat.add_assoc _ _ _))⟩))); try go_wp2_with (first | (go_at_call 21; (with_reducible refine (ancepsref01_Equal.calls k3 _ _ (rd_L8 t302 x53_3) _ _ (rd_L8 t306 x53_3) false _ ?side1 ?side2 ?side3 ?side4 A35.out).mono ?_); (case side1 => repeat (first | exact (by repeat (first | (with_reducible exact HR313_0.out) | (with_reducible refine Kd.C_alloc ?_ _) | (with_reducible refine Kd.C_drewN ?_ _) | (with_reducible refine Kd.C_drew ?_) | exact HR313_0.out)) | (with_reducible refine Kd.C_alloc ?_ _) | (with_reducible refine Kd.C_drewN ?_ _) | (with_reducible refine Kd.C_drew ?_))); (case side2 => exact HC313_0.out); (case side3 => repeat (first | exact (by repeat (first | (with_reducible exact HR314_0.out) | (with_reducible refine Kd.C_alloc ?_ _) | (with_reducible refine Kd.C_drewN ?_ _) | (with_reducible refine Kd.C_drew ?_) | exact HR314_0.out)) | (with_reducible refine Kd.C_alloc ?_ _) | (with_reducible refine Kd.C_drewN ?_ _) | (with_reducible refine Kd.C_drew ?_))); (case side4 => exact HC314_0.out); (try clear A35); rintro e w' ⟨rfl, ⟨nd, rfl⟩⟩; (try first | exact ⟨rfl, _, World.drewN_drewN _ _ _⟩ | exact ⟨rfl, _, Eq.trans (World.drewN_drewN _ _ _) (congrArg (World.drewN _) (Nat.add_assoc _ _ _))⟩))))
                go_ret
                exact ⟨by first | rfl | (simp [errW_none, errW_some] <;> rfl) | (simp [*, errW_none, errW_some] <;> rfl), by repeat (first | (with_reducible first | exact HB.out | apply below_alloc | apply pw_below_drewN | apply below_drew1 | refine below_set ?_ GE298.out) | exact HB.out)⟩
              ·rw [if_neg c34] at H
               exact absurd H (by simp)
             ·rw [if_neg c33] at H
              exact absurd H (by simp)
            ·rw [if_neg c32] at H
             exact absurd H (by simp)
           ·rw [if_neg c31] at H
            have c31b0 : decide (x53_3 < (t302.length : Int)) = false := decide_eq_false c31
            clear c31
            by_cases c51 : t305 = 0
            ·rw [if_pos c51] at H
             have c51b0 : (t305 == 0) = true := beq_iff_eq.mpr c51
             have c51b1 : (t305 != 0) = false := bne_eq_false_iff_eq.mpr c51
             clear c51
             have H' := Aside0.mk H
             clear H
             have hcz52_0 := cZ BK298 0 (.slice A0_0 l0_0.length c0_0)
             have hcz52_1 := cZ BK298 1 (.slice A0_1 l0_1.length c0_1)
             have hfz52_0 := blk_frozen BK298.out 0
             have hfz52_1 := blk_frozen BK298.out 1
             go_wp2
             repeat (go_quiet (fail); try go_wp2)
             go_loopg [89] k3 (fun kq v89 w' => ∃ (x89_4 : Int), v89 = .int .i64 x89_4 ∧ Aside0 (ancepslaw57_ApparatusGroups.l2 kq x50_3 l0_0 (l0_0.length : Int) x89_4 l0_0 l0_1 = some r) ∧ Aside0 (kq ≤ k3) ∧ Aside0 (Kd.R (Kd.int .i64) 3 w' w.heap.size (fun _ => True) v311 x50_3) ∧ Aside0 (w'.heap[gb298]? = some (.cells #[(.slice A0_0 l0_0.length c0_0), (.slice A0_1 l0_1.length c0_1)] 42 (0, 0))) ∧ Aside0 (Below w.heap.size w w'))
             case atStart => exact ⟨(0), (by first | rfl | (simp; done) | (simp [*]; done)), H', ⟨Nat.le_refl _⟩, ⟨by (with_reducible repeat (first | apply Kd.R_alloc | apply Kd.R_drewN | apply Kd.R_drew)); exact HO_50.out⟩, ⟨by (with_reducible repeat (first | apply blk_drewN | apply blk_drew | apply blk_alloc)); exact BK298.out⟩, ⟨by repeat (first | (with_reducible first | exact HB.out | apply below_alloc | apply pw_below_drewN | apply below_drew1 | refine below_set ?_ GE298.out) | exact HB.out)⟩⟩
             case round =>
              clear H'
              try clear c1
              try clear c2
              try clear p2
              try clear c3
              try clear p3
              try clear q3
              try clear hx3
              try clear c4
              try clear p4
              try clear q4
              try clear hx4
              try clear hf4
              try clear c5
              try clear c6
              try clear p6
              try clear c11
              try clear c21
              try clear c21b0
              try clear c21b1
              try clear c24
              try clear c25
              try clear c25b0
              try clear c25b1
              try clear c26
              try clear c26b0
              try clear c26b1
              try clear c31
              try clear c31b0
              try clear p31
              try clear q31
              try clear hx31
              try clear c32
              try clear c32b0
              try clear c33
              try clear c33b0
              try clear c34
              try clear c34b0
              try clear c36
              try clear c38
              try clear c38b0
              try clear c39
              try clear c39b0
              try clear c40
              try clear c40b0
              try clear c42
              try clear c42b0
              try clear c43
              try clear c43b0
              try clear c44
              try clear c44b0
              try clear p45
              try clear q45
              try clear hx45
              try clear hf45
              try clear c51
              try clear c51b0
              try clear c51b1
              try clear hcz17_0
              try clear hcz17_1
              try clear hcz19_0
              try clear hcz19_1
              try clear hcz27_0
              try clear hcz27_1
              try clear hcz46_0
              try clear hcz46_1
              try clear hcz49_0
              try clear hcz49_1
              try clear hcz52_0
              try clear hcz52_1
              try clear hcz8_0
              try clear hcz8_1
              try clear hfz17_0
              try clear hfz17_1
              try clear hfz19_0
              try clear hfz19_1
              try clear hfz27_0
              try clear hfz27_1
              try clear hfz46_0
              try clear hfz46_1
              try clear hfz49_0
              try clear hfz49_1
              try clear hfz52_0
              try clear hfz52_1
              try clear hfz8_0
              try clear hfz8_1
              try clear hx313_0
              try clear hx314_0
              try clear hx316_0
              try clear hx45_0
              try clear p2
              try clear p3
              try clear p31
              try clear p313
              try clear p314
              try clear p316
              try clear p45
              try clear q3
              try clear q31
              try clear q313
              try clear q314
              try clear q316
              try clear q45
              obtain ⟨x89_4, rfl, HA, HK4, HO_7, BK298, HB⟩ := hrel
              cases gk with
              | zero => exact absurd HA.out (by simp [ancepslaw57_ApparatusGroups.l2])
              | succ k4 =>
               have H := HA.out
               clear HA
               simp only [ancepslaw57_ApparatusGroups.l2] at H
               by_cases c53 : x89_4 < (l0_0.length : Int)
               ·rw [if_pos c53] at H
                have c53b0 : decide (x89_4 < (l0_0.length : Int)) = true := decide_eq_true c53
                clear c53
                by_cases c54 : 0 ≤ x89_4
                ·rw [if_pos c54] at H
                 have c54b0 : decide (0 ≤ x89_4) = true := decide_eq_true c54
                 clear c54
                 by_cases c55 : x89_4 < (l0_0.length : Int)
                 ·rw [if_pos c55] at H
                  have c55b0 : decide (x89_4 < (l0_0.length : Int)) = true := decide_eq_true c55
                  clear c55
                  have H' := Aside0.mk H
                  clear H
                  have p319 : 0 ≤ (x89_4 : Int) := of_decide_eq_true (by first | (with_reducible assumption) | assumption)
                  have q319 : x89_4 < (l0_0.length : Int) := of_decide_eq_true (by first | (with_reducible assumption) | assumption)
                  obtain ⟨ad319, e319, hx319_0⟩ := Kd.at_string HR0_0.out x89_4 p319 q319
                  cases e319
                  replace hx319_0 := (HB.out.cell (World.block_lt_of_cell? w _ hx319_0)).trans hx319_0
                  replace p319 := eq_true p319
                  replace q319 := eq_true q319
                  have hcz56_0 := cZ BK298 0 (.slice (some ad319) l0_0.length c0_0)
                  have hcz56_1 := cZ BK298 1 (.slice A0_1 l0_1.length c0_1)
                  have hfz56_0 := blk_frozen BK298.out 0
                  have hfz56_1 := blk_frozen BK298.out 1
                  go_wp2
                  repeat (go_quiet (fail); try go_wp2)
                  go_loopg [97] k4 (fun kq v97 w' => ∃ (x97_5 : Int), v97 = .int .i64 x97_5 ∧ Aside0 (ancepslaw57_ApparatusGroups.l3 kq x50_3 x89_4 (rdOf ByteArray.empty l0_0 x89_4) l0_0 (l0_0.length : Int) x89_4 l0_0 (l0_0.length : Int) x97_5 l0_0 l0_1 = some r) ∧ Aside0 (kq ≤ k4) ∧ Aside0 (Kd.R (Kd.int .i64) 3 w' w.heap.size (fun _ => True) v311 x50_3) ∧ Aside0 (w'.heap[gb298]? = some (.cells #[(.slice (some ad319) l0_0.length c0_0), (.slice A0_1 l0_1.length c0_1)] 42 (0, 0))) ∧ Aside0 (Below w.heap.size w w'))
                  case atStart => exact ⟨(0), (by first | rfl | (simp; done) | (simp [*]; done)), H', ⟨Nat.le_refl _⟩, ⟨by (with_reducible repeat (first | apply Kd.R_alloc | apply Kd.R_drewN | apply Kd.R_drew)); exact HO_7.out⟩, ⟨by (with_reducible repeat (first | apply blk_drewN | apply blk_drew | apply blk_alloc)); exact BK298.out⟩, ⟨by repeat (first | (with_reducible first | exact HB.out | apply below_alloc | apply pw_below_drewN | apply below_drew1 | refine below_set ?_ GE298.out) | exact HB.out)⟩⟩
                  case round =>
                   clear H'
                   try clear c1
                   try clear c2
                   try clear p2
                   try clear c3
                   try clear p3
                   try clear q3
                   try clear hx3
                   try clear c4
                   try clear p4
                   try clear q4
                   try clear hx4
                   try clear hf4
                   try clear c5
                   try clear c6
                   try clear p6
                   try clear c11
                   try clear c21
                   try clear c21b0
                   try clear c21b1
                   try clear c24
                   try clear c25
                   try clear c25b0
                   try clear c25b1
                   try clear c26
                   try clear c26b0
                   try clear c26b1
                   try clear c31
                   try clear c31b0
                   try clear p31
                   try clear q31
                   try clear hx31
                   try clear c32
                   try clear c32b0
                   try clear c33
                   try clear c33b0
                   try clear c34
                   try clear c34b0
                   try clear c36
                   try clear c38
                   try clear c38b0
                   try clear c39
                   try clear c39b0
                   try clear c40
                   try clear c40b0
                   try clear c42
                   try clear c42b0
                   try clear c43
                   try clear c43b0
                   try clear c44
                   try clear c44b0
                   try clear p45
                   try clear q45
                   try clear hx45
                   try clear hf45
                   try clear c51
                   try clear c51b0
                   try clear c51b1
                   try clear c53
                   try clear c53b0
                   try clear c54
                   try clear c54b0
                   try clear c55
                   try clear c55b0
                   try clear hcz17_0
                   try clear hcz17_1
                   try clear hcz19_0
                   try clear hcz19_1
                   try clear hcz27_0
                   try clear hcz27_1
                   try clear hcz46_0
                   try clear hcz46_1
                   try clear hcz49_0
                   try clear hcz49_1
                   try clear hcz52_0
                   try clear hcz52_1
                   try clear hcz56_0
                   try clear hcz56_1
                   try clear hcz8_0
                   try clear hcz8_1
                   try clear hfz17_0
                   try clear hfz17_1
                   try clear hfz19_0
                   try clear hfz19_1
                   try clear hfz27_0
                   try clear hfz27_1
                   try clear hfz46_0
                   try clear hfz46_1
                   try clear hfz49_0
                   try clear hfz49_1
                   try clear hfz52_0
                   try clear hfz52_1
                   try clear hfz56_0
                   try clear hfz56_1
                   try clear hfz8_0
                   try clear hfz8_1
                   try clear hx313_0
                   try clear hx314_0
                   try clear hx316_0
                   try clear hx319_0
                   try clear hx45_0
                   try clear p2
                   try clear p3
                   try clear p31
                   try clear p313
                   try clear p314
                   try clear p316
                   try clear p319
                   try clear p4
                   try clear p45
                   try clear p6
                   try clear q3
                   try clear q31
                   try clear q313
                   try clear q314
                   try clear q316
                   try clear q319
                   try clear q4
                   try clear q45
                   obtain ⟨x97_5, rfl, HA, HK5, HO_7, BK298, HB⟩ := hrel
                   cases gk with
                   | zero => exact absurd HA.out (by simp [ancepslaw57_ApparatusGroups.l3])
                   | succ k5 =>
                    have H := HA.out
                    clear HA
                    simp only [ancepslaw57_ApparatusGroups.l3] at H
                    by_cases c57 : x97_5 < (l0_0.length : Int)
                    ·rw [if_pos c57] at H
                     have c57b0 : decide (x97_5 < (l0_0.length : Int)) = true := decide_eq_true c57
                     clear c57
                     by_cases c58 : 0 ≤ x97_5
                     ·rw [if_pos c58] at H
                      have c58b0 : decide (0 ≤ x97_5) = true := decide_eq_true c58
                      clear c58
                      by_cases c59 : x97_5 < (l0_0.length : Int)
                      ·rw [if_pos c59] at H
                       have c59b0 : decide (x97_5 < (l0_0.length : Int)) = true := decide_eq_true c59
                       clear c59
                       replace H := Option.bind_eq_some_iff.mp H
                       obtain ⟨⟨t321, t322⟩, A600, H⟩ := H
                       try dsimp only at H
                       have A60 := Aside0.mk A600
                       clear A600
                       by_cases c61 : t322 = 0
                       ·rw [if_pos c61] at H
                        have c61b0 : (t322 == 0) = true := beq_iff_eq.mpr c61
                        have c61b1 : (t322 != 0) = false := bne_eq_false_iff_eq.mpr c61
                        clear c61
                        by_cases c62 : 0 ≤ x89_4
                        ·rw [if_pos c62] at H
                         have c62b0 : decide (0 ≤ x89_4) = true := decide_eq_true c62
                         clear c62
                         by_cases c63 : x89_4 < (x50_3.length : Int)
                         ·rw [if_pos c63] at H
                          have c63b0 : decide (x89_4 < (x50_3.length : Int)) = true := decide_eq_true c63
                          clear c63
                          by_cases c64 : (rd x50_3 x89_4) = 0
                          ·rw [if_pos c64] at H
                           have c64b0 : ((rd x50_3 x89_4) == 0) = true := beq_iff_eq.mpr c64
                           have c64b1 : ((rd x50_3 x89_4) != 0) = false := bne_eq_false_iff_eq.mpr c64
                           clear c64
                           obtain rfl := Option.some.inj H
                           have p320 : 0 ≤ (x97_5 : Int) := of_decide_eq_true (by first | (with_reducible assumption) | assumption)
                           have q320 : x97_5 < (l0_0.length : Int) := of_decide_eq_true (by first | (with_reducible assumption) | assumption)
                           obtain ⟨ad320, e320, hx320_0⟩ := Kd.at_string HR0_0.out x97_5 p320 q320
                           obtain rfl : ad319 = ad320 := (by injection e320)
                           replace hx320_0 := (HB.out.cell (World.block_lt_of_cell? w _ hx320_0)).trans hx320_0
                           replace p320 := eq_true p320
                           replace q320 := eq_true q320
                           have hcz65_0 := cZ BK298 0 (.slice (some ad319) l0_0.length c0_0)
                           have hcz65_1 := cZ BK298 1 (.slice A0_1 l0_1.length c0_1)
                           have hfz65_0 := blk_frozen BK298.out 0
                           have hfz65_1 := blk_frozen BK298.out 1
                           go_wp2_with (first | (go_at_call 26; (with_reducible refine (apparatus_Agree.calls k5 _ _ l0_0 _ _ l0_1 (rdOf ByteArray.empty l0_0 x89_4) (rdOf ByteArray.empty l0_0 x97_5) t321 t322 _ ?side1 ?side2 ?side3 ?side4 A60.out).mono ?_); (case side1 => exact iC HR0_0 HB); (case side2 => exact HC0_0.out); (case side3 => exact iC HR0_1 HB); (case side4 => exact HC0_1.out); rintro e w66 ⟨rfl, hb⟩; have n0_ := jR HO_7 hb; have n1_ := jB BK298 hb; have n2_ := jL HB hb; clear HO_7; clear BK298; clear HB; have HO_7 := n0_; have BK298 := n1_; have HB := n2_; clear n0_ n1_ n2_; (try clear hb); (try clear hb2); (try clear hk); (try clear hi); obtain ⟨Ao67, co67, eo67⟩ := Kd.R_slice HO_7.out; subst eo67; have p323 : 0 ≤ (x89_4 : Int) := of_decide_eq_true (by first | (with_reducible assumption) | assumption); have q323 : x89_4 < (x50_3.length : Int) := of_decide_eq_true (by first | (with_reducible assumption) | assumption); obtain ⟨ad323, e323, hx323_0⟩ := Kd.at_int (Kd.R_reads' HO_7.out).2.2 x89_4 p323 q323; cases e323; replace p323 := eq_true p323; replace q323 := eq_true q323))
                           repeat (go_quiet (first | (go_at_call 26; (with_reducible refine (apparatus_Agree.calls k5 _ _ l0_0 _ _ l0_1 (rdOf ByteArray.empty l0_0 x89_4) (rdOf ByteArray.empty l0_0 x97_5) t321 t322 _ ?side1 ?side2 ?side3 ?side4 A60.out).mono ?_); (case side1 => exact iC HR0_0 HB); (case side2 => exact HC0_0.out); (case side3 => exact iC HR0_1 HB); (case side4 => exact HC0_1.out); (try clear A60); rintro e w66 ⟨rfl, hb⟩; have n0_ := jR HO_7 hb; have n1_ := jB BK298 hb; have n2_ := jL HB hb; clear HO_7; clear BK298; clear HB; have HO_7 := n0_; have BK298 := n1_; have HB := n2_; clear n0_ n1_ n2_; (try clear hb); (try clear hb2); (try clear hk); (try clear hi); obtain ⟨Ao67, co67, eo67⟩ := Kd.R_slice HO_7.out; subst eo67; have p323 : 0 ≤ (x89_4 : Int) := of_decide_eq_true (by first | (with_reducible assumption) | assumption); have q323 : x89_4 < (x50_3.length : Int) := of_decide_eq_true (by first | (with_reducible assumption) | assumption); obtain ⟨ad323, e323, hx323_0⟩ := Kd.at_int (Kd.R_reads' HO_7.out).2.2 x89_4 p323 q323; cases e323; replace p323 := eq_true p323; replace q323 := eq_true q323)); try go_wp2_with (first | (go_at_call 26; (with_reducible refine (apparatus_Agree.calls k5 _ _ l0_0 _ _ l0_1 (rdOf ByteArray.empty l0_0 x89_4) (rdOf ByteArray.empty l0_0 x97_5) t321 t322 _ ?side1 ?side2 ?side3 ?side4 A60.out).mono ?_); (case side1 => exact iC HR0_0 HB); (case side2 => exact HC0_0.out); (case side3 => exact iC HR0_1 HB); (case side4 => exact HC0_1.out); (try clear A60); rintro e w66 ⟨rfl, hb⟩; have n0_ := jR HO_7 hb; have n1_ := jB BK298 hb; have n2_ := jL HB hb; clear HO_7; clear BK298; clear HB; have HO_7 := n0_; have BK298 := n1_; have HB := n2_; clear n0_ n1_ n2_; (try clear hb); (try clear hb2); (try clear hk); (try clear hi); obtain ⟨Ao67, co67, eo67⟩ := Kd.R_slice HO_7.out; subst eo67; have p323 : 0 ≤ (x89_4 : Int) := of_decide_eq_true (by first | (with_reducible assumption) | assumption); have q323 : x89_4 < (x50_3.length : Int) := of_decide_eq_true (by first | (with_reducible assumption) | assumption); obtain ⟨ad323, e323, hx323_0⟩ := Kd.at_int (Kd.R_reads' HO_7.out).2.2 x89_4 p323 q323; cases e323; replace p323 := eq_true p323; replace q323 := eq_true q323)))
                           go_ret
                           exact ⟨by first | rfl | (simp [errW_none, errW_some] <;> rfl) | (simp [*, errW_none, errW_some] <;> rfl), by repeat (first | (with_reducible first | exact HB.out | apply below_alloc | apply pw_below_drewN | apply below_drew1 | refine below_set ?_ GE298.out) | exact HB.out)⟩
                          ·rw [if_neg c64] at H
                           have c64b0 : ((rd x50_3 x89_4) == 0) = false := beq_eq_false_iff_ne.mpr c64
                           have c64b1 : ((rd x50_3 x89_4) != 0) = true := bne_iff_ne.mpr c64
                           by_cases c68 : x97_5 < (x50_3.length : Int)
                           ·rw [if_pos c68] at H
                            have c68b0 : decide (x97_5 < (x50_3.length : Int)) = true := decide_eq_true c68
                            clear c68
                            by_cases c69 : (((rd x50_3 x89_4) == (rd x50_3 x97_5)) != (t321 == (l0_1.length : Int))) = true
                            ·rw [if_pos c69] at H
                             have c69b0 : (((rd x50_3 x89_4) == (rd x50_3 x97_5)) != (t321 == (l0_1.length : Int))) = true := c69
                             (try (have c69b1 : decide (((rd x50_3 x89_4) == (rd x50_3 x97_5)) = (t321 == (l0_1.length : Int))) = false := by simpa using c69))
                             (try (have c69b2 : (((rd x50_3 x89_4) == (rd x50_3 x97_5)) == (t321 == (l0_1.length : Int))) = false := by simpa using c69))
                             (try (have c69b3 : ¬ (((rd x50_3 x89_4) == (rd x50_3 x97_5)) = (t321 == (l0_1.length : Int))) := by simpa using c69))
                             clear c69
                             obtain rfl := Option.some.inj H
                             have p320 : 0 ≤ (x97_5 : Int) := of_decide_eq_true (by first | (with_reducible assumption) | assumption)
                             have q320 : x97_5 < (l0_0.length : Int) := of_decide_eq_true (by first | (with_reducible assumption) | assumption)
                             obtain ⟨ad320, e320, hx320_0⟩ := Kd.at_string HR0_0.out x97_5 p320 q320
                             obtain rfl : ad319 = ad320 := (by injection e320)
                             replace hx320_0 := (HB.out.cell (World.block_lt_of_cell? w _ hx320_0)).trans hx320_0
                             replace p320 := eq_true p320
                             replace q320 := eq_true q320
                             have hcz70_0 := cZ BK298 0 (.slice (some ad319) l0_0.length c0_0)
                             have hcz70_1 := cZ BK298 1 (.slice A0_1 l0_1.length c0_1)
                             have hfz70_0 := blk_frozen BK298.out 0
                             have hfz70_1 := blk_frozen BK298.out 1
                             go_wp2_with (first | (go_at_call 26; (with_reducible refine (apparatus_Agree.calls k5 _ _ l0_0 _ _ l0_1 (rdOf ByteArray.empty l0_0 x89_4) (rdOf ByteArray.empty l0_0 x97_5) t321 t322 _ ?side1 ?side2 ?side3 ?side4 A60.out).mono ?_); (case side1 => exact iC HR0_0 HB); (case side2 => exact HC0_0.out); (case side3 => exact iC HR0_1 HB); (case side4 => exact HC0_1.out); rintro e w71 ⟨rfl, hb⟩; have n0_ := jR HO_7 hb; have n1_ := jB BK298 hb; have n2_ := jL HB hb; clear HO_7; clear BK298; clear HB; have HO_7 := n0_; have BK298 := n1_; have HB := n2_; clear n0_ n1_ n2_; (try clear hb); (try clear hb2); (try clear hk); (try clear hi); obtain ⟨Ao72, co72, eo72⟩ := Kd.R_slice HO_7.out; subst eo72; have p323 : 0 ≤ (x89_4 : Int) := of_decide_eq_true (by first | (with_reducible assumption) | assumption); have q323 : x89_4 < (x50_3.length : Int) := of_decide_eq_true (by first | (with_reducible assumption) | assumption); obtain ⟨ad323, e323, hx323_0⟩ := Kd.at_int (Kd.R_reads' HO_7.out).2.2 x89_4 p323 q323; cases e323; replace p323 := eq_true p323; replace q323 := eq_true q323; have p324 : 0 ≤ (x89_4 : Int) := of_decide_eq_true (by first | (with_reducible assumption) | assumption); have q324 : x89_4 < (x50_3.length : Int) := of_decide_eq_true (by first | (with_reducible assumption) | assumption); obtain ⟨ad324, e324, hx324_0⟩ := Kd.at_int (Kd.R_reads' HO_7.out).2.2 x89_4 p324 q324; obtain rfl : ad323 = ad324 := (by injection e324); replace p324 := eq_true p324; replace q324 := eq_true q324; have p325 : 0 ≤ (x97_5 : Int) := of_decide_eq_true (by first | (with_reducible assumption) | assumption); have q325 : x97_5 < (x50_3.length : Int) := of_decide_eq_true (by first | (with_reducible assumption) | assumption); obtain ⟨ad325, e325, hx325_0⟩ := Kd.at_int (Kd.R_reads' HO_7.out).2.2 x97_5 p325 q325; obtain rfl : ad323 = ad325 := (by injection e325); replace p325 := eq_true p325; replace q325 := eq_true q325; have hcz73_0 := cZ BK298 0 (.slice (some ad319) l0_0.length c0_0); have hcz73_1 := cZ BK298 1 (.slice A0_1 l0_1.length c0_1); have hfz73_0 := blk_frozen BK298.out 0; have hfz73_1 := blk_frozen BK298.out 1))
                             repeat (go_quiet (first | (go_at_call 26; (with_reducible refine (apparatus_Agree.calls k5 _ _ l0_0 _ _ l0_1 (rdOf ByteArray.empty l0_0 x89_4) (rdOf ByteArray.empty l0_0 x97_5) t321 t322 _ ?side1 ?side2 ?side3 ?side4 A60.out).mono ?_); (case side1 => exact iC HR0_0 HB); (case side2 => exact HC0_0.out); (case side3 => exact iC HR0_1 HB); (case side4 => exact HC0_1.out); (try clear A60); rintro e w71 ⟨rfl, hb⟩; have n0_ := jR HO_7 hb; have n1_ := jB BK298 hb; have n2_ := jL HB hb; clear HO_7; clear BK298; clear HB; have HO_7 := n0_; have BK298 := n1_; have HB := n2_; clear n0_ n1_ n2_; (try clear hb); (try clear hb2); (try clear hk); (try clear hi); obtain ⟨Ao72, co72, eo72⟩ := Kd.R_slice HO_7.out; subst eo72; have p323 : 0 ≤ (x89_4 : Int) := of_decide_eq_true (by first | (with_reducible assumption) | assumption); have q323 : x89_4 < (x50_3.length : Int) := of_decide_eq_true (by first | (with_reducible assumption) | assumption); obtain ⟨ad323, e323, hx323_0⟩ := Kd.at_int (Kd.R_reads' HO_7.out).2.2 x89_4 p323 q323; cases e323; replace p323 := eq_true p323; replace q323 := eq_true q323; have p324 : 0 ≤ (x89_4 : Int) := of_decide_eq_true (by first | (with_reducible assumption) | assumption); have q324 : x89_4 < (x50_3.length : Int) := of_decide_eq_true (by first | (with_reducible assumption) | assumption); obtain ⟨ad324, e324, hx324_0⟩ := Kd.at_int (Kd.R_reads' HO_7.out).2.2 x89_4 p324 q324; obtain rfl : ad323 = ad324 := (by injection e324); replace p324 := eq_true p324; replace q324 := eq_true q324; have p325 : 0 ≤ (x97_5 : Int) := of_decide_eq_true (by first | (with_reducible assumption) | assumption); have q325 : x97_5 < (x50_3.length : Int) := of_decide_eq_true (by first | (with_reducible assumption) | assumption); obtain ⟨ad325, e325, hx325_0⟩ := Kd.at_int (Kd.R_reads' HO_7.out).2.2 x97_5 p325 q325; obtain rfl : ad323 = ad325 := (by injection e325); replace p325 := eq_true p325; replace q325 := eq_true q325; have hcz73_0 := cZ BK298 0 (.slice (some ad319) l0_0.length c0_0); have hcz73_1 := cZ BK298 1 (.slice A0_1 l0_1.length c0_1); have hfz73_0 := blk_frozen BK298.out 0; have hfz73_1 := blk_frozen BK298.out 1)); try go_wp2_with (first | (go_at_call 26; (with_reducible refine (apparatus_Agree.calls k5 _ _ l0_0 _ _ l0_1 (rdOf ByteArray.empty l0_0 x89_4) (rdOf ByteArray.empty l0_0 x97_5) t321 t322 _ ?side1 ?side2 ?side3 ?side4 A60.out).mono ?_); (case side1 => exact iC HR0_0 HB); (case side2 => exact HC0_0.out); (case side3 => exact iC HR0_1 HB); (case side4 => exact HC0_1.out); (try clear A60); rintro e w71 ⟨rfl, hb⟩; have n0_ := jR HO_7 hb; have n1_ := jB BK298 hb; have n2_ := jL HB hb; clear HO_7; clear BK298; clear HB; have HO_7 := n0_; have BK298 := n1_; have HB := n2_; clear n0_ n1_ n2_; (try clear hb); (try clear hb2); (try clear hk); (try clear hi); obtain ⟨Ao72, co72, eo72⟩ := Kd.R_slice HO_7.out; subst eo72; have p323 : 0 ≤ (x89_4 : Int) := of_decide_eq_true (by first | (with_reducible assumption) | assumption); have q323 : x89_4 < (x50_3.length : Int) := of_decide_eq_true (by first | (with_reducible assumption) | assumption); obtain ⟨ad323, e323, hx323_0⟩ := Kd.at_int (Kd.R_reads' HO_7.out).2.2 x89_4 p323 q323; cases e323; replace p323 := eq_true p323; replace q323 := eq_true q323; have p324 : 0 ≤ (x89_4 : Int) := of_decide_eq_true (by first | (with_reducible assumption) | assumption); have q324 : x89_4 < (x50_3.length : Int) := of_decide_eq_true (by first | (with_reducible assumption) | assumption); obtain ⟨ad324, e324, hx324_0⟩ := Kd.at_int (Kd.R_reads' HO_7.out).2.2 x89_4 p324 q324; obtain rfl : ad323 = ad324 := (by injection e324); replace p324 := eq_true p324; replace q324 := eq_true q324; have p325 : 0 ≤ (x97_5 : Int) := of_decide_eq_true (by first | (with_reducible assumption) | assumption); have q325 : x97_5 < (x50_3.length : Int) := of_decide_eq_true (by first | (with_reducible assumption) | assumption); obtain ⟨ad325, e325, hx325_0⟩ := Kd.at_int (Kd.R_reads' HO_7.out).2.2 x97_5 p325 q325; obtain rfl : ad323 = ad325 := (by injection e325); replace p325 := eq_true p325; replace q325 := eq_true q325; have hcz73_0 := cZ BK298 0 (.slice (some ad319) l0_0.length c0_0); have hcz73_1 := cZ BK298 1 (.slice A0_1 l0_1.length c0_1); have hfz73_0 := blk_frozen BK298.out 0; have hfz73_1 := blk_frozen BK298.out 1)))
                             go_ret
                             exact ⟨by first | rfl | (simp [errW_none, errW_some] <;> rfl) | (simp [*, errW_none, errW_some] <;> rfl), by repeat (first | (with_reducible first | exact HB.out | apply below_alloc | apply pw_below_drewN | apply below_drew1 | refine below_set ?_ GE298.out) | exact HB.out)⟩
                            ·rw [if_neg c69] at H
                             have c69b0 : (((rd x50_3 x89_4) == (rd x50_3 x97_5)) != (t321 == (l0_1.length : Int))) = false := by simpa using c69
                             (try (have c69b1 : decide (((rd x50_3 x89_4) == (rd x50_3 x97_5)) = (t321 == (l0_1.length : Int))) = true := by simpa using c69))
                             (try (have c69b2 : (((rd x50_3 x89_4) == (rd x50_3 x97_5)) == (t321 == (l0_1.length : Int))) = true := by simpa using c69))
                             clear c69
                             have H' := Aside0.mk H
                             clear H
                             have p320 : 0 ≤ (x97_5 : Int) := of_decide_eq_true (by first | (with_reducible assumption) | assumption)
                             have q320 : x97_5 < (l0_0.length : Int) := of_decide_eq_true (by first | (with_reducible assumption) | assumption)
                             obtain ⟨ad320, e320, hx320_0⟩ := Kd.at_string HR0_0.out x97_5 p320 q320
                             obtain rfl : ad319 = ad320 := (by injection e320)
                             replace hx320_0 := (HB.out.cell (World.block_lt_of_cell? w _ hx320_0)).trans hx320_0
                             replace p320 := eq_true p320
                             replace q320 := eq_true q320
                             have hcz74_0 := cZ BK298 0 (.slice (some ad319) l0_0.length c0_0)
                             have hcz74_1 := cZ BK298 1 (.slice A0_1 l0_1.length c0_1)
                             have hfz74_0 := blk_frozen BK298.out 0
                             have hfz74_1 := blk_frozen BK298.out 1
                             go_wp2_with (first | (go_at_call 26; (with_reducible refine (apparatus_Agree.calls k5 _ _ l0_0 _ _ l0_1 (rdOf ByteArray.empty l0_0 x89_4) (rdOf ByteArray.empty l0_0 x97_5) t321 t322 _ ?side1 ?side2 ?side3 ?side4 A60.out).mono ?_); (case side1 => exact iC HR0_0 HB); (case side2 => exact HC0_0.out); (case side3 => exact iC HR0_1 HB); (case side4 => exact HC0_1.out); rintro e w75 ⟨rfl, hb⟩; have n0_ := jR HO_7 hb; have n1_ := jB BK298 hb; have n2_ := jL HB hb; clear HO_7; clear BK298; clear HB; have HO_7 := n0_; have BK298 := n1_; have HB := n2_; clear n0_ n1_ n2_; (try clear hb); (try clear hb2); (try clear hk); (try clear hi); obtain ⟨Ao76, co76, eo76⟩ := Kd.R_slice HO_7.out; subst eo76; have p323 : 0 ≤ (x89_4 : Int) := of_decide_eq_true (by first | (with_reducible assumption) | assumption); have q323 : x89_4 < (x50_3.length : Int) := of_decide_eq_true (by first | (with_reducible assumption) | assumption); obtain ⟨ad323, e323, hx323_0⟩ := Kd.at_int (Kd.R_reads' HO_7.out).2.2 x89_4 p323 q323; cases e323; replace p323 := eq_true p323; replace q323 := eq_true q323; have p324 : 0 ≤ (x89_4 : Int) := of_decide_eq_true (by first | (with_reducible assumption) | assumption); have q324 : x89_4 < (x50_3.length : Int) := of_decide_eq_true (by first | (with_reducible assumption) | assumption); obtain ⟨ad324, e324, hx324_0⟩ := Kd.at_int (Kd.R_reads' HO_7.out).2.2 x89_4 p324 q324; obtain rfl : ad323 = ad324 := (by injection e324); replace p324 := eq_true p324; replace q324 := eq_true q324; have p325 : 0 ≤ (x97_5 : Int) := of_decide_eq_true (by first | (with_reducible assumption) | assumption); have q325 : x97_5 < (x50_3.length : Int) := of_decide_eq_true (by first | (with_reducible assumption) | assumption); obtain ⟨ad325, e325, hx325_0⟩ := Kd.at_int (Kd.R_reads' HO_7.out).2.2 x97_5 p325 q325; obtain rfl : ad323 = ad325 := (by injection e325); replace p325 := eq_true p325; replace q325 := eq_true q325; have hcz77_0 := cZ BK298 0 (.slice (some ad319) l0_0.length c0_0); have hcz77_1 := cZ BK298 1 (.slice A0_1 l0_1.length c0_1); have hfz77_0 := blk_frozen BK298.out 0; have hfz77_1 := blk_frozen BK298.out 1))
                             repeat (go_quiet (first | (go_at_call 26; (with_reducible refine (apparatus_Agree.calls k5 _ _ l0_0 _ _ l0_1 (rdOf ByteArray.empty l0_0 x89_4) (rdOf ByteArray.empty l0_0 x97_5) t321 t322 _ ?side1 ?side2 ?side3 ?side4 A60.out).mono ?_); (case side1 => exact iC HR0_0 HB); (case side2 => exact HC0_0.out); (case side3 => exact iC HR0_1 HB); (case side4 => exact HC0_1.out); (try clear A60); rintro e w75 ⟨rfl, hb⟩; have n0_ := jR HO_7 hb; have n1_ := jB BK298 hb; have n2_ := jL HB hb; clear HO_7; clear BK298; clear HB; have HO_7 := n0_; have BK298 := n1_; have HB := n2_; clear n0_ n1_ n2_; (try clear hb); (try clear hb2); (try clear hk); (try clear hi); obtain ⟨Ao76, co76, eo76⟩ := Kd.R_slice HO_7.out; subst eo76; have p323 : 0 ≤ (x89_4 : Int) := of_decide_eq_true (by first | (with_reducible assumption) | assumption); have q323 : x89_4 < (x50_3.length : Int) := of_decide_eq_true (by first | (with_reducible assumption) | assumption); obtain ⟨ad323, e323, hx323_0⟩ := Kd.at_int (Kd.R_reads' HO_7.out).2.2 x89_4 p323 q323; cases e323; replace p323 := eq_true p323; replace q323 := eq_true q323; have p324 : 0 ≤ (x89_4 : Int) := of_decide_eq_true (by first | (with_reducible assumption) | assumption); have q324 : x89_4 < (x50_3.length : Int) := of_decide_eq_true (by first | (with_reducible assumption) | assumption); obtain ⟨ad324, e324, hx324_0⟩ := Kd.at_int (Kd.R_reads' HO_7.out).2.2 x89_4 p324 q324; obtain rfl : ad323 = ad324 := (by injection e324); replace p324 := eq_true p324; replace q324 := eq_true q324; have p325 : 0 ≤ (x97_5 : Int) := of_decide_eq_true (by first | (with_reducible assumption) | assumption); have q325 : x97_5 < (x50_3.length : Int) := of_decide_eq_true (by first | (with_reducible assumption) | assumption); obtain ⟨ad325, e325, hx325_0⟩ := Kd.at_int (Kd.R_reads' HO_7.out).2.2 x97_5 p325 q325; obtain rfl : ad323 = ad325 := (by injection e325); replace p325 := eq_true p325; replace q325 := eq_true q325; have hcz77_0 := cZ BK298 0 (.slice (some ad319) l0_0.length c0_0); have hcz77_1 := cZ BK298 1 (.slice A0_1 l0_1.length c0_1); have hfz77_0 := blk_frozen BK298.out 0; have hfz77_1 := blk_frozen BK298.out 1)); try go_wp2_with (first | (go_at_call 26; (with_reducible refine (apparatus_Agree.calls k5 _ _ l0_0 _ _ l0_1 (rdOf ByteArray.empty l0_0 x89_4) (rdOf ByteArray.empty l0_0 x97_5) t321 t322 _ ?side1 ?side2 ?side3 ?side4 A60.out).mono ?_); (case side1 => exact iC HR0_0 HB); (case side2 => exact HC0_0.out); (case side3 => exact iC HR0_1 HB); (case side4 => exact HC0_1.out); (try clear A60); rintro e w75 ⟨rfl, hb⟩; have n0_ := jR HO_7 hb; have n1_ := jB BK298 hb; have n2_ := jL HB hb; clear HO_7; clear BK298; clear HB; have HO_7 := n0_; have BK298 := n1_; have HB := n2_; clear n0_ n1_ n2_; (try clear hb); (try clear hb2); (try clear hk); (try clear hi); obtain ⟨Ao76, co76, eo76⟩ := Kd.R_slice HO_7.out; subst eo76; have p323 : 0 ≤ (x89_4 : Int) := of_decide_eq_true (by first | (with_reducible assumption) | assumption); have q323 : x89_4 < (x50_3.length : Int) := of_decide_eq_true (by first | (with_reducible assumption) | assumption); obtain ⟨ad323, e323, hx323_0⟩ := Kd.at_int (Kd.R_reads' HO_7.out).2.2 x89_4 p323 q323; cases e323; replace p323 := eq_true p323; replace q323 := eq_true q323; have p324 : 0 ≤ (x89_4 : Int) := of_decide_eq_true (by first | (with_reducible assumption) | assumption); have q324 : x89_4 < (x50_3.length : Int) := of_decide_eq_true (by first | (with_reducible assumption) | assumption); obtain ⟨ad324, e324, hx324_0⟩ := Kd.at_int (Kd.R_reads' HO_7.out).2.2 x89_4 p324 q324; obtain rfl : ad323 = ad324 := (by injection e324); replace p324 := eq_true p324; replace q324 := eq_true q324; have p325 : 0 ≤ (x97_5 : Int) := of_decide_eq_true (by first | (with_reducible assumption) | assumption); have q325 : x97_5 < (x50_3.length : Int) := of_decide_eq_true (by first | (with_reducible assumption) | assumption); obtain ⟨ad325, e325, hx325_0⟩ := Kd.at_int (Kd.R_reads' HO_7.out).2.2 x97_5 p325 q325; obtain rfl : ad323 = ad325 := (by injection e325); replace p325 := eq_true p325; replace q325 := eq_true q325; have hcz77_0 := cZ BK298 0 (.slice (some ad319) l0_0.length c0_0); have hcz77_1 := cZ BK298 1 (.slice A0_1 l0_1.length c0_1); have hfz77_0 := blk_frozen BK298.out 0; have hfz77_1 := blk_frozen BK298.out 1)))
                             go_roundg k5
                             case measure => have := HJ1.out; have := HJ15.out; have := HK3.out; have := HK4.out; have := HK5.out; omega
                             case rel => exact ⟨(wrap64 (x97_5 + 1)), (by first | rfl | (simp; done) | (simp [*]; done)), H', ⟨by have := HJ1.out; have := HJ15.out; have := HK3.out; have := HK4.out; have := HK5.out; omega⟩, ⟨by (with_reducible repeat (first | apply Kd.R_alloc | apply Kd.R_drewN | apply Kd.R_drew)); exact HO_7.out⟩, ⟨by (with_reducible repeat (first | apply blk_drewN | apply blk_drew | apply blk_alloc)); exact BK298.out⟩, ⟨by repeat (first | (with_reducible first | exact HB.out | apply below_alloc | apply pw_below_drewN | apply below_drew1 | refine below_set ?_ GE298.out) | exact HB.out)⟩⟩
                           ·rw [if_neg c68] at H
                            exact absurd H (by simp)
                         ·rw [if_neg c63] at H
                          exact absurd H (by simp)
                        ·rw [if_neg c62] at H
                         exact absurd H (by simp)
                       ·rw [if_neg c61] at H
                        have c61b0 : (t322 == 0) = false := beq_eq_false_iff_ne.mpr c61
                        have c61b1 : (t322 != 0) = true := bne_iff_ne.mpr c61
                        obtain rfl := Option.some.inj H
                        have p320 : 0 ≤ (x97_5 : Int) := of_decide_eq_true (by first | (with_reducible assumption) | assumption)
                        have q320 : x97_5 < (l0_0.length : Int) := of_decide_eq_true (by first | (with_reducible assumption) | assumption)
                        obtain ⟨ad320, e320, hx320_0⟩ := Kd.at_string HR0_0.out x97_5 p320 q320
                        obtain rfl : ad319 = ad320 := (by injection e320)
                        replace hx320_0 := (HB.out.cell (World.block_lt_of_cell? w _ hx320_0)).trans hx320_0
                        replace p320 := eq_true p320
                        replace q320 := eq_true q320
                        have hcz78_0 := cZ BK298 0 (.slice (some ad319) l0_0.length c0_0)
                        have hcz78_1 := cZ BK298 1 (.slice A0_1 l0_1.length c0_1)
                        have hfz78_0 := blk_frozen BK298.out 0
                        have hfz78_1 := blk_frozen BK298.out 1
                        go_wp2_with (first | (go_at_call 26; (with_reducible refine (apparatus_Agree.calls k5 _ _ l0_0 _ _ l0_1 (rdOf ByteArray.empty l0_0 x89_4) (rdOf ByteArray.empty l0_0 x97_5) t321 t322 _ ?side1 ?side2 ?side3 ?side4 A60.out).mono ?_); (case side1 => exact iC HR0_0 HB); (case side2 => exact HC0_0.out); (case side3 => exact iC HR0_1 HB); (case side4 => exact HC0_1.out); rintro e w79 ⟨rfl, hb⟩; have n0_ := jR HO_7 hb; have n1_ := jB BK298 hb; have n2_ := jL HB hb; clear HO_7; clear BK298; clear HB; have HO_7 := n0_; have BK298 := n1_; have HB := n2_; clear n0_ n1_ n2_; (try clear hb); (try clear hb2); (try clear hk); (try clear hi)))
                        repeat (go_quiet (first | (go_at_call 26; (with_reducible refine (apparatus_Agree.calls k5 _ _ l0_0 _ _ l0_1 (rdOf ByteArray.empty l0_0 x89_4) (rdOf ByteArray.empty l0_0 x97_5) t321 t322 _ ?side1 ?side2 ?side3 ?side4 A60.out).mono ?_); (case side1 => exact iC HR0_0 HB); (case side2 => exact HC0_0.out); (case side3 => exact iC HR0_1 HB); (case side4 => exact HC0_1.out); (try clear A60); rintro e w79 ⟨rfl, hb⟩; have n0_ := jR HO_7 hb; have n1_ := jB BK298 hb; have n2_ := jL HB hb; clear HO_7; clear BK298; clear HB; have HO_7 := n0_; have BK298 := n1_; have HB := n2_; clear n0_ n1_ n2_; (try clear hb); (try clear hb2); (try clear hk); (try clear hi))); try go_wp2_with (first | (go_at_call 26; (with_reducible refine (apparatus_Agree.calls k5 _ _ l0_0 _ _ l0_1 (rdOf ByteArray.empty l0_0 x89_4) (rdOf ByteArray.empty l0_0 x97_5) t321 t322 _ ?side1 ?side2 ?side3 ?side4 A60.out).mono ?_); (case side1 => exact iC HR0_0 HB); (case side2 => exact HC0_0.out); (case side3 => exact iC HR0_1 HB); (case side4 => exact HC0_1.out); (try clear A60); rintro e w79 ⟨rfl, hb⟩; have n0_ := jR HO_7 hb; have n1_ := jB BK298 hb; have n2_ := jL HB hb; clear HO_7; clear BK298; clear HB; have HO_7 := n0_; have BK298 := n1_; have HB := n2_; clear n0_ n1_ n2_; (try clear hb); (try clear hb2); (try clear hk); (try clear hi))))
                        go_ret
                        exact ⟨by first | rfl | (simp [errW_none, errW_some] <;> rfl) | (simp [*, errW_none, errW_some] <;> rfl), by repeat (first | (with_reducible first | exact HB.out | apply below_alloc | apply pw_below_drewN | apply below_drew1 | refine below_set ?_ GE298.out) | exact HB.out)⟩
                      ·rw [if_neg c59] at H
                       exact absurd H (by simp)
                     ·rw [if_neg c58] at H
                      exact absurd H (by simp)
                    ·rw [if_neg c57] at H
                     have c57b0 : decide (x97_5 < (l0_0.length : Int)) = false := decide_eq_false c57
                     clear c57
                     have H' := Aside0.mk H
                     clear H
                     go_wp2
                     repeat (go_quiet (fail); try go_wp2)
                     go_roundg k5
                     case measure => have := HJ1.out; have := HJ15.out; have := HK3.out; have := HK4.out; have := HK5.out; omega
                     case rel => exact ⟨(wrap64 (x89_4 + 1)), (by first | rfl | (simp; done) | (simp [*]; done)), H', ⟨by have := HJ1.out; have := HJ15.out; have := HK3.out; have := HK4.out; have := HK5.out; omega⟩, ⟨by (with_reducible repeat (first | apply Kd.R_alloc | apply Kd.R_drewN | apply Kd.R_drew)); exact HO_7.out⟩, ⟨by (with_reducible repeat (first | apply blk_drewN | apply blk_drew | apply blk_alloc)); exact BK298.out⟩, ⟨by repeat (first | (with_reducible first | exact HB.out | apply below_alloc | apply pw_below_drewN | apply below_drew1 | refine below_set ?_ GE298.out) | exact HB.out)⟩⟩
                 ·rw [if_neg c55] at H
                  exact absurd H (by simp)
                ·rw [if_neg c54] at H
                 exact absurd H (by simp)
               ·rw [if_neg c53] at H
                have c53b0 : decide (x89_4 < (l0_0.length : Int)) = false := decide_eq_false c53
                clear c53
                obtain rfl := Option.some.inj H
                go_wp2
                repeat (go_quiet (fail); try go_wp2)
                go_ret
                exact ⟨by first | rfl | (simp [errW_none, errW_some] <;> rfl) | (simp [*, errW_none, errW_some] <;> rfl), by repeat (first | (with_reducible first | exact HB.out | apply below_alloc | apply pw_below_drewN | apply below_drew1 | refine below_set ?_ GE298.out) | exact HB.out)⟩
            ·rw [if_neg c51] at H
             have c51b0 : (t305 == 0) = false := beq_eq_false_iff_ne.mpr c51
             have c51b1 : (t305 != 0) = true := bne_iff_ne.mpr c51
             obtain rfl := Option.some.inj H
             go_wp2
             repeat (go_quiet (fail); try go_wp2)
             go_ret
             exact ⟨by first | rfl | (simp [errW_none, errW_some] <;> rfl) | (simp [*, errW_none, errW_some] <;> rfl), by repeat (first | (with_reducible first | exact HB.out | apply below_alloc | apply pw_below_drewN | apply below_drew1 | refine below_set ?_ GE298.out) | exact HB.out)⟩
        ·rw [if_neg c26] at H
         exact absurd H (by simp)
       ·rw [if_neg c25] at H
        exact absurd H (by simp)

/-- THE ONE PURE STATEMENT of ancepslaw57_ApparatusGroups: yours. -/
def ancepslaw57_ApparatusGroups.Pure : Prop := ∀ (l0_0 : List ByteArray) (l0_1 : List (S65)), l0_0.length ≤ maxLen → l0_0.length * 16 ≤ 140737488351232 → (∀ x ∈ l0_0, x.size ≤ 140737488351232) → l0_1.length ≤ maxLen → l0_1.length * 40 ≤ 140737488351232 → (∀ x ∈ l0_1, x.f0.size ≤ 140737488351232 ∧ (x.f1.length ≤ maxLen ∧ x.f1.length * 24 ≤ 140737488351232 ∧ ∀ y0 ∈ x.f1, y0.f0.size ≤ 140737488351232 ∧ (Lit.int .i64 y0.f1).wf = true)) → ∃ k, ancepslaw57_ApparatusGroups.f k l0_0 l0_1 = some true
theorem ancepslaw57_ApparatusGroups.walk (P : ancepslaw57_ApparatusGroups.Pure) (A0_0 : Option Addr) (c0_0 : Nat) (l0_0 : List ByteArray) (A0_1 : Option Addr) (c0_1 : Nat) (l0_1 : List (S65)) (w : World) (hr0_0 : Kd.C Kd.string w A0_0 l0_0.length l0_0) (hc0_0 : l0_0.length ≤ c0_0) (hm0_0 : l0_0.length ≤ maxLen) (y0_0 : l0_0.length * 16 ≤ 140737488351232) (hw0_0 : ∀ x ∈ l0_0, x.size ≤ 140737488351232) (hr0_1 : Kd.C k65 w A0_1 l0_1.length l0_1) (hc0_1 : l0_1.length ≤ c0_1) (hm0_1 : l0_1.length ≤ maxLen) (y0_1 : l0_1.length * 40 ≤ 140737488351232) (hw0_1 : ∀ x ∈ l0_1, x.f0.size ≤ 140737488351232 ∧ (x.f1.length ≤ maxLen ∧ x.f1.length * 24 ≤ 140737488351232 ∧ ∀ y0 ∈ x.f1, y0.f0.size ≤ 140737488351232 ∧ (Lit.int .i64 y0.f1).wf = true)) :
  Calls Try.prog 6 #[.agg #[.slice A0_0 l0_0.length c0_0, .slice A0_1 l0_1.length c0_1]] w fun e w' => e = .returned (.bool true) ∧ Below w.heap.size w w' := by
 obtain ⟨k, h⟩ := P l0_0 l0_1 hm0_0 y0_0 hw0_0 hm0_1 y0_1 hw0_1
 refine (ancepslaw57_ApparatusGroups.calls k _ _ l0_0 _ _ l0_1 true w hr0_0 hc0_0 hr0_1 hc0_1 h).mono ?_
 rintro e w' ⟨rfl, hd⟩
 exact ⟨rfl, hd⟩

end Go.Proofs.Ytmjigfoldeekmaa.X
