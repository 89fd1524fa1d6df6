-- shortened
-- thinned
-- halved indents
-- printed by this session's xprint.py: out of the translation, by the kit's print with additions; Lean checks it
import Derived.Test.YtmjigfoldeekmaaWN
import Derived.Test.YtmjigfoldeekmaaWShare
import Derived.Test.YtmjigfoldeekmaaWRepsOne
import Derived.Test.YtmjigfoldeekmaaWGuard
import Derived.Test.YtmjigfoldeekmaaX0
import Derived.Test.YtmjigfoldeekmaaX4
import Derived.Test.YtmjigfoldeekmaaX11
import Derived.Test.YtmjigfoldeekmaaX13
import Derived.Test.YtmjigfoldeekmaaXA
namespace Go.Proofs.Ytmjigfoldeekmaa.X
open Go.RowKit Go.Proofs.YtmjigfoldeekmaaW.PrintWords Go.Proofs.YtmjigfoldeekmaaW.PrintLast Go.Proofs.YtmjigfoldeekmaaW.PrintMore
attribute [local go_sem] max2_int min2_int max_two min_two max_three min_three max_four min_four isSome_setCell binOp_gtr_str binOp_leq_str binOp_geq_str   -- for this text's walks alone
set_option linter.unusedVariables false
set_option linter.unusedSimpArgs false

/-! ### ancepslaw57_ApparatusCost: function 4 -/
mutual
def ancepslaw57_ApparatusCost.j0 : Nat → ByteArray → ByteArray → Bool → Option (Bool)
 | 0, _, _, _ => none
 | k + 1, x0, x1, x31 => if x31 = true then ((ancepslaw57_awake.f k).bind fun t265 => (some t265)) else ((ancepsref01_All.f k x0).bind fun bt266 => ((ancepsref01_All.f k x1).bind fun bt270 => ((apparatus_Words.f k x0 x1).bind fun bt274 => ((apparatus_Words.f k x1 x0).bind fun bt278 => (if bt274.2 = 0 then (ancepslaw57_ApparatusCost.l0 k bt266.1 bt270.1 bt278.1 0 0 0 bt274.1 (bt274.1.length : Int) 0) else (some ((bt274.1.length : Int) == 0)))))))
def ancepslaw57_ApparatusCost.l0 : Nat → List ByteArray → List ByteArray → List (S29) → Int → Int → Int → List (S29) → Int → Int → Option (Bool)
 | 0, _, _, _, _, _, _, _, _, _ => none
 | k + 1, x5, x7, x11, x13, x14, x15, x60, x61, x62 => if x62 < x61 then (if 0 ≤ x62 then (if x62 < (x60.length : Int) then (if ((rd_T29 x60 x62).f0) ≥ 0 then (if ((rd_T29 x60 x62).f0) = x14 then (if ((rd_T29 x60 x62).f1) ≥ 0 then (if ((rd_T29 x60 x62).f1) = x15 then (if ((rd_T29 x60 x62).f0) < 0 then (none) else (if x14 ≥ (x5.length : Int) then (none) else (if x15 ≥ (x7.length : Int) then (ancepslaw57_ApparatusCost.j2 k x5 x7 x11 x13 x14 x15 x60 x61 x62 (decide (((rd_T29 x60 x62).f1) ≥ 0)) ((rd_T29 x60 x62).f0) ((rd_T29 x60 x62).f1)) else (ancepslaw57_ApparatusCost.j2 k x5 x7 x11 x13 x14 x15 x60 x61 x62 false ((rd_T29 x60 x62).f0) ((rd_T29 x60 x62).f1))))) else (none)) else (if ((rd_T29 x60 x62).f0) < 0 then (none) else (if x14 ≥ (x5.length : Int) then (none) else (if x15 ≥ (x7.length : Int) then (ancepslaw57_ApparatusCost.j2 k x5 x7 x11 x13 x14 x15 x60 x61 x62 (decide (((rd_T29 x60 x62).f1) ≥ 0)) ((rd_T29 x60 x62).f0) ((rd_T29 x60 x62).f1)) else (ancepslaw57_ApparatusCost.j2 k x5 x7 x11 x13 x14 x15 x60 x61 x62 false ((rd_T29 x60 x62).f0) ((rd_T29 x60 x62).f1)))))) else (none)) else (if ((rd_T29 x60 x62).f1) ≥ 0 then (if ((rd_T29 x60 x62).f1) = x15 then (if ((rd_T29 x60 x62).f0) < 0 then (if ((rd_T29 x60 x62).f1) < 0 then (none) else (if x14 ≥ (x5.length : Int) then (if x15 ≥ (x7.length : Int) then (ancepslaw57_ApparatusCost.j2 k x5 x7 x11 x13 x14 x15 x60 x61 x62 (decide (((rd_T29 x60 x62).f1) ≥ 0)) ((rd_T29 x60 x62).f0) ((rd_T29 x60 x62).f1)) else (ancepslaw57_ApparatusCost.j2 k x5 x7 x11 x13 x14 x15 x60 x61 x62 false ((rd_T29 x60 x62).f0) ((rd_T29 x60 x62).f1))) else (if x15 ≥ (x7.length : Int) then (ancepslaw57_ApparatusCost.j2 k x5 x7 x11 x13 x14 x15 x60 x61 x62 (decide (((rd_T29 x60 x62).f1) ≥ 0)) ((rd_T29 x60 x62).f0) ((rd_T29 x60 x62).f1)) else (ancepslaw57_ApparatusCost.j2 k x5 x7 x11 x13 x14 x15 x60 x61 x62 false ((rd_T29 x60 x62).f0) ((rd_T29 x60 x62).f1))))) else (none)) else (none)) else (if ((rd_T29 x60 x62).f0) < 0 then (if ((rd_T29 x60 x62).f1) < 0 then (none) else (none)) else (none)))) else (none)) else (none)) else (ancepslaw57_ApparatusCost.l1 k x5 x7 x13 x14 x15 x11 (x11.length : Int) 0)
def ancepslaw57_ApparatusCost.j2 : Nat → List ByteArray → List ByteArray → List (S29) → Int → Int → Int → List (S29) → Int → Int → Bool → Int → Int → Option (Bool)
 | 0, _, _, _, _, _, _, _, _, _, _, _, _ => none
 | k + 1, x5, x7, x11, x13, x14, x15, x60, x61, x62, x117, x284000, x284001 => if x117 = true then (none) else (if x284000 < 0 then (ancepslaw57_ApparatusCost.j3 k x5 x7 x11 x13 x14 x15 x60 x61 x62 true x284000 x284001) else (if x284001 < 0 then (ancepslaw57_ApparatusCost.j3 k x5 x7 x11 x13 x14 x15 x60 x61 x62 true x284000 x284001) else (if 0 ≤ x14 then (if x14 < (x5.length : Int) then (if 0 ≤ x15 then (if x15 < (x7.length : Int) then (ancepslaw57_ApparatusCost.j3 k x5 x7 x11 x13 x14 x15 x60 x61 x62 ((rdOf ByteArray.empty x5 x14).toList != (rdOf ByteArray.empty x7 x15).toList) x284000 x284001) else (none)) else (none)) else (none)) else (none))))
def ancepslaw57_ApparatusCost.j3 : Nat → List ByteArray → List ByteArray → List (S29) → Int → Int → Int → List (S29) → Int → Int → Bool → Int → Int → Option (Bool)
 | 0, _, _, _, _, _, _, _, _, _, _, _, _ => none
 | k + 1, x5, x7, x11, x13, x14, x15, x60, x61, x62, x136, x284000, x284001 => if x136 = true then (ancepslaw57_ApparatusCost.j4 k x5 x7 x11 (wrap64 (x13 + 1)) x14 x15 x60 x61 x62 x284000 x284001) else (ancepslaw57_ApparatusCost.j4 k x5 x7 x11 x13 x14 x15 x60 x61 x62 x284000 x284001)
def ancepslaw57_ApparatusCost.j4 : Nat → List ByteArray → List ByteArray → List (S29) → Int → Int → Int → List (S29) → Int → Int → Int → Int → Option (Bool)
 | 0, _, _, _, _, _, _, _, _, _, _, _ => none
 | k + 1, x5, x7, x11, x13, x14, x15, x60, x61, x62, x284000, x284001 => if x284000 ≥ 0 then (if x284001 ≥ 0 then (ancepslaw57_ApparatusCost.l0 k x5 x7 x11 x13 (wrap64 (x14 + 1)) (wrap64 (x15 + 1)) x60 x61 (wrap64 (x62 + 1))) else (ancepslaw57_ApparatusCost.l0 k x5 x7 x11 x13 (wrap64 (x14 + 1)) x15 x60 x61 (wrap64 (x62 + 1)))) else (if x284001 ≥ 0 then (ancepslaw57_ApparatusCost.l0 k x5 x7 x11 x13 x14 (wrap64 (x15 + 1)) x60 x61 (wrap64 (x62 + 1))) else (ancepslaw57_ApparatusCost.l0 k x5 x7 x11 x13 x14 x15 x60 x61 (wrap64 (x62 + 1))))
def ancepslaw57_ApparatusCost.l1 : Nat → List ByteArray → List ByteArray → Int → Int → Int → List (S29) → Int → Int → Option (Bool)
 | 0, _, _, _, _, _, _, _, _ => none
 | k + 1, x5, x7, x13, x14, x15, x150, x151, x152 => if x152 < x151 then (if 0 ≤ x152 then (if x152 < (x150.length : Int) then (if ((rd_T29 x150 x152).f0) < 0 then (ancepslaw57_ApparatusCost.l1 k x5 x7 (wrap64 (x13 - 1)) x14 x15 x150 x151 (wrap64 (x152 + 1))) else (if ((rd_T29 x150 x152).f1) < 0 then (ancepslaw57_ApparatusCost.l1 k x5 x7 (wrap64 (x13 - 1)) x14 x15 x150 x151 (wrap64 (x152 + 1))) else (if ((rd_T29 x150 x152).f0) ≥ (x7.length : Int) then (ancepslaw57_ApparatusCost.l1 k x5 x7 (wrap64 (x13 - 1)) x14 x15 x150 x151 (wrap64 (x152 + 1))) else (if ((rd_T29 x150 x152).f1) ≥ (x5.length : Int) then (ancepslaw57_ApparatusCost.l1 k x5 x7 (wrap64 (x13 - 1)) x14 x15 x150 x151 (wrap64 (x152 + 1))) else (if 0 ≤ ((rd_T29 x150 x152).f0) then (if ((rd_T29 x150 x152).f0) < (x7.length : Int) then (if 0 ≤ ((rd_T29 x150 x152).f1) then (if ((rd_T29 x150 x152).f1) < (x5.length : Int) then (if (rdOf ByteArray.empty x7 ((rd_T29 x150 x152).f0)).toList = (rdOf ByteArray.empty x5 ((rd_T29 x150 x152).f1)).toList then (ancepslaw57_ApparatusCost.l1 k x5 x7 x13 x14 x15 x150 x151 (wrap64 (x152 + 1))) else (ancepslaw57_ApparatusCost.l1 k x5 x7 (wrap64 (x13 - 1)) x14 x15 x150 x151 (wrap64 (x152 + 1)))) else (none)) else (none)) else (none)) else (none)))))) else (none)) else (none)) else (if x13 = 0 then (if x14 = (x5.length : Int) then (some (x15 == (x7.length : Int))) else (none)) else (none))
end
def ancepslaw57_ApparatusCost.f (k : Nat) (a0 : ByteArray) (a1 : ByteArray) : Option (Bool) := (ancepslaw57_awake.f k).bind fun t264 => (if t264 = true then (if (a0.size : Int) > 200 then (ancepslaw57_ApparatusCost.j0 k a0 a1 true) else (ancepslaw57_ApparatusCost.j0 k a0 a1 (decide ((a1.size : Int) > 200)))) else (ancepslaw57_ApparatusCost.j0 k a0 a1 true))
theorem ancepslaw57_ApparatusCost.mono_l : ∀ k, (∀ y0 y1 y2, LeO (ancepslaw57_ApparatusCost.j0 k y0 y1 y2) (ancepslaw57_ApparatusCost.j0 (k + 1) y0 y1 y2)) ∧ (∀ y0 y1 y2 y3 y4 y5 y6 y7 y8, LeO (ancepslaw57_ApparatusCost.l0 k y0 y1 y2 y3 y4 y5 y6 y7 y8) (ancepslaw57_ApparatusCost.l0 (k + 1) y0 y1 y2 y3 y4 y5 y6 y7 y8)) ∧ (∀ y0 y1 y2 y3 y4 y5 y6 y7 y8 y9 y10 y11, LeO (ancepslaw57_ApparatusCost.j2 k y0 y1 y2 y3 y4 y5 y6 y7 y8 y9 y10 y11) (ancepslaw57_ApparatusCost.j2 (k + 1) y0 y1 y2 y3 y4 y5 y6 y7 y8 y9 y10 y11)) ∧ (∀ y0 y1 y2 y3 y4 y5 y6 y7 y8 y9 y10 y11, LeO (ancepslaw57_ApparatusCost.j3 k y0 y1 y2 y3 y4 y5 y6 y7 y8 y9 y10 y11) (ancepslaw57_ApparatusCost.j3 (k + 1) y0 y1 y2 y3 y4 y5 y6 y7 y8 y9 y10 y11)) ∧ (∀ y0 y1 y2 y3 y4 y5 y6 y7 y8 y9 y10, LeO (ancepslaw57_ApparatusCost.j4 k y0 y1 y2 y3 y4 y5 y6 y7 y8 y9 y10) (ancepslaw57_ApparatusCost.j4 (k + 1) y0 y1 y2 y3 y4 y5 y6 y7 y8 y9 y10)) ∧ (∀ y0 y1 y2 y3 y4 y5 y6 y7, LeO (ancepslaw57_ApparatusCost.l1 k y0 y1 y2 y3 y4 y5 y6 y7) (ancepslaw57_ApparatusCost.l1 (k + 1) y0 y1 y2 y3 y4 y5 y6 y7))
 | 0 => ⟨fun _ _ _ r h => by simp [ancepslaw57_ApparatusCost.j0] at h, fun _ _ _ _ _ _ _ _ _ r h => by simp [ancepslaw57_ApparatusCost.l0] at h, fun _ _ _ _ _ _ _ _ _ _ _ _ r h => by simp [ancepslaw57_ApparatusCost.j2] at h, fun _ _ _ _ _ _ _ _ _ _ _ _ r h => by simp [ancepslaw57_ApparatusCost.j3] at h, fun _ _ _ _ _ _ _ _ _ _ _ r h => by simp [ancepslaw57_ApparatusCost.j4] at h, fun _ _ _ _ _ _ _ _ r h => by simp [ancepslaw57_ApparatusCost.l1] at h⟩
 | k + 1 => by
  obtain ⟨ih0, ih1, ih2, ih3, ih4, ih5⟩ := ancepslaw57_ApparatusCost.mono_l k
  refine ⟨?_, ?_, ?_, ?_, ?_, ?_⟩
  ·intro y0 y1 y2
   unfold ancepslaw57_ApparatusCost.j0
   repeat' first
   | (with_reducible exact ih0 _ _ _)
   | (with_reducible exact ih1 _ _ _ _ _ _ _ _ _)
   | (with_reducible exact ih2 _ _ _ _ _ _ _ _ _ _ _ _)
   | (with_reducible exact ih3 _ _ _ _ _ _ _ _ _ _ _ _)
   | (with_reducible exact ih4 _ _ _ _ _ _ _ _ _ _ _)
   | (with_reducible exact ih5 _ _ _ _ _ _ _ _)
   | (with_reducible exact ancepslaw57_awake.mono _)
   | (with_reducible exact ancepsref01_All.mono _ _)
   | (with_reducible exact apparatus_Words.mono _ _ _)
   | (with_reducible exact LeO.refl _)
   | (with_reducible exact LeO.none _)
   | (with_reducible refine LeO.ite ?_ ?_)
   | (with_reducible refine LeO.bind ?_ (fun _ => ?_))
   | exact ih0 _ _ _
   | exact ih1 _ _ _ _ _ _ _ _ _
   | exact ih2 _ _ _ _ _ _ _ _ _ _ _ _
   | exact ih3 _ _ _ _ _ _ _ _ _ _ _ _
   | exact ih4 _ _ _ _ _ _ _ _ _ _ _
   | exact ih5 _ _ _ _ _ _ _ _
   | exact ancepslaw57_awake.mono _
   | exact ancepsref01_All.mono _ _
   | exact apparatus_Words.mono _ _ _
   | exact LeO.none _
   | refine LeO.ite ?_ ?_
   | refine LeO.bind ?_ (fun _ => ?_)
  ·intro y0 y1 y2 y3 y4 y5 y6 y7 y8
   unfold ancepslaw57_ApparatusCost.l0
   repeat' first
   | (with_reducible exact ih0 _ _ _)
   | (with_reducible exact ih1 _ _ _ _ _ _ _ _ _)
   | (with_reducible exact ih2 _ _ _ _ _ _ _ _ _ _ _ _)
   | (with_reducible exact ih3 _ _ _ _ _ _ _ _ _ _ _ _)
   | (with_reducible exact ih4 _ _ _ _ _ _ _ _ _ _ _)
   | (with_reducible exact ih5 _ _ _ _ _ _ _ _)
   | (with_reducible exact ancepslaw57_awake.mono _)
   | (with_reducible exact ancepsref01_All.mono _ _)
   | (with_reducible exact apparatus_Words.mono _ _ _)
   | (with_reducible exact LeO.refl _)
   | (with_reducible exact LeO.none _)
   | (with_reducible refine LeO.ite ?_ ?_)
   | (with_reducible refine LeO.bind ?_ (fun _ => ?_))
   | exact ih0 _ _ _
   | exact ih1 _ _ _ _ _ _ _ _ _
   | exact ih2 _ _ _ _ _ _ _ _ _ _ _ _
   | exact ih3 _ _ _ _ _ _ _ _ _ _ _ _
   | exact ih4 _ _ _ _ _ _ _ _ _ _ _
   | exact ih5 _ _ _ _ _ _ _ _
   | exact ancepslaw57_awake.mono _
   | exact ancepsref01_All.mono _ _
   | exact apparatus_Words.mono _ _ _
   | exact LeO.none _
   | refine LeO.ite ?_ ?_
   | refine LeO.bind ?_ (fun _ => ?_)
  ·intro y0 y1 y2 y3 y4 y5 y6 y7 y8 y9 y10 y11
   unfold ancepslaw57_ApparatusCost.j2
   repeat' first
   | (with_reducible exact ih0 _ _ _)
   | (with_reducible exact ih1 _ _ _ _ _ _ _ _ _)
   | (with_reducible exact ih2 _ _ _ _ _ _ _ _ _ _ _ _)
   | (with_reducible exact ih3 _ _ _ _ _ _ _ _ _ _ _ _)
   | (with_reducible exact ih4 _ _ _ _ _ _ _ _ _ _ _)
   | (with_reducible exact ih5 _ _ _ _ _ _ _ _)
   | (with_reducible exact ancepslaw57_awake.mono _)
   | (with_reducible exact ancepsref01_All.mono _ _)
   | (with_reducible exact apparatus_Words.mono _ _ _)
   | (with_reducible exact LeO.refl _)
   | (with_reducible exact LeO.none _)
   | (with_reducible refine LeO.ite ?_ ?_)
   | (with_reducible refine LeO.bind ?_ (fun _ => ?_))
   | exact ih0 _ _ _
   | exact ih1 _ _ _ _ _ _ _ _ _
   | exact ih2 _ _ _ _ _ _ _ _ _ _ _ _
   | exact ih3 _ _ _ _ _ _ _ _ _ _ _ _
   | exact ih4 _ _ _ _ _ _ _ _ _ _ _
   | exact ih5 _ _ _ _ _ _ _ _
   | exact ancepslaw57_awake.mono _
   | exact ancepsref01_All.mono _ _
   | exact apparatus_Words.mono _ _ _
   | exact LeO.none _
   | refine LeO.ite ?_ ?_
   | refine LeO.bind ?_ (fun _ => ?_)
  ·intro y0 y1 y2 y3 y4 y5 y6 y7 y8 y9 y10 y11
   unfold ancepslaw57_ApparatusCost.j3
   repeat' first
   | (with_reducible exact ih0 _ _ _)
   | (with_reducible exact ih1 _ _ _ _ _ _ _ _ _)
   | (with_reducible exact ih2 _ _ _ _ _ _ _ _ _ _ _ _)
   | (with_reducible exact ih3 _ _ _ _ _ _ _ _ _ _ _ _)
   | (with_reducible exact ih4 _ _ _ _ _ _ _ _ _ _ _)
   | (with_reducible exact ih5 _ _ _ _ _ _ _ _)
   | (with_reducible exact ancepslaw57_awake.mono _)
   | (with_reducible exact ancepsref01_All.mono _ _)
   | (with_reducible exact apparatus_Words.mono _ _ _)
   | (with_reducible exact LeO.refl _)
   | (with_reducible exact LeO.none _)
   | (with_reducible refine LeO.ite ?_ ?_)
   | (with_reducible refine LeO.bind ?_ (fun _ => ?_))
   | exact ih0 _ _ _
   | exact ih1 _ _ _ _ _ _ _ _ _
   | exact ih2 _ _ _ _ _ _ _ _ _ _ _ _
   | exact ih3 _ _ _ _ _ _ _ _ _ _ _ _
   | exact ih4 _ _ _ _ _ _ _ _ _ _ _
   | exact ih5 _ _ _ _ _ _ _ _
   | exact ancepslaw57_awake.mono _
   | exact ancepsref01_All.mono _ _
   | exact apparatus_Words.mono _ _ _
   | exact LeO.none _
   | refine LeO.ite ?_ ?_
   | refine LeO.bind ?_ (fun _ => ?_)
  ·intro y0 y1 y2 y3 y4 y5 y6 y7 y8 y9 y10
   unfold ancepslaw57_ApparatusCost.j4
   repeat' first
   | (with_reducible exact ih0 _ _ _)
   | (with_reducible exact ih1 _ _ _ _ _ _ _ _ _)
   | (with_reducible exact ih2 _ _ _ _ _ _ _ _ _ _ _ _)
   | (with_reducible exact ih3 _ _ _ _ _ _ _ _ _ _ _ _)
   | (with_reducible exact ih4 _ _ _ _ _ _ _ _ _ _ _)
   | (with_reducible exact ih5 _ _ _ _ _ _ _ _)
   | (with_reducible exact ancepslaw57_awake.mono _)
   | (with_reducible exact ancepsref01_All.mono _ _)
   | (with_reducible exact apparatus_Words.mono _ _ _)
   | (with_reducible exact LeO.refl _)
   | (with_reducible exact LeO.none _)
   | (with_reducible refine LeO.ite ?_ ?_)
   | (with_reducible refine LeO.bind ?_ (fun _ => ?_))
   | exact ih0 _ _ _
   | exact ih1 _ _ _ _ _ _ _ _ _
   | exact ih2 _ _ _ _ _ _ _ _ _ _ _ _
   | exact ih3 _ _ _ _ _ _ _ _ _ _ _ _
   | exact ih4 _ _ _ _ _ _ _ _ _ _ _
   | exact ih5 _ _ _ _ _ _ _ _
   | exact ancepslaw57_awake.mono _
   | exact ancepsref01_All.mono _ _
   | exact apparatus_Words.mono _ _ _
   | exact LeO.none _
   | refine LeO.ite ?_ ?_
   | refine LeO.bind ?_ (fun _ => ?_)
  ·intro y0 y1 y2 y3 y4 y5 y6 y7
   unfold ancepslaw57_ApparatusCost.l1
   repeat' first
   | (with_reducible exact ih0 _ _ _)
   | (with_reducible exact ih1 _ _ _ _ _ _ _ _ _)
   | (with_reducible exact ih2 _ _ _ _ _ _ _ _ _ _ _ _)
   | (with_reducible exact ih3 _ _ _ _ _ _ _ _ _ _ _ _)
   | (with_reducible exact ih4 _ _ _ _ _ _ _ _ _ _ _)
   | (with_reducible exact ih5 _ _ _ _ _ _ _ _)
   | (with_reducible exact ancepslaw57_awake.mono _)
   | (with_reducible exact ancepsref01_All.mono _ _)
   | (with_reducible exact apparatus_Words.mono _ _ _)
   | (with_reducible exact LeO.refl _)
   | (with_reducible exact LeO.none _)
   | (with_reducible refine LeO.ite ?_ ?_)
   | (with_reducible refine LeO.bind ?_ (fun _ => ?_))
   | exact ih0 _ _ _
   | exact ih1 _ _ _ _ _ _ _ _ _
   | exact ih2 _ _ _ _ _ _ _ _ _ _ _ _
   | exact ih3 _ _ _ _ _ _ _ _ _ _ _ _
   | exact ih4 _ _ _ _ _ _ _ _ _ _ _
   | exact ih5 _ _ _ _ _ _ _ _
   | exact ancepslaw57_awake.mono _
   | exact ancepsref01_All.mono _ _
   | exact apparatus_Words.mono _ _ _
   | exact LeO.none _
   | refine LeO.ite ?_ ?_
   | refine LeO.bind ?_ (fun _ => ?_)
theorem ancepslaw57_ApparatusCost.mono : ∀ a0 a1 k, LeO (ancepslaw57_ApparatusCost.f k a0 a1) (ancepslaw57_ApparatusCost.f (k + 1) a0 a1) := by
 intro a0 a1 k
 obtain ⟨ih0, ih1, ih2, ih3, ih4, ih5⟩ := ancepslaw57_ApparatusCost.mono_l k
 unfold ancepslaw57_ApparatusCost.f
 repeat' first
   | (with_reducible exact ih0 _ _ _)
   | (with_reducible exact ih1 _ _ _ _ _ _ _ _ _)
   | (with_reducible exact ih2 _ _ _ _ _ _ _ _ _ _ _ _)
   | (with_reducible exact ih3 _ _ _ _ _ _ _ _ _ _ _ _)
   | (with_reducible exact ih4 _ _ _ _ _ _ _ _ _ _ _)
   | (with_reducible exact ih5 _ _ _ _ _ _ _ _)
   | (with_reducible exact ancepslaw57_awake.mono _)
   | (with_reducible exact ancepsref01_All.mono _ _)
   | (with_reducible exact apparatus_Words.mono _ _ _)
   | (with_reducible exact LeO.refl _)
   | (with_reducible exact LeO.none _)
   | (with_reducible refine LeO.ite ?_ ?_)
   | (with_reducible refine LeO.bind ?_ (fun _ => ?_))
   | exact ih0 _ _ _
   | exact ih1 _ _ _ _ _ _ _ _ _
   | exact ih2 _ _ _ _ _ _ _ _ _ _ _ _
   | exact ih3 _ _ _ _ _ _ _ _ _ _ _ _
   | exact ih4 _ _ _ _ _ _ _ _ _ _ _
   | exact ih5 _ _ _ _ _ _ _ _
   | exact ancepslaw57_awake.mono _
   | exact ancepsref01_All.mono _ _
   | exact apparatus_Words.mono _ _ _
   | exact LeO.none _
   | refine LeO.ite ?_ ?_
   | refine LeO.bind ?_ (fun _ => ?_)
set_option maxHeartbeats 8000000 in
set_option maxRecDepth 100000 in
theorem ancepslaw57_ApparatusCost.calls (k : Nat) (a0 : ByteArray) (a1 : ByteArray) (r : Bool) (w : World) (h : ancepslaw57_ApparatusCost.f k a0 a1 = some r) :
  Calls Try.prog 4 #[.string a0, .string a1] w fun e w' => e = .returned (.bool r) ∧ Below w.heap.size w w' := by
 have hu29 := Try.underlying29
 have HB := Aside0.mk (Below.refl w.heap.size w)
 have H : ((ancepslaw57_awake.f k).bind fun t264 => (if t264 = true then (if (a0.size : Int) > 200 then (ancepslaw57_ApparatusCost.j0 k a0 a1 true) else (ancepslaw57_ApparatusCost.j0 k a0 a1 (decide ((a1.size : Int) > 200)))) else (ancepslaw57_ApparatusCost.j0 k a0 a1 true))) = some r := h
 clear h
 have HC3 := Aside0.mk H
 clear H
 go_enter Try.func4, Try.ntmps4
 go_upto_region 1 with (fail)
 repeat (go_quiet (fail); go_upto_region 1 with (fail))
 go_cut [31] (fun v31 wc => ∃ (kq : Nat) (x31_2 : Bool), v31 = .bool x31_2 ∧ Aside0 (ancepslaw57_ApparatusCost.j0 kq a0 a1 x31_2 = some r) ∧ Aside0 (kq ≤ k) ∧ Aside0 (Below w.heap.size w wc))
 case first =>
  have H := HC3.out
  clear HC3
  replace H := Option.bind_eq_some_iff.mp H
  obtain ⟨t264, A40, H⟩ := H
  try dsimp only at H
  have A4 := Aside0.mk A40
  clear A40
  by_cases c5 : t264 = true
  ·subst c5
   have H1 : (if (a0.size : Int) > 200 then (ancepslaw57_ApparatusCost.j0 k a0 a1 true) else (ancepslaw57_ApparatusCost.j0 k a0 a1 (decide ((a1.size : Int) > 200)))) = some r := by rw [if_pos rfl] at H; exact H
   clear H
   have H := H1
   clear H1
   by_cases c6 : (a0.size : Int) > 200
   ·rw [if_pos c6] at H
    have c6b0 : decide (200 < (a0.size : Int)) = true := decide_eq_true c6
    have c6b1 : decide (200 < a0.size) = true := decide_eq_true (by omega)
    clear c6
    (first | rw [c6b0] | (simp only [i64_w, i32_w]; rw [c6b0]) | skip)
    have H' := Aside0.mk H
    clear H
    go_wp2_with (first | (go_at_call 9; (with_reducible refine (ancepslaw57_awake.calls k  true _ A4.out).mono ?_); rintro e w7 ⟨rfl, hb⟩; have n0_ := jL HB hb; clear HB; have HB := n0_; clear n0_; (try clear hb); (try clear hb2); (try clear hk); (try clear hi)))
    repeat (go_quiet (first | (go_at_call 9; (with_reducible refine (ancepslaw57_awake.calls k  true _ A4.out).mono ?_); (try clear A4); rintro e w7 ⟨rfl, hb⟩; have n0_ := jL HB hb; clear HB; have HB := n0_; clear n0_; (try clear hb); (try clear hb2); (try clear hk); (try clear hi))); try go_wp2_with (first | (go_at_call 9; (with_reducible refine (ancepslaw57_awake.calls k  true _ A4.out).mono ?_); (try clear A4); rintro e w7 ⟨rfl, hb⟩; have n0_ := jL HB hb; clear HB; have HB := n0_; clear n0_; (try clear hb); (try clear hb2); (try clear hk); (try clear hi))))
    go_meet
    case rel => exact ⟨_, (true), (by first | rfl | (simp; done) | (simp [*]; done)), H', ⟨by first | omega | exact Nat.le_refl _⟩, ⟨by repeat (first | (with_reducible first | exact HB.out | apply below_alloc | apply pw_below_drewN | apply below_drew1) | exact HB.out)⟩⟩
   ·rw [if_neg c6] at H
    have c6b0 : decide (200 < (a0.size : Int)) = false := decide_eq_false c6
    have c6b1 : decide (200 < a0.size) = false := decide_eq_false (by omega)
    clear c6
    (first | rw [c6b0] | (simp only [i64_w, i32_w]; rw [c6b0]) | skip)
    have H' := Aside0.mk H
    clear H
    go_wp2_with (first | (go_at_call 9; (with_reducible refine (ancepslaw57_awake.calls k  true _ A4.out).mono ?_); rintro e w8 ⟨rfl, hb⟩; have n0_ := jL HB hb; clear HB; have HB := n0_; clear n0_; (try clear hb); (try clear hb2); (try clear hk); (try clear hi)))
    repeat (go_quiet (first | (go_at_call 9; (with_reducible refine (ancepslaw57_awake.calls k  true _ A4.out).mono ?_); (try clear A4); rintro e w8 ⟨rfl, hb⟩; have n0_ := jL HB hb; clear HB; have HB := n0_; clear n0_; (try clear hb); (try clear hb2); (try clear hk); (try clear hi))); try go_wp2_with (first | (go_at_call 9; (with_reducible refine (ancepslaw57_awake.calls k  true _ A4.out).mono ?_); (try clear A4); rintro e w8 ⟨rfl, hb⟩; have n0_ := jL HB hb; clear HB; have HB := n0_; clear n0_; (try clear hb); (try clear hb2); (try clear hk); (try clear hi))))
    go_meet
    case rel => exact ⟨_, (decide ((a1.size : Int) > 200)), (by first | rfl | (simp; done) | (simp [*]; done)), H', ⟨by first | omega | exact Nat.le_refl _⟩, ⟨by repeat (first | (with_reducible first | exact HB.out | apply below_alloc | apply pw_below_drewN | apply below_drew1) | exact HB.out)⟩⟩
  ·replace c5 := Bool.eq_false_iff.mpr c5
   subst c5
   have H1 : (ancepslaw57_ApparatusCost.j0 k a0 a1 true) = some r := by rw [if_neg (show ¬ (false = true) by decide)] at H; exact H
   clear H
   have H := H1
   clear H1
   have H' := Aside0.mk H
   clear H
   go_wp2_with (first | (go_at_call 9; (with_reducible refine (ancepslaw57_awake.calls k  false _ A4.out).mono ?_); rintro e w9 ⟨rfl, hb⟩; have n0_ := jL HB hb; clear HB; have HB := n0_; clear n0_; (try clear hb); (try clear hb2); (try clear hk); (try clear hi)))
   repeat (go_quiet (first | (go_at_call 9; (with_reducible refine (ancepslaw57_awake.calls k  false _ A4.out).mono ?_); (try clear A4); rintro e w9 ⟨rfl, hb⟩; have n0_ := jL HB hb; clear HB; have HB := n0_; clear n0_; (try clear hb); (try clear hb2); (try clear hk); (try clear hi))); try go_wp2_with (first | (go_at_call 9; (with_reducible refine (ancepslaw57_awake.calls k  false _ A4.out).mono ?_); (try clear A4); rintro e w9 ⟨rfl, hb⟩; have n0_ := jL HB hb; clear HB; have HB := n0_; clear n0_; (try clear hb); (try clear hb2); (try clear hk); (try clear hi))))
   go_meet
   case rel => exact ⟨_, (true), (by first | rfl | (simp; done) | (simp [*]; done)), H', ⟨by first | omega | exact Nat.le_refl _⟩, ⟨by repeat (first | (with_reducible first | exact HB.out | apply below_alloc | apply pw_below_drewN | apply below_drew1) | exact HB.out)⟩⟩
 case rest =>
  clear HC3
  try clear p2
  try clear c4
  try clear c5
  try clear c6
  try clear c6b0
  try clear c6b1
  obtain ⟨kq, x31_2, rfl, HA, HJ2, HB⟩ := hcut
  cases kq with
  | zero => exact absurd HA.out (by simp [ancepslaw57_ApparatusCost.j0])
  | succ kj2 =>
   have H := HA.out
   clear HA
   simp only [ancepslaw57_ApparatusCost.j0] at H
   by_cases c10 : x31_2 = true
   ·subst c10
    have H1 : ((ancepslaw57_awake.f kj2).bind fun t265 => (some t265)) = some r := by rw [if_pos rfl] at H; exact H
    clear H
    have H := H1
    clear H1
    replace H := Option.bind_eq_some_iff.mp H
    obtain ⟨t265, A110, H⟩ := H
    replace H : (some t265) = some r := H
    have A11 := Aside0.mk A110
    clear A110
    obtain rfl := Option.some.inj H
    go_wp2_with (first | (go_at_call 9; (with_reducible refine (ancepslaw57_awake.calls kj2  t265 _ A11.out).mono ?_); rintro e w12 ⟨rfl, hb⟩; have n0_ := jL HB hb; clear HB; have HB := n0_; clear n0_; (try clear hb); (try clear hb2); (try clear hk); (try clear hi)))
    repeat (go_quiet (first | (go_at_call 9; (with_reducible refine (ancepslaw57_awake.calls kj2  t265 _ A11.out).mono ?_); (try clear A11); rintro e w12 ⟨rfl, hb⟩; have n0_ := jL HB hb; clear HB; have HB := n0_; clear n0_; (try clear hb); (try clear hb2); (try clear hk); (try clear hi))); try go_wp2_with (first | (go_at_call 9; (with_reducible refine (ancepslaw57_awake.calls kj2  t265 _ A11.out).mono ?_); (try clear A11); rintro e w12 ⟨rfl, hb⟩; have n0_ := jL HB hb; clear HB; have HB := n0_; clear n0_; (try clear hb); (try clear hb2); (try clear hk); (try clear hi))))
    go_ret
    exact ⟨by first | rfl | (simp [errW_none, errW_some] <;> rfl) | (simp [*, errW_none, errW_some] <;> rfl), by repeat (first | (with_reducible first | exact HB.out | apply below_alloc | apply pw_below_drewN | apply below_drew1) | exact HB.out)⟩
   ·replace c10 := Bool.eq_false_iff.mpr c10
    subst c10
    have H1 : ((ancepsref01_All.f kj2 a0).bind fun bt266 => ((ancepsref01_All.f kj2 a1).bind fun bt270 => ((apparatus_Words.f kj2 a0 a1).bind fun bt274 => ((apparatus_Words.f kj2 a1 a0).bind fun bt278 => (if bt274.2 = 0 then (ancepslaw57_ApparatusCost.l0 kj2 bt266.1 bt270.1 bt278.1 0 0 0 bt274.1 (bt274.1.length : Int) 0) else (some ((bt274.1.length : Int) == 0))))))) = some r := by rw [if_neg (show ¬ (false = true) by decide)] at H; exact H
    clear H
    have H := H1
    clear H1
    replace H := Option.bind_eq_some_iff.mp H
    obtain ⟨⟨t266, t267⟩, A130, H⟩ := H
    try dsimp only at H
    have A13 := Aside0.mk A130
    clear A130
    replace H := Option.bind_eq_some_iff.mp H
    obtain ⟨⟨t270, t271⟩, A140, H⟩ := H
    try dsimp only at H
    have A14 := Aside0.mk A140
    clear A140
    replace H := Option.bind_eq_some_iff.mp H
    obtain ⟨⟨t274, t275⟩, A150, H⟩ := H
    try dsimp only at H
    have A15 := Aside0.mk A150
    clear A150
    replace H := Option.bind_eq_some_iff.mp H
    obtain ⟨⟨t278, t279⟩, A160, H⟩ := H
    try dsimp only at H
    have A16 := Aside0.mk A160
    clear A160
    by_cases c17 : t275 = 0
    ·rw [if_pos c17] at H
     have c17b0 : (t275 == 0) = true := beq_iff_eq.mpr c17
     have c17b1 : (t275 != 0) = false := bne_eq_false_iff_eq.mpr c17
     clear c17
     have H' := Aside0.mk H
     clear H
     go_wp2_with (first | (go_at_call 14; (with_reducible refine (ancepsref01_All.calls kj2 a0 t266 t267 _ A13.out).mono ?_); (try clear A13); rintro e w18 ⟨v268, rfl, ho0, hb⟩; have n0_ := Aside0.mk (Kd.R_lower ho0 (below_size (iL HB))); have n1_ := jL HB hb; clear HB; have HO269 := n0_; have HB := n1_; clear n0_ n1_; (try clear hb); (try clear hb2); (try clear hk); (try clear hi); (try clear ho0)) | (go_at_call 14; (with_reducible refine (ancepsref01_All.calls kj2 a1 t270 t271 _ A14.out).mono ?_); (try clear A14); rintro e w19 ⟨v272, rfl, ho0, hb⟩; have n0_ := Aside0.mk (Kd.R_elder' (iR HO269) (Kd.R_base ho0) hb); have n1_ := Aside0.mk (Kd.R_lower (Kd.R_new' ho0 (Kd.R_lt (iR HO269))) (below_size (iL HB))); have n2_ := jL HB hb; clear HO269; clear HB; have HO269 := n0_; have HO273 := n1_; have HB := n2_; clear n0_ n1_ n2_; (try clear hb); (try clear hb2); (try clear hk); (try clear hi); (try clear ho0)) | (go_at_call 10; (with_reducible refine (apparatus_Words.calls kj2 a0 a1 t274 t275 _ A15.out).mono ?_); (try clear A15); rintro e w20 ⟨v276, rfl, ho0, hb⟩; have n0_ := jR HO269 hb; have n1_ := jR HO273 hb; have n2_ := Aside0.mk (Kd.R_lower ho0 (below_size (iL HB))); have n3_ := jL HB hb; clear HO269; clear HO273; clear HB; have HO269 := n0_; have HO273 := n1_; have HO277 := n2_; have HB := n3_; clear n0_ n1_ n2_ n3_; (try clear hb); (try clear hb2); (try clear hk); (try clear hi); (try clear ho0)) | (go_at_call 10; (with_reducible refine (apparatus_Words.calls kj2 a1 a0 t278 t279 _ A16.out).mono ?_); (try clear A16); rintro e w21 ⟨v280, rfl, ho0, hb⟩; have n0_ := jR HO269 hb; have n1_ := jR HO273 hb; have n2_ := Aside0.mk (Kd.R_elder' (iR HO277) (Kd.R_base ho0) hb); have n3_ := Aside0.mk (Kd.R_lower (Kd.R_new' ho0 (Kd.R_lt (iR HO277))) (below_size (iL HB))); have n4_ := jL HB hb; clear HO269; clear HO273; clear HO277; clear HB; have HO269 := n0_; have HO273 := n1_; have HO277 := n2_; have HO281 := n3_; have HB := n4_; clear n0_ n1_ n2_ n3_ n4_; (try clear hb); (try clear hb2); (try clear hk); (try clear hi); (try clear ho0); obtain ⟨Ao22, co22, eo22⟩ := Kd.R_slice HO277.out; subst eo22))
     repeat (go_quiet (first | (go_at_call 14; (with_reducible refine (ancepsref01_All.calls kj2 a0 t266 t267 _ A13.out).mono ?_); (try clear A13); rintro e w18 ⟨v268, rfl, ho0, hb⟩; have n0_ := Aside0.mk (Kd.R_lower ho0 (below_size (iL HB))); have n1_ := jL HB hb; clear HB; have HO269 := n0_; have HB := n1_; clear n0_ n1_; (try clear hb); (try clear hb2); (try clear hk); (try clear hi); (try clear ho0)) | (go_at_call 14; (with_reducible refine (ancepsref01_All.calls kj2 a1 t270 t271 _ A14.out).mono ?_); (try clear A14); rintro e w19 ⟨v272, rfl, ho0, hb⟩; have n0_ := Aside0.mk (Kd.R_elder' (iR HO269) (Kd.R_base ho0) hb); have n1_ := Aside0.mk (Kd.R_lower (Kd.R_new' ho0 (Kd.R_lt (iR HO269))) (below_size (iL HB))); have n2_ := jL HB hb; clear HO269; clear HB; have HO269 := n0_; have HO273 := n1_; have HB := n2_; clear n0_ n1_ n2_; (try clear hb); (try clear hb2); (try clear hk); (try clear hi); (try clear ho0)) | (go_at_call 10; (with_reducible refine (apparatus_Words.calls kj2 a0 a1 t274 t275 _ A15.out).mono ?_); (try clear A15); rintro e w20 ⟨v276, rfl, ho0, hb⟩; have n0_ := jR HO269 hb; have n1_ := jR HO273 hb; have n2_ := Aside0.mk (Kd.R_lower ho0 (below_size (iL HB))); have n3_ := jL HB hb; clear HO269; clear HO273; clear HB; have HO269 := n0_; have HO273 := n1_; have HO277 := n2_; have HB := n3_; clear n0_ n1_ n2_ n3_; (try clear hb); (try clear hb2); (try clear hk); (try clear hi); (try clear ho0)) | (go_at_call 10; (with_reducible refine (apparatus_Words.calls kj2 a1 a0 t278 t279 _ A16.out).mono ?_); (try clear A16); rintro e w21 ⟨v280, rfl, ho0, hb⟩; have n0_ := jR HO269 hb; have n1_ := jR HO273 hb; have n2_ := Aside0.mk (Kd.R_elder' (iR HO277) (Kd.R_base ho0) hb); have n3_ := Aside0.mk (Kd.R_lower (Kd.R_new' ho0 (Kd.R_lt (iR HO277))) (below_size (iL HB))); have n4_ := jL HB hb; clear HO269; clear HO273; clear HO277; clear HB; have HO269 := n0_; have HO273 := n1_; have HO277 := n2_; have HO281 := n3_; have HB := n4_; clear n0_ n1_ n2_ n3_ n4_; (try clear hb); (try clear hb2); (try clear hk); (try clear hi); (try clear ho0); obtain ⟨Ao22, co22, eo22⟩ := Kd.R_slice HO277.out; subst eo22)); try go_wp2_with (first | (go_at_call 14; (with_reducible refine (ancepsref01_All.calls kj2 a0 t266 t267 _ A13.out).mono ?_); (try clear A13); rintro e w18 ⟨v268, rfl, ho0, hb⟩; have n0_ := Aside0.mk (Kd.R_lower ho0 (below_size (iL HB))); have n1_ := jL HB hb; clear HB; have HO269 := n0_; have HB := n1_; clear n0_ n1_; (try clear hb); (try clear hb2); (try clear hk); (try clear hi); (try clear ho0)) | (go_at_call 14; (with_reducible refine (ancepsref01_All.calls kj2 a1 t270 t271 _ A14.out).mono ?_); (try clear A14); rintro e w19 ⟨v272, rfl, ho0, hb⟩; have n0_ := Aside0.mk (Kd.R_elder' (iR HO269) (Kd.R_base ho0) hb); have n1_ := Aside0.mk (Kd.R_lower (Kd.R_new' ho0 (Kd.R_lt (iR HO269))) (below_size (iL HB))); have n2_ := jL HB hb; clear HO269; clear HB; have HO269 := n0_; have HO273 := n1_; have HB := n2_; clear n0_ n1_ n2_; (try clear hb); (try clear hb2); (try clear hk); (try clear hi); (try clear ho0)) | (go_at_call 10; (with_reducible refine (apparatus_Words.calls kj2 a0 a1 t274 t275 _ A15.out).mono ?_); (try clear A15); rintro e w20 ⟨v276, rfl, ho0, hb⟩; have n0_ := jR HO269 hb; have n1_ := jR HO273 hb; have n2_ := Aside0.mk (Kd.R_lower ho0 (below_size (iL HB))); have n3_ := jL HB hb; clear HO269; clear HO273; clear HB; have HO269 := n0_; have HO273 := n1_; have HO277 := n2_; have HB := n3_; clear n0_ n1_ n2_ n3_; (try clear hb); (try clear hb2); (try clear hk); (try clear hi); (try clear ho0)) | (go_at_call 10; (with_reducible refine (apparatus_Words.calls kj2 a1 a0 t278 t279 _ A16.out).mono ?_); (try clear A16); rintro e w21 ⟨v280, rfl, ho0, hb⟩; have n0_ := jR HO269 hb; have n1_ := jR HO273 hb; have n2_ := Aside0.mk (Kd.R_elder' (iR HO277) (Kd.R_base ho0) hb); have n3_ := Aside0.mk (Kd.R_lower (Kd.R_new' ho0 (Kd.R_lt (iR HO277))) (below_size (iL HB))); have n4_ := jL HB hb; clear HO269; clear HO273; clear HO277; clear HB; have HO269 := n0_; have HO273 := n1_; have HO277 := n2_; have HO281 := n3_; have HB := n4_; clear n0_ n1_ n2_ n3_ n4_; (try clear hb); (try clear hb2); (try clear hk); (try clear hi); (try clear ho0); obtain ⟨Ao22, co22, eo22⟩ := Kd.R_slice HO277.out; subst eo22)))
     go_loopg [13, 14, 15, 62] kj2 (fun kq v13 v14 v15 v62 w' => ∃ (x13_2 : Int) (x14_2 : Int) (x15_2 : Int) (x62_2 : Int), v13 = .int .i64 x13_2 ∧ v14 = .int .i64 x14_2 ∧ v15 = .int .i64 x15_2 ∧ v62 = .int .i64 x62_2 ∧ Aside0 (ancepslaw57_ApparatusCost.l0 kq t266 t270 t278 x13_2 x14_2 x15_2 t274 (t274.length : Int) x62_2 = some r) ∧ Aside0 (kq ≤ kj2) ∧ Aside0 (Kd.R Kd.string 9 w' w.heap.size (fun k_ => some k_ ≠ (v272 : Value).ownBlock) v268 t266) ∧ Aside0 (Kd.R Kd.string 9 w' w.heap.size (fun k_ => some k_ ≠ (v268 : Value).ownBlock) v272 t270) ∧ Aside0 (Kd.R k29 29 w' w.heap.size (fun k_ => some k_ ≠ ((.slice Ao22 t274.length co22) : Value).ownBlock) v280 t278) ∧ Aside0 (Kd.R k29 29 w' w.heap.size (fun k_ => some k_ ≠ (v280 : Value).ownBlock) (.slice Ao22 t274.length co22) t274) ∧ Aside0 (Below w.heap.size w w'))
     case atStart => exact ⟨(0), (0), (0), (0), (by first | rfl | (simp; done) | (simp [*]; done)), (by first | rfl | (simp; done) | (simp [*]; done)), (by first | rfl | (simp; done) | (simp [*]; done)), (by first | rfl | (simp; done) | (simp [*]; done)), H', ⟨Nat.le_refl _⟩, ⟨by (with_reducible repeat (first | apply Kd.R_alloc | apply Kd.R_drewN | apply Kd.R_drew)); exact Kd.R_mono HO269.out (fun _ hk => hk.2)⟩, ⟨by (with_reducible repeat (first | apply Kd.R_alloc | apply Kd.R_drewN | apply Kd.R_drew)); exact Kd.R_mono HO273.out (fun _ hk => hk.2)⟩, ⟨by (with_reducible repeat (first | apply Kd.R_alloc | apply Kd.R_drewN | apply Kd.R_drew)); exact Kd.R_mono HO281.out (fun _ hk => hk.2)⟩, ⟨by (with_reducible repeat (first | apply Kd.R_alloc | apply Kd.R_drewN | apply Kd.R_drew)); exact Kd.R_mono HO277.out (fun _ hk => hk.2)⟩, ⟨by repeat (first | (with_reducible first | exact HB.out | apply below_alloc | apply pw_below_drewN | apply below_drew1) | exact HB.out)⟩⟩
     case round =>
      clear H'
      try clear c1
      try clear p2
      try clear c4
      try clear c5
      try clear c6
      try clear c6b0
      try clear c6b1
      try clear c10
      try clear c17
      try clear c17b0
      try clear c17b1
      try clear p2
      obtain ⟨x13_2, x14_2, x15_2, x62_2, rfl, rfl, rfl, rfl, HA, HK2, HO_5, HO_7, HO_11, HO_60, HB⟩ := hrel
      cases gk with
      | zero => exact absurd HA.out (by simp [ancepslaw57_ApparatusCost.l0])
      | succ k2 =>
       have H := HA.out
       clear HA
       simp only [ancepslaw57_ApparatusCost.l0] at H
       by_cases c23 : x62_2 < (t274.length : Int)
       ·rw [if_pos c23] at H
        have c23b0 : decide (x62_2 < (t274.length : Int)) = true := decide_eq_true c23
        clear c23
        by_cases c24 : 0 ≤ x62_2
        ·rw [if_pos c24] at H
         have c24b0 : decide (0 ≤ x62_2) = true := decide_eq_true c24
         clear c24
         by_cases c25 : x62_2 < (t274.length : Int)
         ·rw [if_pos c25] at H
          have c25b0 : decide (x62_2 < (t274.length : Int)) = true := decide_eq_true c25
          clear c25
          have HC26 := Aside0.mk H
          clear H
          have p282 : 0 ≤ (x62_2 : Int) := of_decide_eq_true (by first | (with_reducible assumption) | assumption)
          have q282 : x62_2 < (t274.length : Int) := of_decide_eq_true (by first | (with_reducible assumption) | assumption)
          obtain ⟨ad282, e282, hx282_0, hx282_1⟩ := at_T29 (Kd.R_reads' HO_60.out).2.2 x62_2 p282 q282
          cases e282
          replace p282 := eq_true p282
          replace q282 := eq_true q282
          go_upto_region 13 with (first | ((with_reducible refine gate_dst (N := 17) rfl ?_); (try (refine gate_guard (by rfl) ?_; dsimp only)); refine bX 17 #[.int .i64 0, .int .i64 0] 29 ?_; intro gb283 hg w27 hbox hb; have n0_ := jR HO_5 hb; have n1_ := jR HO_7 hb; have n2_ := Aside0.mk (Kd.R_below (Kd.R_elderB (iR HO_11) gb283 (Nat.le_of_eq hg.symm)) hb); have n3_ := Aside0.mk (Kd.R_below (Kd.R_elderB (iR HO_60) gb283 (Nat.le_of_eq hg.symm)) hb); have n4_ := jL HB hb; have n5_ := Aside0.mk (hbox); have n6_ := Aside0.mk ((by rw [hg]; exact (below_size (iL HB)) : w.heap.size ≤ gb283)); have n7_ := Aside0.mk ((by rw [hg]; exact (below_size (iL HB)) : w.heap.size ≤ gb283)); clear HO_5; clear HO_7; clear HO_11; clear HO_60; clear HB; have HO_5 := n0_; have HO_7 := n1_; have HO_11 := n2_; have HO_60 := n3_; have HB := n4_; have BK283 := n5_; have GW283 := n6_; have GE283 := n7_; clear n0_ n1_ n2_ n3_ n4_ n5_ n6_ n7_; clear hb hbox hg; have hcz28_0 := cZ BK283 0 (.int .i64 0); have hcz28_1 := cZ BK283 1 (.int .i64 0); have hfz28_0 := blk_frozen BK283.out 0; have hfz28_1 := blk_frozen BK283.out 1))
          repeat (go_quiet (first | ((with_reducible refine gate_dst (N := 17) rfl ?_); (try (refine gate_guard (by rfl) ?_; dsimp only)); refine bX 17 #[.int .i64 0, .int .i64 0] 29 ?_; intro gb283 hg w27 hbox hb; have n0_ := jR HO_5 hb; have n1_ := jR HO_7 hb; have n2_ := Aside0.mk (Kd.R_below (Kd.R_elderB (iR HO_11) gb283 (Nat.le_of_eq hg.symm)) hb); have n3_ := Aside0.mk (Kd.R_below (Kd.R_elderB (iR HO_60) gb283 (Nat.le_of_eq hg.symm)) hb); have n4_ := jL HB hb; have n5_ := Aside0.mk (hbox); have n6_ := Aside0.mk ((by rw [hg]; exact (below_size (iL HB)) : w.heap.size ≤ gb283)); have n7_ := Aside0.mk ((by rw [hg]; exact (below_size (iL HB)) : w.heap.size ≤ gb283)); clear HO_5; clear HO_7; clear HO_11; clear HO_60; clear HB; have HO_5 := n0_; have HO_7 := n1_; have HO_11 := n2_; have HO_60 := n3_; have HB := n4_; have BK283 := n5_; have GW283 := n6_; have GE283 := n7_; clear n0_ n1_ n2_ n3_ n4_ n5_ n6_ n7_; clear hb hbox hg; have hcz28_0 := cZ BK283 0 (.int .i64 0); have hcz28_1 := cZ BK283 1 (.int .i64 0); have hfz28_0 := blk_frozen BK283.out 0; have hfz28_1 := blk_frozen BK283.out 1)); go_upto_region 13 with (first | ((with_reducible refine gate_dst (N := 17) rfl ?_); (try (refine gate_guard (by rfl) ?_; dsimp only)); refine bX 17 #[.int .i64 0, .int .i64 0] 29 ?_; intro gb283 hg w27 hbox hb; have n0_ := jR HO_5 hb; have n1_ := jR HO_7 hb; have n2_ := Aside0.mk (Kd.R_below (Kd.R_elderB (iR HO_11) gb283 (Nat.le_of_eq hg.symm)) hb); have n3_ := Aside0.mk (Kd.R_below (Kd.R_elderB (iR HO_60) gb283 (Nat.le_of_eq hg.symm)) hb); have n4_ := jL HB hb; have n5_ := Aside0.mk (hbox); have n6_ := Aside0.mk ((by rw [hg]; exact (below_size (iL HB)) : w.heap.size ≤ gb283)); have n7_ := Aside0.mk ((by rw [hg]; exact (below_size (iL HB)) : w.heap.size ≤ gb283)); clear HO_5; clear HO_7; clear HO_11; clear HO_60; clear HB; have HO_5 := n0_; have HO_7 := n1_; have HO_11 := n2_; have HO_60 := n3_; have HB := n4_; have BK283 := n5_; have GW283 := n6_; have GE283 := n7_; clear n0_ n1_ n2_ n3_ n4_ n5_ n6_ n7_; clear hb hbox hg; have hcz28_0 := cZ BK283 0 (.int .i64 0); have hcz28_1 := cZ BK283 1 (.int .i64 0); have hfz28_0 := blk_frozen BK283.out 0; have hfz28_1 := blk_frozen BK283.out 1)))
          (try simp only [Act.put, List.setIfInBounds_toArray, List.set_cons_zero, List.set_cons_succ])
          go_cut [117] (fun v117 wc => ∃ (kq : Nat) (x117_25 : Bool), v117 = .bool x117_25 ∧ Aside0 (ancepslaw57_ApparatusCost.j2 kq t266 t270 t278 x13_2 x14_2 x15_2 t274 (t274.length : Int) x62_2 x117_25 ((rd_T29 t274 x62_2).f0) ((rd_T29 t274 x62_2).f1) = some r) ∧ Aside0 (kq ≤ k2) ∧ Aside0 (Kd.R Kd.string 9 wc w.heap.size (fun k_ => some k_ ≠ (v272 : Value).ownBlock) v268 t266) ∧ Aside0 (Kd.R Kd.string 9 wc w.heap.size (fun k_ => some k_ ≠ (v268 : Value).ownBlock) v272 t270) ∧ Aside0 (Kd.R k29 29 wc w.heap.size (fun k_ => some k_ ≠ ((.slice (some ad282) t274.length co22) : Value).ownBlock ∧ k_ ≠ gb283) v280 t278) ∧ Aside0 (Kd.R k29 29 wc w.heap.size (fun k_ => some k_ ≠ (v280 : Value).ownBlock ∧ k_ ≠ gb283) (.slice (some ad282) t274.length co22) t274) ∧ Aside0 (wc.heap[gb283]? = some (.cells #[.int .i64 ((rd_T29 t274 x62_2).f0), .int .i64 ((rd_T29 t274 x62_2).f1)] 29 (0, 0))) ∧ Aside0 (Below w.heap.size w wc))
          case first =>
           have H := HC26.out
           clear HC26
           by_cases c29 : ((rd_T29 t274 x62_2).f0) ≥ 0
           ·as_aux_lemma =>
             rw [if_pos c29] at H
             have c29b0 : decide (0 ≤ ((rd_T29 t274 x62_2).f0)) = true := decide_eq_true c29
             clear c29
             (first | rw [c29b0] | (simp only [i64_w, i32_w]; rw [c29b0]) | skip)
             by_cases c30 : ((rd_T29 t274 x62_2).f0) = x14_2
             ·rw [if_pos c30] at H
              have c30b0 : (((rd_T29 t274 x62_2).f0) == x14_2) = true := beq_iff_eq.mpr c30
              have c30b1 : (((rd_T29 t274 x62_2).f0) != x14_2) = false := bne_eq_false_iff_eq.mpr c30
              clear c30
              by_cases c31 : ((rd_T29 t274 x62_2).f1) ≥ 0
              ·rw [if_pos c31] at H
               have c31b0 : decide (0 ≤ ((rd_T29 t274 x62_2).f1)) = true := decide_eq_true c31
               clear c31
               by_cases c32 : ((rd_T29 t274 x62_2).f1) = x15_2
               ·rw [if_pos c32] at H
                have c32b0 : (((rd_T29 t274 x62_2).f1) == x15_2) = true := beq_iff_eq.mpr c32
                have c32b1 : (((rd_T29 t274 x62_2).f1) != x15_2) = false := bne_eq_false_iff_eq.mpr c32
                clear c32
                by_cases c33 : ((rd_T29 t274 x62_2).f0) < 0
                ·rw [if_pos c33] at H; cases H
                ·rw [if_neg c33] at H
                 have c33b0 : decide (((rd_T29 t274 x62_2).f0) < 0) = false := decide_eq_false c33
                 clear c33
                 by_cases c46 : x14_2 ≥ (t266.length : Int)
                 ·rw [if_pos c46] at H; cases H
                 ·rw [if_neg c46] at H
                  have c46b0 : decide ((t266.length : Int) ≤ x14_2) = false := decide_eq_false c46
                  clear c46
                  by_cases c49 : x15_2 ≥ (t270.length : Int)
                  ·rw [if_pos c49] at H
                   have c49b0 : decide ((t270.length : Int) ≤ x15_2) = true := decide_eq_true c49
                   clear c49
                   have H' := Aside0.mk H
                   clear H
                   have hcz50_0 := cZ BK283 0 (.int .i64 0)
                   have hcz50_1 := cZ BK283 1 (.int .i64 0)
                   have hfz50_0 := blk_frozen BK283.out 0
                   have hfz50_1 := blk_frozen BK283.out 1
                   obtain ⟨Ao51, co51, eo51⟩ := Kd.R_slice HO_5.out
                   subst eo51
                   obtain ⟨Ao52, co52, eo52⟩ := Kd.R_slice HO_7.out
                   subst eo52
                   go_wp2
                   repeat (go_quiet (fail); try go_wp2)
                   go_meet
                   case rel => exact ⟨_, (decide (((rd_T29 t274 x62_2).f1) ≥ 0)), (by first | rfl | (simp; done) | (simp [*]; done)), H', ⟨by have := HJ2.out; have := HK2.out; first | omega | exact Nat.le_refl _⟩, ⟨by (with_reducible repeat (first | apply Kd.R_alloc | apply Kd.R_drewN | apply Kd.R_drew)); exact Kd.R_mono (Kd.R_far (p := ⟨gb283, 1, none⟩) (Kd.R_far (p := ⟨gb283, 0, none⟩) (Kd.R_types HO_5.out BK283.out (by decide)) (fun _ hk => hk.2) (.int .i64 ((rd_T29 t274 x62_2).f0))) (fun _ hk => hk.2) (.int .i64 ((rd_T29 t274 x62_2).f1))) (fun _ hk => hk.1)⟩, ⟨by (with_reducible repeat (first | apply Kd.R_alloc | apply Kd.R_drewN | apply Kd.R_drew)); exact Kd.R_mono (Kd.R_far (p := ⟨gb283, 1, none⟩) (Kd.R_far (p := ⟨gb283, 0, none⟩) (Kd.R_types HO_7.out BK283.out (by decide)) (fun _ hk => hk.2) (.int .i64 ((rd_T29 t274 x62_2).f0))) (fun _ hk => hk.2) (.int .i64 ((rd_T29 t274 x62_2).f1))) (fun _ hk => hk.1)⟩, ⟨by (with_reducible repeat (first | apply Kd.R_alloc | apply Kd.R_drewN | apply Kd.R_drew)); exact Kd.R_mono (Kd.R_far (p := ⟨gb283, 1, none⟩) (Kd.R_far (p := ⟨gb283, 0, none⟩) (Kd.R_mono HO_11.out (fun k_ hk => (⟨hk, hk.2⟩ : _ ∧ k_ ≠ gb283))) (fun _ hk => hk.2) (.int .i64 ((rd_T29 t274 x62_2).f0))) (fun _ hk => hk.2) (.int .i64 ((rd_T29 t274 x62_2).f1))) (fun _ hk => ⟨hk.1.1, hk.1.2⟩)⟩, ⟨by (with_reducible repeat (first | apply Kd.R_alloc | apply Kd.R_drewN | apply Kd.R_drew)); exact Kd.R_mono (Kd.R_far (p := ⟨gb283, 1, none⟩) (Kd.R_far (p := ⟨gb283, 0, none⟩) (Kd.R_mono HO_60.out (fun k_ hk => (⟨hk, hk.2⟩ : _ ∧ k_ ≠ gb283))) (fun _ hk => hk.2) (.int .i64 ((rd_T29 t274 x62_2).f0))) (fun _ hk => hk.2) (.int .i64 ((rd_T29 t274 x62_2).f1))) (fun _ hk => ⟨hk.1.1, hk.1.2⟩)⟩, ⟨by (with_reducible repeat (first | apply blk_drewN | apply blk_drew | apply blk_alloc)); refine blk_put (cs := #[.int .i64 ((rd_T29 t274 x62_2).f0), .int .i64 0]) ?_ 1 _ rfl; (with_reducible repeat (first | apply blk_drewN | apply blk_drew | apply blk_alloc)); refine blk_put (cs := #[.int .i64 0, .int .i64 0]) ?_ 0 _ rfl; (with_reducible repeat (first | apply blk_drewN | apply blk_drew | apply blk_alloc)); exact BK283.out⟩, ⟨by repeat (first | (with_reducible first | exact HB.out | apply below_alloc | apply pw_below_drewN | apply below_drew1 | refine below_set ?_ GE283.out) | exact HB.out)⟩⟩
                  ·rw [if_neg c49] at H
                   have c49b0 : decide ((t270.length : Int) ≤ x15_2) = false := decide_eq_false c49
                   clear c49
                   have H' := Aside0.mk H
                   clear H
                   have hcz53_0 := cZ BK283 0 (.int .i64 0)
                   have hcz53_1 := cZ BK283 1 (.int .i64 0)
                   have hfz53_0 := blk_frozen BK283.out 0
                   have hfz53_1 := blk_frozen BK283.out 1
                   obtain ⟨Ao54, co54, eo54⟩ := Kd.R_slice HO_5.out
                   subst eo54
                   obtain ⟨Ao55, co55, eo55⟩ := Kd.R_slice HO_7.out
                   subst eo55
                   go_wp2
                   repeat (go_quiet (fail); try go_wp2)
                   go_meet
                   case rel => exact ⟨_, (false), (by first | rfl | (simp; done) | (simp [*]; done)), H', ⟨by have := HJ2.out; have := HK2.out; first | omega | exact Nat.le_refl _⟩, ⟨by (with_reducible repeat (first | apply Kd.R_alloc | apply Kd.R_drewN | apply Kd.R_drew)); exact Kd.R_mono (Kd.R_far (p := ⟨gb283, 1, none⟩) (Kd.R_far (p := ⟨gb283, 0, none⟩) (Kd.R_types HO_5.out BK283.out (by decide)) (fun _ hk => hk.2) (.int .i64 ((rd_T29 t274 x62_2).f0))) (fun _ hk => hk.2) (.int .i64 ((rd_T29 t274 x62_2).f1))) (fun _ hk => hk.1)⟩, ⟨by (with_reducible repeat (first | apply Kd.R_alloc | apply Kd.R_drewN | apply Kd.R_drew)); exact Kd.R_mono (Kd.R_far (p := ⟨gb283, 1, none⟩) (Kd.R_far (p := ⟨gb283, 0, none⟩) (Kd.R_types HO_7.out BK283.out (by decide)) (fun _ hk => hk.2) (.int .i64 ((rd_T29 t274 x62_2).f0))) (fun _ hk => hk.2) (.int .i64 ((rd_T29 t274 x62_2).f1))) (fun _ hk => hk.1)⟩, ⟨by (with_reducible repeat (first | apply Kd.R_alloc | apply Kd.R_drewN | apply Kd.R_drew)); exact Kd.R_mono (Kd.R_far (p := ⟨gb283, 1, none⟩) (Kd.R_far (p := ⟨gb283, 0, none⟩) (Kd.R_mono HO_11.out (fun k_ hk => (⟨hk, hk.2⟩ : _ ∧ k_ ≠ gb283))) (fun _ hk => hk.2) (.int .i64 ((rd_T29 t274 x62_2).f0))) (fun _ hk => hk.2) (.int .i64 ((rd_T29 t274 x62_2).f1))) (fun _ hk => ⟨hk.1.1, hk.1.2⟩)⟩, ⟨by (with_reducible repeat (first | apply Kd.R_alloc | apply Kd.R_drewN | apply Kd.R_drew)); exact Kd.R_mono (Kd.R_far (p := ⟨gb283, 1, none⟩) (Kd.R_far (p := ⟨gb283, 0, none⟩) (Kd.R_mono HO_60.out (fun k_ hk => (⟨hk, hk.2⟩ : _ ∧ k_ ≠ gb283))) (fun _ hk => hk.2) (.int .i64 ((rd_T29 t274 x62_2).f0))) (fun _ hk => hk.2) (.int .i64 ((rd_T29 t274 x62_2).f1))) (fun _ hk => ⟨hk.1.1, hk.1.2⟩)⟩, ⟨by (with_reducible repeat (first | apply blk_drewN | apply blk_drew | apply blk_alloc)); refine blk_put (cs := #[.int .i64 ((rd_T29 t274 x62_2).f0), .int .i64 0]) ?_ 1 _ rfl; (with_reducible repeat (first | apply blk_drewN | apply blk_drew | apply blk_alloc)); refine blk_put (cs := #[.int .i64 0, .int .i64 0]) ?_ 0 _ rfl; (with_reducible repeat (first | apply blk_drewN | apply blk_drew | apply blk_alloc)); exact BK283.out⟩, ⟨by repeat (first | (with_reducible first | exact HB.out | apply below_alloc | apply pw_below_drewN | apply below_drew1 | refine below_set ?_ GE283.out) | exact HB.out)⟩⟩
               ·rw [if_neg c32] at H; cases H
              ·rw [if_neg c31] at H
               have c31b0 : decide (0 ≤ ((rd_T29 t274 x62_2).f1)) = false := decide_eq_false c31
               clear c31
               by_cases c57 : ((rd_T29 t274 x62_2).f0) < 0
               ·rw [if_pos c57] at H; cases H
               ·rw [if_neg c57] at H
                have c57b0 : decide (((rd_T29 t274 x62_2).f0) < 0) = false := decide_eq_false c57
                clear c57
                by_cases c70 : x14_2 ≥ (t266.length : Int)
                ·rw [if_pos c70] at H; cases H
                ·rw [if_neg c70] at H
                 have c70b0 : decide ((t266.length : Int) ≤ x14_2) = false := decide_eq_false c70
                 clear c70
                 by_cases c73 : x15_2 ≥ (t270.length : Int)
                 ·rw [if_pos c73] at H
                  have c73b0 : decide ((t270.length : Int) ≤ x15_2) = true := decide_eq_true c73
                  clear c73
                  have H' := Aside0.mk H
                  clear H
                  have hcz74_0 := cZ BK283 0 (.int .i64 0)
                  have hcz74_1 := cZ BK283 1 (.int .i64 0)
                  have hfz74_0 := blk_frozen BK283.out 0
                  have hfz74_1 := blk_frozen BK283.out 1
                  obtain ⟨Ao75, co75, eo75⟩ := Kd.R_slice HO_5.out
                  subst eo75
                  obtain ⟨Ao76, co76, eo76⟩ := Kd.R_slice HO_7.out
                  subst eo76
                  go_wp2
                  repeat (go_quiet (fail); try go_wp2)
                  go_meet
                  case rel => exact ⟨_, (decide (((rd_T29 t274 x62_2).f1) ≥ 0)), (by first | rfl | (simp; done) | (simp [*]; done)), H', ⟨by have := HJ2.out; have := HK2.out; first | omega | exact Nat.le_refl _⟩, ⟨by (with_reducible repeat (first | apply Kd.R_alloc | apply Kd.R_drewN | apply Kd.R_drew)); exact Kd.R_mono (Kd.R_far (p := ⟨gb283, 1, none⟩) (Kd.R_far (p := ⟨gb283, 0, none⟩) (Kd.R_types HO_5.out BK283.out (by decide)) (fun _ hk => hk.2) (.int .i64 ((rd_T29 t274 x62_2).f0))) (fun _ hk => hk.2) (.int .i64 ((rd_T29 t274 x62_2).f1))) (fun _ hk => hk.1)⟩, ⟨by (with_reducible repeat (first | apply Kd.R_alloc | apply Kd.R_drewN | apply Kd.R_drew)); exact Kd.R_mono (Kd.R_far (p := ⟨gb283, 1, none⟩) (Kd.R_far (p := ⟨gb283, 0, none⟩) (Kd.R_types HO_7.out BK283.out (by decide)) (fun _ hk => hk.2) (.int .i64 ((rd_T29 t274 x62_2).f0))) (fun _ hk => hk.2) (.int .i64 ((rd_T29 t274 x62_2).f1))) (fun _ hk => hk.1)⟩, ⟨by (with_reducible repeat (first | apply Kd.R_alloc | apply Kd.R_drewN | apply Kd.R_drew)); exact Kd.R_mono (Kd.R_far (p := ⟨gb283, 1, none⟩) (Kd.R_far (p := ⟨gb283, 0, none⟩) (Kd.R_mono HO_11.out (fun k_ hk => (⟨hk, hk.2⟩ : _ ∧ k_ ≠ gb283))) (fun _ hk => hk.2) (.int .i64 ((rd_T29 t274 x62_2).f0))) (fun _ hk => hk.2) (.int .i64 ((rd_T29 t274 x62_2).f1))) (fun _ hk => ⟨hk.1.1, hk.1.2⟩)⟩, ⟨by (with_reducible repeat (first | apply Kd.R_alloc | apply Kd.R_drewN | apply Kd.R_drew)); exact Kd.R_mono (Kd.R_far (p := ⟨gb283, 1, none⟩) (Kd.R_far (p := ⟨gb283, 0, none⟩) (Kd.R_mono HO_60.out (fun k_ hk => (⟨hk, hk.2⟩ : _ ∧ k_ ≠ gb283))) (fun _ hk => hk.2) (.int .i64 ((rd_T29 t274 x62_2).f0))) (fun _ hk => hk.2) (.int .i64 ((rd_T29 t274 x62_2).f1))) (fun _ hk => ⟨hk.1.1, hk.1.2⟩)⟩, ⟨by (with_reducible repeat (first | apply blk_drewN | apply blk_drew | apply blk_alloc)); refine blk_put (cs := #[.int .i64 ((rd_T29 t274 x62_2).f0), .int .i64 0]) ?_ 1 _ rfl; (with_reducible repeat (first | apply blk_drewN | apply blk_drew | apply blk_alloc)); refine blk_put (cs := #[.int .i64 0, .int .i64 0]) ?_ 0 _ rfl; (with_reducible repeat (first | apply blk_drewN | apply blk_drew | apply blk_alloc)); exact BK283.out⟩, ⟨by repeat (first | (with_reducible first | exact HB.out | apply below_alloc | apply pw_below_drewN | apply below_drew1 | refine below_set ?_ GE283.out) | exact HB.out)⟩⟩
                 ·rw [if_neg c73] at H
                  have c73b0 : decide ((t270.length : Int) ≤ x15_2) = false := decide_eq_false c73
                  clear c73
                  have H' := Aside0.mk H
                  clear H
                  have hcz77_0 := cZ BK283 0 (.int .i64 0)
                  have hcz77_1 := cZ BK283 1 (.int .i64 0)
                  have hfz77_0 := blk_frozen BK283.out 0
                  have hfz77_1 := blk_frozen BK283.out 1
                  obtain ⟨Ao78, co78, eo78⟩ := Kd.R_slice HO_5.out
                  subst eo78
                  obtain ⟨Ao79, co79, eo79⟩ := Kd.R_slice HO_7.out
                  subst eo79
                  go_wp2
                  repeat (go_quiet (fail); try go_wp2)
                  go_meet
                  case rel => exact ⟨_, (false), (by first | rfl | (simp; done) | (simp [*]; done)), H', ⟨by have := HJ2.out; have := HK2.out; first | omega | exact Nat.le_refl _⟩, ⟨by (with_reducible repeat (first | apply Kd.R_alloc | apply Kd.R_drewN | apply Kd.R_drew)); exact Kd.R_mono (Kd.R_far (p := ⟨gb283, 1, none⟩) (Kd.R_far (p := ⟨gb283, 0, none⟩) (Kd.R_types HO_5.out BK283.out (by decide)) (fun _ hk => hk.2) (.int .i64 ((rd_T29 t274 x62_2).f0))) (fun _ hk => hk.2) (.int .i64 ((rd_T29 t274 x62_2).f1))) (fun _ hk => hk.1)⟩, ⟨by (with_reducible repeat (first | apply Kd.R_alloc | apply Kd.R_drewN | apply Kd.R_drew)); exact Kd.R_mono (Kd.R_far (p := ⟨gb283, 1, none⟩) (Kd.R_far (p := ⟨gb283, 0, none⟩) (Kd.R_types HO_7.out BK283.out (by decide)) (fun _ hk => hk.2) (.int .i64 ((rd_T29 t274 x62_2).f0))) (fun _ hk => hk.2) (.int .i64 ((rd_T29 t274 x62_2).f1))) (fun _ hk => hk.1)⟩, ⟨by (with_reducible repeat (first | apply Kd.R_alloc | apply Kd.R_drewN | apply Kd.R_drew)); exact Kd.R_mono (Kd.R_far (p := ⟨gb283, 1, none⟩) (Kd.R_far (p := ⟨gb283, 0, none⟩) (Kd.R_mono HO_11.out (fun k_ hk => (⟨hk, hk.2⟩ : _ ∧ k_ ≠ gb283))) (fun _ hk => hk.2) (.int .i64 ((rd_T29 t274 x62_2).f0))) (fun _ hk => hk.2) (.int .i64 ((rd_T29 t274 x62_2).f1))) (fun _ hk => ⟨hk.1.1, hk.1.2⟩)⟩, ⟨by (with_reducible repeat (first | apply Kd.R_alloc | apply Kd.R_drewN | apply Kd.R_drew)); exact Kd.R_mono (Kd.R_far (p := ⟨gb283, 1, none⟩) (Kd.R_far (p := ⟨gb283, 0, none⟩) (Kd.R_mono HO_60.out (fun k_ hk => (⟨hk, hk.2⟩ : _ ∧ k_ ≠ gb283))) (fun _ hk => hk.2) (.int .i64 ((rd_T29 t274 x62_2).f0))) (fun _ hk => hk.2) (.int .i64 ((rd_T29 t274 x62_2).f1))) (fun _ hk => ⟨hk.1.1, hk.1.2⟩)⟩, ⟨by (with_reducible repeat (first | apply blk_drewN | apply blk_drew | apply blk_alloc)); refine blk_put (cs := #[.int .i64 ((rd_T29 t274 x62_2).f0), .int .i64 0]) ?_ 1 _ rfl; (with_reducible repeat (first | apply blk_drewN | apply blk_drew | apply blk_alloc)); refine blk_put (cs := #[.int .i64 0, .int .i64 0]) ?_ 0 _ rfl; (with_reducible repeat (first | apply blk_drewN | apply blk_drew | apply blk_alloc)); exact BK283.out⟩, ⟨by repeat (first | (with_reducible first | exact HB.out | apply below_alloc | apply pw_below_drewN | apply below_drew1 | refine below_set ?_ GE283.out) | exact HB.out)⟩⟩
             ·rw [if_neg c30] at H; cases H
           ·as_aux_lemma =>
             rw [if_neg c29] at H
             have c29b0 : decide (0 ≤ ((rd_T29 t274 x62_2).f0)) = false := decide_eq_false c29
             clear c29
             (first | rw [c29b0] | (simp only [i64_w, i32_w]; rw [c29b0]) | skip)
             by_cases c81 : ((rd_T29 t274 x62_2).f1) ≥ 0
             ·rw [if_pos c81] at H
              have c81b0 : decide (0 ≤ ((rd_T29 t274 x62_2).f1)) = true := decide_eq_true c81
              clear c81
              by_cases c82 : ((rd_T29 t274 x62_2).f1) = x15_2
              ·rw [if_pos c82] at H
               have c82b0 : (((rd_T29 t274 x62_2).f1) == x15_2) = true := beq_iff_eq.mpr c82
               have c82b1 : (((rd_T29 t274 x62_2).f1) != x15_2) = false := bne_eq_false_iff_eq.mpr c82
               clear c82
               by_cases c83 : ((rd_T29 t274 x62_2).f0) < 0
               ·rw [if_pos c83] at H
                have c83b0 : decide (((rd_T29 t274 x62_2).f0) < 0) = true := decide_eq_true c83
                clear c83
                by_cases c84 : ((rd_T29 t274 x62_2).f1) < 0
                ·rw [if_pos c84] at H; cases H
                ·rw [if_neg c84] at H
                 have c84b0 : decide (((rd_T29 t274 x62_2).f1) < 0) = false := decide_eq_false c84
                 clear c84
                 by_cases c86 : x14_2 ≥ (t266.length : Int)
                 ·rw [if_pos c86] at H
                  have c86b0 : decide ((t266.length : Int) ≤ x14_2) = true := decide_eq_true c86
                  clear c86
                  by_cases c87 : x15_2 ≥ (t270.length : Int)
                  ·rw [if_pos c87] at H
                   have c87b0 : decide ((t270.length : Int) ≤ x15_2) = true := decide_eq_true c87
                   clear c87
                   have H' := Aside0.mk H
                   clear H
                   have hcz88_0 := cZ BK283 0 (.int .i64 0)
                   have hcz88_1 := cZ BK283 1 (.int .i64 0)
                   have hfz88_0 := blk_frozen BK283.out 0
                   have hfz88_1 := blk_frozen BK283.out 1
                   obtain ⟨Ao89, co89, eo89⟩ := Kd.R_slice HO_5.out
                   subst eo89
                   obtain ⟨Ao90, co90, eo90⟩ := Kd.R_slice HO_7.out
                   subst eo90
                   go_wp2
                   repeat (go_quiet (fail); try go_wp2)
                   go_meet
                   case rel => exact ⟨_, (decide (((rd_T29 t274 x62_2).f1) ≥ 0)), (by first | rfl | (simp; done) | (simp [*]; done)), H', ⟨by have := HJ2.out; have := HK2.out; first | omega | exact Nat.le_refl _⟩, ⟨by (with_reducible repeat (first | apply Kd.R_alloc | apply Kd.R_drewN | apply Kd.R_drew)); exact Kd.R_mono (Kd.R_far (p := ⟨gb283, 1, none⟩) (Kd.R_far (p := ⟨gb283, 0, none⟩) (Kd.R_types HO_5.out BK283.out (by decide)) (fun _ hk => hk.2) (.int .i64 ((rd_T29 t274 x62_2).f0))) (fun _ hk => hk.2) (.int .i64 ((rd_T29 t274 x62_2).f1))) (fun _ hk => hk.1)⟩, ⟨by (with_reducible repeat (first | apply Kd.R_alloc | apply Kd.R_drewN | apply Kd.R_drew)); exact Kd.R_mono (Kd.R_far (p := ⟨gb283, 1, none⟩) (Kd.R_far (p := ⟨gb283, 0, none⟩) (Kd.R_types HO_7.out BK283.out (by decide)) (fun _ hk => hk.2) (.int .i64 ((rd_T29 t274 x62_2).f0))) (fun _ hk => hk.2) (.int .i64 ((rd_T29 t274 x62_2).f1))) (fun _ hk => hk.1)⟩, ⟨by (with_reducible repeat (first | apply Kd.R_alloc | apply Kd.R_drewN | apply Kd.R_drew)); exact Kd.R_mono (Kd.R_far (p := ⟨gb283, 1, none⟩) (Kd.R_far (p := ⟨gb283, 0, none⟩) (Kd.R_mono HO_11.out (fun k_ hk => (⟨hk, hk.2⟩ : _ ∧ k_ ≠ gb283))) (fun _ hk => hk.2) (.int .i64 ((rd_T29 t274 x62_2).f0))) (fun _ hk => hk.2) (.int .i64 ((rd_T29 t274 x62_2).f1))) (fun _ hk => ⟨hk.1.1, hk.1.2⟩)⟩, ⟨by (with_reducible repeat (first | apply Kd.R_alloc | apply Kd.R_drewN | apply Kd.R_drew)); exact Kd.R_mono (Kd.R_far (p := ⟨gb283, 1, none⟩) (Kd.R_far (p := ⟨gb283, 0, none⟩) (Kd.R_mono HO_60.out (fun k_ hk => (⟨hk, hk.2⟩ : _ ∧ k_ ≠ gb283))) (fun _ hk => hk.2) (.int .i64 ((rd_T29 t274 x62_2).f0))) (fun _ hk => hk.2) (.int .i64 ((rd_T29 t274 x62_2).f1))) (fun _ hk => ⟨hk.1.1, hk.1.2⟩)⟩, ⟨by (with_reducible repeat (first | apply blk_drewN | apply blk_drew | apply blk_alloc)); refine blk_put (cs := #[.int .i64 ((rd_T29 t274 x62_2).f0), .int .i64 0]) ?_ 1 _ rfl; (with_reducible repeat (first | apply blk_drewN | apply blk_drew | apply blk_alloc)); refine blk_put (cs := #[.int .i64 0, .int .i64 0]) ?_ 0 _ rfl; (with_reducible repeat (first | apply blk_drewN | apply blk_drew | apply blk_alloc)); exact BK283.out⟩, ⟨by repeat (first | (with_reducible first | exact HB.out | apply below_alloc | apply pw_below_drewN | apply below_drew1 | refine below_set ?_ GE283.out) | exact HB.out)⟩⟩
                  ·rw [if_neg c87] at H
                   have c87b0 : decide ((t270.length : Int) ≤ x15_2) = false := decide_eq_false c87
                   clear c87
                   have H' := Aside0.mk H
                   clear H
                   have hcz91_0 := cZ BK283 0 (.int .i64 0)
                   have hcz91_1 := cZ BK283 1 (.int .i64 0)
                   have hfz91_0 := blk_frozen BK283.out 0
                   have hfz91_1 := blk_frozen BK283.out 1
                   obtain ⟨Ao92, co92, eo92⟩ := Kd.R_slice HO_5.out
                   subst eo92
                   obtain ⟨Ao93, co93, eo93⟩ := Kd.R_slice HO_7.out
                   subst eo93
                   go_wp2
                   repeat (go_quiet (fail); try go_wp2)
                   go_meet
                   case rel => exact ⟨_, (false), (by first | rfl | (simp; done) | (simp [*]; done)), H', ⟨by have := HJ2.out; have := HK2.out; first | omega | exact Nat.le_refl _⟩, ⟨by (with_reducible repeat (first | apply Kd.R_alloc | apply Kd.R_drewN | apply Kd.R_drew)); exact Kd.R_mono (Kd.R_far (p := ⟨gb283, 1, none⟩) (Kd.R_far (p := ⟨gb283, 0, none⟩) (Kd.R_types HO_5.out BK283.out (by decide)) (fun _ hk => hk.2) (.int .i64 ((rd_T29 t274 x62_2).f0))) (fun _ hk => hk.2) (.int .i64 ((rd_T29 t274 x62_2).f1))) (fun _ hk => hk.1)⟩, ⟨by (with_reducible repeat (first | apply Kd.R_alloc | apply Kd.R_drewN | apply Kd.R_drew)); exact Kd.R_mono (Kd.R_far (p := ⟨gb283, 1, none⟩) (Kd.R_far (p := ⟨gb283, 0, none⟩) (Kd.R_types HO_7.out BK283.out (by decide)) (fun _ hk => hk.2) (.int .i64 ((rd_T29 t274 x62_2).f0))) (fun _ hk => hk.2) (.int .i64 ((rd_T29 t274 x62_2).f1))) (fun _ hk => hk.1)⟩, ⟨by (with_reducible repeat (first | apply Kd.R_alloc | apply Kd.R_drewN | apply Kd.R_drew)); exact Kd.R_mono (Kd.R_far (p := ⟨gb283, 1, none⟩) (Kd.R_far (p := ⟨gb283, 0, none⟩) (Kd.R_mono HO_11.out (fun k_ hk => (⟨hk, hk.2⟩ : _ ∧ k_ ≠ gb283))) (fun _ hk => hk.2) (.int .i64 ((rd_T29 t274 x62_2).f0))) (fun _ hk => hk.2) (.int .i64 ((rd_T29 t274 x62_2).f1))) (fun _ hk => ⟨hk.1.1, hk.1.2⟩)⟩, ⟨by (with_reducible repeat (first | apply Kd.R_alloc | apply Kd.R_drewN | apply Kd.R_drew)); exact Kd.R_mono (Kd.R_far (p := ⟨gb283, 1, none⟩) (Kd.R_far (p := ⟨gb283, 0, none⟩) (Kd.R_mono HO_60.out (fun k_ hk => (⟨hk, hk.2⟩ : _ ∧ k_ ≠ gb283))) (fun _ hk => hk.2) (.int .i64 ((rd_T29 t274 x62_2).f0))) (fun _ hk => hk.2) (.int .i64 ((rd_T29 t274 x62_2).f1))) (fun _ hk => ⟨hk.1.1, hk.1.2⟩)⟩, ⟨by (with_reducible repeat (first | apply blk_drewN | apply blk_drew | apply blk_alloc)); refine blk_put (cs := #[.int .i64 ((rd_T29 t274 x62_2).f0), .int .i64 0]) ?_ 1 _ rfl; (with_reducible repeat (first | apply blk_drewN | apply blk_drew | apply blk_alloc)); refine blk_put (cs := #[.int .i64 0, .int .i64 0]) ?_ 0 _ rfl; (with_reducible repeat (first | apply blk_drewN | apply blk_drew | apply blk_alloc)); exact BK283.out⟩, ⟨by repeat (first | (with_reducible first | exact HB.out | apply below_alloc | apply pw_below_drewN | apply below_drew1 | refine below_set ?_ GE283.out) | exact HB.out)⟩⟩
                 ·rw [if_neg c86] at H
                  have c86b0 : decide ((t266.length : Int) ≤ x14_2) = false := decide_eq_false c86
                  clear c86
                  by_cases c94 : x15_2 ≥ (t270.length : Int)
                  ·rw [if_pos c94] at H
                   have c94b0 : decide ((t270.length : Int) ≤ x15_2) = true := decide_eq_true c94
                   clear c94
                   have H' := Aside0.mk H
                   clear H
                   have hcz95_0 := cZ BK283 0 (.int .i64 0)
                   have hcz95_1 := cZ BK283 1 (.int .i64 0)
                   have hfz95_0 := blk_frozen BK283.out 0
                   have hfz95_1 := blk_frozen BK283.out 1
                   obtain ⟨Ao96, co96, eo96⟩ := Kd.R_slice HO_5.out
                   subst eo96
                   obtain ⟨Ao97, co97, eo97⟩ := Kd.R_slice HO_7.out
                   subst eo97
                   go_wp2
                   repeat (go_quiet (fail); try go_wp2)
                   go_meet
                   case rel => exact ⟨_, (decide (((rd_T29 t274 x62_2).f1) ≥ 0)), (by first | rfl | (simp; done) | (simp [*]; done)), H', ⟨by have := HJ2.out; have := HK2.out; first | omega | exact Nat.le_refl _⟩, ⟨by (with_reducible repeat (first | apply Kd.R_alloc | apply Kd.R_drewN | apply Kd.R_drew)); exact Kd.R_mono (Kd.R_far (p := ⟨gb283, 1, none⟩) (Kd.R_far (p := ⟨gb283, 0, none⟩) (Kd.R_types HO_5.out BK283.out (by decide)) (fun _ hk => hk.2) (.int .i64 ((rd_T29 t274 x62_2).f0))) (fun _ hk => hk.2) (.int .i64 ((rd_T29 t274 x62_2).f1))) (fun _ hk => hk.1)⟩, ⟨by (with_reducible repeat (first | apply Kd.R_alloc | apply Kd.R_drewN | apply Kd.R_drew)); exact Kd.R_mono (Kd.R_far (p := ⟨gb283, 1, none⟩) (Kd.R_far (p := ⟨gb283, 0, none⟩) (Kd.R_types HO_7.out BK283.out (by decide)) (fun _ hk => hk.2) (.int .i64 ((rd_T29 t274 x62_2).f0))) (fun _ hk => hk.2) (.int .i64 ((rd_T29 t274 x62_2).f1))) (fun _ hk => hk.1)⟩, ⟨by (with_reducible repeat (first | apply Kd.R_alloc | apply Kd.R_drewN | apply Kd.R_drew)); exact Kd.R_mono (Kd.R_far (p := ⟨gb283, 1, none⟩) (Kd.R_far (p := ⟨gb283, 0, none⟩) (Kd.R_mono HO_11.out (fun k_ hk => (⟨hk, hk.2⟩ : _ ∧ k_ ≠ gb283))) (fun _ hk => hk.2) (.int .i64 ((rd_T29 t274 x62_2).f0))) (fun _ hk => hk.2) (.int .i64 ((rd_T29 t274 x62_2).f1))) (fun _ hk => ⟨hk.1.1, hk.1.2⟩)⟩, ⟨by (with_reducible repeat (first | apply Kd.R_alloc | apply Kd.R_drewN | apply Kd.R_drew)); exact Kd.R_mono (Kd.R_far (p := ⟨gb283, 1, none⟩) (Kd.R_far (p := ⟨gb283, 0, none⟩) (Kd.R_mono HO_60.out (fun k_ hk => (⟨hk, hk.2⟩ : _ ∧ k_ ≠ gb283))) (fun _ hk => hk.2) (.int .i64 ((rd_T29 t274 x62_2).f0))) (fun _ hk => hk.2) (.int .i64 ((rd_T29 t274 x62_2).f1))) (fun _ hk => ⟨hk.1.1, hk.1.2⟩)⟩, ⟨by (with_reducible repeat (first | apply blk_drewN | apply blk_drew | apply blk_alloc)); refine blk_put (cs := #[.int .i64 ((rd_T29 t274 x62_2).f0), .int .i64 0]) ?_ 1 _ rfl; (with_reducible repeat (first | apply blk_drewN | apply blk_drew | apply blk_alloc)); refine blk_put (cs := #[.int .i64 0, .int .i64 0]) ?_ 0 _ rfl; (with_reducible repeat (first | apply blk_drewN | apply blk_drew | apply blk_alloc)); exact BK283.out⟩, ⟨by repeat (first | (with_reducible first | exact HB.out | apply below_alloc | apply pw_below_drewN | apply below_drew1 | refine below_set ?_ GE283.out) | exact HB.out)⟩⟩
                  ·rw [if_neg c94] at H
                   have c94b0 : decide ((t270.length : Int) ≤ x15_2) = false := decide_eq_false c94
                   clear c94
                   have H' := Aside0.mk H
                   clear H
                   have hcz98_0 := cZ BK283 0 (.int .i64 0)
                   have hcz98_1 := cZ BK283 1 (.int .i64 0)
                   have hfz98_0 := blk_frozen BK283.out 0
                   have hfz98_1 := blk_frozen BK283.out 1
                   obtain ⟨Ao99, co99, eo99⟩ := Kd.R_slice HO_5.out
                   subst eo99
                   obtain ⟨Ao100, co100, eo100⟩ := Kd.R_slice HO_7.out
                   subst eo100
                   go_wp2
                   repeat (go_quiet (fail); try go_wp2)
                   go_meet
                   case rel => exact ⟨_, (false), (by first | rfl | (simp; done) | (simp [*]; done)), H', ⟨by have := HJ2.out; have := HK2.out; first | omega | exact Nat.le_refl _⟩, ⟨by (with_reducible repeat (first | apply Kd.R_alloc | apply Kd.R_drewN | apply Kd.R_drew)); exact Kd.R_mono (Kd.R_far (p := ⟨gb283, 1, none⟩) (Kd.R_far (p := ⟨gb283, 0, none⟩) (Kd.R_types HO_5.out BK283.out (by decide)) (fun _ hk => hk.2) (.int .i64 ((rd_T29 t274 x62_2).f0))) (fun _ hk => hk.2) (.int .i64 ((rd_T29 t274 x62_2).f1))) (fun _ hk => hk.1)⟩, ⟨by (with_reducible repeat (first | apply Kd.R_alloc | apply Kd.R_drewN | apply Kd.R_drew)); exact Kd.R_mono (Kd.R_far (p := ⟨gb283, 1, none⟩) (Kd.R_far (p := ⟨gb283, 0, none⟩) (Kd.R_types HO_7.out BK283.out (by decide)) (fun _ hk => hk.2) (.int .i64 ((rd_T29 t274 x62_2).f0))) (fun _ hk => hk.2) (.int .i64 ((rd_T29 t274 x62_2).f1))) (fun _ hk => hk.1)⟩, ⟨by (with_reducible repeat (first | apply Kd.R_alloc | apply Kd.R_drewN | apply Kd.R_drew)); exact Kd.R_mono (Kd.R_far (p := ⟨gb283, 1, none⟩) (Kd.R_far (p := ⟨gb283, 0, none⟩) (Kd.R_mono HO_11.out (fun k_ hk => (⟨hk, hk.2⟩ : _ ∧ k_ ≠ gb283))) (fun _ hk => hk.2) (.int .i64 ((rd_T29 t274 x62_2).f0))) (fun _ hk => hk.2) (.int .i64 ((rd_T29 t274 x62_2).f1))) (fun _ hk => ⟨hk.1.1, hk.1.2⟩)⟩, ⟨by (with_reducible repeat (first | apply Kd.R_alloc | apply Kd.R_drewN | apply Kd.R_drew)); exact Kd.R_mono (Kd.R_far (p := ⟨gb283, 1, none⟩) (Kd.R_far (p := ⟨gb283, 0, none⟩) (Kd.R_mono HO_60.out (fun k_ hk => (⟨hk, hk.2⟩ : _ ∧ k_ ≠ gb283))) (fun _ hk => hk.2) (.int .i64 ((rd_T29 t274 x62_2).f0))) (fun _ hk => hk.2) (.int .i64 ((rd_T29 t274 x62_2).f1))) (fun _ hk => ⟨hk.1.1, hk.1.2⟩)⟩, ⟨by (with_reducible repeat (first | apply blk_drewN | apply blk_drew | apply blk_alloc)); refine blk_put (cs := #[.int .i64 ((rd_T29 t274 x62_2).f0), .int .i64 0]) ?_ 1 _ rfl; (with_reducible repeat (first | apply blk_drewN | apply blk_drew | apply blk_alloc)); refine blk_put (cs := #[.int .i64 0, .int .i64 0]) ?_ 0 _ rfl; (with_reducible repeat (first | apply blk_drewN | apply blk_drew | apply blk_alloc)); exact BK283.out⟩, ⟨by repeat (first | (with_reducible first | exact HB.out | apply below_alloc | apply pw_below_drewN | apply below_drew1 | refine below_set ?_ GE283.out) | exact HB.out)⟩⟩
               ·rw [if_neg c83] at H; cases H
              ·rw [if_neg c82] at H; cases H
             ·rw [if_neg c81] at H
              have c81b0 : decide (0 ≤ ((rd_T29 t274 x62_2).f1)) = false := decide_eq_false c81
              clear c81
              by_cases c117 : ((rd_T29 t274 x62_2).f0) < 0
              ·rw [if_pos c117] at H
               have c117b0 : decide (((rd_T29 t274 x62_2).f0) < 0) = true := decide_eq_true c117
               clear c117
               by_cases c118 : ((rd_T29 t274 x62_2).f1) < 0
               ·rw [if_pos c118] at H; cases H
               ·rw [if_neg c118] at H; cases H
              ·rw [if_neg c117] at H; cases H
          case rest =>
           clear HC26
           try clear c1
           try clear c2
           try clear p2
           try clear c3
           try clear c4
           try clear c5
           try clear c6
           try clear c7
           try clear c8
           try clear c9
           try clear c10
           try clear c11
           try clear c12
           try clear c13
           try clear c14
           try clear c29
           try clear c29b0
           try clear c30
           try clear c30b0
           try clear c30b1
           try clear c31
           try clear c31b0
           try clear c32
           try clear c32b0
           try clear c32b1
           try clear c46
           try clear c46b0
           try clear c49
           try clear c49b0
           try clear c57
           try clear c57b0
           try clear c58
           try clear c58b0
           try clear c60
           try clear c60b0
           try clear c63
           try clear c63b0
           try clear c70
           try clear c70b0
           try clear c73
           try clear c73b0
           try clear c81
           try clear c81b0
           try clear c82
           try clear c82b0
           try clear c82b1
           try clear c83
           try clear c83b0
           try clear c84
           try clear c84b0
           try clear c86
           try clear c86b0
           try clear c87
           try clear c87b0
           try clear c94
           try clear c94b0
           try clear c101
           try clear c101b0
           try clear c102
           try clear c102b0
           try clear c109
           try clear c109b0
           try clear c117
           try clear c117b0
           try clear c118
           try clear c118b0
           try clear c120
           try clear c120b0
           try clear c121
           try clear c121b0
           try clear c128
           try clear c128b0
           try clear c135
           try clear c135b0
           try clear c136
           try clear c136b0
           try clear c143
           try clear c143b0
           try clear hcz103_0
           try clear hcz103_1
           try clear hcz106_0
           try clear hcz106_1
           try clear hcz110_0
           try clear hcz110_1
           try clear hcz113_0
           try clear hcz113_1
           try clear hcz116_0
           try clear hcz116_1
           try clear hcz119_0
           try clear hcz119_1
           try clear hcz122_0
           try clear hcz122_1
           try clear hcz125_0
           try clear hcz125_1
           try clear hcz129_0
           try clear hcz129_1
           try clear hcz132_0
           try clear hcz132_1
           try clear hcz137_0
           try clear hcz137_1
           try clear hcz140_0
           try clear hcz140_1
           try clear hcz144_0
           try clear hcz144_1
           try clear hcz147_0
           try clear hcz147_1
           try clear hcz47_0
           try clear hcz47_1
           try clear hcz50_0
           try clear hcz50_1
           try clear hcz53_0
           try clear hcz53_1
           try clear hcz56_0
           try clear hcz56_1
           try clear hcz59_0
           try clear hcz59_1
           try clear hcz61_0
           try clear hcz61_1
           try clear hcz64_0
           try clear hcz64_1
           try clear hcz67_0
           try clear hcz67_1
           try clear hcz71_0
           try clear hcz71_1
           try clear hcz74_0
           try clear hcz74_1
           try clear hcz77_0
           try clear hcz77_1
           try clear hcz80_0
           try clear hcz80_1
           try clear hcz85_0
           try clear hcz85_1
           try clear hcz88_0
           try clear hcz88_1
           try clear hcz91_0
           try clear hcz91_1
           try clear hcz95_0
           try clear hcz95_1
           try clear hcz98_0
           try clear hcz98_1
           try clear hfz103_0
           try clear hfz103_1
           try clear hfz106_0
           try clear hfz106_1
           try clear hfz110_0
           try clear hfz110_1
           try clear hfz113_0
           try clear hfz113_1
           try clear hfz116_0
           try clear hfz116_1
           try clear hfz119_0
           try clear hfz119_1
           try clear hfz122_0
           try clear hfz122_1
           try clear hfz125_0
           try clear hfz125_1
           try clear hfz129_0
           try clear hfz129_1
           try clear hfz132_0
           try clear hfz132_1
           try clear hfz137_0
           try clear hfz137_1
           try clear hfz140_0
           try clear hfz140_1
           try clear hfz144_0
           try clear hfz144_1
           try clear hfz147_0
           try clear hfz147_1
           try clear hfz47_0
           try clear hfz47_1
           try clear hfz50_0
           try clear hfz50_1
           try clear hfz53_0
           try clear hfz53_1
           try clear hfz56_0
           try clear hfz56_1
           try clear hfz59_0
           try clear hfz59_1
           try clear hfz61_0
           try clear hfz61_1
           try clear hfz64_0
           try clear hfz64_1
           try clear hfz67_0
           try clear hfz67_1
           try clear hfz71_0
           try clear hfz71_1
           try clear hfz74_0
           try clear hfz74_1
           try clear hfz77_0
           try clear hfz77_1
           try clear hfz80_0
           try clear hfz80_1
           try clear hfz85_0
           try clear hfz85_1
           try clear hfz88_0
           try clear hfz88_1
           try clear hfz91_0
           try clear hfz91_1
           try clear hfz95_0
           try clear hfz95_1
           try clear hfz98_0
           try clear hfz98_1
           obtain ⟨kq, x117_25, rfl, HA, HJ25, HO_5, HO_7, HO_11, HO_60, BK283, HB⟩ := hcut
           cases kq with
           | zero => exact absurd HA.out (by simp [ancepslaw57_ApparatusCost.j2])
           | succ kj25 =>
            have H := HA.out
            clear HA
            simp only [ancepslaw57_ApparatusCost.j2] at H
            by_cases c150 : x117_25 = true
            ·subst c150; rw [if_pos rfl] at H; cases H
            ·replace c150 := Bool.eq_false_iff.mpr c150
             subst c150
             have H1 : (if ((rd_T29 t274 x62_2).f0) < 0 then (ancepslaw57_ApparatusCost.j3 kj25 t266 t270 t278 x13_2 x14_2 x15_2 t274 (t274.length : Int) x62_2 true ((rd_T29 t274 x62_2).f0) ((rd_T29 t274 x62_2).f1)) else (if ((rd_T29 t274 x62_2).f1) < 0 then (ancepslaw57_ApparatusCost.j3 kj25 t266 t270 t278 x13_2 x14_2 x15_2 t274 (t274.length : Int) x62_2 true ((rd_T29 t274 x62_2).f0) ((rd_T29 t274 x62_2).f1)) else (if 0 ≤ x14_2 then (if x14_2 < (t266.length : Int) then (if 0 ≤ x15_2 then (if x15_2 < (t270.length : Int) then (ancepslaw57_ApparatusCost.j3 kj25 t266 t270 t278 x13_2 x14_2 x15_2 t274 (t274.length : Int) x62_2 ((rdOf ByteArray.empty t266 x14_2).toList != (rdOf ByteArray.empty t270 x15_2).toList) ((rd_T29 t274 x62_2).f0) ((rd_T29 t274 x62_2).f1)) else (none)) else (none)) else (none)) else (none)))) = some r := by rw [if_neg (show ¬ (false = true) by decide)] at H; exact H
             clear H
             have H := H1
             clear H1
             have HC151 := Aside0.mk H
             clear H
             go_upto_region 15 with (fail)
             repeat (go_quiet (fail); go_upto_region 15 with (fail))
             go_cut [136] (fun v136 wc => ∃ (kq : Nat) (x136_150 : Bool), v136 = .bool x136_150 ∧ Aside0 (ancepslaw57_ApparatusCost.j3 kq t266 t270 t278 x13_2 x14_2 x15_2 t274 (t274.length : Int) x62_2 x136_150 ((rd_T29 t274 x62_2).f0) ((rd_T29 t274 x62_2).f1) = some r) ∧ Aside0 (kq ≤ kj25) ∧ Aside0 (Kd.R Kd.string 9 wc w.heap.size (fun k_ => some k_ ≠ (v272 : Value).ownBlock) v268 t266) ∧ Aside0 (Kd.R Kd.string 9 wc w.heap.size (fun k_ => some k_ ≠ (v268 : Value).ownBlock) v272 t270) ∧ Aside0 (Kd.R k29 29 wc w.heap.size (fun k_ => some k_ ≠ ((.slice (some ad282) t274.length co22) : Value).ownBlock ∧ k_ ≠ gb283) v280 t278) ∧ Aside0 (Kd.R k29 29 wc w.heap.size (fun k_ => some k_ ≠ (v280 : Value).ownBlock ∧ k_ ≠ gb283) (.slice (some ad282) t274.length co22) t274) ∧ Aside0 (wc.heap[gb283]? = some (.cells #[.int .i64 ((rd_T29 t274 x62_2).f0), .int .i64 ((rd_T29 t274 x62_2).f1)] 29 (0, 0))) ∧ Aside0 (Below w.heap.size w wc))
             case first =>
              have H := HC151.out
              clear HC151
              by_cases c152 : ((rd_T29 t274 x62_2).f0) < 0
              ·rw [if_pos c152] at H
               have c152b0 : decide (((rd_T29 t274 x62_2).f0) < 0) = true := decide_eq_true c152
               clear c152
               (first | rw [c152b0] | (simp only [i64_w, i32_w]; rw [c152b0]) | skip)
               have H' := Aside0.mk H
               clear H
               have hcz153_0 := cZ BK283 0 (.int .i64 ((rd_T29 t274 x62_2).f0))
               have hcz153_1 := cZ BK283 1 (.int .i64 ((rd_T29 t274 x62_2).f1))
               have hfz153_0 := blk_frozen BK283.out 0
               have hfz153_1 := blk_frozen BK283.out 1
               go_wp2
               repeat (go_quiet (fail); try go_wp2)
               go_meet
               case rel => exact ⟨_, (true), (by first | rfl | (simp; done) | (simp [*]; done)), H', ⟨by have := HJ2.out; have := HK2.out; have := HJ25.out; first | omega | exact Nat.le_refl _⟩, ⟨by (with_reducible repeat (first | apply Kd.R_alloc | apply Kd.R_drewN | apply Kd.R_drew)); exact HO_5.out⟩, ⟨by (with_reducible repeat (first | apply Kd.R_alloc | apply Kd.R_drewN | apply Kd.R_drew)); exact HO_7.out⟩, ⟨by (with_reducible repeat (first | apply Kd.R_alloc | apply Kd.R_drewN | apply Kd.R_drew)); exact HO_11.out⟩, ⟨by (with_reducible repeat (first | apply Kd.R_alloc | apply Kd.R_drewN | apply Kd.R_drew)); exact HO_60.out⟩, ⟨by (with_reducible repeat (first | apply blk_drewN | apply blk_drew | apply blk_alloc)); exact BK283.out⟩, ⟨by repeat (first | (with_reducible first | exact HB.out | apply below_alloc | apply pw_below_drewN | apply below_drew1 | refine below_set ?_ GE283.out) | exact HB.out)⟩⟩
              ·as_aux_lemma =>
                rw [if_neg c152] at H
                have c152b0 : decide (((rd_T29 t274 x62_2).f0) < 0) = false := decide_eq_false c152
                clear c152
                (first | rw [c152b0] | (simp only [i64_w, i32_w]; rw [c152b0]) | skip)
                by_cases c154 : ((rd_T29 t274 x62_2).f1) < 0
                ·rw [if_pos c154] at H
                 have c154b0 : decide (((rd_T29 t274 x62_2).f1) < 0) = true := decide_eq_true c154
                 clear c154
                 have H' := Aside0.mk H
                 clear H
                 have hcz155_0 := cZ BK283 0 (.int .i64 ((rd_T29 t274 x62_2).f0))
                 have hcz155_1 := cZ BK283 1 (.int .i64 ((rd_T29 t274 x62_2).f1))
                 have hfz155_0 := blk_frozen BK283.out 0
                 have hfz155_1 := blk_frozen BK283.out 1
                 go_wp2
                 repeat (go_quiet (fail); try go_wp2)
                 go_meet
                 case rel => exact ⟨_, (true), (by first | rfl | (simp; done) | (simp [*]; done)), H', ⟨by have := HJ2.out; have := HK2.out; have := HJ25.out; first | omega | exact Nat.le_refl _⟩, ⟨by (with_reducible repeat (first | apply Kd.R_alloc | apply Kd.R_drewN | apply Kd.R_drew)); exact HO_5.out⟩, ⟨by (with_reducible repeat (first | apply Kd.R_alloc | apply Kd.R_drewN | apply Kd.R_drew)); exact HO_7.out⟩, ⟨by (with_reducible repeat (first | apply Kd.R_alloc | apply Kd.R_drewN | apply Kd.R_drew)); exact HO_11.out⟩, ⟨by (with_reducible repeat (first | apply Kd.R_alloc | apply Kd.R_drewN | apply Kd.R_drew)); exact HO_60.out⟩, ⟨by (with_reducible repeat (first | apply blk_drewN | apply blk_drew | apply blk_alloc)); exact BK283.out⟩, ⟨by repeat (first | (with_reducible first | exact HB.out | apply below_alloc | apply pw_below_drewN | apply below_drew1 | refine below_set ?_ GE283.out) | exact HB.out)⟩⟩
                ·rw [if_neg c154] at H
                 have c154b0 : decide (((rd_T29 t274 x62_2).f1) < 0) = false := decide_eq_false c154
                 clear c154
                 by_cases c156 : 0 ≤ x14_2
                 ·rw [if_pos c156] at H
                  have c156b0 : decide (0 ≤ x14_2) = true := decide_eq_true c156
                  clear c156
                  by_cases c157 : x14_2 < (t266.length : Int)
                  ·rw [if_pos c157] at H
                   have c157b0 : decide (x14_2 < (t266.length : Int)) = true := decide_eq_true c157
                   clear c157
                   by_cases c158 : 0 ≤ x15_2
                   ·rw [if_pos c158] at H
                    have c158b0 : decide (0 ≤ x15_2) = true := decide_eq_true c158
                    clear c158
                    by_cases c159 : x15_2 < (t270.length : Int)
                    ·rw [if_pos c159] at H
                     have c159b0 : decide (x15_2 < (t270.length : Int)) = true := decide_eq_true c159
                     clear c159
                     have H' := Aside0.mk H
                     clear H
                     have hcz160_0 := cZ BK283 0 (.int .i64 ((rd_T29 t274 x62_2).f0))
                     have hcz160_1 := cZ BK283 1 (.int .i64 ((rd_T29 t274 x62_2).f1))
                     have hfz160_0 := blk_frozen BK283.out 0
                     have hfz160_1 := blk_frozen BK283.out 1
                     obtain ⟨Ao161, co161, eo161⟩ := Kd.R_slice HO_5.out
                     subst eo161
                     have p284 : 0 ≤ (x14_2 : Int) := of_decide_eq_true (by first | (with_reducible assumption) | assumption)
                     have q284 : x14_2 < (t266.length : Int) := of_decide_eq_true (by first | (with_reducible assumption) | assumption)
                     obtain ⟨ad284, e284, hx284_0⟩ := Kd.at_string (Kd.R_reads' HO_5.out).2.2 x14_2 p284 q284
                     cases e284
                     replace p284 := eq_true p284
                     replace q284 := eq_true q284
                     obtain ⟨Ao162, co162, eo162⟩ := Kd.R_slice HO_7.out
                     subst eo162
                     have p285 : 0 ≤ (x15_2 : Int) := of_decide_eq_true (by first | (with_reducible assumption) | assumption)
                     have q285 : x15_2 < (t270.length : Int) := of_decide_eq_true (by first | (with_reducible assumption) | assumption)
                     obtain ⟨ad285, e285, hx285_0⟩ := Kd.at_string (Kd.R_reads' HO_7.out).2.2 x15_2 p285 q285
                     cases e285
                     replace p285 := eq_true p285
                     replace q285 := eq_true q285
                     go_wp2
                     repeat (go_quiet (fail); try go_wp2)
                     go_meet
                     case rel => exact ⟨_, (((rdOf ByteArray.empty t266 x14_2).toList != (rdOf ByteArray.empty t270 x15_2).toList)), (by first | rfl | (simp; done) | (simp [*]; done)), H', ⟨by have := HJ2.out; have := HK2.out; have := HJ25.out; first | omega | exact Nat.le_refl _⟩, ⟨by (with_reducible repeat (first | apply Kd.R_alloc | apply Kd.R_drewN | apply Kd.R_drew)); exact HO_5.out⟩, ⟨by (with_reducible repeat (first | apply Kd.R_alloc | apply Kd.R_drewN | apply Kd.R_drew)); exact HO_7.out⟩, ⟨by (with_reducible repeat (first | apply Kd.R_alloc | apply Kd.R_drewN | apply Kd.R_drew)); exact HO_11.out⟩, ⟨by (with_reducible repeat (first | apply Kd.R_alloc | apply Kd.R_drewN | apply Kd.R_drew)); exact HO_60.out⟩, ⟨by (with_reducible repeat (first | apply blk_drewN | apply blk_drew | apply blk_alloc)); exact BK283.out⟩, ⟨by repeat (first | (with_reducible first | exact HB.out | apply below_alloc | apply pw_below_drewN | apply below_drew1 | refine below_set ?_ GE283.out) | exact HB.out)⟩⟩
                    ·rw [if_neg c159] at H; cases H
                   ·rw [if_neg c158] at H; cases H
                  ·rw [if_neg c157] at H; cases H
                 ·rw [if_neg c156] at H; cases H
             case rest =>
              clear HC151
              try clear c1
              try clear c2
              try clear p2
              try clear q2
              try clear hx2
              try clear c3
              try clear c4
              try clear c5
              try clear c6
              try clear c7
              try clear c8
              try clear c9
              try clear c10
              try clear c11
              try clear c12
              try clear c13
              try clear c14
              try clear c15
              try clear p28
              try clear q28
              try clear hx28
              try clear c29
              try clear c29b0
              try clear c30
              try clear c30b0
              try clear c30b1
              try clear c31
              try clear c31b0
              try clear c32
              try clear c32b0
              try clear c32b1
              try clear c46
              try clear c46b0
              try clear c49
              try clear c49b0
              try clear c57
              try clear c57b0
              try clear c58
              try clear c58b0
              try clear c60
              try clear c60b0
              try clear c63
              try clear c63b0
              try clear c70
              try clear c70b0
              try clear c73
              try clear c73b0
              try clear c81
              try clear c81b0
              try clear c82
              try clear c82b0
              try clear c82b1
              try clear c83
              try clear c83b0
              try clear c84
              try clear c84b0
              try clear c86
              try clear c86b0
              try clear c87
              try clear c87b0
              try clear c94
              try clear c94b0
              try clear c101
              try clear c101b0
              try clear c102
              try clear c102b0
              try clear c109
              try clear c109b0
              try clear c117
              try clear c117b0
              try clear c118
              try clear c118b0
              try clear c120
              try clear c120b0
              try clear c121
              try clear c121b0
              try clear c128
              try clear c128b0
              try clear c135
              try clear c135b0
              try clear c136
              try clear c136b0
              try clear c143
              try clear c143b0
              try clear c150
              try clear c152
              try clear c152b0
              try clear c154
              try clear c154b0
              try clear c156
              try clear c156b0
              try clear c157
              try clear c157b0
              try clear c158
              try clear c158b0
              try clear c159
              try clear c159b0
              try clear hcz103_0
              try clear hcz103_1
              try clear hcz106_0
              try clear hcz106_1
              try clear hcz110_0
              try clear hcz110_1
              try clear hcz113_0
              try clear hcz113_1
              try clear hcz116_0
              try clear hcz116_1
              try clear hcz119_0
              try clear hcz119_1
              try clear hcz122_0
              try clear hcz122_1
              try clear hcz125_0
              try clear hcz125_1
              try clear hcz129_0
              try clear hcz129_1
              try clear hcz132_0
              try clear hcz132_1
              try clear hcz137_0
              try clear hcz137_1
              try clear hcz140_0
              try clear hcz140_1
              try clear hcz144_0
              try clear hcz144_1
              try clear hcz147_0
              try clear hcz147_1
              try clear hcz153_0
              try clear hcz153_1
              try clear hcz155_0
              try clear hcz155_1
              try clear hcz160_0
              try clear hcz160_1
              try clear hcz47_0
              try clear hcz47_1
              try clear hcz50_0
              try clear hcz50_1
              try clear hcz53_0
              try clear hcz53_1
              try clear hcz56_0
              try clear hcz56_1
              try clear hcz59_0
              try clear hcz59_1
              try clear hcz61_0
              try clear hcz61_1
              try clear hcz64_0
              try clear hcz64_1
              try clear hcz67_0
              try clear hcz67_1
              try clear hcz71_0
              try clear hcz71_1
              try clear hcz74_0
              try clear hcz74_1
              try clear hcz77_0
              try clear hcz77_1
              try clear hcz80_0
              try clear hcz80_1
              try clear hcz85_0
              try clear hcz85_1
              try clear hcz88_0
              try clear hcz88_1
              try clear hcz91_0
              try clear hcz91_1
              try clear hcz95_0
              try clear hcz95_1
              try clear hcz98_0
              try clear hcz98_1
              try clear hfz103_0
              try clear hfz103_1
              try clear hfz106_0
              try clear hfz106_1
              try clear hfz110_0
              try clear hfz110_1
              try clear hfz113_0
              try clear hfz113_1
              try clear hfz116_0
              try clear hfz116_1
              try clear hfz119_0
              try clear hfz119_1
              try clear hfz122_0
              try clear hfz122_1
              try clear hfz125_0
              try clear hfz125_1
              try clear hfz129_0
              try clear hfz129_1
              try clear hfz132_0
              try clear hfz132_1
              try clear hfz137_0
              try clear hfz137_1
              try clear hfz140_0
              try clear hfz140_1
              try clear hfz144_0
              try clear hfz144_1
              try clear hfz147_0
              try clear hfz147_1
              try clear hfz153_0
              try clear hfz153_1
              try clear hfz155_0
              try clear hfz155_1
              try clear hfz160_0
              try clear hfz160_1
              try clear hfz47_0
              try clear hfz47_1
              try clear hfz50_0
              try clear hfz50_1
              try clear hfz53_0
              try clear hfz53_1
              try clear hfz56_0
              try clear hfz56_1
              try clear hfz59_0
              try clear hfz59_1
              try clear hfz61_0
              try clear hfz61_1
              try clear hfz64_0
              try clear hfz64_1
              try clear hfz67_0
              try clear hfz67_1
              try clear hfz71_0
              try clear hfz71_1
              try clear hfz74_0
              try clear hfz74_1
              try clear hfz77_0
              try clear hfz77_1
              try clear hfz80_0
              try clear hfz80_1
              try clear hfz85_0
              try clear hfz85_1
              try clear hfz88_0
              try clear hfz88_1
              try clear hfz91_0
              try clear hfz91_1
              try clear hfz95_0
              try clear hfz95_1
              try clear hfz98_0
              try clear hfz98_1
              try clear hx284_0
              try clear hx285_0
              try clear p2
              try clear p284
              try clear p285
              try clear q284
              try clear q285
              obtain ⟨kq, x136_150, rfl, HA, HJ150, HO_5, HO_7, HO_11, HO_60, BK283, HB⟩ := hcut
              cases kq with
              | zero => exact absurd HA.out (by simp [ancepslaw57_ApparatusCost.j3])
              | succ kj150 =>
               have H := HA.out
               clear HA
               simp only [ancepslaw57_ApparatusCost.j3] at H
               have HC163 := Aside0.mk H
               clear H
               go_upto_if 136 with (fail)
               repeat (go_quiet (fail); go_upto_if 136 with (fail))
               go_cut [13] (fun v13 wc => ∃ (kq : Nat) (x13_162 : Int), v13 = .int .i64 x13_162 ∧ Aside0 (ancepslaw57_ApparatusCost.j4 kq t266 t270 t278 x13_162 x14_2 x15_2 t274 (t274.length : Int) x62_2 ((rd_T29 t274 x62_2).f0) ((rd_T29 t274 x62_2).f1) = some r) ∧ Aside0 (kq ≤ kj150) ∧ Aside0 (Kd.R Kd.string 9 wc w.heap.size (fun k_ => some k_ ≠ (v272 : Value).ownBlock) v268 t266) ∧ Aside0 (Kd.R Kd.string 9 wc w.heap.size (fun k_ => some k_ ≠ (v268 : Value).ownBlock) v272 t270) ∧ Aside0 (Kd.R k29 29 wc w.heap.size (fun k_ => some k_ ≠ ((.slice (some ad282) t274.length co22) : Value).ownBlock ∧ k_ ≠ gb283) v280 t278) ∧ Aside0 (Kd.R k29 29 wc w.heap.size (fun k_ => some k_ ≠ (v280 : Value).ownBlock ∧ k_ ≠ gb283) (.slice (some ad282) t274.length co22) t274) ∧ Aside0 (wc.heap[gb283]? = some (.cells #[.int .i64 ((rd_T29 t274 x62_2).f0), .int .i64 ((rd_T29 t274 x62_2).f1)] 29 (0, 0))) ∧ Aside0 (Below w.heap.size w wc))
               case first =>
                have H := HC163.out
                clear HC163
                by_cases c164 : x136_150 = true
                ·subst c164
                 have H1 : (ancepslaw57_ApparatusCost.j4 kj150 t266 t270 t278 (wrap64 (x13_2 + 1)) x14_2 x15_2 t274 (t274.length : Int) x62_2 ((rd_T29 t274 x62_2).f0) ((rd_T29 t274 x62_2).f1)) = some r := by rw [if_pos rfl] at H; exact H
                 clear H
                 have H := H1
                 clear H1
                 have H' := Aside0.mk H
                 clear H
                 go_wp2
                 repeat (go_quiet (fail); try go_wp2)
                 go_meet
                 case rel => exact ⟨_, (wrap64 (x13_2 + 1)), (by first | rfl | (simp; done) | (simp [*]; done)), H', ⟨by have := HJ2.out; have := HK2.out; have := HJ25.out; have := HJ150.out; first | omega | exact Nat.le_refl _⟩, ⟨by (with_reducible repeat (first | apply Kd.R_alloc | apply Kd.R_drewN | apply Kd.R_drew)); exact HO_5.out⟩, ⟨by (with_reducible repeat (first | apply Kd.R_alloc | apply Kd.R_drewN | apply Kd.R_drew)); exact HO_7.out⟩, ⟨by (with_reducible repeat (first | apply Kd.R_alloc | apply Kd.R_drewN | apply Kd.R_drew)); exact HO_11.out⟩, ⟨by (with_reducible repeat (first | apply Kd.R_alloc | apply Kd.R_drewN | apply Kd.R_drew)); exact HO_60.out⟩, ⟨by (with_reducible repeat (first | apply blk_drewN | apply blk_drew | apply blk_alloc)); exact BK283.out⟩, ⟨by repeat (first | (with_reducible first | exact HB.out | apply below_alloc | apply pw_below_drewN | apply below_drew1 | refine below_set ?_ GE283.out) | exact HB.out)⟩⟩
                ·replace c164 := Bool.eq_false_iff.mpr c164
                 subst c164
                 have H1 : (ancepslaw57_ApparatusCost.j4 kj150 t266 t270 t278 x13_2 x14_2 x15_2 t274 (t274.length : Int) x62_2 ((rd_T29 t274 x62_2).f0) ((rd_T29 t274 x62_2).f1)) = some r := by rw [if_neg (show ¬ (false = true) by decide)] at H; exact H
                 clear H
                 have H := H1
                 clear H1
                 have H' := Aside0.mk H
                 clear H
                 go_wp2
                 repeat (go_quiet (fail); try go_wp2)
                 go_meet
                 case rel => exact ⟨_, (x13_2), (by first | rfl | (simp; done) | (simp [*]; done)), H', ⟨by have := HJ2.out; have := HK2.out; have := HJ25.out; have := HJ150.out; first | omega | exact Nat.le_refl _⟩, ⟨by (with_reducible repeat (first | apply Kd.R_alloc | apply Kd.R_drewN | apply Kd.R_drew)); exact HO_5.out⟩, ⟨by (with_reducible repeat (first | apply Kd.R_alloc | apply Kd.R_drewN | apply Kd.R_drew)); exact HO_7.out⟩, ⟨by (with_reducible repeat (first | apply Kd.R_alloc | apply Kd.R_drewN | apply Kd.R_drew)); exact HO_11.out⟩, ⟨by (with_reducible repeat (first | apply Kd.R_alloc | apply Kd.R_drewN | apply Kd.R_drew)); exact HO_60.out⟩, ⟨by (with_reducible repeat (first | apply blk_drewN | apply blk_drew | apply blk_alloc)); exact BK283.out⟩, ⟨by repeat (first | (with_reducible first | exact HB.out | apply below_alloc | apply pw_below_drewN | apply below_drew1 | refine below_set ?_ GE283.out) | exact HB.out)⟩⟩
               case rest =>
                clear HC163
                try clear c1
                try clear c2
                try clear p2
                try clear q2
                try clear hx2
                try clear c3
                try clear c4
                try clear c5
                try clear c6
                try clear p6
                try clear c7
                try clear c8
                try clear c9
                try clear c10
                try clear c11
                try clear c12
                try clear c13
                try clear c14
                try clear c15
                try clear c16
                try clear p28
                try clear q28
                try clear hx28
                try clear c29
                try clear c29b0
                try clear c30
                try clear c30b0
                try clear c30b1
                try clear c31
                try clear c31b0
                try clear c32
                try clear c32b0
                try clear c32b1
                try clear c46
                try clear c46b0
                try clear c49
                try clear c49b0
                try clear c57
                try clear c57b0
                try clear c58
                try clear c58b0
                try clear c60
                try clear c60b0
                try clear c63
                try clear c63b0
                try clear p64
                try clear c70
                try clear c70b0
                try clear c73
                try clear c73b0
                try clear c81
                try clear c81b0
                try clear c82
                try clear c82b0
                try clear c82b1
                try clear c83
                try clear c83b0
                try clear c84
                try clear c84b0
                try clear c86
                try clear c86b0
                try clear c87
                try clear c87b0
                try clear c94
                try clear c94b0
                try clear c101
                try clear c101b0
                try clear c102
                try clear c102b0
                try clear c109
                try clear c109b0
                try clear c117
                try clear c117b0
                try clear c118
                try clear c118b0
                try clear c120
                try clear c120b0
                try clear c121
                try clear c121b0
                try clear c128
                try clear c128b0
                try clear c135
                try clear c135b0
                try clear c136
                try clear c136b0
                try clear c143
                try clear c143b0
                try clear c150
                try clear c152
                try clear c152b0
                try clear c154
                try clear c154b0
                try clear c156
                try clear c156b0
                try clear c157
                try clear c157b0
                try clear c158
                try clear c158b0
                try clear c159
                try clear c159b0
                try clear c164
                try clear hcz103_0
                try clear hcz103_1
                try clear hcz106_0
                try clear hcz106_1
                try clear hcz110_0
                try clear hcz110_1
                try clear hcz113_0
                try clear hcz113_1
                try clear hcz116_0
                try clear hcz116_1
                try clear hcz119_0
                try clear hcz119_1
                try clear hcz122_0
                try clear hcz122_1
                try clear hcz125_0
                try clear hcz125_1
                try clear hcz129_0
                try clear hcz129_1
                try clear hcz132_0
                try clear hcz132_1
                try clear hcz137_0
                try clear hcz137_1
                try clear hcz140_0
                try clear hcz140_1
                try clear hcz144_0
                try clear hcz144_1
                try clear hcz147_0
                try clear hcz147_1
                try clear hcz153_0
                try clear hcz153_1
                try clear hcz155_0
                try clear hcz155_1
                try clear hcz160_0
                try clear hcz160_1
                try clear hcz47_0
                try clear hcz47_1
                try clear hcz50_0
                try clear hcz50_1
                try clear hcz53_0
                try clear hcz53_1
                try clear hcz56_0
                try clear hcz56_1
                try clear hcz59_0
                try clear hcz59_1
                try clear hcz61_0
                try clear hcz61_1
                try clear hcz64_0
                try clear hcz64_1
                try clear hcz67_0
                try clear hcz67_1
                try clear hcz71_0
                try clear hcz71_1
                try clear hcz74_0
                try clear hcz74_1
                try clear hcz77_0
                try clear hcz77_1
                try clear hcz80_0
                try clear hcz80_1
                try clear hcz85_0
                try clear hcz85_1
                try clear hcz88_0
                try clear hcz88_1
                try clear hcz91_0
                try clear hcz91_1
                try clear hcz95_0
                try clear hcz95_1
                try clear hcz98_0
                try clear hcz98_1
                try clear hfz103_0
                try clear hfz103_1
                try clear hfz106_0
                try clear hfz106_1
                try clear hfz110_0
                try clear hfz110_1
                try clear hfz113_0
                try clear hfz113_1
                try clear hfz116_0
                try clear hfz116_1
                try clear hfz119_0
                try clear hfz119_1
                try clear hfz122_0
                try clear hfz122_1
                try clear hfz125_0
                try clear hfz125_1
                try clear hfz129_0
                try clear hfz129_1
                try clear hfz132_0
                try clear hfz132_1
                try clear hfz137_0
                try clear hfz137_1
                try clear hfz140_0
                try clear hfz140_1
                try clear hfz144_0
                try clear hfz144_1
                try clear hfz147_0
                try clear hfz147_1
                try clear hfz153_0
                try clear hfz153_1
                try clear hfz155_0
                try clear hfz155_1
                try clear hfz160_0
                try clear hfz160_1
                try clear hfz47_0
                try clear hfz47_1
                try clear hfz50_0
                try clear hfz50_1
                try clear hfz53_0
                try clear hfz53_1
                try clear hfz56_0
                try clear hfz56_1
                try clear hfz59_0
                try clear hfz59_1
                try clear hfz61_0
                try clear hfz61_1
                try clear hfz64_0
                try clear hfz64_1
                try clear hfz67_0
                try clear hfz67_1
                try clear hfz71_0
                try clear hfz71_1
                try clear hfz74_0
                try clear hfz74_1
                try clear hfz77_0
                try clear hfz77_1
                try clear hfz80_0
                try clear hfz80_1
                try clear hfz85_0
                try clear hfz85_1
                try clear hfz88_0
                try clear hfz88_1
                try clear hfz91_0
                try clear hfz91_1
                try clear hfz95_0
                try clear hfz95_1
                try clear hfz98_0
                try clear hfz98_1
                try clear hx284_0
                try clear hx285_0
                try clear p2
                try clear p28
                try clear p284
                try clear p285
                try clear q2
                try clear q28
                try clear q284
                try clear q285
                obtain ⟨kq, x13_162, rfl, HA, HJ162, HO_5, HO_7, HO_11, HO_60, BK283, HB⟩ := hcut
                cases kq with
                | zero => exact absurd HA.out (by simp [ancepslaw57_ApparatusCost.j4])
                | succ kj162 =>
                 have H := HA.out
                 clear HA
                 simp only [ancepslaw57_ApparatusCost.j4] at H
                 by_cases c165 : ((rd_T29 t274 x62_2).f0) ≥ 0
                 ·rw [if_pos c165] at H
                  have c165b0 : decide (0 ≤ ((rd_T29 t274 x62_2).f0)) = true := decide_eq_true c165
                  clear c165
                  by_cases c166 : ((rd_T29 t274 x62_2).f1) ≥ 0
                  ·rw [if_pos c166] at H
                   have c166b0 : decide (0 ≤ ((rd_T29 t274 x62_2).f1)) = true := decide_eq_true c166
                   clear c166
                   have H' := Aside0.mk H
                   clear H
                   have hcz167_0 := cZ BK283 0 (.int .i64 ((rd_T29 t274 x62_2).f0))
                   have hcz167_1 := cZ BK283 1 (.int .i64 ((rd_T29 t274 x62_2).f1))
                   have hfz167_0 := blk_frozen BK283.out 0
                   have hfz167_1 := blk_frozen BK283.out 1
                   go_wp2
                   repeat (go_quiet (fail); try go_wp2)
                   go_roundg kj162
                   case measure => have := HJ2.out; have := HK2.out; have := HJ25.out; have := HJ150.out; have := HJ162.out; omega
                   case rel => exact ⟨(x13_162), (wrap64 (x14_2 + 1)), (wrap64 (x15_2 + 1)), (wrap64 (x62_2 + 1)), (by first | rfl | (simp; done) | (simp [*]; done)), (by first | rfl | (simp; done) | (simp [*]; done)), (by first | rfl | (simp; done) | (simp [*]; done)), (by first | rfl | (simp; done) | (simp [*]; done)), H', ⟨by have := HJ2.out; have := HK2.out; have := HJ25.out; have := HJ150.out; have := HJ162.out; omega⟩, ⟨by (with_reducible repeat (first | apply Kd.R_alloc | apply Kd.R_drewN | apply Kd.R_drew)); exact HO_5.out⟩, ⟨by (with_reducible repeat (first | apply Kd.R_alloc | apply Kd.R_drewN | apply Kd.R_drew)); exact HO_7.out⟩, ⟨by (with_reducible repeat (first | apply Kd.R_alloc | apply Kd.R_drewN | apply Kd.R_drew)); exact Kd.R_mono HO_11.out (fun _ hk => hk.1)⟩, ⟨by (with_reducible repeat (first | apply Kd.R_alloc | apply Kd.R_drewN | apply Kd.R_drew)); exact Kd.R_mono HO_60.out (fun _ hk => hk.1)⟩, ⟨by repeat (first | (with_reducible first | exact HB.out | apply below_alloc | apply pw_below_drewN | apply below_drew1 | refine below_set ?_ GE283.out) | exact HB.out)⟩⟩
                  ·rw [if_neg c166] at H
                   have c166b0 : decide (0 ≤ ((rd_T29 t274 x62_2).f1)) = false := decide_eq_false c166
                   clear c166
                   have H' := Aside0.mk H
                   clear H
                   have hcz168_0 := cZ BK283 0 (.int .i64 ((rd_T29 t274 x62_2).f0))
                   have hcz168_1 := cZ BK283 1 (.int .i64 ((rd_T29 t274 x62_2).f1))
                   have hfz168_0 := blk_frozen BK283.out 0
                   have hfz168_1 := blk_frozen BK283.out 1
                   go_wp2
                   repeat (go_quiet (fail); try go_wp2)
                   go_roundg kj162
                   case measure => have := HJ2.out; have := HK2.out; have := HJ25.out; have := HJ150.out; have := HJ162.out; omega
                   case rel => exact ⟨(x13_162), (wrap64 (x14_2 + 1)), (x15_2), (wrap64 (x62_2 + 1)), (by first | rfl | (simp; done) | (simp [*]; done)), (by first | rfl | (simp; done) | (simp [*]; done)), (by first | rfl | (simp; done) | (simp [*]; done)), (by first | rfl | (simp; done) | (simp [*]; done)), H', ⟨by have := HJ2.out; have := HK2.out; have := HJ25.out; have := HJ150.out; have := HJ162.out; omega⟩, ⟨by (with_reducible repeat (first | apply Kd.R_alloc | apply Kd.R_drewN | apply Kd.R_drew)); exact HO_5.out⟩, ⟨by (with_reducible repeat (first | apply Kd.R_alloc | apply Kd.R_drewN | apply Kd.R_drew)); exact HO_7.out⟩, ⟨by (with_reducible repeat (first | apply Kd.R_alloc | apply Kd.R_drewN | apply Kd.R_drew)); exact Kd.R_mono HO_11.out (fun _ hk => hk.1)⟩, ⟨by (with_reducible repeat (first | apply Kd.R_alloc | apply Kd.R_drewN | apply Kd.R_drew)); exact Kd.R_mono HO_60.out (fun _ hk => hk.1)⟩, ⟨by repeat (first | (with_reducible first | exact HB.out | apply below_alloc | apply pw_below_drewN | apply below_drew1 | refine below_set ?_ GE283.out) | exact HB.out)⟩⟩
                 ·rw [if_neg c165] at H
                  have c165b0 : decide (0 ≤ ((rd_T29 t274 x62_2).f0)) = false := decide_eq_false c165
                  clear c165
                  by_cases c169 : ((rd_T29 t274 x62_2).f1) ≥ 0
                  ·rw [if_pos c169] at H
                   have c169b0 : decide (0 ≤ ((rd_T29 t274 x62_2).f1)) = true := decide_eq_true c169
                   clear c169
                   have H' := Aside0.mk H
                   clear H
                   have hcz170_0 := cZ BK283 0 (.int .i64 ((rd_T29 t274 x62_2).f0))
                   have hcz170_1 := cZ BK283 1 (.int .i64 ((rd_T29 t274 x62_2).f1))
                   have hfz170_0 := blk_frozen BK283.out 0
                   have hfz170_1 := blk_frozen BK283.out 1
                   go_wp2
                   repeat (go_quiet (fail); try go_wp2)
                   go_roundg kj162
                   case measure => have := HJ2.out; have := HK2.out; have := HJ25.out; have := HJ150.out; have := HJ162.out; omega
                   case rel => exact ⟨(x13_162), (x14_2), (wrap64 (x15_2 + 1)), (wrap64 (x62_2 + 1)), (by first | rfl | (simp; done) | (simp [*]; done)), (by first | rfl | (simp; done) | (simp [*]; done)), (by first | rfl | (simp; done) | (simp [*]; done)), (by first | rfl | (simp; done) | (simp [*]; done)), H', ⟨by have := HJ2.out; have := HK2.out; have := HJ25.out; have := HJ150.out; have := HJ162.out; omega⟩, ⟨by (with_reducible repeat (first | apply Kd.R_alloc | apply Kd.R_drewN | apply Kd.R_drew)); exact HO_5.out⟩, ⟨by (with_reducible repeat (first | apply Kd.R_alloc | apply Kd.R_drewN | apply Kd.R_drew)); exact HO_7.out⟩, ⟨by (with_reducible repeat (first | apply Kd.R_alloc | apply Kd.R_drewN | apply Kd.R_drew)); exact Kd.R_mono HO_11.out (fun _ hk => hk.1)⟩, ⟨by (with_reducible repeat (first | apply Kd.R_alloc | apply Kd.R_drewN | apply Kd.R_drew)); exact Kd.R_mono HO_60.out (fun _ hk => hk.1)⟩, ⟨by repeat (first | (with_reducible first | exact HB.out | apply below_alloc | apply pw_below_drewN | apply below_drew1 | refine below_set ?_ GE283.out) | exact HB.out)⟩⟩
                  ·rw [if_neg c169] at H
                   have c169b0 : decide (0 ≤ ((rd_T29 t274 x62_2).f1)) = false := decide_eq_false c169
                   clear c169
                   have H' := Aside0.mk H
                   clear H
                   have hcz171_0 := cZ BK283 0 (.int .i64 ((rd_T29 t274 x62_2).f0))
                   have hcz171_1 := cZ BK283 1 (.int .i64 ((rd_T29 t274 x62_2).f1))
                   have hfz171_0 := blk_frozen BK283.out 0
                   have hfz171_1 := blk_frozen BK283.out 1
                   go_wp2
                   repeat (go_quiet (fail); try go_wp2)
                   go_roundg kj162
                   case measure => have := HJ2.out; have := HK2.out; have := HJ25.out; have := HJ150.out; have := HJ162.out; omega
                   case rel => exact ⟨(x13_162), (x14_2), (x15_2), (wrap64 (x62_2 + 1)), (by first | rfl | (simp; done) | (simp [*]; done)), (by first | rfl | (simp; done) | (simp [*]; done)), (by first | rfl | (simp; done) | (simp [*]; done)), (by first | rfl | (simp; done) | (simp [*]; done)), H', ⟨by have := HJ2.out; have := HK2.out; have := HJ25.out; have := HJ150.out; have := HJ162.out; omega⟩, ⟨by (with_reducible repeat (first | apply Kd.R_alloc | apply Kd.R_drewN | apply Kd.R_drew)); exact HO_5.out⟩, ⟨by (with_reducible repeat (first | apply Kd.R_alloc | apply Kd.R_drewN | apply Kd.R_drew)); exact HO_7.out⟩, ⟨by (with_reducible repeat (first | apply Kd.R_alloc | apply Kd.R_drewN | apply Kd.R_drew)); exact Kd.R_mono HO_11.out (fun _ hk => hk.1)⟩, ⟨by (with_reducible repeat (first | apply Kd.R_alloc | apply Kd.R_drewN | apply Kd.R_drew)); exact Kd.R_mono HO_60.out (fun _ hk => hk.1)⟩, ⟨by repeat (first | (with_reducible first | exact HB.out | apply below_alloc | apply pw_below_drewN | apply below_drew1 | refine below_set ?_ GE283.out) | exact HB.out)⟩⟩
         ·rw [if_neg c25] at H; cases H
        ·rw [if_neg c24] at H; cases H
       ·rw [if_neg c23] at H
        have c23b0 : decide (x62_2 < (t274.length : Int)) = false := decide_eq_false c23
        clear c23
        have H' := Aside0.mk H
        clear H
        obtain ⟨Ao172, co172, eo172⟩ := Kd.R_slice HO_11.out
        subst eo172
        go_wp2
        repeat (go_quiet (fail); try go_wp2)
        go_loopg [13, 152] k2 (fun kq v13 v152 w' => ∃ (x13_3 : Int) (x152_3 : Int), v13 = .int .i64 x13_3 ∧ v152 = .int .i64 x152_3 ∧ Aside0 (ancepslaw57_ApparatusCost.l1 kq t266 t270 x13_3 x14_2 x15_2 t278 (t278.length : Int) x152_3 = some r) ∧ Aside0 (kq ≤ k2) ∧ Aside0 (Kd.R Kd.string 9 w' w.heap.size (fun k_ => some k_ ≠ (v272 : Value).ownBlock) v268 t266) ∧ Aside0 (Kd.R Kd.string 9 w' w.heap.size (fun k_ => some k_ ≠ (v268 : Value).ownBlock) v272 t270) ∧ Aside0 (Kd.R k29 29 w' w.heap.size (fun _ => True) (.slice Ao172 t278.length co172) t278) ∧ Aside0 (Below w.heap.size w w'))
        case atStart => exact ⟨(x13_2), (0), (by first | rfl | (simp; done) | (simp [*]; done)), (by first | rfl | (simp; done) | (simp [*]; done)), H', ⟨Nat.le_refl _⟩, ⟨by (with_reducible repeat (first | apply Kd.R_alloc | apply Kd.R_drewN | apply Kd.R_drew)); exact HO_5.out⟩, ⟨by (with_reducible repeat (first | apply Kd.R_alloc | apply Kd.R_drewN | apply Kd.R_drew)); exact HO_7.out⟩, ⟨by (with_reducible repeat (first | apply Kd.R_alloc | apply Kd.R_drewN | apply Kd.R_drew)); exact Kd.R_mono HO_11.out (fun _ hk => trivial)⟩, ⟨by repeat (first | (with_reducible first | exact HB.out | apply below_alloc | apply pw_below_drewN | apply below_drew1) | exact HB.out)⟩⟩
        case round =>
         clear H'
         try clear c1
         try clear c2
         try clear p2
         try clear q2
         try clear hx2
         try clear c3
         try clear c4
         try clear c5
         try clear c6
         try clear p6
         try clear c7
         try clear c8
         try clear c9
         try clear c10
         try clear c11
         try clear c12
         try clear c13
         try clear c14
         try clear c15
         try clear c16
         try clear c23
         try clear c23b0
         try clear c24
         try clear c25
         try clear p28
         try clear q28
         try clear hx28
         try clear c29
         try clear c29b0
         try clear c30
         try clear c30b0
         try clear c30b1
         try clear c31
         try clear c31b0
         try clear c32
         try clear c32b0
         try clear c32b1
         try clear c46
         try clear c46b0
         try clear c49
         try clear c49b0
         try clear c57
         try clear c57b0
         try clear c58
         try clear c58b0
         try clear c60
         try clear c60b0
         try clear c63
         try clear c63b0
         try clear p64
         try clear c70
         try clear c70b0
         try clear c73
         try clear c73b0
         try clear c81
         try clear c81b0
         try clear c82
         try clear c82b0
         try clear c82b1
         try clear c83
         try clear c83b0
         try clear c84
         try clear c84b0
         try clear c86
         try clear c86b0
         try clear c87
         try clear c87b0
         try clear c94
         try clear c94b0
         try clear c101
         try clear c101b0
         try clear c102
         try clear c102b0
         try clear c109
         try clear c109b0
         try clear c117
         try clear c117b0
         try clear c118
         try clear c118b0
         try clear c120
         try clear c120b0
         try clear c121
         try clear c121b0
         try clear c128
         try clear c128b0
         try clear c135
         try clear c135b0
         try clear c136
         try clear c136b0
         try clear c143
         try clear c143b0
         try clear c150
         try clear c152
         try clear c152b0
         try clear c154
         try clear c154b0
         try clear c156
         try clear c156b0
         try clear c157
         try clear c157b0
         try clear c158
         try clear c158b0
         try clear c159
         try clear c159b0
         try clear c164
         try clear c165
         try clear c165b0
         try clear c166
         try clear c166b0
         try clear c169
         try clear c169b0
         try clear hcz103_0
         try clear hcz103_1
         try clear hcz106_0
         try clear hcz106_1
         try clear hcz110_0
         try clear hcz110_1
         try clear hcz113_0
         try clear hcz113_1
         try clear hcz116_0
         try clear hcz116_1
         try clear hcz119_0
         try clear hcz119_1
         try clear hcz122_0
         try clear hcz122_1
         try clear hcz125_0
         try clear hcz125_1
         try clear hcz129_0
         try clear hcz129_1
         try clear hcz132_0
         try clear hcz132_1
         try clear hcz137_0
         try clear hcz137_1
         try clear hcz140_0
         try clear hcz140_1
         try clear hcz144_0
         try clear hcz144_1
         try clear hcz147_0
         try clear hcz147_1
         try clear hcz153_0
         try clear hcz153_1
         try clear hcz155_0
         try clear hcz155_1
         try clear hcz160_0
         try clear hcz160_1
         try clear hcz167_0
         try clear hcz167_1
         try clear hcz168_0
         try clear hcz168_1
         try clear hcz170_0
         try clear hcz170_1
         try clear hcz171_0
         try clear hcz171_1
         try clear hcz47_0
         try clear hcz47_1
         try clear hcz50_0
         try clear hcz50_1
         try clear hcz53_0
         try clear hcz53_1
         try clear hcz56_0
         try clear hcz56_1
         try clear hcz59_0
         try clear hcz59_1
         try clear hcz61_0
         try clear hcz61_1
         try clear hcz64_0
         try clear hcz64_1
         try clear hcz67_0
         try clear hcz67_1
         try clear hcz71_0
         try clear hcz71_1
         try clear hcz74_0
         try clear hcz74_1
         try clear hcz77_0
         try clear hcz77_1
         try clear hcz80_0
         try clear hcz80_1
         try clear hcz85_0
         try clear hcz85_1
         try clear hcz88_0
         try clear hcz88_1
         try clear hcz91_0
         try clear hcz91_1
         try clear hcz95_0
         try clear hcz95_1
         try clear hcz98_0
         try clear hcz98_1
         try clear hfz103_0
         try clear hfz103_1
         try clear hfz106_0
         try clear hfz106_1
         try clear hfz110_0
         try clear hfz110_1
         try clear hfz113_0
         try clear hfz113_1
         try clear hfz116_0
         try clear hfz116_1
         try clear hfz119_0
         try clear hfz119_1
         try clear hfz122_0
         try clear hfz122_1
         try clear hfz125_0
         try clear hfz125_1
         try clear hfz129_0
         try clear hfz129_1
         try clear hfz132_0
         try clear hfz132_1
         try clear hfz137_0
         try clear hfz137_1
         try clear hfz140_0
         try clear hfz140_1
         try clear hfz144_0
         try clear hfz144_1
         try clear hfz147_0
         try clear hfz147_1
         try clear hfz153_0
         try clear hfz153_1
         try clear hfz155_0
         try clear hfz155_1
         try clear hfz160_0
         try clear hfz160_1
         try clear hfz167_0
         try clear hfz167_1
         try clear hfz168_0
         try clear hfz168_1
         try clear hfz170_0
         try clear hfz170_1
         try clear hfz171_0
         try clear hfz171_1
         try clear hfz47_0
         try clear hfz47_1
         try clear hfz50_0
         try clear hfz50_1
         try clear hfz53_0
         try clear hfz53_1
         try clear hfz56_0
         try clear hfz56_1
         try clear hfz59_0
         try clear hfz59_1
         try clear hfz61_0
         try clear hfz61_1
         try clear hfz64_0
         try clear hfz64_1
         try clear hfz67_0
         try clear hfz67_1
         try clear hfz71_0
         try clear hfz71_1
         try clear hfz74_0
         try clear hfz74_1
         try clear hfz77_0
         try clear hfz77_1
         try clear hfz80_0
         try clear hfz80_1
         try clear hfz85_0
         try clear hfz85_1
         try clear hfz88_0
         try clear hfz88_1
         try clear hfz91_0
         try clear hfz91_1
         try clear hfz95_0
         try clear hfz95_1
         try clear hfz98_0
         try clear hfz98_1
         try clear hx284_0
         try clear hx285_0
         try clear p2
         try clear p28
         try clear p284
         try clear p285
         try clear p6
         try clear p64
         try clear q2
         try clear q28
         try clear q284
         try clear q285
         obtain ⟨x13_3, x152_3, rfl, rfl, HA, HK3, HO_5, HO_7, HO_150, HB⟩ := hrel
         cases gk with
         | zero => exact absurd HA.out (by simp [ancepslaw57_ApparatusCost.l1])
         | succ k3 =>
          have H := HA.out
          clear HA
          simp only [ancepslaw57_ApparatusCost.l1] at H
          by_cases c173 : x152_3 < (t278.length : Int)
          ·as_aux_lemma =>
            rw [if_pos c173] at H
            have c173b0 : decide (x152_3 < (t278.length : Int)) = true := decide_eq_true c173
            clear c173
            by_cases c174 : 0 ≤ x152_3
            ·rw [if_pos c174] at H
             have c174b0 : decide (0 ≤ x152_3) = true := decide_eq_true c174
             clear c174
             by_cases c175 : x152_3 < (t278.length : Int)
             ·rw [if_pos c175] at H
              have c175b0 : decide (x152_3 < (t278.length : Int)) = true := decide_eq_true c175
              clear c175
              by_cases c176 : ((rd_T29 t278 x152_3).f0) < 0
              ·rw [if_pos c176] at H
               have c176b0 : decide (((rd_T29 t278 x152_3).f0) < 0) = true := decide_eq_true c176
               clear c176
               have H' := Aside0.mk H
               clear H
               have p286 : 0 ≤ (x152_3 : Int) := of_decide_eq_true (by first | (with_reducible assumption) | assumption)
               have q286 : x152_3 < (t278.length : Int) := of_decide_eq_true (by first | (with_reducible assumption) | assumption)
               obtain ⟨ad286, e286, hx286_0, hx286_1⟩ := at_T29 (Kd.R_reads' HO_150.out).2.2 x152_3 p286 q286
               cases e286
               replace p286 := eq_true p286
               replace q286 := eq_true q286
               go_wp2_with (first | ((with_reducible refine gate_dst (N := 19) rfl ?_); (try (refine gate_guard (by rfl) ?_; dsimp only)); refine bX 19 #[.int .i64 0, .int .i64 0] 29 ?_; intro gb287 hg w177 hbox hb; have n0_ := jR HO_5 hb; have n1_ := jR HO_7 hb; have n2_ := Aside0.mk (Kd.R_below (Kd.R_elderB (iR HO_150) gb287 (Nat.le_of_eq hg.symm)) hb); have n3_ := jL HB hb; have n4_ := Aside0.mk (hbox); have n5_ := Aside0.mk ((by rw [hg]; exact (below_size (iL HB)) : w.heap.size ≤ gb287)); have n6_ := Aside0.mk ((by rw [hg]; exact (below_size (iL HB)) : w.heap.size ≤ gb287)); clear HO_5; clear HO_7; clear HO_150; clear HB; have HO_5 := n0_; have HO_7 := n1_; have HO_150 := n2_; have HB := n3_; have BK287 := n4_; have GW287 := n5_; have GE287 := n6_; clear n0_ n1_ n2_ n3_ n4_ n5_ n6_; clear hb hbox hg; have hcz178_0 := cZ BK287 0 (.int .i64 0); have hcz178_1 := cZ BK287 1 (.int .i64 0); have hfz178_0 := blk_frozen BK287.out 0; have hfz178_1 := blk_frozen BK287.out 1))
               repeat (go_quiet (first | ((with_reducible refine gate_dst (N := 19) rfl ?_); (try (refine gate_guard (by rfl) ?_; dsimp only)); refine bX 19 #[.int .i64 0, .int .i64 0] 29 ?_; intro gb287 hg w177 hbox hb; have n0_ := jR HO_5 hb; have n1_ := jR HO_7 hb; have n2_ := Aside0.mk (Kd.R_below (Kd.R_elderB (iR HO_150) gb287 (Nat.le_of_eq hg.symm)) hb); have n3_ := jL HB hb; have n4_ := Aside0.mk (hbox); have n5_ := Aside0.mk ((by rw [hg]; exact (below_size (iL HB)) : w.heap.size ≤ gb287)); have n6_ := Aside0.mk ((by rw [hg]; exact (below_size (iL HB)) : w.heap.size ≤ gb287)); clear HO_5; clear HO_7; clear HO_150; clear HB; have HO_5 := n0_; have HO_7 := n1_; have HO_150 := n2_; have HB := n3_; have BK287 := n4_; have GW287 := n5_; have GE287 := n6_; clear n0_ n1_ n2_ n3_ n4_ n5_ n6_; clear hb hbox hg; have hcz178_0 := cZ BK287 0 (.int .i64 0); have hcz178_1 := cZ BK287 1 (.int .i64 0); have hfz178_0 := blk_frozen BK287.out 0; have hfz178_1 := blk_frozen BK287.out 1)); try go_wp2_with (first | ((with_reducible refine gate_dst (N := 19) rfl ?_); (try (refine gate_guard (by rfl) ?_; dsimp only)); refine bX 19 #[.int .i64 0, .int .i64 0] 29 ?_; intro gb287 hg w177 hbox hb; have n0_ := jR HO_5 hb; have n1_ := jR HO_7 hb; have n2_ := Aside0.mk (Kd.R_below (Kd.R_elderB (iR HO_150) gb287 (Nat.le_of_eq hg.symm)) hb); have n3_ := jL HB hb; have n4_ := Aside0.mk (hbox); have n5_ := Aside0.mk ((by rw [hg]; exact (below_size (iL HB)) : w.heap.size ≤ gb287)); have n6_ := Aside0.mk ((by rw [hg]; exact (below_size (iL HB)) : w.heap.size ≤ gb287)); clear HO_5; clear HO_7; clear HO_150; clear HB; have HO_5 := n0_; have HO_7 := n1_; have HO_150 := n2_; have HB := n3_; have BK287 := n4_; have GW287 := n5_; have GE287 := n6_; clear n0_ n1_ n2_ n3_ n4_ n5_ n6_; clear hb hbox hg; have hcz178_0 := cZ BK287 0 (.int .i64 0); have hcz178_1 := cZ BK287 1 (.int .i64 0); have hfz178_0 := blk_frozen BK287.out 0; have hfz178_1 := blk_frozen BK287.out 1)))
               go_roundg k3
               case measure => have := HJ2.out; have := HK2.out; have := HK3.out; omega
               case rel => exact ⟨(wrap64 (x13_3 - 1)), (wrap64 (x152_3 + 1)), (by first | rfl | (simp; done) | (simp [*]; done)), (by first | rfl | (simp; done) | (simp [*]; done)), H', ⟨by have := HJ2.out; have := HK2.out; have := HK3.out; omega⟩, ⟨by (with_reducible repeat (first | apply Kd.R_alloc | apply Kd.R_drewN | apply Kd.R_drew)); exact Kd.R_mono (Kd.R_far (p := ⟨gb287, 1, none⟩) (Kd.R_far (p := ⟨gb287, 0, none⟩) (Kd.R_types HO_5.out BK287.out (by decide)) (fun _ hk => hk.2) (.int .i64 ((rd_T29 t278 x152_3).f0))) (fun _ hk => hk.2) (.int .i64 ((rd_T29 t278 x152_3).f1))) (fun _ hk => hk.1)⟩, ⟨by (with_reducible repeat (first | apply Kd.R_alloc | apply Kd.R_drewN | apply Kd.R_drew)); exact Kd.R_mono (Kd.R_far (p := ⟨gb287, 1, none⟩) (Kd.R_far (p := ⟨gb287, 0, none⟩) (Kd.R_types HO_7.out BK287.out (by decide)) (fun _ hk => hk.2) (.int .i64 ((rd_T29 t278 x152_3).f0))) (fun _ hk => hk.2) (.int .i64 ((rd_T29 t278 x152_3).f1))) (fun _ hk => hk.1)⟩, ⟨by (with_reducible repeat (first | apply Kd.R_alloc | apply Kd.R_drewN | apply Kd.R_drew)); exact Kd.R_mono (Kd.R_far (p := ⟨gb287, 1, none⟩) (Kd.R_far (p := ⟨gb287, 0, none⟩) (Kd.R_mono HO_150.out (fun k_ hk => (⟨hk, hk.2⟩ : _ ∧ k_ ≠ gb287))) (fun _ hk => hk.2) (.int .i64 ((rd_T29 t278 x152_3).f0))) (fun _ hk => hk.2) (.int .i64 ((rd_T29 t278 x152_3).f1))) (fun _ hk => trivial)⟩, ⟨by repeat (first | (with_reducible first | exact HB.out | apply below_alloc | apply pw_below_drewN | apply below_drew1 | refine below_set ?_ GE287.out) | exact HB.out)⟩⟩
              ·rw [if_neg c176] at H
               have c176b0 : decide (((rd_T29 t278 x152_3).f0) < 0) = false := decide_eq_false c176
               clear c176
               by_cases c179 : ((rd_T29 t278 x152_3).f1) < 0
               ·rw [if_pos c179] at H
                have c179b0 : decide (((rd_T29 t278 x152_3).f1) < 0) = true := decide_eq_true c179
                clear c179
                have H' := Aside0.mk H
                clear H
                have p286 : 0 ≤ (x152_3 : Int) := of_decide_eq_true (by first | (with_reducible assumption) | assumption)
                have q286 : x152_3 < (t278.length : Int) := of_decide_eq_true (by first | (with_reducible assumption) | assumption)
                obtain ⟨ad286, e286, hx286_0, hx286_1⟩ := at_T29 (Kd.R_reads' HO_150.out).2.2 x152_3 p286 q286
                cases e286
                replace p286 := eq_true p286
                replace q286 := eq_true q286
                go_wp2_with (first | ((with_reducible refine gate_dst (N := 19) rfl ?_); (try (refine gate_guard (by rfl) ?_; dsimp only)); refine bX 19 #[.int .i64 0, .int .i64 0] 29 ?_; intro gb287 hg w180 hbox hb; have n0_ := jR HO_5 hb; have n1_ := jR HO_7 hb; have n2_ := Aside0.mk (Kd.R_below (Kd.R_elderB (iR HO_150) gb287 (Nat.le_of_eq hg.symm)) hb); have n3_ := jL HB hb; have n4_ := Aside0.mk (hbox); have n5_ := Aside0.mk ((by rw [hg]; exact (below_size (iL HB)) : w.heap.size ≤ gb287)); have n6_ := Aside0.mk ((by rw [hg]; exact (below_size (iL HB)) : w.heap.size ≤ gb287)); clear HO_5; clear HO_7; clear HO_150; clear HB; have HO_5 := n0_; have HO_7 := n1_; have HO_150 := n2_; have HB := n3_; have BK287 := n4_; have GW287 := n5_; have GE287 := n6_; clear n0_ n1_ n2_ n3_ n4_ n5_ n6_; clear hb hbox hg; have hcz181_0 := cZ BK287 0 (.int .i64 0); have hcz181_1 := cZ BK287 1 (.int .i64 0); have hfz181_0 := blk_frozen BK287.out 0; have hfz181_1 := blk_frozen BK287.out 1))
                repeat (go_quiet (first | ((with_reducible refine gate_dst (N := 19) rfl ?_); (try (refine gate_guard (by rfl) ?_; dsimp only)); refine bX 19 #[.int .i64 0, .int .i64 0] 29 ?_; intro gb287 hg w180 hbox hb; have n0_ := jR HO_5 hb; have n1_ := jR HO_7 hb; have n2_ := Aside0.mk (Kd.R_below (Kd.R_elderB (iR HO_150) gb287 (Nat.le_of_eq hg.symm)) hb); have n3_ := jL HB hb; have n4_ := Aside0.mk (hbox); have n5_ := Aside0.mk ((by rw [hg]; exact (below_size (iL HB)) : w.heap.size ≤ gb287)); have n6_ := Aside0.mk ((by rw [hg]; exact (below_size (iL HB)) : w.heap.size ≤ gb287)); clear HO_5; clear HO_7; clear HO_150; clear HB; have HO_5 := n0_; have HO_7 := n1_; have HO_150 := n2_; have HB := n3_; have BK287 := n4_; have GW287 := n5_; have GE287 := n6_; clear n0_ n1_ n2_ n3_ n4_ n5_ n6_; clear hb hbox hg; have hcz181_0 := cZ BK287 0 (.int .i64 0); have hcz181_1 := cZ BK287 1 (.int .i64 0); have hfz181_0 := blk_frozen BK287.out 0; have hfz181_1 := blk_frozen BK287.out 1)); try go_wp2_with (first | ((with_reducible refine gate_dst (N := 19) rfl ?_); (try (refine gate_guard (by rfl) ?_; dsimp only)); refine bX 19 #[.int .i64 0, .int .i64 0] 29 ?_; intro gb287 hg w180 hbox hb; have n0_ := jR HO_5 hb; have n1_ := jR HO_7 hb; have n2_ := Aside0.mk (Kd.R_below (Kd.R_elderB (iR HO_150) gb287 (Nat.le_of_eq hg.symm)) hb); have n3_ := jL HB hb; have n4_ := Aside0.mk (hbox); have n5_ := Aside0.mk ((by rw [hg]; exact (below_size (iL HB)) : w.heap.size ≤ gb287)); have n6_ := Aside0.mk ((by rw [hg]; exact (below_size (iL HB)) : w.heap.size ≤ gb287)); clear HO_5; clear HO_7; clear HO_150; clear HB; have HO_5 := n0_; have HO_7 := n1_; have HO_150 := n2_; have HB := n3_; have BK287 := n4_; have GW287 := n5_; have GE287 := n6_; clear n0_ n1_ n2_ n3_ n4_ n5_ n6_; clear hb hbox hg; have hcz181_0 := cZ BK287 0 (.int .i64 0); have hcz181_1 := cZ BK287 1 (.int .i64 0); have hfz181_0 := blk_frozen BK287.out 0; have hfz181_1 := blk_frozen BK287.out 1)))
                go_roundg k3
                case measure => have := HJ2.out; have := HK2.out; have := HK3.out; omega
                case rel => exact ⟨(wrap64 (x13_3 - 1)), (wrap64 (x152_3 + 1)), (by first | rfl | (simp; done) | (simp [*]; done)), (by first | rfl | (simp; done) | (simp [*]; done)), H', ⟨by have := HJ2.out; have := HK2.out; have := HK3.out; omega⟩, ⟨by (with_reducible repeat (first | apply Kd.R_alloc | apply Kd.R_drewN | apply Kd.R_drew)); exact Kd.R_mono (Kd.R_far (p := ⟨gb287, 1, none⟩) (Kd.R_far (p := ⟨gb287, 0, none⟩) (Kd.R_types HO_5.out BK287.out (by decide)) (fun _ hk => hk.2) (.int .i64 ((rd_T29 t278 x152_3).f0))) (fun _ hk => hk.2) (.int .i64 ((rd_T29 t278 x152_3).f1))) (fun _ hk => hk.1)⟩, ⟨by (with_reducible repeat (first | apply Kd.R_alloc | apply Kd.R_drewN | apply Kd.R_drew)); exact Kd.R_mono (Kd.R_far (p := ⟨gb287, 1, none⟩) (Kd.R_far (p := ⟨gb287, 0, none⟩) (Kd.R_types HO_7.out BK287.out (by decide)) (fun _ hk => hk.2) (.int .i64 ((rd_T29 t278 x152_3).f0))) (fun _ hk => hk.2) (.int .i64 ((rd_T29 t278 x152_3).f1))) (fun _ hk => hk.1)⟩, ⟨by (with_reducible repeat (first | apply Kd.R_alloc | apply Kd.R_drewN | apply Kd.R_drew)); exact Kd.R_mono (Kd.R_far (p := ⟨gb287, 1, none⟩) (Kd.R_far (p := ⟨gb287, 0, none⟩) (Kd.R_mono HO_150.out (fun k_ hk => (⟨hk, hk.2⟩ : _ ∧ k_ ≠ gb287))) (fun _ hk => hk.2) (.int .i64 ((rd_T29 t278 x152_3).f0))) (fun _ hk => hk.2) (.int .i64 ((rd_T29 t278 x152_3).f1))) (fun _ hk => trivial)⟩, ⟨by repeat (first | (with_reducible first | exact HB.out | apply below_alloc | apply pw_below_drewN | apply below_drew1 | refine below_set ?_ GE287.out) | exact HB.out)⟩⟩
               ·rw [if_neg c179] at H
                have c179b0 : decide (((rd_T29 t278 x152_3).f1) < 0) = false := decide_eq_false c179
                clear c179
                by_cases c182 : ((rd_T29 t278 x152_3).f0) ≥ (t270.length : Int)
                ·rw [if_pos c182] at H
                 have c182b0 : decide ((t270.length : Int) ≤ ((rd_T29 t278 x152_3).f0)) = true := decide_eq_true c182
                 clear c182
                 have H' := Aside0.mk H
                 clear H
                 have p286 : 0 ≤ (x152_3 : Int) := of_decide_eq_true (by first | (with_reducible assumption) | assumption)
                 have q286 : x152_3 < (t278.length : Int) := of_decide_eq_true (by first | (with_reducible assumption) | assumption)
                 obtain ⟨ad286, e286, hx286_0, hx286_1⟩ := at_T29 (Kd.R_reads' HO_150.out).2.2 x152_3 p286 q286
                 cases e286
                 replace p286 := eq_true p286
                 replace q286 := eq_true q286
                 go_wp2_with (first | ((with_reducible refine gate_dst (N := 19) rfl ?_); (try (refine gate_guard (by rfl) ?_; dsimp only)); refine bX 19 #[.int .i64 0, .int .i64 0] 29 ?_; intro gb287 hg w183 hbox hb; have n0_ := jR HO_5 hb; have n1_ := jR HO_7 hb; have n2_ := Aside0.mk (Kd.R_below (Kd.R_elderB (iR HO_150) gb287 (Nat.le_of_eq hg.symm)) hb); have n3_ := jL HB hb; have n4_ := Aside0.mk (hbox); have n5_ := Aside0.mk ((by rw [hg]; exact (below_size (iL HB)) : w.heap.size ≤ gb287)); have n6_ := Aside0.mk ((by rw [hg]; exact (below_size (iL HB)) : w.heap.size ≤ gb287)); clear HO_5; clear HO_7; clear HO_150; clear HB; have HO_5 := n0_; have HO_7 := n1_; have HO_150 := n2_; have HB := n3_; have BK287 := n4_; have GW287 := n5_; have GE287 := n6_; clear n0_ n1_ n2_ n3_ n4_ n5_ n6_; clear hb hbox hg; have hcz184_0 := cZ BK287 0 (.int .i64 0); have hcz184_1 := cZ BK287 1 (.int .i64 0); have hfz184_0 := blk_frozen BK287.out 0; have hfz184_1 := blk_frozen BK287.out 1; obtain ⟨Ao185, co185, eo185⟩ := Kd.R_slice HO_7.out; subst eo185))
                 repeat (go_quiet (first | ((with_reducible refine gate_dst (N := 19) rfl ?_); (try (refine gate_guard (by rfl) ?_; dsimp only)); refine bX 19 #[.int .i64 0, .int .i64 0] 29 ?_; intro gb287 hg w183 hbox hb; have n0_ := jR HO_5 hb; have n1_ := jR HO_7 hb; have n2_ := Aside0.mk (Kd.R_below (Kd.R_elderB (iR HO_150) gb287 (Nat.le_of_eq hg.symm)) hb); have n3_ := jL HB hb; have n4_ := Aside0.mk (hbox); have n5_ := Aside0.mk ((by rw [hg]; exact (below_size (iL HB)) : w.heap.size ≤ gb287)); have n6_ := Aside0.mk ((by rw [hg]; exact (below_size (iL HB)) : w.heap.size ≤ gb287)); clear HO_5; clear HO_7; clear HO_150; clear HB; have HO_5 := n0_; have HO_7 := n1_; have HO_150 := n2_; have HB := n3_; have BK287 := n4_; have GW287 := n5_; have GE287 := n6_; clear n0_ n1_ n2_ n3_ n4_ n5_ n6_; clear hb hbox hg; have hcz184_0 := cZ BK287 0 (.int .i64 0); have hcz184_1 := cZ BK287 1 (.int .i64 0); have hfz184_0 := blk_frozen BK287.out 0; have hfz184_1 := blk_frozen BK287.out 1; obtain ⟨Ao185, co185, eo185⟩ := Kd.R_slice HO_7.out; subst eo185)); try go_wp2_with (first | ((with_reducible refine gate_dst (N := 19) rfl ?_); (try (refine gate_guard (by rfl) ?_; dsimp only)); refine bX 19 #[.int .i64 0, .int .i64 0] 29 ?_; intro gb287 hg w183 hbox hb; have n0_ := jR HO_5 hb; have n1_ := jR HO_7 hb; have n2_ := Aside0.mk (Kd.R_below (Kd.R_elderB (iR HO_150) gb287 (Nat.le_of_eq hg.symm)) hb); have n3_ := jL HB hb; have n4_ := Aside0.mk (hbox); have n5_ := Aside0.mk ((by rw [hg]; exact (below_size (iL HB)) : w.heap.size ≤ gb287)); have n6_ := Aside0.mk ((by rw [hg]; exact (below_size (iL HB)) : w.heap.size ≤ gb287)); clear HO_5; clear HO_7; clear HO_150; clear HB; have HO_5 := n0_; have HO_7 := n1_; have HO_150 := n2_; have HB := n3_; have BK287 := n4_; have GW287 := n5_; have GE287 := n6_; clear n0_ n1_ n2_ n3_ n4_ n5_ n6_; clear hb hbox hg; have hcz184_0 := cZ BK287 0 (.int .i64 0); have hcz184_1 := cZ BK287 1 (.int .i64 0); have hfz184_0 := blk_frozen BK287.out 0; have hfz184_1 := blk_frozen BK287.out 1; obtain ⟨Ao185, co185, eo185⟩ := Kd.R_slice HO_7.out; subst eo185)))
                 go_roundg k3
                 case measure => have := HJ2.out; have := HK2.out; have := HK3.out; omega
                 case rel => exact ⟨(wrap64 (x13_3 - 1)), (wrap64 (x152_3 + 1)), (by first | rfl | (simp; done) | (simp [*]; done)), (by first | rfl | (simp; done) | (simp [*]; done)), H', ⟨by have := HJ2.out; have := HK2.out; have := HK3.out; omega⟩, ⟨by (with_reducible repeat (first | apply Kd.R_alloc | apply Kd.R_drewN | apply Kd.R_drew)); exact Kd.R_mono (Kd.R_far (p := ⟨gb287, 1, none⟩) (Kd.R_far (p := ⟨gb287, 0, none⟩) (Kd.R_types HO_5.out BK287.out (by decide)) (fun _ hk => hk.2) (.int .i64 ((rd_T29 t278 x152_3).f0))) (fun _ hk => hk.2) (.int .i64 ((rd_T29 t278 x152_3).f1))) (fun _ hk => hk.1)⟩, ⟨by (with_reducible repeat (first | apply Kd.R_alloc | apply Kd.R_drewN | apply Kd.R_drew)); exact Kd.R_mono (Kd.R_far (p := ⟨gb287, 1, none⟩) (Kd.R_far (p := ⟨gb287, 0, none⟩) (Kd.R_types HO_7.out BK287.out (by decide)) (fun _ hk => hk.2) (.int .i64 ((rd_T29 t278 x152_3).f0))) (fun _ hk => hk.2) (.int .i64 ((rd_T29 t278 x152_3).f1))) (fun _ hk => hk.1)⟩, ⟨by (with_reducible repeat (first | apply Kd.R_alloc | apply Kd.R_drewN | apply Kd.R_drew)); exact Kd.R_mono (Kd.R_far (p := ⟨gb287, 1, none⟩) (Kd.R_far (p := ⟨gb287, 0, none⟩) (Kd.R_mono HO_150.out (fun k_ hk => (⟨hk, hk.2⟩ : _ ∧ k_ ≠ gb287))) (fun _ hk => hk.2) (.int .i64 ((rd_T29 t278 x152_3).f0))) (fun _ hk => hk.2) (.int .i64 ((rd_T29 t278 x152_3).f1))) (fun _ hk => trivial)⟩, ⟨by repeat (first | (with_reducible first | exact HB.out | apply below_alloc | apply pw_below_drewN | apply below_drew1 | refine below_set ?_ GE287.out) | exact HB.out)⟩⟩
                ·rw [if_neg c182] at H
                 have c182b0 : decide ((t270.length : Int) ≤ ((rd_T29 t278 x152_3).f0)) = false := decide_eq_false c182
                 clear c182
                 by_cases c186 : ((rd_T29 t278 x152_3).f1) ≥ (t266.length : Int)
                 ·rw [if_pos c186] at H
                  have c186b0 : decide ((t266.length : Int) ≤ ((rd_T29 t278 x152_3).f1)) = true := decide_eq_true c186
                  clear c186
                  have H' := Aside0.mk H
                  clear H
                  have p286 : 0 ≤ (x152_3 : Int) := of_decide_eq_true (by first | (with_reducible assumption) | assumption)
                  have q286 : x152_3 < (t278.length : Int) := of_decide_eq_true (by first | (with_reducible assumption) | assumption)
                  obtain ⟨ad286, e286, hx286_0, hx286_1⟩ := at_T29 (Kd.R_reads' HO_150.out).2.2 x152_3 p286 q286
                  cases e286
                  replace p286 := eq_true p286
                  replace q286 := eq_true q286
                  go_wp2_with (first | ((with_reducible refine gate_dst (N := 19) rfl ?_); (try (refine gate_guard (by rfl) ?_; dsimp only)); refine bX 19 #[.int .i64 0, .int .i64 0] 29 ?_; intro gb287 hg w187 hbox hb; have n0_ := jR HO_5 hb; have n1_ := jR HO_7 hb; have n2_ := Aside0.mk (Kd.R_below (Kd.R_elderB (iR HO_150) gb287 (Nat.le_of_eq hg.symm)) hb); have n3_ := jL HB hb; have n4_ := Aside0.mk (hbox); have n5_ := Aside0.mk ((by rw [hg]; exact (below_size (iL HB)) : w.heap.size ≤ gb287)); have n6_ := Aside0.mk ((by rw [hg]; exact (below_size (iL HB)) : w.heap.size ≤ gb287)); clear HO_5; clear HO_7; clear HO_150; clear HB; have HO_5 := n0_; have HO_7 := n1_; have HO_150 := n2_; have HB := n3_; have BK287 := n4_; have GW287 := n5_; have GE287 := n6_; clear n0_ n1_ n2_ n3_ n4_ n5_ n6_; clear hb hbox hg; have hcz188_0 := cZ BK287 0 (.int .i64 0); have hcz188_1 := cZ BK287 1 (.int .i64 0); have hfz188_0 := blk_frozen BK287.out 0; have hfz188_1 := blk_frozen BK287.out 1; obtain ⟨Ao189, co189, eo189⟩ := Kd.R_slice HO_7.out; subst eo189; obtain ⟨Ao190, co190, eo190⟩ := Kd.R_slice HO_5.out; subst eo190))
                  repeat (go_quiet (first | ((with_reducible refine gate_dst (N := 19) rfl ?_); (try (refine gate_guard (by rfl) ?_; dsimp only)); refine bX 19 #[.int .i64 0, .int .i64 0] 29 ?_; intro gb287 hg w187 hbox hb; have n0_ := jR HO_5 hb; have n1_ := jR HO_7 hb; have n2_ := Aside0.mk (Kd.R_below (Kd.R_elderB (iR HO_150) gb287 (Nat.le_of_eq hg.symm)) hb); have n3_ := jL HB hb; have n4_ := Aside0.mk (hbox); have n5_ := Aside0.mk ((by rw [hg]; exact (below_size (iL HB)) : w.heap.size ≤ gb287)); have n6_ := Aside0.mk ((by rw [hg]; exact (below_size (iL HB)) : w.heap.size ≤ gb287)); clear HO_5; clear HO_7; clear HO_150; clear HB; have HO_5 := n0_; have HO_7 := n1_; have HO_150 := n2_; have HB := n3_; have BK287 := n4_; have GW287 := n5_; have GE287 := n6_; clear n0_ n1_ n2_ n3_ n4_ n5_ n6_; clear hb hbox hg; have hcz188_0 := cZ BK287 0 (.int .i64 0); have hcz188_1 := cZ BK287 1 (.int .i64 0); have hfz188_0 := blk_frozen BK287.out 0; have hfz188_1 := blk_frozen BK287.out 1; obtain ⟨Ao189, co189, eo189⟩ := Kd.R_slice HO_7.out; subst eo189; obtain ⟨Ao190, co190, eo190⟩ := Kd.R_slice HO_5.out; subst eo190)); try go_wp2_with (first | ((with_reducible refine gate_dst (N := 19) rfl ?_); (try (refine gate_guard (by rfl) ?_; dsimp only)); refine bX 19 #[.int .i64 0, .int .i64 0] 29 ?_; intro gb287 hg w187 hbox hb; have n0_ := jR HO_5 hb; have n1_ := jR HO_7 hb; have n2_ := Aside0.mk (Kd.R_below (Kd.R_elderB (iR HO_150) gb287 (Nat.le_of_eq hg.symm)) hb); have n3_ := jL HB hb; have n4_ := Aside0.mk (hbox); have n5_ := Aside0.mk ((by rw [hg]; exact (below_size (iL HB)) : w.heap.size ≤ gb287)); have n6_ := Aside0.mk ((by rw [hg]; exact (below_size (iL HB)) : w.heap.size ≤ gb287)); clear HO_5; clear HO_7; clear HO_150; clear HB; have HO_5 := n0_; have HO_7 := n1_; have HO_150 := n2_; have HB := n3_; have BK287 := n4_; have GW287 := n5_; have GE287 := n6_; clear n0_ n1_ n2_ n3_ n4_ n5_ n6_; clear hb hbox hg; have hcz188_0 := cZ BK287 0 (.int .i64 0); have hcz188_1 := cZ BK287 1 (.int .i64 0); have hfz188_0 := blk_frozen BK287.out 0; have hfz188_1 := blk_frozen BK287.out 1; obtain ⟨Ao189, co189, eo189⟩ := Kd.R_slice HO_7.out; subst eo189; obtain ⟨Ao190, co190, eo190⟩ := Kd.R_slice HO_5.out; subst eo190)))
                  go_roundg k3
                  case measure => have := HJ2.out; have := HK2.out; have := HK3.out; omega
                  case rel => exact ⟨(wrap64 (x13_3 - 1)), (wrap64 (x152_3 + 1)), (by first | rfl | (simp; done) | (simp [*]; done)), (by first | rfl | (simp; done) | (simp [*]; done)), H', ⟨by have := HJ2.out; have := HK2.out; have := HK3.out; omega⟩, ⟨by (with_reducible repeat (first | apply Kd.R_alloc | apply Kd.R_drewN | apply Kd.R_drew)); exact Kd.R_mono (Kd.R_far (p := ⟨gb287, 1, none⟩) (Kd.R_far (p := ⟨gb287, 0, none⟩) (Kd.R_types HO_5.out BK287.out (by decide)) (fun _ hk => hk.2) (.int .i64 ((rd_T29 t278 x152_3).f0))) (fun _ hk => hk.2) (.int .i64 ((rd_T29 t278 x152_3).f1))) (fun _ hk => hk.1)⟩, ⟨by (with_reducible repeat (first | apply Kd.R_alloc | apply Kd.R_drewN | apply Kd.R_drew)); exact Kd.R_mono (Kd.R_far (p := ⟨gb287, 1, none⟩) (Kd.R_far (p := ⟨gb287, 0, none⟩) (Kd.R_types HO_7.out BK287.out (by decide)) (fun _ hk => hk.2) (.int .i64 ((rd_T29 t278 x152_3).f0))) (fun _ hk => hk.2) (.int .i64 ((rd_T29 t278 x152_3).f1))) (fun _ hk => hk.1)⟩, ⟨by (with_reducible repeat (first | apply Kd.R_alloc | apply Kd.R_drewN | apply Kd.R_drew)); exact Kd.R_mono (Kd.R_far (p := ⟨gb287, 1, none⟩) (Kd.R_far (p := ⟨gb287, 0, none⟩) (Kd.R_mono HO_150.out (fun k_ hk => (⟨hk, hk.2⟩ : _ ∧ k_ ≠ gb287))) (fun _ hk => hk.2) (.int .i64 ((rd_T29 t278 x152_3).f0))) (fun _ hk => hk.2) (.int .i64 ((rd_T29 t278 x152_3).f1))) (fun _ hk => trivial)⟩, ⟨by repeat (first | (with_reducible first | exact HB.out | apply below_alloc | apply pw_below_drewN | apply below_drew1 | refine below_set ?_ GE287.out) | exact HB.out)⟩⟩
                 ·rw [if_neg c186] at H
                  have c186b0 : decide ((t266.length : Int) ≤ ((rd_T29 t278 x152_3).f1)) = false := decide_eq_false c186
                  clear c186
                  by_cases c191 : 0 ≤ ((rd_T29 t278 x152_3).f0)
                  ·rw [if_pos c191] at H
                   have c191b0 : decide (0 ≤ ((rd_T29 t278 x152_3).f0)) = true := decide_eq_true c191
                   clear c191
                   by_cases c192 : ((rd_T29 t278 x152_3).f0) < (t270.length : Int)
                   ·rw [if_pos c192] at H
                    have c192b0 : decide (((rd_T29 t278 x152_3).f0) < (t270.length : Int)) = true := decide_eq_true c192
                    clear c192
                    by_cases c193 : 0 ≤ ((rd_T29 t278 x152_3).f1)
                    ·rw [if_pos c193] at H
                     have c193b0 : decide (0 ≤ ((rd_T29 t278 x152_3).f1)) = true := decide_eq_true c193
                     clear c193
                     by_cases c194 : ((rd_T29 t278 x152_3).f1) < (t266.length : Int)
                     ·rw [if_pos c194] at H
                      have c194b0 : decide (((rd_T29 t278 x152_3).f1) < (t266.length : Int)) = true := decide_eq_true c194
                      clear c194
                      by_cases c195 : (rdOf ByteArray.empty t270 ((rd_T29 t278 x152_3).f0)).toList = (rdOf ByteArray.empty t266 ((rd_T29 t278 x152_3).f1)).toList
                      ·rw [if_pos c195] at H
                       have c195b0 : ((rdOf ByteArray.empty t270 ((rd_T29 t278 x152_3).f0)).toList == (rdOf ByteArray.empty t266 ((rd_T29 t278 x152_3).f1)).toList) = true := beq_iff_eq.mpr c195
                       have c195b1 : ((rdOf ByteArray.empty t270 ((rd_T29 t278 x152_3).f0)).toList != (rdOf ByteArray.empty t266 ((rd_T29 t278 x152_3).f1)).toList) = false := bne_eq_false_iff_eq.mpr c195
                       clear c195
                       have H' := Aside0.mk H
                       clear H
                       have p286 : 0 ≤ (x152_3 : Int) := of_decide_eq_true (by first | (with_reducible assumption) | assumption)
                       have q286 : x152_3 < (t278.length : Int) := of_decide_eq_true (by first | (with_reducible assumption) | assumption)
                       obtain ⟨ad286, e286, hx286_0, hx286_1⟩ := at_T29 (Kd.R_reads' HO_150.out).2.2 x152_3 p286 q286
                       cases e286
                       replace p286 := eq_true p286
                       replace q286 := eq_true q286
                       go_wp2_with (first | ((with_reducible refine gate_dst (N := 19) rfl ?_); (try (refine gate_guard (by rfl) ?_; dsimp only)); refine bX 19 #[.int .i64 0, .int .i64 0] 29 ?_; intro gb287 hg w196 hbox hb; have n0_ := jR HO_5 hb; have n1_ := jR HO_7 hb; have n2_ := Aside0.mk (Kd.R_below (Kd.R_elderB (iR HO_150) gb287 (Nat.le_of_eq hg.symm)) hb); have n3_ := jL HB hb; have n4_ := Aside0.mk (hbox); have n5_ := Aside0.mk ((by rw [hg]; exact (below_size (iL HB)) : w.heap.size ≤ gb287)); have n6_ := Aside0.mk ((by rw [hg]; exact (below_size (iL HB)) : w.heap.size ≤ gb287)); clear HO_5; clear HO_7; clear HO_150; clear HB; have HO_5 := n0_; have HO_7 := n1_; have HO_150 := n2_; have HB := n3_; have BK287 := n4_; have GW287 := n5_; have GE287 := n6_; clear n0_ n1_ n2_ n3_ n4_ n5_ n6_; clear hb hbox hg; have hcz197_0 := cZ BK287 0 (.int .i64 0); have hcz197_1 := cZ BK287 1 (.int .i64 0); have hfz197_0 := blk_frozen BK287.out 0; have hfz197_1 := blk_frozen BK287.out 1; obtain ⟨Ao198, co198, eo198⟩ := Kd.R_slice HO_7.out; subst eo198; obtain ⟨Ao199, co199, eo199⟩ := Kd.R_slice HO_5.out; subst eo199; have p288 : 0 ≤ (((rd_T29 t278 x152_3).f0) : Int) := of_decide_eq_true (by first | (with_reducible assumption) | assumption); have q288 : ((rd_T29 t278 x152_3).f0) < (t270.length : Int) := of_decide_eq_true (by first | (with_reducible assumption) | assumption); obtain ⟨ad288, e288, hx288_0⟩ := Kd.at_string (Kd.R_reads' HO_7.out).2.2 ((rd_T29 t278 x152_3).f0) p288 q288; cases e288; have hn288_0 : ad288.block ≠ gb287 := Kd.own_blk (Kd.R_ne HO_7.out BK287.out (by decide)); have hn288_1 : ad288.block ≠ gb287 := Kd.own_blk (Kd.R_ne HO_7.out BK287.out (by decide)); replace hx288_0 := (cell_far (p := ⟨gb287, 0, none⟩) (by first | (rw [add_block]; exact hn288_0) | (show (Addr.add _ _).block ≠ _; rw [add_block]; exact hn288_0) | exact hn288_0) (.int .i64 ((rd_T29 t278 x152_3).f0))).trans hx288_0; replace hx288_0 := (cell_far (p := ⟨gb287, 1, none⟩) (by first | (rw [add_block]; exact hn288_1) | (show (Addr.add _ _).block ≠ _; rw [add_block]; exact hn288_1) | exact hn288_1) (.int .i64 ((rd_T29 t278 x152_3).f1))).trans hx288_0; (try have hy288_0 := fun (n_ : Nat) => (show ((((w196.drewN n_).setCell ⟨gb287, 0, none⟩ (.int .i64 ((rd_T29 t278 x152_3).f0))).setCell ⟨gb287, 1, none⟩ (.int .i64 ((rd_T29 t278 x152_3).f1)))).cell? _ = some _ from hx288_0)); clear hn288_0; clear hn288_1; replace p288 := eq_true p288; replace q288 := eq_true q288; have p289 : 0 ≤ (((rd_T29 t278 x152_3).f1) : Int) := of_decide_eq_true (by first | (with_reducible assumption) | assumption); have q289 : ((rd_T29 t278 x152_3).f1) < (t266.length : Int) := of_decide_eq_true (by first | (with_reducible assumption) | assumption); obtain ⟨ad289, e289, hx289_0⟩ := Kd.at_string (Kd.R_reads' HO_5.out).2.2 ((rd_T29 t278 x152_3).f1) p289 q289; cases e289; have hn289_0 : ad289.block ≠ gb287 := Kd.own_blk (Kd.R_ne HO_5.out BK287.out (by decide)); have hn289_1 : ad289.block ≠ gb287 := Kd.own_blk (Kd.R_ne HO_5.out BK287.out (by decide)); replace hx289_0 := (cell_far (p := ⟨gb287, 0, none⟩) (by first | (rw [add_block]; exact hn289_0) | (show (Addr.add _ _).block ≠ _; rw [add_block]; exact hn289_0) | exact hn289_0) (.int .i64 ((rd_T29 t278 x152_3).f0))).trans hx289_0; replace hx289_0 := (cell_far (p := ⟨gb287, 1, none⟩) (by first | (rw [add_block]; exact hn289_1) | (show (Addr.add _ _).block ≠ _; rw [add_block]; exact hn289_1) | exact hn289_1) (.int .i64 ((rd_T29 t278 x152_3).f1))).trans hx289_0; (try have hy289_0 := fun (n_ : Nat) => (show ((((w196.drewN n_).setCell ⟨gb287, 0, none⟩ (.int .i64 ((rd_T29 t278 x152_3).f0))).setCell ⟨gb287, 1, none⟩ (.int .i64 ((rd_T29 t278 x152_3).f1)))).cell? _ = some _ from hx289_0)); clear hn289_0; clear hn289_1; replace p289 := eq_true p289; replace q289 := eq_true q289))
                       repeat (go_quiet (first | ((with_reducible refine gate_dst (N := 19) rfl ?_); (try (refine gate_guard (by rfl) ?_; dsimp only)); refine bX 19 #[.int .i64 0, .int .i64 0] 29 ?_; intro gb287 hg w196 hbox hb; have n0_ := jR HO_5 hb; have n1_ := jR HO_7 hb; have n2_ := Aside0.mk (Kd.R_below (Kd.R_elderB (iR HO_150) gb287 (Nat.le_of_eq hg.symm)) hb); have n3_ := jL HB hb; have n4_ := Aside0.mk (hbox); have n5_ := Aside0.mk ((by rw [hg]; exact (below_size (iL HB)) : w.heap.size ≤ gb287)); have n6_ := Aside0.mk ((by rw [hg]; exact (below_size (iL HB)) : w.heap.size ≤ gb287)); clear HO_5; clear HO_7; clear HO_150; clear HB; have HO_5 := n0_; have HO_7 := n1_; have HO_150 := n2_; have HB := n3_; have BK287 := n4_; have GW287 := n5_; have GE287 := n6_; clear n0_ n1_ n2_ n3_ n4_ n5_ n6_; clear hb hbox hg; have hcz197_0 := cZ BK287 0 (.int .i64 0); have hcz197_1 := cZ BK287 1 (.int .i64 0); have hfz197_0 := blk_frozen BK287.out 0; have hfz197_1 := blk_frozen BK287.out 1; obtain ⟨Ao198, co198, eo198⟩ := Kd.R_slice HO_7.out; subst eo198; obtain ⟨Ao199, co199, eo199⟩ := Kd.R_slice HO_5.out; subst eo199; have p288 : 0 ≤ (((rd_T29 t278 x152_3).f0) : Int) := of_decide_eq_true (by first | (with_reducible assumption) | assumption); have q288 : ((rd_T29 t278 x152_3).f0) < (t270.length : Int) := of_decide_eq_true (by first | (with_reducible assumption) | assumption); obtain ⟨ad288, e288, hx288_0⟩ := Kd.at_string (Kd.R_reads' HO_7.out).2.2 ((rd_T29 t278 x152_3).f0) p288 q288; cases e288; have hn288_0 : ad288.block ≠ gb287 := Kd.own_blk (Kd.R_ne HO_7.out BK287.out (by decide)); have hn288_1 : ad288.block ≠ gb287 := Kd.own_blk (Kd.R_ne HO_7.out BK287.out (by decide)); replace hx288_0 := (cell_far (p := ⟨gb287, 0, none⟩) (by first | (rw [add_block]; exact hn288_0) | (show (Addr.add _ _).block ≠ _; rw [add_block]; exact hn288_0) | exact hn288_0) (.int .i64 ((rd_T29 t278 x152_3).f0))).trans hx288_0; replace hx288_0 := (cell_far (p := ⟨gb287, 1, none⟩) (by first | (rw [add_block]; exact hn288_1) | (show (Addr.add _ _).block ≠ _; rw [add_block]; exact hn288_1) | exact hn288_1) (.int .i64 ((rd_T29 t278 x152_3).f1))).trans hx288_0; (try have hy288_0 := fun (n_ : Nat) => (show ((((w196.drewN n_).setCell ⟨gb287, 0, none⟩ (.int .i64 ((rd_T29 t278 x152_3).f0))).setCell ⟨gb287, 1, none⟩ (.int .i64 ((rd_T29 t278 x152_3).f1)))).cell? _ = some _ from hx288_0)); clear hn288_0; clear hn288_1; replace p288 := eq_true p288; replace q288 := eq_true q288; have p289 : 0 ≤ (((rd_T29 t278 x152_3).f1) : Int) := of_decide_eq_true (by first | (with_reducible assumption) | assumption); have q289 : ((rd_T29 t278 x152_3).f1) < (t266.length : Int) := of_decide_eq_true (by first | (with_reducible assumption) | assumption); obtain ⟨ad289, e289, hx289_0⟩ := Kd.at_string (Kd.R_reads' HO_5.out).2.2 ((rd_T29 t278 x152_3).f1) p289 q289; cases e289; have hn289_0 : ad289.block ≠ gb287 := Kd.own_blk (Kd.R_ne HO_5.out BK287.out (by decide)); have hn289_1 : ad289.block ≠ gb287 := Kd.own_blk (Kd.R_ne HO_5.out BK287.out (by decide)); replace hx289_0 := (cell_far (p := ⟨gb287, 0, none⟩) (by first | (rw [add_block]; exact hn289_0) | (show (Addr.add _ _).block ≠ _; rw [add_block]; exact hn289_0) | exact hn289_0) (.int .i64 ((rd_T29 t278 x152_3).f0))).trans hx289_0; replace hx289_0 := (cell_far (p := ⟨gb287, 1, none⟩) (by first | (rw [add_block]; exact hn289_1) | (show (Addr.add _ _).block ≠ _; rw [add_block]; exact hn289_1) | exact hn289_1) (.int .i64 ((rd_T29 t278 x152_3).f1))).trans hx289_0; (try have hy289_0 := fun (n_ : Nat) => (show ((((w196.drewN n_).setCell ⟨gb287, 0, none⟩ (.int .i64 ((rd_T29 t278 x152_3).f0))).setCell ⟨gb287, 1, none⟩ (.int .i64 ((rd_T29 t278 x152_3).f1)))).cell? _ = some _ from hx289_0)); clear hn289_0; clear hn289_1; replace p289 := eq_true p289; replace q289 := eq_true q289)); try go_wp2_with (first | ((with_reducible refine gate_dst (N := 19) rfl ?_); (try (refine gate_guard (by rfl) ?_; dsimp only)); refine bX 19 #[.int .i64 0, .int .i64 0] 29 ?_; intro gb287 hg w196 hbox hb; have n0_ := jR HO_5 hb; have n1_ := jR HO_7 hb; have n2_ := Aside0.mk (Kd.R_below (Kd.R_elderB (iR HO_150) gb287 (Nat.le_of_eq hg.symm)) hb); have n3_ := jL HB hb; have n4_ := Aside0.mk (hbox); have n5_ := Aside0.mk ((by rw [hg]; exact (below_size (iL HB)) : w.heap.size ≤ gb287)); have n6_ := Aside0.mk ((by rw [hg]; exact (below_size (iL HB)) : w.heap.size ≤ gb287)); clear HO_5; clear HO_7; clear HO_150; clear HB; have HO_5 := n0_; have HO_7 := n1_; have HO_150 := n2_; have HB := n3_; have BK287 := n4_; have GW287 := n5_; have GE287 := n6_; clear n0_ n1_ n2_ n3_ n4_ n5_ n6_; clear hb hbox hg; have hcz197_0 := cZ BK287 0 (.int .i64 0); have hcz197_1 := cZ BK287 1 (.int .i64 0); have hfz197_0 := blk_frozen BK287.out 0; have hfz197_1 := blk_frozen BK287.out 1; obtain ⟨Ao198, co198, eo198⟩ := Kd.R_slice HO_7.out; subst eo198; obtain ⟨Ao199, co199, eo199⟩ := Kd.R_slice HO_5.out; subst eo199; have p288 : 0 ≤ (((rd_T29 t278 x152_3).f0) : Int) := of_decide_eq_true (by first | (with_reducible assumption) | assumption); have q288 : ((rd_T29 t278 x152_3).f0) < (t270.length : Int) := of_decide_eq_true (by first | (with_reducible assumption) | assumption); obtain ⟨ad288, e288, hx288_0⟩ := Kd.at_string (Kd.R_reads' HO_7.out).2.2 ((rd_T29 t278 x152_3).f0) p288 q288; cases e288; have hn288_0 : ad288.block ≠ gb287 := Kd.own_blk (Kd.R_ne HO_7.out BK287.out (by decide)); have hn288_1 : ad288.block ≠ gb287 := Kd.own_blk (Kd.R_ne HO_7.out BK287.out (by decide)); replace hx288_0 := (cell_far (p := ⟨gb287, 0, none⟩) (by first | (rw [add_block]; exact hn288_0) | (show (Addr.add _ _).block ≠ _; rw [add_block]; exact hn288_0) | exact hn288_0) (.int .i64 ((rd_T29 t278 x152_3).f0))).trans hx288_0; replace hx288_0 := (cell_far (p := ⟨gb287, 1, none⟩) (by first | (rw [add_block]; exact hn288_1) | (show (Addr.add _ _).block ≠ _; rw [add_block]; exact hn288_1) | exact hn288_1) (.int .i64 ((rd_T29 t278 x152_3).f1))).trans hx288_0; (try have hy288_0 := fun (n_ : Nat) => (show ((((w196.drewN n_).setCell ⟨gb287, 0, none⟩ (.int .i64 ((rd_T29 t278 x152_3).f0))).setCell ⟨gb287, 1, none⟩ (.int .i64 ((rd_T29 t278 x152_3).f1)))).cell? _ = some _ from hx288_0)); clear hn288_0; clear hn288_1; replace p288 := eq_true p288; replace q288 := eq_true q288; have p289 : 0 ≤ (((rd_T29 t278 x152_3).f1) : Int) := of_decide_eq_true (by first | (with_reducible assumption) | assumption); have q289 : ((rd_T29 t278 x152_3).f1) < (t266.length : Int) := of_decide_eq_true (by first | (with_reducible assumption) | assumption); obtain ⟨ad289, e289, hx289_0⟩ := Kd.at_string (Kd.R_reads' HO_5.out).2.2 ((rd_T29 t278 x152_3).f1) p289 q289; cases e289; have hn289_0 : ad289.block ≠ gb287 := Kd.own_blk (Kd.R_ne HO_5.out BK287.out (by decide)); have hn289_1 : ad289.block ≠ gb287 := Kd.own_blk (Kd.R_ne HO_5.out BK287.out (by decide)); replace hx289_0 := (cell_far (p := ⟨gb287, 0, none⟩) (by first | (rw [add_block]; exact hn289_0) | (show (Addr.add _ _).block ≠ _; rw [add_block]; exact hn289_0) | exact hn289_0) (.int .i64 ((rd_T29 t278 x152_3).f0))).trans hx289_0; replace hx289_0 := (cell_far (p := ⟨gb287, 1, none⟩) (by first | (rw [add_block]; exact hn289_1) | (show (Addr.add _ _).block ≠ _; rw [add_block]; exact hn289_1) | exact hn289_1) (.int .i64 ((rd_T29 t278 x152_3).f1))).trans hx289_0; (try have hy289_0 := fun (n_ : Nat) => (show ((((w196.drewN n_).setCell ⟨gb287, 0, none⟩ (.int .i64 ((rd_T29 t278 x152_3).f0))).setCell ⟨gb287, 1, none⟩ (.int .i64 ((rd_T29 t278 x152_3).f1)))).cell? _ = some _ from hx289_0)); clear hn289_0; clear hn289_1; replace p289 := eq_true p289; replace q289 := eq_true q289)))
                       go_roundg k3
                       case measure => have := HJ2.out; have := HK2.out; have := HK3.out; omega
                       case rel => exact ⟨(x13_3), (wrap64 (x152_3 + 1)), (by first | rfl | (simp; done) | (simp [*]; done)), (by first | rfl | (simp; done) | (simp [*]; done)), H', ⟨by have := HJ2.out; have := HK2.out; have := HK3.out; omega⟩, ⟨by (with_reducible repeat (first | apply Kd.R_alloc | apply Kd.R_drewN | apply Kd.R_drew)); exact Kd.R_mono (Kd.R_far (p := ⟨gb287, 1, none⟩) (Kd.R_far (p := ⟨gb287, 0, none⟩) (Kd.R_types HO_5.out BK287.out (by decide)) (fun _ hk => hk.2) (.int .i64 ((rd_T29 t278 x152_3).f0))) (fun _ hk => hk.2) (.int .i64 ((rd_T29 t278 x152_3).f1))) (fun _ hk => hk.1)⟩, ⟨by (with_reducible repeat (first | apply Kd.R_alloc | apply Kd.R_drewN | apply Kd.R_drew)); exact Kd.R_mono (Kd.R_far (p := ⟨gb287, 1, none⟩) (Kd.R_far (p := ⟨gb287, 0, none⟩) (Kd.R_types HO_7.out BK287.out (by decide)) (fun _ hk => hk.2) (.int .i64 ((rd_T29 t278 x152_3).f0))) (fun _ hk => hk.2) (.int .i64 ((rd_T29 t278 x152_3).f1))) (fun _ hk => hk.1)⟩, ⟨by (with_reducible repeat (first | apply Kd.R_alloc | apply Kd.R_drewN | apply Kd.R_drew)); exact Kd.R_mono (Kd.R_far (p := ⟨gb287, 1, none⟩) (Kd.R_far (p := ⟨gb287, 0, none⟩) (Kd.R_mono HO_150.out (fun k_ hk => (⟨hk, hk.2⟩ : _ ∧ k_ ≠ gb287))) (fun _ hk => hk.2) (.int .i64 ((rd_T29 t278 x152_3).f0))) (fun _ hk => hk.2) (.int .i64 ((rd_T29 t278 x152_3).f1))) (fun _ hk => trivial)⟩, ⟨by repeat (first | (with_reducible first | exact HB.out | apply below_alloc | apply pw_below_drewN | apply below_drew1 | refine below_set ?_ GE287.out) | exact HB.out)⟩⟩
                      ·rw [if_neg c195] at H
                       have c195b0 : ((rdOf ByteArray.empty t270 ((rd_T29 t278 x152_3).f0)).toList == (rdOf ByteArray.empty t266 ((rd_T29 t278 x152_3).f1)).toList) = false := beq_eq_false_iff_ne.mpr c195
                       have c195b1 : ((rdOf ByteArray.empty t270 ((rd_T29 t278 x152_3).f0)).toList != (rdOf ByteArray.empty t266 ((rd_T29 t278 x152_3).f1)).toList) = true := bne_iff_ne.mpr c195
                       have H' := Aside0.mk H
                       clear H
                       have p286 : 0 ≤ (x152_3 : Int) := of_decide_eq_true (by first | (with_reducible assumption) | assumption)
                       have q286 : x152_3 < (t278.length : Int) := of_decide_eq_true (by first | (with_reducible assumption) | assumption)
                       obtain ⟨ad286, e286, hx286_0, hx286_1⟩ := at_T29 (Kd.R_reads' HO_150.out).2.2 x152_3 p286 q286
                       cases e286
                       replace p286 := eq_true p286
                       replace q286 := eq_true q286
                       go_wp2_with (first | ((with_reducible refine gate_dst (N := 19) rfl ?_); (try (refine gate_guard (by rfl) ?_; dsimp only)); refine bX 19 #[.int .i64 0, .int .i64 0] 29 ?_; intro gb287 hg w200 hbox hb; have n0_ := jR HO_5 hb; have n1_ := jR HO_7 hb; have n2_ := Aside0.mk (Kd.R_below (Kd.R_elderB (iR HO_150) gb287 (Nat.le_of_eq hg.symm)) hb); have n3_ := jL HB hb; have n4_ := Aside0.mk (hbox); have n5_ := Aside0.mk ((by rw [hg]; exact (below_size (iL HB)) : w.heap.size ≤ gb287)); have n6_ := Aside0.mk ((by rw [hg]; exact (below_size (iL HB)) : w.heap.size ≤ gb287)); clear HO_5; clear HO_7; clear HO_150; clear HB; have HO_5 := n0_; have HO_7 := n1_; have HO_150 := n2_; have HB := n3_; have BK287 := n4_; have GW287 := n5_; have GE287 := n6_; clear n0_ n1_ n2_ n3_ n4_ n5_ n6_; clear hb hbox hg; have hcz201_0 := cZ BK287 0 (.int .i64 0); have hcz201_1 := cZ BK287 1 (.int .i64 0); have hfz201_0 := blk_frozen BK287.out 0; have hfz201_1 := blk_frozen BK287.out 1; obtain ⟨Ao202, co202, eo202⟩ := Kd.R_slice HO_7.out; subst eo202; obtain ⟨Ao203, co203, eo203⟩ := Kd.R_slice HO_5.out; subst eo203; have p288 : 0 ≤ (((rd_T29 t278 x152_3).f0) : Int) := of_decide_eq_true (by first | (with_reducible assumption) | assumption); have q288 : ((rd_T29 t278 x152_3).f0) < (t270.length : Int) := of_decide_eq_true (by first | (with_reducible assumption) | assumption); obtain ⟨ad288, e288, hx288_0⟩ := Kd.at_string (Kd.R_reads' HO_7.out).2.2 ((rd_T29 t278 x152_3).f0) p288 q288; cases e288; have hn288_0 : ad288.block ≠ gb287 := Kd.own_blk (Kd.R_ne HO_7.out BK287.out (by decide)); have hn288_1 : ad288.block ≠ gb287 := Kd.own_blk (Kd.R_ne HO_7.out BK287.out (by decide)); replace hx288_0 := (cell_far (p := ⟨gb287, 0, none⟩) (by first | (rw [add_block]; exact hn288_0) | (show (Addr.add _ _).block ≠ _; rw [add_block]; exact hn288_0) | exact hn288_0) (.int .i64 ((rd_T29 t278 x152_3).f0))).trans hx288_0; replace hx288_0 := (cell_far (p := ⟨gb287, 1, none⟩) (by first | (rw [add_block]; exact hn288_1) | (show (Addr.add _ _).block ≠ _; rw [add_block]; exact hn288_1) | exact hn288_1) (.int .i64 ((rd_T29 t278 x152_3).f1))).trans hx288_0; (try have hy288_0 := fun (n_ : Nat) => (show ((((w200.drewN n_).setCell ⟨gb287, 0, none⟩ (.int .i64 ((rd_T29 t278 x152_3).f0))).setCell ⟨gb287, 1, none⟩ (.int .i64 ((rd_T29 t278 x152_3).f1)))).cell? _ = some _ from hx288_0)); clear hn288_0; clear hn288_1; replace p288 := eq_true p288; replace q288 := eq_true q288; have p289 : 0 ≤ (((rd_T29 t278 x152_3).f1) : Int) := of_decide_eq_true (by first | (with_reducible assumption) | assumption); have q289 : ((rd_T29 t278 x152_3).f1) < (t266.length : Int) := of_decide_eq_true (by first | (with_reducible assumption) | assumption); obtain ⟨ad289, e289, hx289_0⟩ := Kd.at_string (Kd.R_reads' HO_5.out).2.2 ((rd_T29 t278 x152_3).f1) p289 q289; cases e289; have hn289_0 : ad289.block ≠ gb287 := Kd.own_blk (Kd.R_ne HO_5.out BK287.out (by decide)); have hn289_1 : ad289.block ≠ gb287 := Kd.own_blk (Kd.R_ne HO_5.out BK287.out (by decide)); replace hx289_0 := (cell_far (p := ⟨gb287, 0, none⟩) (by first | (rw [add_block]; exact hn289_0) | (show (Addr.add _ _).block ≠ _; rw [add_block]; exact hn289_0) | exact hn289_0) (.int .i64 ((rd_T29 t278 x152_3).f0))).trans hx289_0; replace hx289_0 := (cell_far (p := ⟨gb287, 1, none⟩) (by first | (rw [add_block]; exact hn289_1) | (show (Addr.add _ _).block ≠ _; rw [add_block]; exact hn289_1) | exact hn289_1) (.int .i64 ((rd_T29 t278 x152_3).f1))).trans hx289_0; (try have hy289_0 := fun (n_ : Nat) => (show ((((w200.drewN n_).setCell ⟨gb287, 0, none⟩ (.int .i64 ((rd_T29 t278 x152_3).f0))).setCell ⟨gb287, 1, none⟩ (.int .i64 ((rd_T29 t278 x152_3).f1)))).cell? _ = some _ from hx289_0)); clear hn289_0; clear hn289_1; replace p289 := eq_true p289; replace q289 := eq_true q289))
                       repeat (go_quiet (first | ((with_reducible refine gate_dst (N := 19) rfl ?_); (try (refine gate_guard (by rfl) ?_; dsimp only)); refine bX 19 #[.int .i64 0, .int .i64 0] 29 ?_; intro gb287 hg w200 hbox hb; have n0_ := jR HO_5 hb; have n1_ := jR HO_7 hb; have n2_ := Aside0.mk (Kd.R_below (Kd.R_elderB (iR HO_150) gb287 (Nat.le_of_eq hg.symm)) hb); have n3_ := jL HB hb; have n4_ := Aside0.mk (hbox); have n5_ := Aside0.mk ((by rw [hg]; exact (below_size (iL HB)) : w.heap.size ≤ gb287)); have n6_ := Aside0.mk ((by rw [hg]; exact (below_size (iL HB)) : w.heap.size ≤ gb287)); clear HO_5; clear HO_7; clear HO_150; clear HB; have HO_5 := n0_; have HO_7 := n1_; have HO_150 := n2_; have HB := n3_; have BK287 := n4_; have GW287 := n5_; have GE287 := n6_; clear n0_ n1_ n2_ n3_ n4_ n5_ n6_; clear hb hbox hg; have hcz201_0 := cZ BK287 0 (.int .i64 0); have hcz201_1 := cZ BK287 1 (.int .i64 0); have hfz201_0 := blk_frozen BK287.out 0; have hfz201_1 := blk_frozen BK287.out 1; obtain ⟨Ao202, co202, eo202⟩ := Kd.R_slice HO_7.out; subst eo202; obtain ⟨Ao203, co203, eo203⟩ := Kd.R_slice HO_5.out; subst eo203; have p288 : 0 ≤ (((rd_T29 t278 x152_3).f0) : Int) := of_decide_eq_true (by first | (with_reducible assumption) | assumption); have q288 : ((rd_T29 t278 x152_3).f0) < (t270.length : Int) := of_decide_eq_true (by first | (with_reducible assumption) | assumption); obtain ⟨ad288, e288, hx288_0⟩ := Kd.at_string (Kd.R_reads' HO_7.out).2.2 ((rd_T29 t278 x152_3).f0) p288 q288; cases e288; have hn288_0 : ad288.block ≠ gb287 := Kd.own_blk (Kd.R_ne HO_7.out BK287.out (by decide)); have hn288_1 : ad288.block ≠ gb287 := Kd.own_blk (Kd.R_ne HO_7.out BK287.out (by decide)); replace hx288_0 := (cell_far (p := ⟨gb287, 0, none⟩) (by first | (rw [add_block]; exact hn288_0) | (show (Addr.add _ _).block ≠ _; rw [add_block]; exact hn288_0) | exact hn288_0) (.int .i64 ((rd_T29 t278 x152_3).f0))).trans hx288_0; replace hx288_0 := (cell_far (p := ⟨gb287, 1, none⟩) (by first | (rw [add_block]; exact hn288_1) | (show (Addr.add _ _).block ≠ _; rw [add_block]; exact hn288_1) | exact hn288_1) (.int .i64 ((rd_T29 t278 x152_3).f1))).trans hx288_0; (try have hy288_0 := fun (n_ : Nat) => (show ((((w200.drewN n_).setCell ⟨gb287, 0, none⟩ (.int .i64 ((rd_T29 t278 x152_3).f0))).setCell ⟨gb287, 1, none⟩ (.int .i64 ((rd_T29 t278 x152_3).f1)))).cell? _ = some _ from hx288_0)); clear hn288_0; clear hn288_1; replace p288 := eq_true p288; replace q288 := eq_true q288; have p289 : 0 ≤ (((rd_T29 t278 x152_3).f1) : Int) := of_decide_eq_true (by first | (with_reducible assumption) | assumption); have q289 : ((rd_T29 t278 x152_3).f1) < (t266.length : Int) := of_decide_eq_true (by first | (with_reducible assumption) | assumption); obtain ⟨ad289, e289, hx289_0⟩ := Kd.at_string (Kd.R_reads' HO_5.out).2.2 ((rd_T29 t278 x152_3).f1) p289 q289; cases e289; have hn289_0 : ad289.block ≠ gb287 := Kd.own_blk (Kd.R_ne HO_5.out BK287.out (by decide)); have hn289_1 : ad289.block ≠ gb287 := Kd.own_blk (Kd.R_ne HO_5.out BK287.out (by decide)); replace hx289_0 := (cell_far (p := ⟨gb287, 0, none⟩) (by first | (rw [add_block]; exact hn289_0) | (show (Addr.add _ _).block ≠ _; rw [add_block]; exact hn289_0) | exact hn289_0) (.int .i64 ((rd_T29 t278 x152_3).f0))).trans hx289_0; replace hx289_0 := (cell_far (p := ⟨gb287, 1, none⟩) (by first | (rw [add_block]; exact hn289_1) | (show (Addr.add _ _).block ≠ _; rw [add_block]; exact hn289_1) | exact hn289_1) (.int .i64 ((rd_T29 t278 x152_3).f1))).trans hx289_0; (try have hy289_0 := fun (n_ : Nat) => (show ((((w200.drewN n_).setCell ⟨gb287, 0, none⟩ (.int .i64 ((rd_T29 t278 x152_3).f0))).setCell ⟨gb287, 1, none⟩ (.int .i64 ((rd_T29 t278 x152_3).f1)))).cell? _ = some _ from hx289_0)); clear hn289_0; clear hn289_1; replace p289 := eq_true p289; replace q289 := eq_true q289)); try go_wp2_with (first | ((with_reducible refine gate_dst (N := 19) rfl ?_); (try (refine gate_guard (by rfl) ?_; dsimp only)); refine bX 19 #[.int .i64 0, .int .i64 0] 29 ?_; intro gb287 hg w200 hbox hb; have n0_ := jR HO_5 hb; have n1_ := jR HO_7 hb; have n2_ := Aside0.mk (Kd.R_below (Kd.R_elderB (iR HO_150) gb287 (Nat.le_of_eq hg.symm)) hb); have n3_ := jL HB hb; have n4_ := Aside0.mk (hbox); have n5_ := Aside0.mk ((by rw [hg]; exact (below_size (iL HB)) : w.heap.size ≤ gb287)); have n6_ := Aside0.mk ((by rw [hg]; exact (below_size (iL HB)) : w.heap.size ≤ gb287)); clear HO_5; clear HO_7; clear HO_150; clear HB; have HO_5 := n0_; have HO_7 := n1_; have HO_150 := n2_; have HB := n3_; have BK287 := n4_; have GW287 := n5_; have GE287 := n6_; clear n0_ n1_ n2_ n3_ n4_ n5_ n6_; clear hb hbox hg; have hcz201_0 := cZ BK287 0 (.int .i64 0); have hcz201_1 := cZ BK287 1 (.int .i64 0); have hfz201_0 := blk_frozen BK287.out 0; have hfz201_1 := blk_frozen BK287.out 1; obtain ⟨Ao202, co202, eo202⟩ := Kd.R_slice HO_7.out; subst eo202; obtain ⟨Ao203, co203, eo203⟩ := Kd.R_slice HO_5.out; subst eo203; have p288 : 0 ≤ (((rd_T29 t278 x152_3).f0) : Int) := of_decide_eq_true (by first | (with_reducible assumption) | assumption); have q288 : ((rd_T29 t278 x152_3).f0) < (t270.length : Int) := of_decide_eq_true (by first | (with_reducible assumption) | assumption); obtain ⟨ad288, e288, hx288_0⟩ := Kd.at_string (Kd.R_reads' HO_7.out).2.2 ((rd_T29 t278 x152_3).f0) p288 q288; cases e288; have hn288_0 : ad288.block ≠ gb287 := Kd.own_blk (Kd.R_ne HO_7.out BK287.out (by decide)); have hn288_1 : ad288.block ≠ gb287 := Kd.own_blk (Kd.R_ne HO_7.out BK287.out (by decide)); replace hx288_0 := (cell_far (p := ⟨gb287, 0, none⟩) (by first | (rw [add_block]; exact hn288_0) | (show (Addr.add _ _).block ≠ _; rw [add_block]; exact hn288_0) | exact hn288_0) (.int .i64 ((rd_T29 t278 x152_3).f0))).trans hx288_0; replace hx288_0 := (cell_far (p := ⟨gb287, 1, none⟩) (by first | (rw [add_block]; exact hn288_1) | (show (Addr.add _ _).block ≠ _; rw [add_block]; exact hn288_1) | exact hn288_1) (.int .i64 ((rd_T29 t278 x152_3).f1))).trans hx288_0; (try have hy288_0 := fun (n_ : Nat) => (show ((((w200.drewN n_).setCell ⟨gb287, 0, none⟩ (.int .i64 ((rd_T29 t278 x152_3).f0))).setCell ⟨gb287, 1, none⟩ (.int .i64 ((rd_T29 t278 x152_3).f1)))).cell? _ = some _ from hx288_0)); clear hn288_0; clear hn288_1; replace p288 := eq_true p288; replace q288 := eq_true q288; have p289 : 0 ≤ (((rd_T29 t278 x152_3).f1) : Int) := of_decide_eq_true (by first | (with_reducible assumption) | assumption); have q289 : ((rd_T29 t278 x152_3).f1) < (t266.length : Int) := of_decide_eq_true (by first | (with_reducible assumption) | assumption); obtain ⟨ad289, e289, hx289_0⟩ := Kd.at_string (Kd.R_reads' HO_5.out).2.2 ((rd_T29 t278 x152_3).f1) p289 q289; cases e289; have hn289_0 : ad289.block ≠ gb287 := Kd.own_blk (Kd.R_ne HO_5.out BK287.out (by decide)); have hn289_1 : ad289.block ≠ gb287 := Kd.own_blk (Kd.R_ne HO_5.out BK287.out (by decide)); replace hx289_0 := (cell_far (p := ⟨gb287, 0, none⟩) (by first | (rw [add_block]; exact hn289_0) | (show (Addr.add _ _).block ≠ _; rw [add_block]; exact hn289_0) | exact hn289_0) (.int .i64 ((rd_T29 t278 x152_3).f0))).trans hx289_0; replace hx289_0 := (cell_far (p := ⟨gb287, 1, none⟩) (by first | (rw [add_block]; exact hn289_1) | (show (Addr.add _ _).block ≠ _; rw [add_block]; exact hn289_1) | exact hn289_1) (.int .i64 ((rd_T29 t278 x152_3).f1))).trans hx289_0; (try have hy289_0 := fun (n_ : Nat) => (show ((((w200.drewN n_).setCell ⟨gb287, 0, none⟩ (.int .i64 ((rd_T29 t278 x152_3).f0))).setCell ⟨gb287, 1, none⟩ (.int .i64 ((rd_T29 t278 x152_3).f1)))).cell? _ = some _ from hx289_0)); clear hn289_0; clear hn289_1; replace p289 := eq_true p289; replace q289 := eq_true q289)))
                       go_roundg k3
                       case measure => have := HJ2.out; have := HK2.out; have := HK3.out; omega
                       case rel => exact ⟨(wrap64 (x13_3 - 1)), (wrap64 (x152_3 + 1)), (by first | rfl | (simp; done) | (simp [*]; done)), (by first | rfl | (simp; done) | (simp [*]; done)), H', ⟨by have := HJ2.out; have := HK2.out; have := HK3.out; omega⟩, ⟨by (with_reducible repeat (first | apply Kd.R_alloc | apply Kd.R_drewN | apply Kd.R_drew)); exact Kd.R_mono (Kd.R_far (p := ⟨gb287, 1, none⟩) (Kd.R_far (p := ⟨gb287, 0, none⟩) (Kd.R_types HO_5.out BK287.out (by decide)) (fun _ hk => hk.2) (.int .i64 ((rd_T29 t278 x152_3).f0))) (fun _ hk => hk.2) (.int .i64 ((rd_T29 t278 x152_3).f1))) (fun _ hk => hk.1)⟩, ⟨by (with_reducible repeat (first | apply Kd.R_alloc | apply Kd.R_drewN | apply Kd.R_drew)); exact Kd.R_mono (Kd.R_far (p := ⟨gb287, 1, none⟩) (Kd.R_far (p := ⟨gb287, 0, none⟩) (Kd.R_types HO_7.out BK287.out (by decide)) (fun _ hk => hk.2) (.int .i64 ((rd_T29 t278 x152_3).f0))) (fun _ hk => hk.2) (.int .i64 ((rd_T29 t278 x152_3).f1))) (fun _ hk => hk.1)⟩, ⟨by (with_reducible repeat (first | apply Kd.R_alloc | apply Kd.R_drewN | apply Kd.R_drew)); exact Kd.R_mono (Kd.R_far (p := ⟨gb287, 1, none⟩) (Kd.R_far (p := ⟨gb287, 0, none⟩) (Kd.R_mono HO_150.out (fun k_ hk => (⟨hk, hk.2⟩ : _ ∧ k_ ≠ gb287))) (fun _ hk => hk.2) (.int .i64 ((rd_T29 t278 x152_3).f0))) (fun _ hk => hk.2) (.int .i64 ((rd_T29 t278 x152_3).f1))) (fun _ hk => trivial)⟩, ⟨by repeat (first | (with_reducible first | exact HB.out | apply below_alloc | apply pw_below_drewN | apply below_drew1 | refine below_set ?_ GE287.out) | exact HB.out)⟩⟩
                     ·rw [if_neg c194] at H; cases H
                    ·rw [if_neg c193] at H; cases H
                   ·rw [if_neg c192] at H; cases H
                  ·rw [if_neg c191] at H; cases H
             ·rw [if_neg c175] at H; cases H
            ·rw [if_neg c174] at H; cases H
          ·rw [if_neg c173] at H
           have c173b0 : decide (x152_3 < (t278.length : Int)) = false := decide_eq_false c173
           clear c173
           by_cases c204 : x13_3 = 0
           ·rw [if_pos c204] at H
            have c204b0 : (x13_3 == 0) = true := beq_iff_eq.mpr c204
            have c204b1 : (x13_3 != 0) = false := bne_eq_false_iff_eq.mpr c204
            clear c204
            by_cases c205 : x14_2 = (t266.length : Int)
            ·rw [if_pos c205] at H
             have c205b0 : (x14_2 == (t266.length : Int)) = true := beq_iff_eq.mpr c205
             have c205b1 : (x14_2 != (t266.length : Int)) = false := bne_eq_false_iff_eq.mpr c205
             clear c205
             obtain rfl := Option.some.inj H
             obtain ⟨Ao206, co206, eo206⟩ := Kd.R_slice HO_5.out
             subst eo206
             obtain ⟨Ao207, co207, eo207⟩ := Kd.R_slice HO_7.out
             subst eo207
             go_wp2
             repeat (go_quiet (fail); try go_wp2)
             go_ret
             exact ⟨by first | rfl | (simp [errW_none, errW_some] <;> rfl) | (simp [*, errW_none, errW_some] <;> rfl), by repeat (first | (with_reducible first | exact HB.out | apply below_alloc | apply pw_below_drewN | apply below_drew1) | exact HB.out)⟩
            ·rw [if_neg c205] at H; cases H
           ·rw [if_neg c204] at H; cases H
    ·rw [if_neg c17] at H
     have c17b0 : (t275 == 0) = false := beq_eq_false_iff_ne.mpr c17
     have c17b1 : (t275 != 0) = true := bne_iff_ne.mpr c17
     obtain rfl := Option.some.inj H
     go_wp2_with (first | (go_at_call 14; (with_reducible refine (ancepsref01_All.calls kj2 a0 t266 t267 _ A13.out).mono ?_); (try clear A13); rintro e w209 ⟨v268, rfl, ho0, hb⟩; have n0_ := Aside0.mk (Kd.R_lower ho0 (below_size (iL HB))); have n1_ := jL HB hb; clear HB; have HO269 := n0_; have HB := n1_; clear n0_ n1_; (try clear hb); (try clear hb2); (try clear hk); (try clear hi); (try clear ho0)) | (go_at_call 14; (with_reducible refine (ancepsref01_All.calls kj2 a1 t270 t271 _ A14.out).mono ?_); (try clear A14); rintro e w210 ⟨v272, rfl, ho0, hb⟩; have n0_ := Aside0.mk (Kd.R_elder' (iR HO269) (Kd.R_base ho0) hb); have n1_ := Aside0.mk (Kd.R_lower (Kd.R_new' ho0 (Kd.R_lt (iR HO269))) (below_size (iL HB))); have n2_ := jL HB hb; clear HO269; clear HB; have HO269 := n0_; have HO273 := n1_; have HB := n2_; clear n0_ n1_ n2_; (try clear hb); (try clear hb2); (try clear hk); (try clear hi); (try clear ho0)) | (go_at_call 10; (with_reducible refine (apparatus_Words.calls kj2 a0 a1 t274 t275 _ A15.out).mono ?_); (try clear A15); rintro e w211 ⟨v276, rfl, ho0, hb⟩; have n0_ := jR HO269 hb; have n1_ := jR HO273 hb; have n2_ := Aside0.mk (Kd.R_lower ho0 (below_size (iL HB))); have n3_ := jL HB hb; clear HO269; clear HO273; clear HB; have HO269 := n0_; have HO273 := n1_; have HO277 := n2_; have HB := n3_; clear n0_ n1_ n2_ n3_; (try clear hb); (try clear hb2); (try clear hk); (try clear hi); (try clear ho0)) | (go_at_call 10; (with_reducible refine (apparatus_Words.calls kj2 a1 a0 t278 t279 _ A16.out).mono ?_); (try clear A16); rintro e w212 ⟨v280, rfl, ho0, hb⟩; have n0_ := jR HO269 hb; have n1_ := jR HO273 hb; have n2_ := Aside0.mk (Kd.R_elder' (iR HO277) (Kd.R_base ho0) hb); have n3_ := Aside0.mk (Kd.R_lower (Kd.R_new' ho0 (Kd.R_lt (iR HO277))) (below_size (iL HB))); have n4_ := jL HB hb; clear HO269; clear HO273; clear HO277; clear HB; have HO269 := n0_; have HO273 := n1_; have HO277 := n2_; have HO281 := n3_; have HB := n4_; clear n0_ n1_ n2_ n3_ n4_; (try clear hb); (try clear hb2); (try clear hk); (try clear hi); (try clear ho0); obtain ⟨Ao213, co213, eo213⟩ := Kd.R_slice HO277.out; subst eo213))
     repeat (go_quiet (first | (go_at_call 14; (with_reducible refine (ancepsref01_All.calls kj2 a0 t266 t267 _ A13.out).mono ?_); (try clear A13); rintro e w209 ⟨v268, rfl, ho0, hb⟩; have n0_ := Aside0.mk (Kd.R_lower ho0 (below_size (iL HB))); have n1_ := jL HB hb; clear HB; have HO269 := n0_; have HB := n1_; clear n0_ n1_; (try clear hb); (try clear hb2); (try clear hk); (try clear hi); (try clear ho0)) | (go_at_call 14; (with_reducible refine (ancepsref01_All.calls kj2 a1 t270 t271 _ A14.out).mono ?_); (try clear A14); rintro e w210 ⟨v272, rfl, ho0, hb⟩; have n0_ := Aside0.mk (Kd.R_elder' (iR HO269) (Kd.R_base ho0) hb); have n1_ := Aside0.mk (Kd.R_lower (Kd.R_new' ho0 (Kd.R_lt (iR HO269))) (below_size (iL HB))); have n2_ := jL HB hb; clear HO269; clear HB; have HO269 := n0_; have HO273 := n1_; have HB := n2_; clear n0_ n1_ n2_; (try clear hb); (try clear hb2); (try clear hk); (try clear hi); (try clear ho0)) | (go_at_call 10; (with_reducible refine (apparatus_Words.calls kj2 a0 a1 t274 t275 _ A15.out).mono ?_); (try clear A15); rintro e w211 ⟨v276, rfl, ho0, hb⟩; have n0_ := jR HO269 hb; have n1_ := jR HO273 hb; have n2_ := Aside0.mk (Kd.R_lower ho0 (below_size (iL HB))); have n3_ := jL HB hb; clear HO269; clear HO273; clear HB; have HO269 := n0_; have HO273 := n1_; have HO277 := n2_; have HB := n3_; clear n0_ n1_ n2_ n3_; (try clear hb); (try clear hb2); (try clear hk); (try clear hi); (try clear ho0)) | (go_at_call 10; (with_reducible refine (apparatus_Words.calls kj2 a1 a0 t278 t279 _ A16.out).mono ?_); (try clear A16); rintro e w212 ⟨v280, rfl, ho0, hb⟩; have n0_ := jR HO269 hb; have n1_ := jR HO273 hb; have n2_ := Aside0.mk (Kd.R_elder' (iR HO277) (Kd.R_base ho0) hb); have n3_ := Aside0.mk (Kd.R_lower (Kd.R_new' ho0 (Kd.R_lt (iR HO277))) (below_size (iL HB))); have n4_ := jL HB hb; clear HO269; clear HO273; clear HO277; clear HB; have HO269 := n0_; have HO273 := n1_; have HO277 := n2_; have HO281 := n3_; have HB := n4_; clear n0_ n1_ n2_ n3_ n4_; (try clear hb); (try clear hb2); (try clear hk); (try clear hi); (try clear ho0); obtain ⟨Ao213, co213, eo213⟩ := Kd.R_slice HO277.out; subst eo213)); try go_wp2_with (first | (go_at_call 14; (with_reducible refine (ancepsref01_All.calls kj2 a0 t266 t267 _ A13.out).mono ?_); (try clear A13); rintro e w209 ⟨v268, rfl, ho0, hb⟩; have n0_ := Aside0.mk (Kd.R_lower ho0 (below_size (iL HB))); have n1_ := jL HB hb; clear HB; have HO269 := n0_; have HB := n1_; clear n0_ n1_; (try clear hb); (try clear hb2); (try clear hk); (try clear hi); (try clear ho0)) | (go_at_call 14; (with_reducible refine (ancepsref01_All.calls kj2 a1 t270 t271 _ A14.out).mono ?_); (try clear A14); rintro e w210 ⟨v272, rfl, ho0, hb⟩; have n0_ := Aside0.mk (Kd.R_elder' (iR HO269) (Kd.R_base ho0) hb); have n1_ := Aside0.mk (Kd.R_lower (Kd.R_new' ho0 (Kd.R_lt (iR HO269))) (below_size (iL HB))); have n2_ := jL HB hb; clear HO269; clear HB; have HO269 := n0_; have HO273 := n1_; have HB := n2_; clear n0_ n1_ n2_; (try clear hb); (try clear hb2); (try clear hk); (try clear hi); (try clear ho0)) | (go_at_call 10; (with_reducible refine (apparatus_Words.calls kj2 a0 a1 t274 t275 _ A15.out).mono ?_); (try clear A15); rintro e w211 ⟨v276, rfl, ho0, hb⟩; have n0_ := jR HO269 hb; have n1_ := jR HO273 hb; have n2_ := Aside0.mk (Kd.R_lower ho0 (below_size (iL HB))); have n3_ := jL HB hb; clear HO269; clear HO273; clear HB; have HO269 := n0_; have HO273 := n1_; have HO277 := n2_; have HB := n3_; clear n0_ n1_ n2_ n3_; (try clear hb); (try clear hb2); (try clear hk); (try clear hi); (try clear ho0)) | (go_at_call 10; (with_reducible refine (apparatus_Words.calls kj2 a1 a0 t278 t279 _ A16.out).mono ?_); (try clear A16); rintro e w212 ⟨v280, rfl, ho0, hb⟩; have n0_ := jR HO269 hb; have n1_ := jR HO273 hb; have n2_ := Aside0.mk (Kd.R_elder' (iR HO277) (Kd.R_base ho0) hb); have n3_ := Aside0.mk (Kd.R_lower (Kd.R_new' ho0 (Kd.R_lt (iR HO277))) (below_size (iL HB))); have n4_ := jL HB hb; clear HO269; clear HO273; clear HO277; clear HB; have HO269 := n0_; have HO273 := n1_; have HO277 := n2_; have HO281 := n3_; have HB := n4_; clear n0_ n1_ n2_ n3_ n4_; (try clear hb); (try clear hb2); (try clear hk); (try clear hi); (try clear ho0); obtain ⟨Ao213, co213, eo213⟩ := Kd.R_slice HO277.out; subst eo213)))
     go_ret
     exact ⟨by first | rfl | (simp [errW_none, errW_some] <;> rfl) | (simp [*, errW_none, errW_some] <;> rfl), by repeat (first | (with_reducible first | exact HB.out | apply below_alloc | apply pw_below_drewN | apply below_drew1) | exact HB.out)⟩

/-- THE ONE PURE STATEMENT of ancepslaw57_ApparatusCost: yours. -/
def ancepslaw57_ApparatusCost.Pure : Prop := ∀ (a0 : ByteArray) (a1 : ByteArray), a0.size ≤ 140737488351232 → a1.size ≤ 140737488351232 → ∃ k, ancepslaw57_ApparatusCost.f k a0 a1 = some true
theorem ancepslaw57_ApparatusCost.walk (P : ancepslaw57_ApparatusCost.Pure) (a0 : ByteArray) (a1 : ByteArray) (w : World) (w0 : a0.size ≤ 140737488351232) (w1 : a1.size ≤ 140737488351232) :
  Calls Try.prog 4 #[.string a0, .string a1] w fun e w' => e = .returned (.bool true) ∧ Below w.heap.size w w' := by
 obtain ⟨k, h⟩ := P a0 a1 w0 w1
 refine (ancepslaw57_ApparatusCost.calls k a0 a1 true w h).mono ?_
 rintro e w' ⟨rfl, hd⟩
 exact ⟨rfl, hd⟩

end Go.Proofs.Ytmjigfoldeekmaa.X
