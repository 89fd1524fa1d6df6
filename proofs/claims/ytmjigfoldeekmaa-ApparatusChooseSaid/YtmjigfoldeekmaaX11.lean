-- and more
-- shortened
-- thinned
-- halved indents
-- printed by this session's xprint.py: out of the translation, by the kit's print with additions; Lean checks it
import Derived.Test.YtmjigfoldeekmaaXE
import Derived.Test.YtmjigfoldeekmaaWN
import Derived.Test.YtmjigfoldeekmaaWShare
import Derived.Test.YtmjigfoldeekmaaWRepsOne
import Derived.Test.YtmjigfoldeekmaaWGuard
import Derived.Test.YtmjigfoldeekmaaX0
import Derived.Test.YtmjigfoldeekmaaX2
import Derived.Test.YtmjigfoldeekmaaX4
import Derived.Test.YtmjigfoldeekmaaX5
import Derived.Test.YtmjigfoldeekmaaX7
import Derived.Test.YtmjigfoldeekmaaX9
import Derived.Test.YtmjigfoldeekmaaX10
import Derived.Test.YtmjigfoldeekmaaXA
namespace Go.Proofs.Ytmjigfoldeekmaa.X
open Go.RowKit Go.Proofs.YtmjigfoldeekmaaW.PrintWords Go.Proofs.YtmjigfoldeekmaaW.PrintLast Go.Proofs.YtmjigfoldeekmaaW.PrintMore
attribute [local go_sem] max2_int min2_int max_two min_two max_three min_three max_four min_four isSome_setCell binOp_gtr_str binOp_leq_str binOp_geq_str   -- for this text's walks alone
set_option linter.unusedVariables false
set_option linter.unusedSimpArgs false

attribute [local go_sem high] eqA67
/-! ### ancepslaw57_awake: function 9 -/
def ancepslaw57_awake.j0 : Nat → List (List ByteArray) → List (S29) → Bool → List ByteArray → List (S65) → List ByteArray → List (S65) → Option (Bool)
 | 0, _, _, _, _, _, _, _ => none
 | k + 1, x3, x7, x82, x203000, x203001, x215000, x215001 => if x82 = true then (some false) else (if 0 < (x203001.length : Int) then (if ((rd_T65 x203001 0).f0).toList = ([97, 114, 109, 97, 32, 118, 105, 114, 117, 109, 113, 117, 101] : List UInt8) then (if 0 < (((rd_T65 x203001 0).f1).length : Int) then (if 0 < (x215001.length : Int) then (if ((rd_T65 x215001 0).f0).toList = ([97, 114, 109, 97, 32, 117, 105, 114, 117, 109, 113, 117, 101] : List UInt8) then (if 0 < (((rd_T65 x215001 0).f1).length : Int) then (if ((((rd_T67 ((rd_T65 x203001 0).f1) 0).f0).toList) == ([97, 114, 109, 97, 32, 117, 105, 114, 117, 109, 113, 117, 101] : List UInt8) && (((rd_T67 ((rd_T65 x203001 0).f1) 0).f1) == 6)) = true then (if ((((rd_T67 ((rd_T65 x215001 0).f1) 0).f0).toList) == ([97, 114, 109, 97, 32, 118, 105, 114, 117, 109, 113, 117, 101] : List UInt8) && (((rd_T67 ((rd_T65 x215001 0).f1) 0).f1) == 1)) = true then (if 1 < (x3.length : Int) then ((slices_Equal_string_string.f k (rd_L8 x3 1) (([(⟨#[98]⟩ : ByteArray), (⟨#[99]⟩ : ByteArray)] : List ByteArray))).bind fun t231 => (if t231 = true then ((api_Pair.f k x7 (([(⟨0, 0⟩ : S29), (⟨1, (-1)⟩ : S29), (⟨2, 1⟩ : S29)] : List (S29)))).bind fun t235 => (some t235)) else (some false))) else (none)) else (some false)) else (some false)) else (none)) else (if ((((rd_T67 ((rd_T65 x203001 0).f1) 0).f0).toList) == ([97, 114, 109, 97, 32, 117, 105, 114, 117, 109, 113, 117, 101] : List UInt8) && (((rd_T67 ((rd_T65 x203001 0).f1) 0).f1) == 6)) = true then (some false) else (some false))) else (none)) else (none)) else (if 0 < (x215001.length : Int) then (if ((rd_T65 x215001 0).f0).toList = ([97, 114, 109, 97, 32, 117, 105, 114, 117, 109, 113, 117, 101] : List UInt8) then (if 0 < (((rd_T65 x215001 0).f1).length : Int) then (some false) else (none)) else (some false)) else (none))) else (none))
def ancepslaw57_awake.g (k : Nat)  : Option (Bool) := (apparatus_Collate.f k (([(⟨#[97]⟩ : ByteArray), (⟨#[98]⟩ : ByteArray), (⟨#[99]⟩ : ByteArray)] : List ByteArray)) (([(([(⟨#[97, 114, 109, 97, 32, 118, 105, 114, 117, 109, 113, 117, 101]⟩ : ByteArray)] : List ByteArray)), (([(⟨#[97, 114, 109, 97, 32, 117, 105, 114, 117, 109, 113, 117, 101]⟩ : ByteArray)] : List ByteArray)), (([(⟨#[97, 114, 109, 97, 32, 117, 105, 114, 117, 109, 113, 117, 101]⟩ : ByteArray)] : List ByteArray))] : List (List ByteArray)))).bind fun bt195 => ((apparatus_Groups.f k bt195.1 bt195.2.1).bind fun bt203 => ((apparatus_Choose.f k bt195.1 bt195.2.1 0 0).bind fun bt207 => ((apparatus_Words.f k (⟨#[97, 114, 109, 97, 32, 118, 105, 114, 117, 109, 113, 117, 101, 32, 99, 97, 110, 111]⟩ : ByteArray) (⟨#[97, 114, 109, 97, 32, 99, 97, 110, 111]⟩ : ByteArray)).bind fun bt215 => (if bt195.2.2 = 0 then (if bt203.2 = 0 then (if bt207.2.2 = 0 then (if bt215.2 = 0 then (if (bt195.2.1.length : Int) = 1 then (if (bt207.2.1.length : Int) = 1 then (if 0 < (bt195.2.1.length : Int) then (if (((rd_T65 bt195.2.1 0).f1).length : Int) = 1 then (if 0 < (bt207.2.1.length : Int) then (if (((rd_T65 bt207.2.1 0).f1).length : Int) = 1 then (ancepslaw57_awake.j0 k bt203.1 bt215.1 ((bt203.1.length : Int) != 2) bt195.1 bt195.2.1 bt207.1 bt207.2.1) else (ancepslaw57_awake.j0 k bt203.1 bt215.1 true bt195.1 bt195.2.1 bt207.1 bt207.2.1)) else (none)) else (ancepslaw57_awake.j0 k bt203.1 bt215.1 true bt195.1 bt195.2.1 bt207.1 bt207.2.1)) else (none)) else (ancepslaw57_awake.j0 k bt203.1 bt215.1 true bt195.1 bt195.2.1 bt207.1 bt207.2.1)) else (ancepslaw57_awake.j0 k bt203.1 bt215.1 true bt195.1 bt195.2.1 bt207.1 bt207.2.1)) else (ancepslaw57_awake.j0 k bt203.1 bt215.1 true bt195.1 bt195.2.1 bt207.1 bt207.2.1)) else (ancepslaw57_awake.j0 k bt203.1 bt215.1 true bt195.1 bt195.2.1 bt207.1 bt207.2.1)) else (ancepslaw57_awake.j0 k bt203.1 bt215.1 true bt195.1 bt195.2.1 bt207.1 bt207.2.1)) else (ancepslaw57_awake.j0 k bt203.1 bt215.1 true bt195.1 bt195.2.1 bt207.1 bt207.2.1)))))
theorem ancepslaw57_awake.mono_l : ∀ k, (∀ y0 y1 y2 y3 y4 y5 y6, LeO (ancepslaw57_awake.j0 k y0 y1 y2 y3 y4 y5 y6) (ancepslaw57_awake.j0 (k + 1) y0 y1 y2 y3 y4 y5 y6))
 | 0 => fun _ _ _ _ _ _ _ r h => by simp [ancepslaw57_awake.j0] at h
 | k + 1 => by
  have ih0 := ancepslaw57_awake.mono_l k
  ·intro y0 y1 y2 y3 y4 y5 y6
   unfold ancepslaw57_awake.j0
   repeat' first
   | (with_reducible exact ih0 _ _ _ _ _ _ _)
   | (with_reducible exact api_Pair.mono _ _ _)
   | (with_reducible exact apparatus_Choose.mono _ _ _ _ _)
   | (with_reducible exact apparatus_Collate.mono _ _ _)
   | (with_reducible exact apparatus_Groups.mono _ _ _)
   | (with_reducible exact apparatus_Words.mono _ _ _)
   | (with_reducible exact slices_Equal_string_string.mono _ _ _)
   | (with_reducible exact LeO.refl _)
   | (with_reducible exact LeO.none _)
   | (with_reducible refine LeO.ite ?_ ?_)
   | (with_reducible refine LeO.bind ?_ (fun _ => ?_))
   | exact ih0 _ _ _ _ _ _ _
   | exact api_Pair.mono _ _ _
   | exact apparatus_Choose.mono _ _ _ _ _
   | exact apparatus_Collate.mono _ _ _
   | exact apparatus_Groups.mono _ _ _
   | exact apparatus_Words.mono _ _ _
   | exact slices_Equal_string_string.mono _ _ _
   | exact LeO.none _
   | refine LeO.ite ?_ ?_
   | refine LeO.bind ?_ (fun _ => ?_)
theorem ancepslaw57_awake.monoG : ∀ k, LeO (ancepslaw57_awake.g k ) (ancepslaw57_awake.g (k + 1) ) := by
 intro  k
 have ih0 := ancepslaw57_awake.mono_l k
 unfold ancepslaw57_awake.g
 repeat' first
   | (with_reducible exact ih0 _ _ _ _ _ _ _)
   | (with_reducible exact api_Pair.mono _ _ _)
   | (with_reducible exact apparatus_Choose.mono _ _ _ _ _)
   | (with_reducible exact apparatus_Collate.mono _ _ _)
   | (with_reducible exact apparatus_Groups.mono _ _ _)
   | (with_reducible exact apparatus_Words.mono _ _ _)
   | (with_reducible exact slices_Equal_string_string.mono _ _ _)
   | (with_reducible exact LeO.refl _)
   | (with_reducible exact LeO.none _)
   | (with_reducible refine LeO.ite ?_ ?_)
   | (with_reducible refine LeO.bind ?_ (fun _ => ?_))
   | exact ih0 _ _ _ _ _ _ _
   | exact api_Pair.mono _ _ _
   | exact apparatus_Choose.mono _ _ _ _ _
   | exact apparatus_Collate.mono _ _ _
   | exact apparatus_Groups.mono _ _ _
   | exact apparatus_Words.mono _ _ _
   | exact slices_Equal_string_string.mono _ _ _
   | exact LeO.none _
   | refine LeO.ite ?_ ?_
   | refine LeO.bind ?_ (fun _ => ?_)
set_option maxHeartbeats 8000000 in
set_option maxRecDepth 100000 in
theorem ancepslaw57_awake.callsT (k : Nat)  (w : World) (h : ancepslaw57_awake.g k  = some true) :
  Calls Try.prog 9 #[] w fun e w' => e = .returned (.bool true) ∧ Below w.heap.size w w' := by
 have hu42 := Try.underlying42
 have hu67 := Try.underlying67
 have hu29 := Try.underlying29
 have HB := Aside0.mk (Below.refl w.heap.size w)
 have H : ((apparatus_Collate.f k (([(⟨#[97]⟩ : ByteArray), (⟨#[98]⟩ : ByteArray), (⟨#[99]⟩ : ByteArray)] : List ByteArray)) (([(([(⟨#[97, 114, 109, 97, 32, 118, 105, 114, 117, 109, 113, 117, 101]⟩ : ByteArray)] : List ByteArray)), (([(⟨#[97, 114, 109, 97, 32, 117, 105, 114, 117, 109, 113, 117, 101]⟩ : ByteArray)] : List ByteArray)), (([(⟨#[97, 114, 109, 97, 32, 117, 105, 114, 117, 109, 113, 117, 101]⟩ : ByteArray)] : List ByteArray))] : List (List ByteArray)))).bind fun bt195 => ((apparatus_Groups.f k bt195.1 bt195.2.1).bind fun bt203 => ((apparatus_Choose.f k bt195.1 bt195.2.1 0 0).bind fun bt207 => ((apparatus_Words.f k (⟨#[97, 114, 109, 97, 32, 118, 105, 114, 117, 109, 113, 117, 101, 32, 99, 97, 110, 111]⟩ : ByteArray) (⟨#[97, 114, 109, 97, 32, 99, 97, 110, 111]⟩ : ByteArray)).bind fun bt215 => (if bt195.2.2 = 0 then (if bt203.2 = 0 then (if bt207.2.2 = 0 then (if bt215.2 = 0 then (if (bt195.2.1.length : Int) = 1 then (if (bt207.2.1.length : Int) = 1 then (if 0 < (bt195.2.1.length : Int) then (if (((rd_T65 bt195.2.1 0).f1).length : Int) = 1 then (if 0 < (bt207.2.1.length : Int) then (if (((rd_T65 bt207.2.1 0).f1).length : Int) = 1 then (ancepslaw57_awake.j0 k bt203.1 bt215.1 ((bt203.1.length : Int) != 2) bt195.1 bt195.2.1 bt207.1 bt207.2.1) else (ancepslaw57_awake.j0 k bt203.1 bt215.1 true bt195.1 bt195.2.1 bt207.1 bt207.2.1)) else (none)) else (ancepslaw57_awake.j0 k bt203.1 bt215.1 true bt195.1 bt195.2.1 bt207.1 bt207.2.1)) else (none)) else (ancepslaw57_awake.j0 k bt203.1 bt215.1 true bt195.1 bt195.2.1 bt207.1 bt207.2.1)) else (ancepslaw57_awake.j0 k bt203.1 bt215.1 true bt195.1 bt195.2.1 bt207.1 bt207.2.1)) else (ancepslaw57_awake.j0 k bt203.1 bt215.1 true bt195.1 bt195.2.1 bt207.1 bt207.2.1)) else (ancepslaw57_awake.j0 k bt203.1 bt215.1 true bt195.1 bt195.2.1 bt207.1 bt207.2.1)) else (ancepslaw57_awake.j0 k bt203.1 bt215.1 true bt195.1 bt195.2.1 bt207.1 bt207.2.1)) else (ancepslaw57_awake.j0 k bt203.1 bt215.1 true bt195.1 bt195.2.1 bt207.1 bt207.2.1)))))) = some true := h
 clear h
 obtain ⟨y180, hy180⟩ : ∃ y_ : List ByteArray, y_ = (([(⟨#[97]⟩ : ByteArray), (⟨#[98]⟩ : ByteArray), (⟨#[99]⟩ : ByteArray)] : List ByteArray)) := ⟨_, rfl⟩
 replace H : ((apparatus_Collate.f k y180 (([(([(⟨#[97, 114, 109, 97, 32, 118, 105, 114, 117, 109, 113, 117, 101]⟩ : ByteArray)] : List ByteArray)), (([(⟨#[97, 114, 109, 97, 32, 117, 105, 114, 117, 109, 113, 117, 101]⟩ : ByteArray)] : List ByteArray)), (([(⟨#[97, 114, 109, 97, 32, 117, 105, 114, 117, 109, 113, 117, 101]⟩ : ByteArray)] : List ByteArray))] : List (List ByteArray)))).bind fun bt195 => ((apparatus_Groups.f k bt195.1 bt195.2.1).bind fun bt203 => ((apparatus_Choose.f k bt195.1 bt195.2.1 0 0).bind fun bt207 => ((apparatus_Words.f k (⟨#[97, 114, 109, 97, 32, 118, 105, 114, 117, 109, 113, 117, 101, 32, 99, 97, 110, 111]⟩ : ByteArray) (⟨#[97, 114, 109, 97, 32, 99, 97, 110, 111]⟩ : ByteArray)).bind fun bt215 => (if bt195.2.2 = 0 then (if bt203.2 = 0 then (if bt207.2.2 = 0 then (if bt215.2 = 0 then (if (bt195.2.1.length : Int) = 1 then (if (bt207.2.1.length : Int) = 1 then (if 0 < (bt195.2.1.length : Int) then (if (((rd_T65 bt195.2.1 0).f1).length : Int) = 1 then (if 0 < (bt207.2.1.length : Int) then (if (((rd_T65 bt207.2.1 0).f1).length : Int) = 1 then (ancepslaw57_awake.j0 k bt203.1 bt215.1 ((bt203.1.length : Int) != 2) bt195.1 bt195.2.1 bt207.1 bt207.2.1) else (ancepslaw57_awake.j0 k bt203.1 bt215.1 true bt195.1 bt195.2.1 bt207.1 bt207.2.1)) else (none)) else (ancepslaw57_awake.j0 k bt203.1 bt215.1 true bt195.1 bt195.2.1 bt207.1 bt207.2.1)) else (none)) else (ancepslaw57_awake.j0 k bt203.1 bt215.1 true bt195.1 bt195.2.1 bt207.1 bt207.2.1)) else (ancepslaw57_awake.j0 k bt203.1 bt215.1 true bt195.1 bt195.2.1 bt207.1 bt207.2.1)) else (ancepslaw57_awake.j0 k bt203.1 bt215.1 true bt195.1 bt195.2.1 bt207.1 bt207.2.1)) else (ancepslaw57_awake.j0 k bt203.1 bt215.1 true bt195.1 bt195.2.1 bt207.1 bt207.2.1)) else (ancepslaw57_awake.j0 k bt203.1 bt215.1 true bt195.1 bt195.2.1 bt207.1 bt207.2.1)) else (ancepslaw57_awake.j0 k bt203.1 bt215.1 true bt195.1 bt195.2.1 bt207.1 bt207.2.1)))))) = some true := by first | (rw [hy180]; with_reducible exact H) | (have H2_ := (Option.bind_some _ _).symm.trans H; rw [hy180]; with_reducible exact H2_) | (have H2_ := (Option.bind_some _ _).symm.trans H; with_reducible exact H2_) | with_reducible exact H | (rw [hy180]; exact H) | exact H
 have Ny180 := Aside0.mk hy180
 clear hy180
 obtain ⟨y183, hy183⟩ : ∃ y_ : List ByteArray, y_ = (([(⟨#[97, 114, 109, 97, 32, 118, 105, 114, 117, 109, 113, 117, 101]⟩ : ByteArray)] : List ByteArray)) := ⟨_, rfl⟩
 replace H : ((apparatus_Collate.f k y180 (([y183, (([(⟨#[97, 114, 109, 97, 32, 117, 105, 114, 117, 109, 113, 117, 101]⟩ : ByteArray)] : List ByteArray)), (([(⟨#[97, 114, 109, 97, 32, 117, 105, 114, 117, 109, 113, 117, 101]⟩ : ByteArray)] : List ByteArray))] : List (List ByteArray)))).bind fun bt195 => ((apparatus_Groups.f k bt195.1 bt195.2.1).bind fun bt203 => ((apparatus_Choose.f k bt195.1 bt195.2.1 0 0).bind fun bt207 => ((apparatus_Words.f k (⟨#[97, 114, 109, 97, 32, 118, 105, 114, 117, 109, 113, 117, 101, 32, 99, 97, 110, 111]⟩ : ByteArray) (⟨#[97, 114, 109, 97, 32, 99, 97, 110, 111]⟩ : ByteArray)).bind fun bt215 => (if bt195.2.2 = 0 then (if bt203.2 = 0 then (if bt207.2.2 = 0 then (if bt215.2 = 0 then (if (bt195.2.1.length : Int) = 1 then (if (bt207.2.1.length : Int) = 1 then (if 0 < (bt195.2.1.length : Int) then (if (((rd_T65 bt195.2.1 0).f1).length : Int) = 1 then (if 0 < (bt207.2.1.length : Int) then (if (((rd_T65 bt207.2.1 0).f1).length : Int) = 1 then (ancepslaw57_awake.j0 k bt203.1 bt215.1 ((bt203.1.length : Int) != 2) bt195.1 bt195.2.1 bt207.1 bt207.2.1) else (ancepslaw57_awake.j0 k bt203.1 bt215.1 true bt195.1 bt195.2.1 bt207.1 bt207.2.1)) else (none)) else (ancepslaw57_awake.j0 k bt203.1 bt215.1 true bt195.1 bt195.2.1 bt207.1 bt207.2.1)) else (none)) else (ancepslaw57_awake.j0 k bt203.1 bt215.1 true bt195.1 bt195.2.1 bt207.1 bt207.2.1)) else (ancepslaw57_awake.j0 k bt203.1 bt215.1 true bt195.1 bt195.2.1 bt207.1 bt207.2.1)) else (ancepslaw57_awake.j0 k bt203.1 bt215.1 true bt195.1 bt195.2.1 bt207.1 bt207.2.1)) else (ancepslaw57_awake.j0 k bt203.1 bt215.1 true bt195.1 bt195.2.1 bt207.1 bt207.2.1)) else (ancepslaw57_awake.j0 k bt203.1 bt215.1 true bt195.1 bt195.2.1 bt207.1 bt207.2.1)) else (ancepslaw57_awake.j0 k bt203.1 bt215.1 true bt195.1 bt195.2.1 bt207.1 bt207.2.1)))))) = some true := by first | (rw [hy183]; with_reducible exact H) | (have H2_ := (Option.bind_some _ _).symm.trans H; rw [hy183]; with_reducible exact H2_) | (have H2_ := (Option.bind_some _ _).symm.trans H; with_reducible exact H2_) | with_reducible exact H | (rw [hy183]; exact H) | exact H
 have Ny183 := Aside0.mk hy183
 clear hy183
 obtain ⟨y186, hy186⟩ : ∃ y_ : List ByteArray, y_ = (([(⟨#[97, 114, 109, 97, 32, 117, 105, 114, 117, 109, 113, 117, 101]⟩ : ByteArray)] : List ByteArray)) := ⟨_, rfl⟩
 replace H : ((apparatus_Collate.f k y180 (([y183, y186, (([(⟨#[97, 114, 109, 97, 32, 117, 105, 114, 117, 109, 113, 117, 101]⟩ : ByteArray)] : List ByteArray))] : List (List ByteArray)))).bind fun bt195 => ((apparatus_Groups.f k bt195.1 bt195.2.1).bind fun bt203 => ((apparatus_Choose.f k bt195.1 bt195.2.1 0 0).bind fun bt207 => ((apparatus_Words.f k (⟨#[97, 114, 109, 97, 32, 118, 105, 114, 117, 109, 113, 117, 101, 32, 99, 97, 110, 111]⟩ : ByteArray) (⟨#[97, 114, 109, 97, 32, 99, 97, 110, 111]⟩ : ByteArray)).bind fun bt215 => (if bt195.2.2 = 0 then (if bt203.2 = 0 then (if bt207.2.2 = 0 then (if bt215.2 = 0 then (if (bt195.2.1.length : Int) = 1 then (if (bt207.2.1.length : Int) = 1 then (if 0 < (bt195.2.1.length : Int) then (if (((rd_T65 bt195.2.1 0).f1).length : Int) = 1 then (if 0 < (bt207.2.1.length : Int) then (if (((rd_T65 bt207.2.1 0).f1).length : Int) = 1 then (ancepslaw57_awake.j0 k bt203.1 bt215.1 ((bt203.1.length : Int) != 2) bt195.1 bt195.2.1 bt207.1 bt207.2.1) else (ancepslaw57_awake.j0 k bt203.1 bt215.1 true bt195.1 bt195.2.1 bt207.1 bt207.2.1)) else (none)) else (ancepslaw57_awake.j0 k bt203.1 bt215.1 true bt195.1 bt195.2.1 bt207.1 bt207.2.1)) else (none)) else (ancepslaw57_awake.j0 k bt203.1 bt215.1 true bt195.1 bt195.2.1 bt207.1 bt207.2.1)) else (ancepslaw57_awake.j0 k bt203.1 bt215.1 true bt195.1 bt195.2.1 bt207.1 bt207.2.1)) else (ancepslaw57_awake.j0 k bt203.1 bt215.1 true bt195.1 bt195.2.1 bt207.1 bt207.2.1)) else (ancepslaw57_awake.j0 k bt203.1 bt215.1 true bt195.1 bt195.2.1 bt207.1 bt207.2.1)) else (ancepslaw57_awake.j0 k bt203.1 bt215.1 true bt195.1 bt195.2.1 bt207.1 bt207.2.1)) else (ancepslaw57_awake.j0 k bt203.1 bt215.1 true bt195.1 bt195.2.1 bt207.1 bt207.2.1)))))) = some true := by first | (rw [hy186]; with_reducible exact H) | (have H2_ := (Option.bind_some _ _).symm.trans H; rw [hy186]; with_reducible exact H2_) | (have H2_ := (Option.bind_some _ _).symm.trans H; with_reducible exact H2_) | with_reducible exact H | (rw [hy186]; exact H) | exact H
 have Ny186 := Aside0.mk hy186
 clear hy186
 obtain ⟨y189, hy189⟩ : ∃ y_ : List ByteArray, y_ = (([(⟨#[97, 114, 109, 97, 32, 117, 105, 114, 117, 109, 113, 117, 101]⟩ : ByteArray)] : List ByteArray)) := ⟨_, rfl⟩
 replace H : ((apparatus_Collate.f k y180 (([y183, y186, y189] : List (List ByteArray)))).bind fun bt195 => ((apparatus_Groups.f k bt195.1 bt195.2.1).bind fun bt203 => ((apparatus_Choose.f k bt195.1 bt195.2.1 0 0).bind fun bt207 => ((apparatus_Words.f k (⟨#[97, 114, 109, 97, 32, 118, 105, 114, 117, 109, 113, 117, 101, 32, 99, 97, 110, 111]⟩ : ByteArray) (⟨#[97, 114, 109, 97, 32, 99, 97, 110, 111]⟩ : ByteArray)).bind fun bt215 => (if bt195.2.2 = 0 then (if bt203.2 = 0 then (if bt207.2.2 = 0 then (if bt215.2 = 0 then (if (bt195.2.1.length : Int) = 1 then (if (bt207.2.1.length : Int) = 1 then (if 0 < (bt195.2.1.length : Int) then (if (((rd_T65 bt195.2.1 0).f1).length : Int) = 1 then (if 0 < (bt207.2.1.length : Int) then (if (((rd_T65 bt207.2.1 0).f1).length : Int) = 1 then (ancepslaw57_awake.j0 k bt203.1 bt215.1 ((bt203.1.length : Int) != 2) bt195.1 bt195.2.1 bt207.1 bt207.2.1) else (ancepslaw57_awake.j0 k bt203.1 bt215.1 true bt195.1 bt195.2.1 bt207.1 bt207.2.1)) else (none)) else (ancepslaw57_awake.j0 k bt203.1 bt215.1 true bt195.1 bt195.2.1 bt207.1 bt207.2.1)) else (none)) else (ancepslaw57_awake.j0 k bt203.1 bt215.1 true bt195.1 bt195.2.1 bt207.1 bt207.2.1)) else (ancepslaw57_awake.j0 k bt203.1 bt215.1 true bt195.1 bt195.2.1 bt207.1 bt207.2.1)) else (ancepslaw57_awake.j0 k bt203.1 bt215.1 true bt195.1 bt195.2.1 bt207.1 bt207.2.1)) else (ancepslaw57_awake.j0 k bt203.1 bt215.1 true bt195.1 bt195.2.1 bt207.1 bt207.2.1)) else (ancepslaw57_awake.j0 k bt203.1 bt215.1 true bt195.1 bt195.2.1 bt207.1 bt207.2.1)) else (ancepslaw57_awake.j0 k bt203.1 bt215.1 true bt195.1 bt195.2.1 bt207.1 bt207.2.1)))))) = some true := by first | (rw [hy189]; with_reducible exact H) | (have H2_ := (Option.bind_some _ _).symm.trans H; rw [hy189]; with_reducible exact H2_) | (have H2_ := (Option.bind_some _ _).symm.trans H; with_reducible exact H2_) | with_reducible exact H | (rw [hy189]; exact H) | exact H
 have Ny189 := Aside0.mk hy189
 clear hy189
 obtain ⟨y192, hy192⟩ : ∃ y_ : List (List ByteArray), y_ = (([y183, y186, y189] : List (List ByteArray))) := ⟨_, rfl⟩
 replace H : ((apparatus_Collate.f k y180 y192).bind fun bt195 => ((apparatus_Groups.f k bt195.1 bt195.2.1).bind fun bt203 => ((apparatus_Choose.f k bt195.1 bt195.2.1 0 0).bind fun bt207 => ((apparatus_Words.f k (⟨#[97, 114, 109, 97, 32, 118, 105, 114, 117, 109, 113, 117, 101, 32, 99, 97, 110, 111]⟩ : ByteArray) (⟨#[97, 114, 109, 97, 32, 99, 97, 110, 111]⟩ : ByteArray)).bind fun bt215 => (if bt195.2.2 = 0 then (if bt203.2 = 0 then (if bt207.2.2 = 0 then (if bt215.2 = 0 then (if (bt195.2.1.length : Int) = 1 then (if (bt207.2.1.length : Int) = 1 then (if 0 < (bt195.2.1.length : Int) then (if (((rd_T65 bt195.2.1 0).f1).length : Int) = 1 then (if 0 < (bt207.2.1.length : Int) then (if (((rd_T65 bt207.2.1 0).f1).length : Int) = 1 then (ancepslaw57_awake.j0 k bt203.1 bt215.1 ((bt203.1.length : Int) != 2) bt195.1 bt195.2.1 bt207.1 bt207.2.1) else (ancepslaw57_awake.j0 k bt203.1 bt215.1 true bt195.1 bt195.2.1 bt207.1 bt207.2.1)) else (none)) else (ancepslaw57_awake.j0 k bt203.1 bt215.1 true bt195.1 bt195.2.1 bt207.1 bt207.2.1)) else (none)) else (ancepslaw57_awake.j0 k bt203.1 bt215.1 true bt195.1 bt195.2.1 bt207.1 bt207.2.1)) else (ancepslaw57_awake.j0 k bt203.1 bt215.1 true bt195.1 bt195.2.1 bt207.1 bt207.2.1)) else (ancepslaw57_awake.j0 k bt203.1 bt215.1 true bt195.1 bt195.2.1 bt207.1 bt207.2.1)) else (ancepslaw57_awake.j0 k bt203.1 bt215.1 true bt195.1 bt195.2.1 bt207.1 bt207.2.1)) else (ancepslaw57_awake.j0 k bt203.1 bt215.1 true bt195.1 bt195.2.1 bt207.1 bt207.2.1)) else (ancepslaw57_awake.j0 k bt203.1 bt215.1 true bt195.1 bt195.2.1 bt207.1 bt207.2.1)))))) = some true := by first | (rw [hy192]; with_reducible exact H) | (have H2_ := (Option.bind_some _ _).symm.trans H; rw [hy192]; with_reducible exact H2_) | (have H2_ := (Option.bind_some _ _).symm.trans H; with_reducible exact H2_) | with_reducible exact H | (rw [hy192]; exact H) | exact H
 have Ny192 := Aside0.mk hy192
 clear hy192
 replace H := Option.bind_eq_some_iff.mp H
 obtain ⟨⟨t195, t198, t201⟩, A10, H⟩ := H
 try dsimp only at H
 have A1 := Aside0.mk A10
 clear A10
 replace H := Option.bind_eq_some_iff.mp H
 obtain ⟨⟨t203, t206⟩, A20, H⟩ := H
 try dsimp only at H
 have A2 := Aside0.mk A20
 clear A20
 replace H := Option.bind_eq_some_iff.mp H
 obtain ⟨⟨t207, t210, t213⟩, A30, H⟩ := H
 try dsimp only at H
 have A3 := Aside0.mk A30
 clear A30
 replace H := Option.bind_eq_some_iff.mp H
 obtain ⟨⟨t215, t216⟩, A40, H⟩ := H
 try dsimp only at H
 have A4 := Aside0.mk A40
 clear A40
 have HC5 := Aside0.mk H
 clear H
 go_enter Try.func9, Try.ntmps9
 go_upto_region 5 with (first | ((with_reducible refine gate_dst (N := 12) rfl ?_); (try (refine gate_guard (by rfl) ?_; dsimp only)); refine Kd.R_lit Kd.string _ 9 ?hg (N := 12) ?hd (xs := ([(⟨#[97]⟩ : ByteArray), (⟨#[98]⟩ : ByteArray), (⟨#[99]⟩ : ByteArray)] : List ByteArray)) (inner := [.string (⟨#[97]⟩ : ByteArray), .string (⟨#[98]⟩ : ByteArray), .string (⟨#[99]⟩ : ByteArray)]) (ok := fun _ => True) (okp := fun _ => True) ?hr ?hp (fun _ hk => hk) trivial (Below.refl _ _) (Nat.le_refl _) (by simp) ?_; (case hd | hg => rfl); (case hr => first | (go_simp; done) | (go_simp; rfl)); (case hp => exact (Reps.one (show Kd.M Kd.string _ _ _ (⟨#[97]⟩ : ByteArray) [.string (⟨#[97]⟩ : ByteArray)] from rfl) (Reps.one (show Kd.M Kd.string _ _ _ (⟨#[98]⟩ : ByteArray) [.string (⟨#[98]⟩ : ByteArray)] from rfl) (Reps.one (show Kd.M Kd.string _ _ _ (⟨#[99]⟩ : ByteArray) [.string (⟨#[99]⟩ : ByteArray)] from rfl) (Reps.none _ _))))); intro v181 w6 ho7 hb hg_ hnew_; clear hg_ hnew_; (first | rw [← Ny180.out] at ho7 | (simp only [Int.reduceToNat] at ho7; rw [← Ny180.out] at ho7)); have n0_ := Aside0.mk (Kd.R_lower ho7 (below_size (iL HB))); have n1_ := jL HB hb; clear HB; have HO182 := n0_; have HB := n1_; clear n0_ n1_; clear hb ho7) | ((with_reducible refine gate_dst (N := 13) rfl ?_); (try (refine gate_guard (by rfl) ?_; dsimp only)); refine Kd.R_lit Kd.string _ 9 ?hg (N := 13) ?hd (xs := ([(⟨#[97, 114, 109, 97, 32, 118, 105, 114, 117, 109, 113, 117, 101]⟩ : ByteArray)] : List ByteArray)) (inner := [.string (⟨#[97, 114, 109, 97, 32, 118, 105, 114, 117, 109, 113, 117, 101]⟩ : ByteArray)]) (ok := fun _ => True) (okp := fun _ => True) ?hr ?hp (fun _ hk => hk) trivial (Below.refl _ _) (Nat.le_refl _) (by simp) ?_; (case hd | hg => rfl); (case hr => first | (go_simp; done) | (go_simp; rfl)); (case hp => exact (Reps.one (show Kd.M Kd.string _ _ _ (⟨#[97, 114, 109, 97, 32, 118, 105, 114, 117, 109, 113, 117, 101]⟩ : ByteArray) [.string (⟨#[97, 114, 109, 97, 32, 118, 105, 114, 117, 109, 113, 117, 101]⟩ : ByteArray)] from rfl) (Reps.none _ _))); intro v184 w8 ho9 hb hg_ hnew_; clear hg_ hnew_; (first | rw [← Ny183.out] at ho9 | (simp only [Int.reduceToNat] at ho9; rw [← Ny183.out] at ho9)); have n0_ := Aside0.mk (Kd.R_elder' (iR HO182) (Kd.R_base ho9) hb); have n1_ := Aside0.mk (Kd.R_lower (Kd.R_new' ho9 (Kd.R_lt (iR HO182))) (below_size (iL HB))); have n2_ := jL HB hb; clear HO182; clear HB; have HO182 := n0_; have HO185 := n1_; have HB := n2_; clear n0_ n1_ n2_; clear hb ho9) | ((with_reducible refine gate_dst (N := 14) rfl ?_); (try (refine gate_guard (by rfl) ?_; dsimp only)); refine Kd.R_lit Kd.string _ 9 ?hg (N := 14) ?hd (xs := ([(⟨#[97, 114, 109, 97, 32, 117, 105, 114, 117, 109, 113, 117, 101]⟩ : ByteArray)] : List ByteArray)) (inner := [.string (⟨#[97, 114, 109, 97, 32, 117, 105, 114, 117, 109, 113, 117, 101]⟩ : ByteArray)]) (ok := fun _ => True) (okp := fun _ => True) ?hr ?hp (fun _ hk => hk) trivial (Below.refl _ _) (Nat.le_refl _) (by simp) ?_; (case hd | hg => rfl); (case hr => first | (go_simp; done) | (go_simp; rfl)); (case hp => exact (Reps.one (show Kd.M Kd.string _ _ _ (⟨#[97, 114, 109, 97, 32, 117, 105, 114, 117, 109, 113, 117, 101]⟩ : ByteArray) [.string (⟨#[97, 114, 109, 97, 32, 117, 105, 114, 117, 109, 113, 117, 101]⟩ : ByteArray)] from rfl) (Reps.none _ _))); intro v187 w10 ho11 hb hg_ hnew_; clear hg_ hnew_; (first | rw [← Ny186.out] at ho11 | (simp only [Int.reduceToNat] at ho11; rw [← Ny186.out] at ho11)); have n0_ := Aside0.mk (Kd.R_elder' (iR HO182) (Kd.R_base ho11) hb); have n1_ := Aside0.mk (Kd.R_elder' (iR HO185) (Kd.R_base ho11) hb); have n2_ := Aside0.mk (Kd.R_lower (Kd.R_new' (Kd.R_new' ho11 (Kd.R_lt (iR HO182))) (Kd.R_lt (iR HO185))) (below_size (iL HB))); have n3_ := jL HB hb; clear HO182; clear HO185; clear HB; have HO182 := n0_; have HO185 := n1_; have HO188 := n2_; have HB := n3_; clear n0_ n1_ n2_ n3_; clear hb ho11) | ((with_reducible refine gate_dst (N := 15) rfl ?_); (try (refine gate_guard (by rfl) ?_; dsimp only)); refine Kd.R_lit Kd.string _ 9 ?hg (N := 15) ?hd (xs := ([(⟨#[97, 114, 109, 97, 32, 117, 105, 114, 117, 109, 113, 117, 101]⟩ : ByteArray)] : List ByteArray)) (inner := [.string (⟨#[97, 114, 109, 97, 32, 117, 105, 114, 117, 109, 113, 117, 101]⟩ : ByteArray)]) (ok := fun _ => True) (okp := fun _ => True) ?hr ?hp (fun _ hk => hk) trivial (Below.refl _ _) (Nat.le_refl _) (by simp) ?_; (case hd | hg => rfl); (case hr => first | (go_simp; done) | (go_simp; rfl)); (case hp => exact (Reps.one (show Kd.M Kd.string _ _ _ (⟨#[97, 114, 109, 97, 32, 117, 105, 114, 117, 109, 113, 117, 101]⟩ : ByteArray) [.string (⟨#[97, 114, 109, 97, 32, 117, 105, 114, 117, 109, 113, 117, 101]⟩ : ByteArray)] from rfl) (Reps.none _ _))); intro v190 w12 ho13 hb hg_ hnew_; clear hg_ hnew_; (first | rw [← Ny189.out] at ho13 | (simp only [Int.reduceToNat] at ho13; rw [← Ny189.out] at ho13)); have n0_ := Aside0.mk (Kd.R_elder' (iR HO182) (Kd.R_base ho13) hb); have n1_ := Aside0.mk (Kd.R_elder' (iR HO185) (Kd.R_base ho13) hb); have n2_ := Aside0.mk (Kd.R_elder' (iR HO188) (Kd.R_base ho13) hb); have n3_ := Aside0.mk (Kd.R_lower (Kd.R_new' (Kd.R_new' (Kd.R_new' ho13 (Kd.R_lt (iR HO182))) (Kd.R_lt (iR HO185))) (Kd.R_lt (iR HO188))) (below_size (iL HB))); have n4_ := jL HB hb; clear HO182; clear HO185; clear HO188; clear HB; have HO182 := n0_; have HO185 := n1_; have HO188 := n2_; have HO191 := n3_; have HB := n4_; clear n0_ n1_ n2_ n3_ n4_; clear hb ho13; obtain ⟨Ao14, co14, eo14⟩ := Kd.R_slice HO185.out; subst eo14; obtain ⟨Ao15, co15, eo15⟩ := Kd.R_slice HO188.out; subst eo15; obtain ⟨Ao16, co16, eo16⟩ := Kd.R_slice HO191.out; subst eo16) | ((with_reducible refine gate_dst (N := 16) rfl ?_); (try (refine gate_guard (by rfl) ?_; dsimp only)); refine Kd.N_lit (Kd.slice 9 Kd.string) _ 34 ?hg (N' := 16) ?hd (xs := ([y183, y186, y189] : List (List ByteArray))) (inner := [.slice Ao14 y183.length co14, .slice Ao15 y186.length co15, .slice Ao16 y189.length co16]) (ok := (fun k_ => some k_ ≠ (v181 : Value).ownBlock)) (okp := (fun k_ => some k_ ≠ (v181 : Value).ownBlock)) ?hr ?hp (fun _ hk => hk) ((show ∀ k_, w12.heap.size ≤ k_ → (fun k_ => some k_ ≠ (v181 : Value).ownBlock) k_ from fun k_ hk => Kd.fresh' (Kd.R_lt (iR HO182)) k_ hk) _ (Nat.le_refl _)) (Below.refl _ _) (Nat.le_refl _) (by simp) ?_; (case hd | hg => rfl); (case hr => first | (go_simp; done) | (go_simp; rfl)); (case hp => exact (Reps.one (show Kd.FK (Kd.slice 9 Kd.string) _ _ y183 [.slice Ao14 y183.length co14] from (Kd.FK_slice_mk (Kd.R_reads' (Kd.R_mono (ok' := (fun k_ => some k_ ≠ (v181 : Value).ownBlock)) (HO185.out) (fun k_ hk => hk.1.1.2))).2.1 (Kd.R_F (Kd.R_mono (ok' := (fun k_ => some k_ ≠ (v181 : Value).ownBlock)) (HO185.out) (fun k_ hk => hk.1.1.2))))) (Reps.one (show Kd.FK (Kd.slice 9 Kd.string) _ _ y186 [.slice Ao15 y186.length co15] from (Kd.FK_slice_mk (Kd.R_reads' (Kd.R_mono (ok' := (fun k_ => some k_ ≠ (v181 : Value).ownBlock)) (HO188.out) (fun k_ hk => hk.1.1.2))).2.1 (Kd.R_F (Kd.R_mono (ok' := (fun k_ => some k_ ≠ (v181 : Value).ownBlock)) (HO188.out) (fun k_ hk => hk.1.1.2))))) (Reps.one (show Kd.FK (Kd.slice 9 Kd.string) _ _ y189 [.slice Ao16 y189.length co16] from (Kd.FK_slice_mk (Kd.R_reads' (Kd.R_mono (ok' := (fun k_ => some k_ ≠ (v181 : Value).ownBlock)) (HO191.out) (fun k_ hk => hk.1.1.2))).2.1 (Kd.R_F (Kd.R_mono (ok' := (fun k_ => some k_ ≠ (v181 : Value).ownBlock)) (HO191.out) (fun k_ hk => hk.1.1.2))))) (Reps.none _ _))))); intro v193 w17 ho18 hb hg_ hnew_; clear hg_ hnew_; (first | rw [← Ny192.out] at ho18 | (simp only [Int.reduceToNat] at ho18; rw [← Ny192.out] at ho18)); have n0_ := jR HO182 hb; have n1_ := Aside0.mk (Kd.N_lower ho18 (below_size (iL HB))); have n2_ := jL HB hb; clear HO182; clear HB; clear HO185; clear HO188; clear HO191; have HO182 := n0_; have HO194 := n1_; have HB := n2_; clear n0_ n1_ n2_; clear hb ho18; obtain ⟨Ao19, co19, eo19⟩ := Kd.R_slice HO182.out; subst eo19; obtain ⟨Ao20, co20, eo20⟩ := Kd.N_slice HO194.out; subst eo20) | ((with_reducible refine gate_callee (f := 17) rfl ?_); refine gL_ (some 17) Try.func17 #[.slice Ao19 y180.length co19, .slice Ao20 y192.length co20] ?_; (with_reducible refine (apparatus_Collate.calls k _ _ y180 _ _ y192 t195 t198 t201 _ ?side1 ?side2 ?side3 ?side4 A1.out).mono ?_); (case side1 => repeat (first | exact (Kd.R_reads' HO182.out).2.2 | (with_reducible refine Kd.C_alloc ?_ _) | (with_reducible refine Kd.C_drewN ?_ _) | (with_reducible refine Kd.C_drew ?_))); (case side2 => exact (Kd.R_reads' HO182.out).2.1); (case side3 => repeat (first | exact (Kd.N_reads' HO194.out).2.2 | (with_reducible refine Kd.C_alloc ?_ _) | (with_reducible refine Kd.C_drewN ?_ _) | (with_reducible refine Kd.C_drew ?_))); (case side4 => exact (Kd.N_reads' HO194.out).2.1); rintro e w21 ⟨v196, v199, rfl, ho0, ho1, hb⟩; refine ⟨_, rfl, ?_⟩; have n0_ := Aside0.mk (Kd.R_elder' (iR HO182) (Kd.R_base ho0) hb); have n1_ := Aside0.mk (Kd.N_mono (Kd.N_told (Kd.N_told (Kd.N_old (iN HO194) hb) (Kd.R_base ho0)) (Kd.N_base (Kd.S_N ho1))) (fun _ h_ => h_.1)); have n2_ := Aside0.mk (Kd.R_lower (Kd.R_new' ho0 (Kd.R_lt (iR HO182))) (below_size (iL HB))); have n3_ := Aside0.mk (Kd.N_lower (Kd.N_mono (ok' := fun k_ => some k_ ≠ (v196 : Value).ownBlock ∧ some k_ ≠ (.slice Ao19 y180.length co19 : Value).ownBlock ∧ some k_ ≠ (.slice Ao20 y192.length co20 : Value).ownBlock) (Kd.S_N (Kd.S_bound (Kd.S_apart' ho1 (Kd.R_typed ho0) (by decide)))) (fun k_ hk_ => ⟨hk_.1.2, (Kd.fresh' (Kd.R_lt (iR HO182)) k_ hk_.2.1), (Kd.fresh' (Kd.N_lt (iN HO194)) k_ hk_.2.1)⟩)) (below_size (iL HB))); have n4_ := jL HB hb; clear HO182; clear HO194; clear HB; have HO182 := n0_; have HO194 := n1_; have HO197 := n2_; have HO200 := n3_; have HB := n4_; clear n0_ n1_ n2_ n3_ n4_; (try clear hb); (try clear ho0); (try clear ho1)) | ((with_reducible refine gate_dst (N := 1) rfl ?_); (try (refine gate_guard (by rfl) ?_; dsimp only)); refine bX 1 #[.slice none 0 0, .slice none 0 0] 42 ?_; intro gb202 hg w22 hbox hb; have n0_ := jR HO182 hb; have n1_ := Aside0.mk (Kd.N_below (Kd.N_elderB (iN HO194) gb202 (Nat.le_of_eq hg.symm)) hb); have n2_ := jR HO197 hb; have n3_ := Aside0.mk (Kd.N_below (Kd.N_elderB (iN HO200) gb202 (Nat.le_of_eq hg.symm)) hb); have n4_ := jL HB hb; have n5_ := Aside0.mk (hbox); have n6_ := Aside0.mk ((by rw [hg]; exact (below_size (iL HB)) : w.heap.size ≤ gb202)); have n7_ := Aside0.mk ((by rw [hg]; exact (below_size (iL HB)) : w.heap.size ≤ gb202)); clear HO182; clear HO194; clear HO197; clear HO200; clear HB; have HO182 := n0_; have HO194 := n1_; have HO197 := n2_; have HO200 := n3_; have HB := n4_; have BK202 := n5_; have GW202 := n6_; have GE202 := n7_; clear n0_ n1_ n2_ n3_ n4_ n5_ n6_ n7_; clear hb hbox hg; obtain ⟨Ao23, co23, eo23⟩ := Kd.R_slice HO197.out; subst eo23; have hcz24_0 := cZ BK202 0 (.slice none 0 0); have hcz24_1 := cZ BK202 1 (.slice none 0 0); have hfz24_0 := blk_frozen BK202.out 0; have hfz24_1 := blk_frozen BK202.out 1; obtain ⟨Ao25, co25, eo25⟩ := Kd.N_slice HO200.out; subst eo25) | ((with_reducible refine gate_callee (f := 23) rfl ?_); refine gL_ (some 22) Try.func23 #[.agg #[.slice Ao23 t195.length co23, .slice Ao25 t198.length co25]] ?_; (with_reducible refine (apparatus_Groups.calls k _ _ t195 _ _ t198 t203 t206 _ ?side1 ?side2 ?side3 ?side4 A2.out).mono ?_); (case side1 => refine (Kd.R_reads' (e := 9) (base := w.heap.size) (ok := fun k_ => (True ∧ some k_ ≠ (.slice Ao19 y180.length co19 : Value).ownBlock)) (n := t195.length) (c := co23) ?_).2.2; exact (by (with_reducible repeat (first | apply Kd.R_alloc | apply Kd.R_drewN | apply Kd.R_drew)); exact (Kd.R_mono (Kd.R_far (p := ⟨gb202, 1, none⟩) (Kd.R_far (p := ⟨gb202, 0, none⟩) (Kd.R_types HO197.out BK202.out (by decide)) (fun _ hk => hk.2) (.slice Ao23 t195.length co23)) (fun _ hk => hk.2) (.slice Ao25 t198.length co25)) (fun _ h_ => h_.1)))); (case side2 => exact (Kd.R_reads' HO197.out).2.1); (case side3 => refine (Kd.N_reads' (e := 65) (base := w.heap.size) (ok := fun k_ => ((some k_ ≠ (.slice Ao23 t195.length co23 : Value).ownBlock ∧ (some k_ ≠ (.slice Ao19 y180.length co19 : Value).ownBlock ∧ some k_ ≠ (.slice Ao20 y192.length co20 : Value).ownBlock)) ∧ k_ ≠ gb202)) (n := t198.length) (c := co25) ?_).2.2; exact (by (with_reducible repeat (first | apply Kd.N_alloc | apply Kd.N_drewN | apply Kd.N_drew)); exact (Kd.N_mono (Kd.N_far (p := ⟨gb202, 1, none⟩) (Kd.N_far (p := ⟨gb202, 0, none⟩) (Kd.N_mono HO200.out (fun k_ hk => (⟨hk, hk.2⟩ : _ ∧ k_ ≠ gb202))) (fun _ hk => hk.2) (.slice Ao23 t195.length co23)) (fun _ hk => hk.2) (.slice Ao25 t198.length co25)) (fun _ h_ => h_.1)))); (case side4 => exact (Kd.N_reads' HO200.out).2.1); rintro e w26 ⟨v204, rfl, ho0, hb⟩; refine ⟨_, rfl, ?_⟩; have n0_ := Aside0.mk (Kd.R_below (by (with_reducible repeat (first | apply Kd.R_alloc | apply Kd.R_drewN | apply Kd.R_drew)); exact (Kd.R_mono (Kd.R_far (p := ⟨gb202, 1, none⟩) (Kd.R_far (p := ⟨gb202, 0, none⟩) (Kd.R_types HO182.out BK202.out (by decide)) (fun _ hk => hk.2) (.slice Ao23 t195.length co23)) (fun _ hk => hk.2) (.slice Ao25 t198.length co25)) (fun _ h_ => h_.1))) hb); have n1_ := Aside0.mk (Kd.N_elder' (by (with_reducible repeat (first | apply Kd.N_alloc | apply Kd.N_drewN | apply Kd.N_drew)); exact (Kd.N_mono (Kd.N_far (p := ⟨gb202, 1, none⟩) (Kd.N_far (p := ⟨gb202, 0, none⟩) (Kd.N_mono HO194.out (fun k_ hk => (⟨hk, hk.2⟩ : _ ∧ k_ ≠ gb202))) (fun _ hk => hk.2) (.slice Ao23 t195.length co23)) (fun _ hk => hk.2) (.slice Ao25 t198.length co25)) (fun _ h_ => h_.1))) (Kd.N_base (Kd.S_N ho0)) hb); have n2_ := Aside0.mk (Kd.R_below (by (with_reducible repeat (first | apply Kd.R_alloc | apply Kd.R_drewN | apply Kd.R_drew)); exact (Kd.R_mono (Kd.R_far (p := ⟨gb202, 1, none⟩) (Kd.R_far (p := ⟨gb202, 0, none⟩) (Kd.R_types HO197.out BK202.out (by decide)) (fun _ hk => hk.2) (.slice Ao23 t195.length co23)) (fun _ hk => hk.2) (.slice Ao25 t198.length co25)) (fun _ h_ => h_.1))) hb); have n3_ := Aside0.mk (Kd.N_elder' (by (with_reducible repeat (first | apply Kd.N_alloc | apply Kd.N_drewN | apply Kd.N_drew)); exact (Kd.N_mono (Kd.N_far (p := ⟨gb202, 1, none⟩) (Kd.N_far (p := ⟨gb202, 0, none⟩) (Kd.N_mono HO200.out (fun k_ hk => (⟨hk, hk.2⟩ : _ ∧ k_ ≠ gb202))) (fun _ hk => hk.2) (.slice Ao23 t195.length co23)) (fun _ hk => hk.2) (.slice Ao25 t198.length co25)) (fun _ h_ => h_.1))) (Kd.N_base (Kd.S_N ho0)) hb); have n4_ := Aside0.mk (Kd.N_lower (Kd.N_mono (ok' := fun k_ => some k_ ≠ (.slice Ao19 y180.length co19 : Value).ownBlock ∧ some k_ ≠ (.slice Ao20 y192.length co20 : Value).ownBlock ∧ some k_ ≠ (.slice Ao23 t195.length co23 : Value).ownBlock ∧ some k_ ≠ (.slice Ao25 t198.length co25 : Value).ownBlock ∧ k_ ≠ gb202) (Kd.S_N (Kd.S_bound ho0)) (fun k_ hk_ => ⟨(Kd.fresh' (Kd.R_lt (by (with_reducible repeat (first | apply Kd.R_alloc | apply Kd.R_drewN | apply Kd.R_drew)); exact (Kd.R_mono (Kd.R_far (p := ⟨gb202, 1, none⟩) (Kd.R_far (p := ⟨gb202, 0, none⟩) (Kd.R_types HO182.out BK202.out (by decide)) (fun _ hk => hk.2) (.slice Ao23 t195.length co23)) (fun _ hk => hk.2) (.slice Ao25 t198.length co25)) (fun _ h_ => h_.1)))) k_ hk_.2.1), (Kd.fresh' (Kd.N_lt (by (with_reducible repeat (first | apply Kd.N_alloc | apply Kd.N_drewN | apply Kd.N_drew)); exact (Kd.N_mono (Kd.N_far (p := ⟨gb202, 1, none⟩) (Kd.N_far (p := ⟨gb202, 0, none⟩) (Kd.N_mono HO194.out (fun k_ hk => (⟨hk, hk.2⟩ : _ ∧ k_ ≠ gb202))) (fun _ hk => hk.2) (.slice Ao23 t195.length co23)) (fun _ hk => hk.2) (.slice Ao25 t198.length co25)) (fun _ h_ => h_.1)))) k_ hk_.2.1), (Kd.fresh' (Kd.R_lt (by (with_reducible repeat (first | apply Kd.R_alloc | apply Kd.R_drewN | apply Kd.R_drew)); exact (Kd.R_mono (Kd.R_far (p := ⟨gb202, 1, none⟩) (Kd.R_far (p := ⟨gb202, 0, none⟩) (Kd.R_types HO197.out BK202.out (by decide)) (fun _ hk => hk.2) (.slice Ao23 t195.length co23)) (fun _ hk => hk.2) (.slice Ao25 t198.length co25)) (fun _ h_ => h_.1)))) k_ hk_.2.1), (Kd.fresh' (Kd.N_lt (by (with_reducible repeat (first | apply Kd.N_alloc | apply Kd.N_drewN | apply Kd.N_drew)); exact (Kd.N_mono (Kd.N_far (p := ⟨gb202, 1, none⟩) (Kd.N_far (p := ⟨gb202, 0, none⟩) (Kd.N_mono HO200.out (fun k_ hk => (⟨hk, hk.2⟩ : _ ∧ k_ ≠ gb202))) (fun _ hk => hk.2) (.slice Ao23 t195.length co23)) (fun _ hk => hk.2) (.slice Ao25 t198.length co25)) (fun _ h_ => h_.1)))) k_ hk_.2.1), (Kd.freshB (g := gb202) (o := .cells #[.slice Ao23 t195.length co23, .slice Ao25 t198.length co25] 42 (0, 0)) (by (with_reducible repeat (first | apply blk_drewN | apply blk_drew | apply blk_alloc)); refine blk_put (cs := #[.slice Ao23 t195.length co23, .slice none 0 0]) ?_ 1 _ rfl; (with_reducible repeat (first | apply blk_drewN | apply blk_drew | apply blk_alloc)); refine blk_put (cs := #[.slice none 0 0, .slice none 0 0]) ?_ 0 _ rfl; (with_reducible repeat (first | apply blk_drewN | apply blk_drew | apply blk_alloc)); exact BK202.out) k_ hk_.2.1)⟩)) (below_size (iL HB))); have n5_ := Aside0.mk (blk_below (g := gb202) (o := .cells #[.slice Ao23 t195.length co23, .slice Ao25 t198.length co25] 42 (0, 0)) (by (with_reducible repeat (first | apply blk_drewN | apply blk_drew | apply blk_alloc)); refine blk_put (cs := #[.slice Ao23 t195.length co23, .slice none 0 0]) ?_ 1 _ rfl; (with_reducible repeat (first | apply blk_drewN | apply blk_drew | apply blk_alloc)); refine blk_put (cs := #[.slice none 0 0, .slice none 0 0]) ?_ 0 _ rfl; (with_reducible repeat (first | apply blk_drewN | apply blk_drew | apply blk_alloc)); exact BK202.out) hb); have n6_ := jL HB hb; clear HO182; clear HO194; clear HO197; clear HO200; clear BK202; clear HB; have HO182 := n0_; have HO194 := n1_; have HO197 := n2_; have HO200 := n3_; have HO205 := n4_; have BK202 := n5_; have HB := n6_; clear n0_ n1_ n2_ n3_ n4_ n5_ n6_; (try clear hb); (try clear ho0); have hcz27_0 := cZ BK202 0 (.slice Ao23 t195.length co23); have hcz27_1 := cZ BK202 1 (.slice Ao25 t198.length co25); have hfz27_0 := blk_frozen BK202.out 0; have hfz27_1 := blk_frozen BK202.out 1) | ((with_reducible refine gate_callee (f := 27) rfl ?_); refine gL_ (some 27) Try.func27 #[.agg #[.slice Ao23 t195.length co23, .slice Ao25 t198.length co25], .int .i64 0, .int .i64 0] ?_; (with_reducible refine (apparatus_Choose.calls k _ _ t195 _ _ t198 0 0 t207 t210 t213 _ ?side1 ?side2 ?side3 ?side4 A3.out).mono ?_); (case side1 => repeat (first | exact (Kd.R_reads' HO197.out).2.2 | (with_reducible refine Kd.C_alloc ?_ _) | (with_reducible refine Kd.C_drewN ?_ _) | (with_reducible refine Kd.C_drew ?_))); (case side2 => exact (Kd.R_reads' HO197.out).2.1); (case side3 => repeat (first | exact (Kd.N_reads' HO200.out).2.2 | (with_reducible refine Kd.C_alloc ?_ _) | (with_reducible refine Kd.C_drewN ?_ _) | (with_reducible refine Kd.C_drew ?_))); (case side4 => exact (Kd.N_reads' HO200.out).2.1); rintro e w28 ⟨v208, v211, rfl, ho0, ho1, hb⟩; refine ⟨_, rfl, ?_⟩; have n0_ := Aside0.mk (Kd.R_elder' (iR HO182) (Kd.R_base ho0) hb); have n1_ := Aside0.mk (Kd.N_mono (Kd.N_told (Kd.N_told (Kd.N_old (iN HO194) hb) (Kd.R_base ho0)) (Kd.N_base (Kd.S_N ho1))) (fun _ h_ => h_.1)); have n2_ := Aside0.mk (Kd.R_elder' (iR HO197) (Kd.R_base ho0) hb); have n3_ := Aside0.mk (Kd.N_mono (Kd.N_told (Kd.N_told (Kd.N_old (iN HO200) hb) (Kd.R_base ho0)) (Kd.N_base (Kd.S_N ho1))) (fun _ h_ => h_.1)); have n4_ := Aside0.mk (Kd.N_mono (Kd.N_told (Kd.N_told (Kd.N_old (iN HO205) hb) (Kd.R_base ho0)) (Kd.N_base (Kd.S_N ho1))) (fun _ h_ => h_.1)); have n5_ := Aside0.mk (Kd.R_lower (Kd.R_new' (Kd.R_new' ho0 (Kd.R_lt (iR HO182))) (Kd.R_lt (iR HO197))) (below_size (iL HB))); have n6_ := Aside0.mk (Kd.N_lower (Kd.N_mono (ok' := fun k_ => some k_ ≠ (v208 : Value).ownBlock ∧ some k_ ≠ (.slice Ao19 y180.length co19 : Value).ownBlock ∧ some k_ ≠ (.slice Ao20 y192.length co20 : Value).ownBlock ∧ some k_ ≠ (.slice Ao23 t195.length co23 : Value).ownBlock ∧ some k_ ≠ (.slice Ao25 t198.length co25 : Value).ownBlock ∧ some k_ ≠ (v204 : Value).ownBlock ∧ k_ ≠ gb202) (Kd.S_N (Kd.S_bound (Kd.S_apart' ho1 (Kd.R_typed ho0) (by decide)))) (fun k_ hk_ => ⟨hk_.1.2, (Kd.fresh' (Kd.R_lt (iR HO182)) k_ hk_.2.1), (Kd.fresh' (Kd.N_lt (iN HO194)) k_ hk_.2.1), (Kd.fresh' (Kd.R_lt (iR HO197)) k_ hk_.2.1), (Kd.fresh' (Kd.N_lt (iN HO200)) k_ hk_.2.1), (Kd.fresh' (Kd.N_lt (iN HO205)) k_ hk_.2.1), (Kd.freshB (g := gb202) (o := .cells #[.slice Ao23 t195.length co23, .slice Ao25 t198.length co25] 42 (0, 0)) (iB BK202) k_ hk_.2.1)⟩)) (below_size (iL HB))); have n7_ := jB BK202 hb; have n8_ := jL HB hb; clear HO182; clear HO194; clear HO197; clear HO200; clear HO205; clear BK202; clear HB; have HO182 := n0_; have HO194 := n1_; have HO197 := n2_; have HO200 := n3_; have HO205 := n4_; have HO209 := n5_; have HO212 := n6_; have BK202 := n7_; have HB := n8_; clear n0_ n1_ n2_ n3_ n4_ n5_ n6_ n7_ n8_; (try clear hb); (try clear ho0); (try clear ho1)) | ((with_reducible refine gate_dst (N := 5) rfl ?_); (try (refine gate_guard (by rfl) ?_; dsimp only)); refine bX 5 #[.slice none 0 0, .slice none 0 0] 42 ?_; intro gb214 hg w29 hbox hb; have n0_ := jR HO182 hb; have n1_ := Aside0.mk (Kd.N_below (Kd.N_elderB (iN HO194) gb214 (Nat.le_of_eq hg.symm)) hb); have n2_ := jR HO197 hb; have n3_ := Aside0.mk (Kd.N_below (Kd.N_elderB (iN HO200) gb214 (Nat.le_of_eq hg.symm)) hb); have n4_ := Aside0.mk (Kd.N_below (Kd.N_elderB (iN HO205) gb214 (Nat.le_of_eq hg.symm)) hb); have n5_ := jR HO209 hb; have n6_ := Aside0.mk (Kd.N_below (Kd.N_elderB (iN HO212) gb214 (Nat.le_of_eq hg.symm)) hb); have n7_ := jB BK202 hb; have n8_ := jL HB hb; have n9_ := Aside0.mk (hbox); have n10_ := Aside0.mk ((by rw [hg]; exact (below_size (iL HB)) : w.heap.size ≤ gb214)); have n11_ := Aside0.mk ((by rw [hg]; exact (below_size (iL HB)) : w.heap.size ≤ gb214)); have n12_ := Aside0.mk ((by rw [hg]; exact Nat.ne_of_lt (blk_lt (g := gb202) (o := .cells #[.slice Ao23 t195.length co23, .slice Ao25 t198.length co25] 42 (0, 0)) (iB BK202)) : gb202 ≠ gb214)); have n13_ := Aside0.mk ((by rw [hg]; exact Nat.ne_of_gt (blk_lt (g := gb202) (o := .cells #[.slice Ao23 t195.length co23, .slice Ao25 t198.length co25] 42 (0, 0)) (iB BK202)) : gb214 ≠ gb202)); clear HO182; clear HO194; clear HO197; clear HO200; clear HO205; clear HO209; clear HO212; clear BK202; clear HB; have HO182 := n0_; have HO194 := n1_; have HO197 := n2_; have HO200 := n3_; have HO205 := n4_; have HO209 := n5_; have HO212 := n6_; have BK202 := n7_; have HB := n8_; have BK214 := n9_; have GW214 := n10_; have GE214 := n11_; have NB202_214 := n12_; have NB214_202 := n13_; clear n0_ n1_ n2_ n3_ n4_ n5_ n6_ n7_ n8_ n9_ n10_ n11_ n12_ n13_; clear hb hbox hg; obtain ⟨Ao30, co30, eo30⟩ := Kd.R_slice HO209.out; subst eo30; have hnb31 := NB214_202.out; have hnc31 := NB202_214.out; have hcz32_0 := cZ BK214 0 (.slice none 0 0); have hcz32_1 := cZ BK214 1 (.slice none 0 0); have hfz32_0 := blk_frozen BK214.out 0; have hfz32_1 := blk_frozen BK214.out 1; obtain ⟨Ao33, co33, eo33⟩ := Kd.N_slice HO212.out; subst eo33) | ((with_reducible refine gate_callee (f := 10) rfl ?_); refine gL_ (some 31) Try.func10 #[.string (⟨#[97, 114, 109, 97, 32, 118, 105, 114, 117, 109, 113, 117, 101, 32, 99, 97, 110, 111]⟩ : ByteArray), .string (⟨#[97, 114, 109, 97, 32, 99, 97, 110, 111]⟩ : ByteArray)] ?_; (with_reducible refine (apparatus_Words.calls k (⟨#[97, 114, 109, 97, 32, 118, 105, 114, 117, 109, 113, 117, 101, 32, 99, 97, 110, 111]⟩ : ByteArray) (⟨#[97, 114, 109, 97, 32, 99, 97, 110, 111]⟩ : ByteArray) t215 t216 _ A4.out).mono ?_); rintro e w34 ⟨v217, rfl, ho0, hb⟩; refine ⟨_, rfl, ?_⟩; have n0_ := Aside0.mk (Kd.R_below (by (with_reducible repeat (first | apply Kd.R_alloc | apply Kd.R_drewN | apply Kd.R_drew)); exact (Kd.R_mono (Kd.R_far (p := ⟨gb214, 1, none⟩) (Kd.R_far (p := ⟨gb214, 0, none⟩) (Kd.R_types HO182.out BK214.out (by decide)) (fun _ hk => hk.2) (.slice Ao30 t207.length co30)) (fun _ hk => hk.2) (.slice Ao33 t210.length co33)) (fun _ h_ => h_.1))) hb); have n1_ := Aside0.mk (Kd.N_elder' (by (with_reducible repeat (first | apply Kd.N_alloc | apply Kd.N_drewN | apply Kd.N_drew)); exact (Kd.N_mono (Kd.N_far (p := ⟨gb214, 1, none⟩) (Kd.N_far (p := ⟨gb214, 0, none⟩) (Kd.N_mono HO194.out (fun k_ hk => (⟨hk, hk.2⟩ : _ ∧ k_ ≠ gb214))) (fun _ hk => hk.2) (.slice Ao30 t207.length co30)) (fun _ hk => hk.2) (.slice Ao33 t210.length co33)) (fun _ h_ => h_.1))) (Kd.R_base ho0) hb); have n2_ := Aside0.mk (Kd.R_below (by (with_reducible repeat (first | apply Kd.R_alloc | apply Kd.R_drewN | apply Kd.R_drew)); exact (Kd.R_mono (Kd.R_far (p := ⟨gb214, 1, none⟩) (Kd.R_far (p := ⟨gb214, 0, none⟩) (Kd.R_types HO197.out BK214.out (by decide)) (fun _ hk => hk.2) (.slice Ao30 t207.length co30)) (fun _ hk => hk.2) (.slice Ao33 t210.length co33)) (fun _ h_ => h_.1))) hb); have n3_ := Aside0.mk (Kd.N_elder' (by (with_reducible repeat (first | apply Kd.N_alloc | apply Kd.N_drewN | apply Kd.N_drew)); exact (Kd.N_mono (Kd.N_far (p := ⟨gb214, 1, none⟩) (Kd.N_far (p := ⟨gb214, 0, none⟩) (Kd.N_mono HO200.out (fun k_ hk => (⟨hk, hk.2⟩ : _ ∧ k_ ≠ gb214))) (fun _ hk => hk.2) (.slice Ao30 t207.length co30)) (fun _ hk => hk.2) (.slice Ao33 t210.length co33)) (fun _ h_ => h_.1))) (Kd.R_base ho0) hb); have n4_ := Aside0.mk (Kd.N_elder' (by (with_reducible repeat (first | apply Kd.N_alloc | apply Kd.N_drewN | apply Kd.N_drew)); exact (Kd.N_mono (Kd.N_far (p := ⟨gb214, 1, none⟩) (Kd.N_far (p := ⟨gb214, 0, none⟩) (Kd.N_mono HO205.out (fun k_ hk => (⟨hk, hk.2⟩ : _ ∧ k_ ≠ gb214))) (fun _ hk => hk.2) (.slice Ao30 t207.length co30)) (fun _ hk => hk.2) (.slice Ao33 t210.length co33)) (fun _ h_ => h_.1))) (Kd.R_base ho0) hb); have n5_ := Aside0.mk (Kd.R_below (by (with_reducible repeat (first | apply Kd.R_alloc | apply Kd.R_drewN | apply Kd.R_drew)); exact (Kd.R_mono (Kd.R_far (p := ⟨gb214, 1, none⟩) (Kd.R_far (p := ⟨gb214, 0, none⟩) (Kd.R_types HO209.out BK214.out (by decide)) (fun _ hk => hk.2) (.slice Ao30 t207.length co30)) (fun _ hk => hk.2) (.slice Ao33 t210.length co33)) (fun _ h_ => h_.1))) hb); have n6_ := Aside0.mk (Kd.N_elder' (by (with_reducible repeat (first | apply Kd.N_alloc | apply Kd.N_drewN | apply Kd.N_drew)); exact (Kd.N_mono (Kd.N_far (p := ⟨gb214, 1, none⟩) (Kd.N_far (p := ⟨gb214, 0, none⟩) (Kd.N_mono HO212.out (fun k_ hk => (⟨hk, hk.2⟩ : _ ∧ k_ ≠ gb214))) (fun _ hk => hk.2) (.slice Ao30 t207.length co30)) (fun _ hk => hk.2) (.slice Ao33 t210.length co33)) (fun _ h_ => h_.1))) (Kd.R_base ho0) hb); have n7_ := Aside0.mk (Kd.R_lower ho0 (below_size (iL HB))); have n8_ := Aside0.mk (blk_below (g := gb202) (o := .cells #[.slice Ao23 t195.length co23, .slice Ao25 t198.length co25] 42 (0, 0)) (by (with_reducible repeat (first | apply blk_drewN | apply blk_drew | apply blk_alloc)); refine blk_far ?_ NB202_214.out _; (with_reducible repeat (first | apply blk_drewN | apply blk_drew | apply blk_alloc)); refine blk_far ?_ NB202_214.out _; (with_reducible repeat (first | apply blk_drewN | apply blk_drew | apply blk_alloc)); exact BK202.out) hb); have n9_ := Aside0.mk (blk_below (g := gb214) (o := .cells #[.slice Ao30 t207.length co30, .slice Ao33 t210.length co33] 42 (0, 0)) (by (with_reducible repeat (first | apply blk_drewN | apply blk_drew | apply blk_alloc)); refine blk_put (cs := #[.slice Ao30 t207.length co30, .slice none 0 0]) ?_ 1 _ rfl; (with_reducible repeat (first | apply blk_drewN | apply blk_drew | apply blk_alloc)); refine blk_put (cs := #[.slice none 0 0, .slice none 0 0]) ?_ 0 _ rfl; (with_reducible repeat (first | apply blk_drewN | apply blk_drew | apply blk_alloc)); exact BK214.out) hb); have n10_ := jL HB hb; clear HO182; clear HO194; clear HO197; clear HO200; clear HO205; clear HO209; clear HO212; clear BK202; clear BK214; clear HB; have HO182 := n0_; have HO194 := n1_; have HO197 := n2_; have HO200 := n3_; have HO205 := n4_; have HO209 := n5_; have HO212 := n6_; have HO218 := n7_; have BK202 := n8_; have BK214 := n9_; have HB := n10_; clear n0_ n1_ n2_ n3_ n4_ n5_ n6_ n7_ n8_ n9_ n10_; (try clear hb); (try clear ho0)))
 (try simp only [Act.put, List.setIfInBounds_toArray, List.set_cons_zero, List.set_cons_succ])
 go_cut [82] (fun v82 wc => ∃ (kq : Nat) (x82_4 : Bool), v82 = .bool x82_4 ∧ Aside0 (ancepslaw57_awake.j0 kq t203 t215 x82_4 t195 t198 t207 t210 = some true) ∧ Aside0 (kq ≤ k) ∧ Aside0 (Kd.N (Kd.slice 9 Kd.string) 34 wc w.heap.size (fun k_ => some k_ ≠ (v217 : Value).ownBlock ∧ some k_ ≠ ((.slice Ao23 t195.length co23) : Value).ownBlock ∧ some k_ ≠ ((.slice Ao25 t198.length co25) : Value).ownBlock ∧ some k_ ≠ ((.slice Ao30 t207.length co30) : Value).ownBlock ∧ some k_ ≠ ((.slice Ao33 t210.length co33) : Value).ownBlock ∧ k_ ≠ gb202 ∧ k_ ≠ gb214) v204 t203) ∧ Aside0 (Kd.R k29 29 wc w.heap.size (fun _ => True) v217 t215) ∧ Aside0 (Kd.R Kd.string 9 wc w.heap.size (fun k_ => some k_ ≠ ((.slice Ao30 t207.length co30) : Value).ownBlock) (.slice Ao23 t195.length co23) t195) ∧ Aside0 (Kd.N k65 65 wc w.heap.size (fun k_ => some k_ ≠ (v204 : Value).ownBlock ∧ some k_ ≠ (v217 : Value).ownBlock ∧ some k_ ≠ ((.slice Ao23 t195.length co23) : Value).ownBlock ∧ some k_ ≠ ((.slice Ao30 t207.length co30) : Value).ownBlock ∧ some k_ ≠ ((.slice Ao33 t210.length co33) : Value).ownBlock ∧ k_ ≠ gb202 ∧ k_ ≠ gb214) (.slice Ao25 t198.length co25) t198) ∧ Aside0 (Kd.R Kd.string 9 wc w.heap.size (fun k_ => some k_ ≠ ((.slice Ao23 t195.length co23) : Value).ownBlock) (.slice Ao30 t207.length co30) t207) ∧ Aside0 (Kd.N k65 65 wc w.heap.size (fun k_ => some k_ ≠ (v204 : Value).ownBlock ∧ some k_ ≠ (v217 : Value).ownBlock ∧ some k_ ≠ ((.slice Ao23 t195.length co23) : Value).ownBlock ∧ some k_ ≠ ((.slice Ao25 t198.length co25) : Value).ownBlock ∧ some k_ ≠ ((.slice Ao30 t207.length co30) : Value).ownBlock ∧ k_ ≠ gb202 ∧ k_ ≠ gb214) (.slice Ao33 t210.length co33) t210) ∧ Aside0 (wc.heap[gb202]? = some (.cells #[(.slice Ao23 t195.length co23), (.slice Ao25 t198.length co25)] 42 (0, 0))) ∧ Aside0 (wc.heap[gb214]? = some (.cells #[(.slice Ao30 t207.length co30), (.slice Ao33 t210.length co33)] 42 (0, 0))) ∧ Aside0 (Below w.heap.size w wc))
 case first =>
  have H := HC5.out
  clear HC5
  by_cases c35 : t201 = 0
  ·rw [if_pos c35] at H
   have c35b0 : (t201 == 0) = true := beq_iff_eq.mpr c35
   have c35b1 : (t201 != 0) = false := bne_eq_false_iff_eq.mpr c35
   clear c35
   (first | rw [c35b0] | (simp only [i64_w, i32_w]; rw [c35b0]) | skip)
   by_cases c36 : t206 = 0
   ·rw [if_pos c36] at H
    have c36b0 : (t206 == 0) = true := beq_iff_eq.mpr c36
    have c36b1 : (t206 != 0) = false := bne_eq_false_iff_eq.mpr c36
    clear c36
    by_cases c37 : t213 = 0
    ·rw [if_pos c37] at H
     have c37b0 : (t213 == 0) = true := beq_iff_eq.mpr c37
     have c37b1 : (t213 != 0) = false := bne_eq_false_iff_eq.mpr c37
     clear c37
     by_cases c38 : t216 = 0
     ·rw [if_pos c38] at H
      have c38b0 : (t216 == 0) = true := beq_iff_eq.mpr c38
      have c38b1 : (t216 != 0) = false := bne_eq_false_iff_eq.mpr c38
      clear c38
      by_cases c39 : (t198.length : Int) = 1
      ·rw [if_pos c39] at H
       have c39b0 : ((t198.length : Int) == 1) = true := beq_iff_eq.mpr c39
       have c39b1 : ((t198.length : Int) != 1) = false := bne_eq_false_iff_eq.mpr c39
       clear c39
       by_cases c40 : (t210.length : Int) = 1
       ·rw [if_pos c40] at H
        have c40b0 : ((t210.length : Int) == 1) = true := beq_iff_eq.mpr c40
        have c40b1 : ((t210.length : Int) != 1) = false := bne_eq_false_iff_eq.mpr c40
        clear c40
        by_cases c41 : 0 < (t198.length : Int)
        ·rw [if_pos c41] at H
         have c41b0 : decide (0 < (t198.length : Int)) = true := decide_eq_true c41
         have c41b1 : decide (0 < t198.length) = true := decide_eq_true (by omega)
         clear c41
         by_cases c42 : (((rd_T65 t198 0).f1).length : Int) = 1
         ·rw [if_pos c42] at H
          have c42b0 : ((((rd_T65 t198 0).f1).length : Int) == 1) = true := beq_iff_eq.mpr c42
          have c42b1 : ((((rd_T65 t198 0).f1).length : Int) != 1) = false := bne_eq_false_iff_eq.mpr c42
          clear c42
          by_cases c43 : 0 < (t210.length : Int)
          ·rw [if_pos c43] at H
           have c43b0 : decide (0 < (t210.length : Int)) = true := decide_eq_true c43
           have c43b1 : decide (0 < t210.length) = true := decide_eq_true (by omega)
           clear c43
           by_cases c44 : (((rd_T65 t210 0).f1).length : Int) = 1
           ·rw [if_pos c44] at H
            have c44b0 : ((((rd_T65 t210 0).f1).length : Int) == 1) = true := beq_iff_eq.mpr c44
            have c44b1 : ((((rd_T65 t210 0).f1).length : Int) != 1) = false := bne_eq_false_iff_eq.mpr c44
            clear c44
            have H' := Aside0.mk H
            clear H
            have hnb45 := NB202_214.out
            have hnc45 := NB214_202.out
            have hcz46_0 := cZ BK202 0 (.slice Ao23 t195.length co23)
            have hcz46_1 := cZ BK202 1 (.slice Ao25 t198.length co25)
            have hfz46_0 := blk_frozen BK202.out 0
            have hfz46_1 := blk_frozen BK202.out 1
            have hcz47_0 := cZ BK214 0 (.slice Ao30 t207.length co30)
            have hcz47_1 := cZ BK214 1 (.slice Ao33 t210.length co33)
            have hfz47_0 := blk_frozen BK214.out 0
            have hfz47_1 := blk_frozen BK214.out 1
            have p219 : 0 ≤ (0 : Int) := (by omega)
            have q219 := oD (0 < (t198.length : Int))
            obtain ⟨ad219, A219_1, c219_1, e219, hx219_0, hx219_1, hl219_1, hi219_1⟩ := at_T65 (Kd.N_reads' HO200.out).2.2 0 p219 q219
            cases e219
            obtain ⟨ce219, hce219, hMe219, hcc219⟩ := Kd.N_get HO200.out z65 0 p219 (by first | exact q219 | exact of_decide_eq_true (by first | (with_reducible assumption) | assumption) | (have e_ := (Kd.N_reads' HO200.out).1; omega))
            obtain ⟨ua219_1, uc219_1, rfl, ul219_1, ge219_1⟩ := k65_openF hMe219
            have hv219_1 := hcc219 1 _ rfl
            rw [add_field _ _ 1 (by omega)] at hv219_1
            replace hv219_1 := Option.some.inj (hv219_1.symm.trans hx219_1)
            injection hv219_1 with hva_ hvn_ hvc_
            rw [hva_] at ge219_1
            rw [hvc_] at ul219_1
            have HL219_1 := Aside0.mk (show Kd.V k67 67 _ w.heap.size _ _ ((rd_T65 t198 0).f1) from Kd.V_mk ul219_1 ge219_1)
            clear hva_ hvn_ hvc_ ge219_1 ul219_1
            clear hcc219 hce219
            have qi219 : (0 < t198.length) = True := eq_true (by omega)
            (try rw [show ((0 : Int)).toNat = 0 from rfl] at hx219_0)
            (try rw [show 0 * 2 = 0 from rfl] at hx219_0)
            (try rw [Addr.add_zero'] at hx219_0)
            (try rw [show ((0 : Int)).toNat = 0 from rfl] at hx219_1)
            (try rw [show 0 * 2 = 0 from rfl] at hx219_1)
            (try rw [Addr.add_zero'] at hx219_1)
            have HR219_1 := Aside0.mk hi219_1
            have HC219_1 := Aside0.mk hl219_1
            clear hi219_1 hl219_1
            replace p219 := eq_true p219
            replace q219 := eq_true q219
            have p220 : 0 ≤ (0 : Int) := (by omega)
            have q220 := oD (0 < (t210.length : Int))
            obtain ⟨ad220, A220_1, c220_1, e220, hx220_0, hx220_1, hl220_1, hi220_1⟩ := at_T65 (Kd.N_reads' HO212.out).2.2 0 p220 q220
            cases e220
            obtain ⟨ce220, hce220, hMe220, hcc220⟩ := Kd.N_get HO212.out z65 0 p220 (by first | exact q220 | exact of_decide_eq_true (by first | (with_reducible assumption) | assumption) | (have e_ := (Kd.N_reads' HO212.out).1; omega))
            obtain ⟨ua220_1, uc220_1, rfl, ul220_1, ge220_1⟩ := k65_openF hMe220
            have hv220_1 := hcc220 1 _ rfl
            rw [add_field _ _ 1 (by omega)] at hv220_1
            replace hv220_1 := Option.some.inj (hv220_1.symm.trans hx220_1)
            injection hv220_1 with hva_ hvn_ hvc_
            rw [hva_] at ge220_1
            rw [hvc_] at ul220_1
            have HL220_1 := Aside0.mk (show Kd.V k67 67 _ w.heap.size _ _ ((rd_T65 t210 0).f1) from Kd.V_mk ul220_1 ge220_1)
            clear hva_ hvn_ hvc_ ge220_1 ul220_1
            clear hcc220 hce220
            have qi220 : (0 < t210.length) = True := eq_true (by omega)
            (try rw [show ((0 : Int)).toNat = 0 from rfl] at hx220_0)
            (try rw [show 0 * 2 = 0 from rfl] at hx220_0)
            (try rw [Addr.add_zero'] at hx220_0)
            (try rw [show ((0 : Int)).toNat = 0 from rfl] at hx220_1)
            (try rw [show 0 * 2 = 0 from rfl] at hx220_1)
            (try rw [Addr.add_zero'] at hx220_1)
            have HR220_1 := Aside0.mk hi220_1
            have HC220_1 := Aside0.mk hl220_1
            clear hi220_1 hl220_1
            replace p220 := eq_true p220
            replace q220 := eq_true q220
            obtain ⟨Ao48, co48, eo48⟩ := Kd.N_slice HO205.out
            subst eo48
            go_wp2
            go_meet
            case rel => exact ⟨_, (((t203.length : Int) != 2)), eV, H', ⟨by first | omega | exact Nat.le_refl _⟩, ⟨by (with_reducible repeat (first | apply Kd.N_alloc | apply Kd.N_drewN | apply Kd.N_drew)); exact Kd.N_mono HO205.out (fun _ hk => ⟨hk.2, ⟨hk.1.1.1.1.2.2.1, ⟨hk.1.1.1.1.2.2.2.1, ⟨hk.1.1.1.2, ⟨hk.1.1.2, ⟨hk.1.1.1.1.2.2.2.2, hk.1.2⟩⟩⟩⟩⟩⟩)⟩, ⟨iR HO218⟩, ⟨by (with_reducible repeat (first | apply Kd.R_alloc | apply Kd.R_drewN | apply Kd.R_drew)); exact Kd.R_mono HO197.out (fun _ hk => hk.2)⟩, ⟨by (with_reducible repeat (first | apply Kd.N_alloc | apply Kd.N_drewN | apply Kd.N_drew)); exact Kd.N_mono HO200.out (fun _ hk => ⟨hk.1.1.1.1.2, ⟨hk.2, ⟨hk.1.1.1.1.1.1.1, ⟨hk.1.1.1.2, ⟨hk.1.1.2, ⟨hk.1.1.1.1.1.2, hk.1.2⟩⟩⟩⟩⟩⟩)⟩, ⟨by (with_reducible repeat (first | apply Kd.R_alloc | apply Kd.R_drewN | apply Kd.R_drew)); exact Kd.R_mono HO209.out (fun _ hk => hk.2)⟩, ⟨by (with_reducible repeat (first | apply Kd.N_alloc | apply Kd.N_drewN | apply Kd.N_drew)); exact Kd.N_mono HO212.out (fun _ hk => ⟨hk.1.1.2.2.2.2.2.1, ⟨hk.2, ⟨hk.1.1.2.2.2.1, ⟨hk.1.1.2.2.2.2.1, ⟨hk.1.1.1, ⟨hk.1.1.2.2.2.2.2.2, hk.1.2⟩⟩⟩⟩⟩⟩)⟩, ⟨iB BK202⟩, ⟨iB BK214⟩, ⟨iL HB⟩⟩
           ·rw [if_neg c44] at H
            exact absurd H (by cases k <;> simp [ancepslaw57_awake.j0])
          ·rw [if_neg c43] at H
           exact absurd H (by simp)
         ·rw [if_neg c42] at H
          exact absurd H (by cases k <;> simp [ancepslaw57_awake.j0])
        ·rw [if_neg c41] at H
         exact absurd H (by simp)
       ·rw [if_neg c40] at H
        exact absurd H (by cases k <;> simp [ancepslaw57_awake.j0])
      ·rw [if_neg c39] at H
       exact absurd H (by cases k <;> simp [ancepslaw57_awake.j0])
     ·rw [if_neg c38] at H
      exact absurd H (by cases k <;> simp [ancepslaw57_awake.j0])
    ·rw [if_neg c37] at H
     exact absurd H (by cases k <;> simp [ancepslaw57_awake.j0])
   ·rw [if_neg c36] at H
    exact absurd H (by cases k <;> simp [ancepslaw57_awake.j0])
  ·rw [if_neg c35] at H
   exact absurd H (by cases k <;> simp [ancepslaw57_awake.j0])
 case rest =>
  clear HC5
  (try clear c1); (try clear c2); (try clear p2); (try clear q2); (try clear hx2); (try clear qi2); (try clear c3); (try clear c4); (try clear c5); (try clear c9); (try clear c10); (try clear c17); (try clear c21); (try clear p21); (try clear q21); (try clear hx21); (try clear qi21); (try clear c22); (try clear p22); (try clear q22); (try clear hx22); (try clear qi22); (try clear c23); (try clear c27); (try clear c31); (try clear c35); (try clear c35b0); (try clear c35b1); (try clear c36); (try clear c36b0); (try clear c36b1); (try clear c37); (try clear c37b0); (try clear c37b1); (try clear c38); (try clear c38b0); (try clear c38b1); (try clear c39); (try clear c39b0); (try clear c39b1); (try clear c40); (try clear c40b0); (try clear c40b1); (try clear c41); (try clear c41b0); (try clear c41b1); (try clear c42); (try clear c42b0); (try clear c42b1); (try clear c43); (try clear c43b0); (try clear c43b1); (try clear c44); (try clear c44b0); (try clear c44b1); (try clear c45); (try clear c49); (try clear c52); (try clear c55); (try clear c58); (try clear hcz24_0); (try clear hcz24_1); (try clear hcz27_0); (try clear hcz27_1); (try clear hcz32_0); (try clear hcz32_1); (try clear hcz46_0); (try clear hcz46_1); (try clear hcz47_0); (try clear hcz47_1); (try clear hcz50_0); (try clear hcz50_1); (try clear hcz51_0); (try clear hcz51_1); (try clear hcz53_0); (try clear hcz53_1); (try clear hcz54_0); (try clear hcz54_1); (try clear hcz56_0); (try clear hcz56_1); (try clear hcz57_0); (try clear hcz57_1); (try clear hcz59_0); (try clear hcz59_1); (try clear hfz24_0); (try clear hfz24_1); (try clear hfz27_0); (try clear hfz27_1); (try clear hfz32_0); (try clear hfz32_1); (try clear hfz46_0); (try clear hfz46_1); (try clear hfz47_0); (try clear hfz47_1); (try clear hfz50_0); (try clear hfz50_1); (try clear hfz51_0); (try clear hfz51_1); (try clear hfz53_0); (try clear hfz53_1); (try clear hfz54_0); (try clear hfz54_1); (try clear hfz56_0); (try clear hfz56_1); (try clear hfz57_0); (try clear hfz57_1); (try clear hfz59_0); (try clear hfz59_1); (try clear hx219_0); (try clear hx219_1); (try clear hx220_0); (try clear hx220_1); (try clear p219); (try clear p220); (try clear q219); (try clear q220)
  obtain ⟨kq, x82_4, rfl, HA, HJ4, HO_3, HO_7, HO_203000, HO_203001, HO_215000, HO_215001, BK202, BK214, HB⟩ := hcut
  cases kq with
  | zero => exact absurd HA.out (by simp [ancepslaw57_awake.j0])
  | succ kj4 =>
   have H := HA.out
   clear HA
   simp only [ancepslaw57_awake.j0] at H
   by_cases c60 : x82_4 = true
   ·subst c60
    have H1 : (some false) = some true := by rw [if_pos rfl] at H; exact H
    clear H
    have H := H1
    clear H1
    exact absurd (Option.some.inj H) (by decide)
   ·replace c60 := Bool.eq_false_iff.mpr c60
    subst c60
    have H1 : (if 0 < (t198.length : Int) then (if ((rd_T65 t198 0).f0).toList = ([97, 114, 109, 97, 32, 118, 105, 114, 117, 109, 113, 117, 101] : List UInt8) then (if 0 < (((rd_T65 t198 0).f1).length : Int) then (if 0 < (t210.length : Int) then (if ((rd_T65 t210 0).f0).toList = ([97, 114, 109, 97, 32, 117, 105, 114, 117, 109, 113, 117, 101] : List UInt8) then (if 0 < (((rd_T65 t210 0).f1).length : Int) then (if ((((rd_T67 ((rd_T65 t198 0).f1) 0).f0).toList) == ([97, 114, 109, 97, 32, 117, 105, 114, 117, 109, 113, 117, 101] : List UInt8) && (((rd_T67 ((rd_T65 t198 0).f1) 0).f1) == 6)) = true then (if ((((rd_T67 ((rd_T65 t210 0).f1) 0).f0).toList) == ([97, 114, 109, 97, 32, 118, 105, 114, 117, 109, 113, 117, 101] : List UInt8) && (((rd_T67 ((rd_T65 t210 0).f1) 0).f1) == 1)) = true then (if 1 < (t203.length : Int) then ((slices_Equal_string_string.f kj4 (rd_L8 t203 1) (([(⟨#[98]⟩ : ByteArray), (⟨#[99]⟩ : ByteArray)] : List ByteArray))).bind fun t231 => (if t231 = true then ((api_Pair.f kj4 t215 (([(⟨0, 0⟩ : S29), (⟨1, (-1)⟩ : S29), (⟨2, 1⟩ : S29)] : List (S29)))).bind fun t235 => (some t235)) else (some false))) else (none)) else (some false)) else (some false)) else (none)) else (if ((((rd_T67 ((rd_T65 t198 0).f1) 0).f0).toList) == ([97, 114, 109, 97, 32, 117, 105, 114, 117, 109, 113, 117, 101] : List UInt8) && (((rd_T67 ((rd_T65 t198 0).f1) 0).f1) == 6)) = true then (some false) else (some false))) else (none)) else (none)) else (if 0 < (t210.length : Int) then (if ((rd_T65 t210 0).f0).toList = ([97, 114, 109, 97, 32, 117, 105, 114, 117, 109, 113, 117, 101] : List UInt8) then (if 0 < (((rd_T65 t210 0).f1).length : Int) then (some false) else (none)) else (some false)) else (none))) else (none)) = some true := by rw [if_neg (show ¬ (false = true) by decide)] at H; exact H
    clear H
    have H := H1
    clear H1
    by_cases c61 : 0 < (t198.length : Int)
    ·rw [if_pos c61] at H
     have c61b0 : decide (0 < (t198.length : Int)) = true := decide_eq_true c61
     have c61b1 : decide (0 < t198.length) = true := decide_eq_true (by omega)
     clear c61
     by_cases c62 : ((rd_T65 t198 0).f0).toList = ([97, 114, 109, 97, 32, 118, 105, 114, 117, 109, 113, 117, 101] : List UInt8)
     ·rw [if_pos c62] at H
      have c62b0 : (((rd_T65 t198 0).f0).toList == ([97, 114, 109, 97, 32, 118, 105, 114, 117, 109, 113, 117, 101] : List UInt8)) = true := beq_iff_eq.mpr c62
      have c62b1 : (((rd_T65 t198 0).f0).toList != ([97, 114, 109, 97, 32, 118, 105, 114, 117, 109, 113, 117, 101] : List UInt8)) = false := bne_eq_false_iff_eq.mpr c62
      clear c62
      by_cases c63 : 0 < (((rd_T65 t198 0).f1).length : Int)
      ·rw [if_pos c63] at H
       have c63b0 : decide (0 < (((rd_T65 t198 0).f1).length : Int)) = true := decide_eq_true c63
       have c63b1 : decide (0 < ((rd_T65 t198 0).f1).length) = true := decide_eq_true (by omega)
       clear c63
       by_cases c64 : 0 < (t210.length : Int)
       ·rw [if_pos c64] at H
        have c64b0 : decide (0 < (t210.length : Int)) = true := decide_eq_true c64
        have c64b1 : decide (0 < t210.length) = true := decide_eq_true (by omega)
        clear c64
        by_cases c65 : ((rd_T65 t210 0).f0).toList = ([97, 114, 109, 97, 32, 117, 105, 114, 117, 109, 113, 117, 101] : List UInt8)
        ·rw [if_pos c65] at H
         have c65b0 : (((rd_T65 t210 0).f0).toList == ([97, 114, 109, 97, 32, 117, 105, 114, 117, 109, 113, 117, 101] : List UInt8)) = true := beq_iff_eq.mpr c65
         have c65b1 : (((rd_T65 t210 0).f0).toList != ([97, 114, 109, 97, 32, 117, 105, 114, 117, 109, 113, 117, 101] : List UInt8)) = false := bne_eq_false_iff_eq.mpr c65
         clear c65
         by_cases c66 : 0 < (((rd_T65 t210 0).f1).length : Int)
         ·rw [if_pos c66] at H
          have c66b0 : decide (0 < (((rd_T65 t210 0).f1).length : Int)) = true := decide_eq_true c66
          have c66b1 : decide (0 < ((rd_T65 t210 0).f1).length) = true := decide_eq_true (by omega)
          clear c66
          by_cases c67 : ((((rd_T67 ((rd_T65 t198 0).f1) 0).f0).toList) == ([97, 114, 109, 97, 32, 117, 105, 114, 117, 109, 113, 117, 101] : List UInt8) && (((rd_T67 ((rd_T65 t198 0).f1) 0).f1) == 6)) = true
          ·rw [if_pos c67] at H
           have c67b0 : ((((rd_T67 ((rd_T65 t198 0).f1) 0).f0).toList) == ([97, 114, 109, 97, 32, 117, 105, 114, 117, 109, 113, 117, 101] : List UInt8) && (((rd_T67 ((rd_T65 t198 0).f1) 0).f1) == 6)) = true := c67
           (try (have c67b1 : decide ((((rd_T67 ((rd_T65 t198 0).f1) 0).f0).toList) = ([97, 114, 109, 97, 32, 117, 105, 114, 117, 109, 113, 117, 101] : List UInt8) && (((rd_T67 ((rd_T65 t198 0).f1) 0).f1) == 6)) = true := by simpa using c67))
           (try (have c67b2 : ((((rd_T67 ((rd_T65 t198 0).f1) 0).f0).toList) == ([97, 114, 109, 97, 32, 117, 105, 114, 117, 109, 113, 117, 101] : List UInt8) && (((rd_T67 ((rd_T65 t198 0).f1) 0).f1) == 6)) = true := by simpa using c67))
           clear c67
           by_cases c68 : ((((rd_T67 ((rd_T65 t210 0).f1) 0).f0).toList) == ([97, 114, 109, 97, 32, 118, 105, 114, 117, 109, 113, 117, 101] : List UInt8) && (((rd_T67 ((rd_T65 t210 0).f1) 0).f1) == 1)) = true
           ·rw [if_pos c68] at H
            have c68b0 : ((((rd_T67 ((rd_T65 t210 0).f1) 0).f0).toList) == ([97, 114, 109, 97, 32, 118, 105, 114, 117, 109, 113, 117, 101] : List UInt8) && (((rd_T67 ((rd_T65 t210 0).f1) 0).f1) == 1)) = true := c68
            (try (have c68b1 : decide ((((rd_T67 ((rd_T65 t210 0).f1) 0).f0).toList) = ([97, 114, 109, 97, 32, 118, 105, 114, 117, 109, 113, 117, 101] : List UInt8) && (((rd_T67 ((rd_T65 t210 0).f1) 0).f1) == 1)) = true := by simpa using c68))
            (try (have c68b2 : ((((rd_T67 ((rd_T65 t210 0).f1) 0).f0).toList) == ([97, 114, 109, 97, 32, 118, 105, 114, 117, 109, 113, 117, 101] : List UInt8) && (((rd_T67 ((rd_T65 t210 0).f1) 0).f1) == 1)) = true := by simpa using c68))
            clear c68
            by_cases c69 : 1 < (t203.length : Int)
            ·rw [if_pos c69] at H
             have c69b0 : decide (1 < (t203.length : Int)) = true := decide_eq_true c69
             have c69b1 : decide (1 < t203.length) = true := decide_eq_true (by omega)
             clear c69
             obtain ⟨y228, hy228⟩ : ∃ y_ : List ByteArray, y_ = (([(⟨#[98]⟩ : ByteArray), (⟨#[99]⟩ : ByteArray)] : List ByteArray)) := ⟨_, rfl⟩
             replace H : ((slices_Equal_string_string.f kj4 (rd_L8 t203 1) y228).bind fun t231 => (if t231 = true then ((api_Pair.f kj4 t215 (([(⟨0, 0⟩ : S29), (⟨1, (-1)⟩ : S29), (⟨2, 1⟩ : S29)] : List (S29)))).bind fun t235 => (some t235)) else (some false))) = some true := by first | (rw [hy228]; with_reducible exact H) | (have H2_ := (Option.bind_some _ _).symm.trans H; rw [hy228]; with_reducible exact H2_) | (have H2_ := (Option.bind_some _ _).symm.trans H; with_reducible exact H2_) | with_reducible exact H | (rw [hy228]; exact H) | exact H
             have Ny228 := Aside0.mk hy228
             clear hy228
             replace H := Option.bind_eq_some_iff.mp H
             obtain ⟨t231, A700, H⟩ := H
             try dsimp only at H
             have A70 := Aside0.mk A700
             clear A700
             by_cases c71 : t231 = true
             ·subst c71
              have H1 : ((api_Pair.f kj4 t215 (([(⟨0, 0⟩ : S29), (⟨1, (-1)⟩ : S29), (⟨2, 1⟩ : S29)] : List (S29)))).bind fun t235 => (some t235)) = some true := by rw [if_pos rfl] at H; exact H
              clear H
              have H := H1
              clear H1
              obtain ⟨y232, hy232⟩ : ∃ y_ : List (S29), y_ = (([(⟨0, 0⟩ : S29), (⟨1, (-1)⟩ : S29), (⟨2, 1⟩ : S29)] : List (S29))) := ⟨_, rfl⟩
              replace H : ((api_Pair.f kj4 t215 y232).bind fun t235 => (some t235)) = some true := by first | (rw [hy232]; with_reducible exact H) | (have H2_ := (Option.bind_some _ _).symm.trans H; rw [hy232]; with_reducible exact H2_) | (have H2_ := (Option.bind_some _ _).symm.trans H; with_reducible exact H2_) | with_reducible exact H | (rw [hy232]; exact H) | exact H
              have Ny232 := Aside0.mk hy232
              clear hy232
              replace H := Option.bind_eq_some_iff.mp H
              obtain ⟨t235, A720, H⟩ := H
              replace H : (some t235) = some true := H
              have A72 := Aside0.mk A720
              clear A720
              have hR_ := Option.some.inj H
              have hnb73 := NB202_214.out
              have hnc73 := NB214_202.out
              have hcz74_0 := cZ BK202 0 (.slice Ao23 t195.length co23)
              have hcz74_1 := cZ BK202 1 (.slice Ao25 t198.length co25)
              have hfz74_0 := blk_frozen BK202.out 0
              have hfz74_1 := blk_frozen BK202.out 1
              have p221 : 0 ≤ (0 : Int) := (by omega)
              have q221 := oD (0 < (t198.length : Int))
              obtain ⟨ad221, A221_1, c221_1, e221, hx221_0, hx221_1, hl221_1, hi221_1⟩ := at_T65 (Kd.N_reads' HO_203001.out).2.2 0 p221 q221
              cases e221
              obtain ⟨ce221, hce221, hMe221, hcc221⟩ := Kd.N_get HO_203001.out z65 0 p221 (by first | exact q221 | exact of_decide_eq_true (by first | (with_reducible assumption) | assumption) | (have e_ := (Kd.N_reads' HO_203001.out).1; omega))
              obtain ⟨ua221_1, uc221_1, rfl, ul221_1, ge221_1⟩ := k65_openF hMe221
              have hv221_1 := hcc221 1 _ rfl
              rw [add_field _ _ 1 (by omega)] at hv221_1
              replace hv221_1 := Option.some.inj (hv221_1.symm.trans hx221_1)
              injection hv221_1 with hva_ hvn_ hvc_
              rw [hva_] at ge221_1
              rw [hvc_] at ul221_1
              have HL221_1 := Aside0.mk (show Kd.V k67 67 _ w.heap.size _ _ ((rd_T65 t198 0).f1) from Kd.V_mk ul221_1 ge221_1)
              clear hva_ hvn_ hvc_ ge221_1 ul221_1
              clear hcc221 hce221
              have qi221 : (0 < t198.length) = True := eq_true (by omega)
              (try rw [show ((0 : Int)).toNat = 0 from rfl] at hx221_0)
              (try rw [show 0 * 2 = 0 from rfl] at hx221_0)
              (try rw [Addr.add_zero'] at hx221_0)
              (try rw [show ((0 : Int)).toNat = 0 from rfl] at hx221_1)
              (try rw [show 0 * 2 = 0 from rfl] at hx221_1)
              (try rw [Addr.add_zero'] at hx221_1)
              have HR221_1 := Aside0.mk hi221_1
              have HC221_1 := Aside0.mk hl221_1
              clear hi221_1 hl221_1
              replace p221 := eq_true p221
              replace q221 := eq_true q221
              have p222 : 0 ≤ (0 : Int) := (by omega)
              have q222 := oD (0 < (t198.length : Int))
              obtain ⟨ad222, A222_1, c222_1, e222, hx222_0, hx222_1, hl222_1, hi222_1⟩ := at_T65 (Kd.N_reads' HO_203001.out).2.2 0 p222 q222
              obtain rfl : ad221 = ad222 := (by injection e222)
              obtain ⟨ce222, hce222, hMe222, hcc222⟩ := Kd.N_get HO_203001.out z65 0 p222 (by first | exact q222 | exact of_decide_eq_true (by first | (with_reducible assumption) | assumption) | (have e_ := (Kd.N_reads' HO_203001.out).1; omega))
              obtain ⟨ua222_1, uc222_1, rfl, ul222_1, ge222_1⟩ := k65_openF hMe222
              have hv222_1 := hcc222 1 _ rfl
              rw [add_field _ _ 1 (by omega)] at hv222_1
              replace hv222_1 := Option.some.inj (hv222_1.symm.trans hx222_1)
              injection hv222_1 with hva_ hvn_ hvc_
              rw [hva_] at ge222_1
              rw [hvc_] at ul222_1
              have HL222_1 := Aside0.mk (show Kd.V k67 67 _ w.heap.size _ _ ((rd_T65 t198 0).f1) from Kd.V_mk ul222_1 ge222_1)
              clear hva_ hvn_ hvc_ ge222_1 ul222_1
              clear hcc222 hce222
              have qi222 : (0 < t198.length) = True := eq_true (by omega)
              (try rw [show ((0 : Int)).toNat = 0 from rfl] at hx222_0)
              (try rw [show 0 * 2 = 0 from rfl] at hx222_0)
              (try rw [Addr.add_zero'] at hx222_0)
              (try rw [show ((0 : Int)).toNat = 0 from rfl] at hx222_1)
              (try rw [show 0 * 2 = 0 from rfl] at hx222_1)
              (try rw [Addr.add_zero'] at hx222_1)
              have HR222_1 := Aside0.mk hi222_1
              have HC222_1 := Aside0.mk hl222_1
              clear hi222_1 hl222_1
              replace p222 := eq_true p222
              replace q222 := eq_true q222
              have ea_ := Option.some.inj (hx221_1.symm.trans hx222_1)
              injection ea_ with ea_ en_ ec_
              subst ea_
              subst ec_
              clear en_
              have p223 : 0 ≤ (0 : Int) := (by omega)
              have q223 := oD (0 < (((rd_T65 t198 0).f1).length : Int))
              obtain ⟨ad223, e223, hx223_0, hx223_1⟩ := at_T67 (cR HR222_1) 0 p223 q223
              cases e223
              have qi223 : (0 < ((rd_T65 t198 0).f1).length) = True := eq_true (by omega)
              (try rw [show ((0 : Int)).toNat = 0 from rfl] at hx223_0)
              (try rw [show 0 * 2 = 0 from rfl] at hx223_0)
              (try rw [Addr.add_zero'] at hx223_0)
              (try rw [show ((0 : Int)).toNat = 0 from rfl] at hx223_1)
              (try rw [show 0 * 2 = 0 from rfl] at hx223_1)
              (try rw [Addr.add_zero'] at hx223_1)
              replace p223 := eq_true p223
              replace q223 := eq_true q223
              have hcz75_0 := cZ BK214 0 (.slice Ao30 t207.length co30)
              have hcz75_1 := cZ BK214 1 (.slice Ao33 t210.length co33)
              have hfz75_0 := blk_frozen BK214.out 0
              have hfz75_1 := blk_frozen BK214.out 1
              have p224 : 0 ≤ (0 : Int) := (by omega)
              have q224 := oD (0 < (t210.length : Int))
              obtain ⟨ad224, A224_1, c224_1, e224, hx224_0, hx224_1, hl224_1, hi224_1⟩ := at_T65 (Kd.N_reads' HO_215001.out).2.2 0 p224 q224
              cases e224
              obtain ⟨ce224, hce224, hMe224, hcc224⟩ := Kd.N_get HO_215001.out z65 0 p224 (by first | exact q224 | exact of_decide_eq_true (by first | (with_reducible assumption) | assumption) | (have e_ := (Kd.N_reads' HO_215001.out).1; omega))
              obtain ⟨ua224_1, uc224_1, rfl, ul224_1, ge224_1⟩ := k65_openF hMe224
              have hv224_1 := hcc224 1 _ rfl
              rw [add_field _ _ 1 (by omega)] at hv224_1
              replace hv224_1 := Option.some.inj (hv224_1.symm.trans hx224_1)
              injection hv224_1 with hva_ hvn_ hvc_
              rw [hva_] at ge224_1
              rw [hvc_] at ul224_1
              have HL224_1 := Aside0.mk (show Kd.V k67 67 _ w.heap.size _ _ ((rd_T65 t210 0).f1) from Kd.V_mk ul224_1 ge224_1)
              clear hva_ hvn_ hvc_ ge224_1 ul224_1
              clear hcc224 hce224
              have qi224 : (0 < t210.length) = True := eq_true (by omega)
              (try rw [show ((0 : Int)).toNat = 0 from rfl] at hx224_0)
              (try rw [show 0 * 2 = 0 from rfl] at hx224_0)
              (try rw [Addr.add_zero'] at hx224_0)
              (try rw [show ((0 : Int)).toNat = 0 from rfl] at hx224_1)
              (try rw [show 0 * 2 = 0 from rfl] at hx224_1)
              (try rw [Addr.add_zero'] at hx224_1)
              have HR224_1 := Aside0.mk hi224_1
              have HC224_1 := Aside0.mk hl224_1
              clear hi224_1 hl224_1
              replace p224 := eq_true p224
              replace q224 := eq_true q224
              have p225 : 0 ≤ (0 : Int) := (by omega)
              have q225 := oD (0 < (t210.length : Int))
              obtain ⟨ad225, A225_1, c225_1, e225, hx225_0, hx225_1, hl225_1, hi225_1⟩ := at_T65 (Kd.N_reads' HO_215001.out).2.2 0 p225 q225
              obtain rfl : ad224 = ad225 := (by injection e225)
              obtain ⟨ce225, hce225, hMe225, hcc225⟩ := Kd.N_get HO_215001.out z65 0 p225 (by first | exact q225 | exact of_decide_eq_true (by first | (with_reducible assumption) | assumption) | (have e_ := (Kd.N_reads' HO_215001.out).1; omega))
              obtain ⟨ua225_1, uc225_1, rfl, ul225_1, ge225_1⟩ := k65_openF hMe225
              have hv225_1 := hcc225 1 _ rfl
              rw [add_field _ _ 1 (by omega)] at hv225_1
              replace hv225_1 := Option.some.inj (hv225_1.symm.trans hx225_1)
              injection hv225_1 with hva_ hvn_ hvc_
              rw [hva_] at ge225_1
              rw [hvc_] at ul225_1
              have HL225_1 := Aside0.mk (show Kd.V k67 67 _ w.heap.size _ _ ((rd_T65 t210 0).f1) from Kd.V_mk ul225_1 ge225_1)
              clear hva_ hvn_ hvc_ ge225_1 ul225_1
              clear hcc225 hce225
              have qi225 : (0 < t210.length) = True := eq_true (by omega)
              (try rw [show ((0 : Int)).toNat = 0 from rfl] at hx225_0)
              (try rw [show 0 * 2 = 0 from rfl] at hx225_0)
              (try rw [Addr.add_zero'] at hx225_0)
              (try rw [show ((0 : Int)).toNat = 0 from rfl] at hx225_1)
              (try rw [show 0 * 2 = 0 from rfl] at hx225_1)
              (try rw [Addr.add_zero'] at hx225_1)
              have HR225_1 := Aside0.mk hi225_1
              have HC225_1 := Aside0.mk hl225_1
              clear hi225_1 hl225_1
              replace p225 := eq_true p225
              replace q225 := eq_true q225
              have ea_ := Option.some.inj (hx224_1.symm.trans hx225_1)
              injection ea_ with ea_ en_ ec_
              subst ea_
              subst ec_
              clear en_
              have p226 : 0 ≤ (0 : Int) := (by omega)
              have q226 := oD (0 < (((rd_T65 t210 0).f1).length : Int))
              obtain ⟨ad226, e226, hx226_0, hx226_1⟩ := at_T67 (cR HR225_1) 0 p226 q226
              cases e226
              have qi226 : (0 < ((rd_T65 t210 0).f1).length) = True := eq_true (by omega)
              (try rw [show ((0 : Int)).toNat = 0 from rfl] at hx226_0)
              (try rw [show 0 * 2 = 0 from rfl] at hx226_0)
              (try rw [Addr.add_zero'] at hx226_0)
              (try rw [show ((0 : Int)).toNat = 0 from rfl] at hx226_1)
              (try rw [show 0 * 2 = 0 from rfl] at hx226_1)
              (try rw [Addr.add_zero'] at hx226_1)
              replace p226 := eq_true p226
              replace q226 := eq_true q226
              obtain ⟨Ao76, co76, eo76⟩ := Kd.N_slice HO_3.out
              subst eo76
              have p227 : 0 ≤ (1 : Int) := (by omega)
              have q227 := oD (1 < (t203.length : Int))
              obtain ⟨ad227, A227_0, c227_0, e227, hx227_0, hl227_0, hi227_0⟩ := at_L8 (Kd.N_reads' HO_3.out).2.2 1 p227 q227
              cases e227
              obtain ⟨ce227, hce227, hMe227, hcc227⟩ := Kd.N_get HO_3.out [] 1 p227 (by first | exact q227 | exact of_decide_eq_true (by first | (with_reducible assumption) | assumption) | (have e_ := (Kd.N_reads' HO_3.out).1; omega))
              obtain ⟨ua227_0, uc227_0, rfl, ul227_0, ge227_0⟩ := Kd.FK_slice_open hMe227
              have hv227_0 := hcc227 0 _ rfl
              rw [Nat.add_zero, show ((Kd.slice 9 Kd.string)).sz = 1 from rfl, Nat.mul_one] at hv227_0
              replace hv227_0 := Option.some.inj (hv227_0.symm.trans hx227_0)
              injection hv227_0 with hva_ hvn_ hvc_
              rw [hva_] at ge227_0
              rw [hvc_] at ul227_0
              have HL227_0 := Aside0.mk (show Kd.V Kd.string 9 _ w.heap.size _ _ (rd_L8 t203 1) from Kd.V_mk ul227_0 ge227_0)
              clear hva_ hvn_ hvc_ ge227_0 ul227_0
              clear hcc227 hce227
              (try simp only [show (1 : Int).toNat = 1 from rfl, Nat.reduceMul, Nat.reduceEqDiff, Go.Addr.add, ↓reduceIte] at hx227_0)
              have qi227 : (1 < t203.length) = True := eq_true (by omega)
              (try rw [show ((1 : Int)).toNat = 1 from rfl] at hx227_0)
              have HR227_0 := Aside0.mk hi227_0
              have HC227_0 := Aside0.mk hl227_0
              clear hi227_0 hl227_0
              replace p227 := eq_true p227
              replace q227 := eq_true q227
              go_wp2_with (first | ((with_reducible refine gate_dst (N := 125) rfl ?_); (try (refine gate_guard (by rfl) ?_; dsimp only)); refine Kd.R_lit Kd.string _ 9 ?hg (N := 125) ?hd (xs := ([(⟨#[98]⟩ : ByteArray), (⟨#[99]⟩ : ByteArray)] : List ByteArray)) (inner := [.string (⟨#[98]⟩ : ByteArray), .string (⟨#[99]⟩ : ByteArray)]) (ok := fun _ => True) (okp := fun _ => True) ?hr ?hp (fun _ hk => hk) trivial (Below.refl _ _) (Nat.le_refl _) (by simp) ?_; (case hd | hg => rfl); (case hr => first | (go_simp; done) | (go_simp; rfl)); (case hp => exact (Reps.one (show Kd.M Kd.string _ _ _ (⟨#[98]⟩ : ByteArray) [.string (⟨#[98]⟩ : ByteArray)] from rfl) (Reps.one (show Kd.M Kd.string _ _ _ (⟨#[99]⟩ : ByteArray) [.string (⟨#[99]⟩ : ByteArray)] from rfl) (Reps.none _ _)))); intro v229 w77 ho78 hb hg_ hnew_; clear hg_ hnew_; (first | rw [← Ny228.out] at ho78 | (simp only [Int.reduceToNat] at ho78; rw [← Ny228.out] at ho78)); have n0_ := Aside0.mk (Kd.N_elder' (iN HO_3) (Kd.R_base ho78) hb); have n1_ := jR HO_7 hb; have n2_ := Aside0.mk (Kd.R_elder' (iR HO_203000) (Kd.R_base ho78) hb); have n3_ := Aside0.mk (Kd.N_elder' (iN HO_203001) (Kd.R_base ho78) hb); have n4_ := Aside0.mk (Kd.R_elder' (iR HO_215000) (Kd.R_base ho78) hb); have n5_ := Aside0.mk (Kd.N_elder' (iN HO_215001) (Kd.R_base ho78) hb); have n6_ := Aside0.mk (Kd.V_elder' (iV HL221_1) (Kd.R_base ho78) hb); have n7_ := Aside0.mk (Kd.V_elder' (iV HL222_1) (Kd.R_base ho78) hb); have n8_ := Aside0.mk (Kd.V_elder' (iV HL224_1) (Kd.R_base ho78) hb); have n9_ := Aside0.mk (Kd.V_elder' (iV HL225_1) (Kd.R_base ho78) hb); have n10_ := Aside0.mk (Kd.V_elder' (iV HL227_0) (Kd.R_base ho78) hb); have n11_ := Aside0.mk (Kd.R_lower (Kd.R_new' (Kd.R_new' ho78 (Kd.R_lt (iR HO_203000))) (Kd.R_lt (iR HO_215000))) (below_size (iL HB))); have n12_ := jB BK202 hb; have n13_ := jB BK214 hb; have n14_ := Aside0.mk (Kd.C_below (cR HR221_1) hb); have n15_ := Aside0.mk (Kd.C_below (cR HR222_1) hb); have n16_ := Aside0.mk (Kd.C_below (cR HR224_1) hb); have n17_ := Aside0.mk (Kd.C_below (cR HR225_1) hb); have n18_ := Aside0.mk (Kd.C_below (cR HR227_0) hb); have n19_ := jL HB hb; clear HO_3; clear HO_7; clear HO_203000; clear HO_203001; clear HO_215000; clear HO_215001; clear HL221_1; clear HL222_1; clear HL224_1; clear HL225_1; clear HL227_0; clear BK202; clear BK214; clear HR221_1; clear HR222_1; clear HR224_1; clear HR225_1; clear HR227_0; clear HB; have HO_3 := n0_; have HO_7 := n1_; have HO_203000 := n2_; have HO_203001 := n3_; have HO_215000 := n4_; have HO_215001 := n5_; have HL221_1 := n6_; have HL222_1 := n7_; have HL224_1 := n8_; have HL225_1 := n9_; have HL227_0 := n10_; have HO230 := n11_; have BK202 := n12_; have BK214 := n13_; have HR221_1 := n14_; have HR222_1 := n15_; have HR224_1 := n16_; have HR225_1 := n17_; have HR227_0 := n18_; have HB := n19_; clear n0_ n1_ n2_ n3_ n4_ n5_ n6_ n7_ n8_ n9_ n10_ n11_ n12_ n13_ n14_ n15_ n16_ n17_ n18_ n19_; clear hb ho78; obtain ⟨Ao79, co79, eo79⟩ := Kd.R_slice HO230.out; subst eo79) | (go_at_call 35; (with_reducible refine (slices_Equal_string_string.calls kj4 _ _ (rd_L8 t203 1) _ _ y228 true _ ?side1 ?side2 ?side3 ?side4 A70.out).mono ?_); (case side1 => repeat (first | exact (cR HR227_0) | (with_reducible refine Kd.C_alloc ?_ _) | (with_reducible refine Kd.C_drewN ?_ _) | (with_reducible refine Kd.C_drew ?_))); (case side2 => exact HC227_0.out); (case side3 => repeat (first | exact (Kd.R_reads' HO230.out).2.2 | (with_reducible refine Kd.C_alloc ?_ _) | (with_reducible refine Kd.C_drewN ?_ _) | (with_reducible refine Kd.C_drew ?_))); (case side4 => exact (Kd.R_reads' HO230.out).2.1); rintro e w' ⟨rfl, ⟨nd, rfl⟩⟩) | ((with_reducible refine gate_dst (N := 133) rfl ?_); (try (refine gate_guard (by rfl) ?_; dsimp only)); refine Kd.R_lit k29 _ 29 ?hg (N := 133) ?hd (xs := ([(⟨0, 0⟩ : S29), (⟨1, (-1)⟩ : S29), (⟨2, 1⟩ : S29)] : List (S29))) (inner := [.int .i64 0, .int .i64 0, .int .i64 1, .int .i64 (-1), .int .i64 2, .int .i64 1]) (ok := fun _ => True) (okp := fun _ => True) ?hr ?hp (fun _ hk => hk) trivial (Below.refl _ _) (Nat.le_refl _) (by simp) ?_; (case hd | hg => rfl); (case hr => first | (go_simp; done) | (go_simp; rfl)); (case hp => exact (Reps.c2 (show Kd.M k29 _ _ _ (⟨0, 0⟩ : S29) [.int .i64 0, .int .i64 0] from (k29_mkM _ _ _ (⟨0, 0⟩ : S29) )) (Reps.c2 (show Kd.M k29 _ _ _ (⟨1, (-1)⟩ : S29) [.int .i64 1, .int .i64 (-1)] from (k29_mkM _ _ _ (⟨1, (-1)⟩ : S29) )) (Reps.c2 (show Kd.M k29 _ _ _ (⟨2, 1⟩ : S29) [.int .i64 2, .int .i64 1] from (k29_mkM _ _ _ (⟨2, 1⟩ : S29) )) (Reps.none _ _))))); intro v233 w80 ho81 hb hg_ hnew_; clear hg_ hnew_; (first | rw [← Ny232.out] at ho81 | (simp only [Int.reduceToNat] at ho81; rw [← Ny232.out] at ho81)); have n0_ := Aside0.mk (Kd.N_elder' (iN HO_3) (Kd.R_base ho81) hb); have n1_ := Aside0.mk (Kd.R_elder' (iR HO_7) (Kd.R_base ho81) hb); have n2_ := jR HO_203000 hb; have n3_ := Aside0.mk (Kd.N_elder' (iN HO_203001) (Kd.R_base ho81) hb); have n4_ := jR HO_215000 hb; have n5_ := Aside0.mk (Kd.N_elder' (iN HO_215001) (Kd.R_base ho81) hb); have n6_ := Aside0.mk (Kd.V_elder' (iV HL221_1) (Kd.R_base ho81) hb); have n7_ := Aside0.mk (Kd.V_elder' (iV HL222_1) (Kd.R_base ho81) hb); have n8_ := Aside0.mk (Kd.V_elder' (iV HL224_1) (Kd.R_base ho81) hb); have n9_ := Aside0.mk (Kd.V_elder' (iV HL225_1) (Kd.R_base ho81) hb); have n10_ := Aside0.mk (Kd.V_elder' (iV HL227_0) (Kd.R_base ho81) hb); have n11_ := jR HO230 hb; have n12_ := Aside0.mk (Kd.R_lower (Kd.R_new' ho81 (Kd.R_lt (iR HO_7))) (below_size (iL HB))); have n13_ := jB BK202 hb; have n14_ := jB BK214 hb; have n20_ := jL HB hb; clear HO_3; clear HO_7; clear HO_203000; clear HO_203001; clear HO_215000; clear HO_215001; clear HL221_1; clear HL222_1; clear HL224_1; clear HL225_1; clear HL227_0; clear HO230; clear BK202; clear BK214; clear HR221_1; clear HR222_1; clear HR224_1; clear HR225_1; clear HR227_0; clear HB; have HO_3 := n0_; have HO_7 := n1_; have HO_203000 := n2_; have HO_203001 := n3_; have HO_215000 := n4_; have HO_215001 := n5_; have HL221_1 := n6_; have HL222_1 := n7_; have HL224_1 := n8_; have HL225_1 := n9_; have HL227_0 := n10_; have HO230 := n11_; have HO234 := n12_; have BK202 := n13_; have BK214 := n14_; have HB := n20_; clear n0_ n1_ n2_ n3_ n4_ n5_ n6_ n7_ n8_ n9_ n10_ n11_ n12_ n13_ n14_ n20_; clear hb ho81; obtain ⟨Ao82, co82, eo82⟩ := Kd.R_slice HO_7.out; subst eo82; obtain ⟨Ao83, co83, eo83⟩ := Kd.R_slice HO234.out; subst eo83) | (go_at_call 12; (with_reducible refine (api_Pair.calls kj4 _ _ t215 _ _ y232 t235 _ ?side1 ?side2 ?side3 ?side4 A72.out).mono ?_); (case side1 => repeat (first | exact (Kd.R_reads' HO_7.out).2.2 | (with_reducible refine Kd.C_alloc ?_ _) | (with_reducible refine Kd.C_drewN ?_ _) | (with_reducible refine Kd.C_drew ?_))); (case side2 => exact (Kd.R_reads' HO_7.out).2.1); (case side3 => repeat (first | exact (Kd.R_reads' HO234.out).2.2 | (with_reducible refine Kd.C_alloc ?_ _) | (with_reducible refine Kd.C_drewN ?_ _) | (with_reducible refine Kd.C_drew ?_))); (case side4 => exact (Kd.R_reads' HO234.out).2.1); rintro e w' ⟨rfl, ⟨nd, rfl⟩⟩))
              go_ret
              exact ⟨eV, iL HB⟩
             ·replace c71 := Bool.eq_false_iff.mpr c71
              subst c71
              have H1 : (some false) = some true := by rw [if_neg (show ¬ (false = true) by decide)] at H; exact H
              clear H
              have H := H1
              clear H1
              exact absurd (Option.some.inj H) (by decide)
            ·rw [if_neg c69] at H
             exact absurd H (by simp)
           ·rw [if_neg c68] at H
            have c68b0 : ((((rd_T67 ((rd_T65 t210 0).f1) 0).f0).toList) == ([97, 114, 109, 97, 32, 118, 105, 114, 117, 109, 113, 117, 101] : List UInt8) && (((rd_T67 ((rd_T65 t210 0).f1) 0).f1) == 1)) = false := by simpa using c68
            (try (have c68b1 : decide ((((rd_T67 ((rd_T65 t210 0).f1) 0).f0).toList) = ([97, 114, 109, 97, 32, 118, 105, 114, 117, 109, 113, 117, 101] : List UInt8) && (((rd_T67 ((rd_T65 t210 0).f1) 0).f1) == 1)) = false := by simpa using c68))
            (try (have c68b2 : ((((rd_T67 ((rd_T65 t210 0).f1) 0).f0).toList) == ([97, 114, 109, 97, 32, 118, 105, 114, 117, 109, 113, 117, 101] : List UInt8) && (((rd_T67 ((rd_T65 t210 0).f1) 0).f1) == 1)) = false := by simpa using c68))
            (try (have c68b3 : ¬ ((((rd_T67 ((rd_T65 t210 0).f1) 0).f0).toList) = ([97, 114, 109, 97, 32, 118, 105, 114, 117, 109, 113, 117, 101] : List UInt8) && (((rd_T67 ((rd_T65 t210 0).f1) 0).f1) == 1)) := by simpa using c68))
            clear c68
            exact absurd (Option.some.inj H) (by decide)
          ·rw [if_neg c67] at H
           have c67b0 : ((((rd_T67 ((rd_T65 t198 0).f1) 0).f0).toList) == ([97, 114, 109, 97, 32, 117, 105, 114, 117, 109, 113, 117, 101] : List UInt8) && (((rd_T67 ((rd_T65 t198 0).f1) 0).f1) == 6)) = false := by simpa using c67
           (try (have c67b1 : decide ((((rd_T67 ((rd_T65 t198 0).f1) 0).f0).toList) = ([97, 114, 109, 97, 32, 117, 105, 114, 117, 109, 113, 117, 101] : List UInt8) && (((rd_T67 ((rd_T65 t198 0).f1) 0).f1) == 6)) = false := by simpa using c67))
           (try (have c67b2 : ((((rd_T67 ((rd_T65 t198 0).f1) 0).f0).toList) == ([97, 114, 109, 97, 32, 117, 105, 114, 117, 109, 113, 117, 101] : List UInt8) && (((rd_T67 ((rd_T65 t198 0).f1) 0).f1) == 6)) = false := by simpa using c67))
           (try (have c67b3 : ¬ ((((rd_T67 ((rd_T65 t198 0).f1) 0).f0).toList) = ([97, 114, 109, 97, 32, 117, 105, 114, 117, 109, 113, 117, 101] : List UInt8) && (((rd_T67 ((rd_T65 t198 0).f1) 0).f1) == 6)) := by simpa using c67))
           clear c67
           exact absurd (Option.some.inj H) (by decide)
         ·rw [if_neg c66] at H
          exact absurd H (by simp)
        ·rw [if_neg c65] at H
         have c65b0 : (((rd_T65 t210 0).f0).toList == ([97, 114, 109, 97, 32, 117, 105, 114, 117, 109, 113, 117, 101] : List UInt8)) = false := beq_eq_false_iff_ne.mpr c65
         have c65b1 : (((rd_T65 t210 0).f0).toList != ([97, 114, 109, 97, 32, 117, 105, 114, 117, 109, 113, 117, 101] : List UInt8)) = true := bne_iff_ne.mpr c65
         by_cases c84 : ((((rd_T67 ((rd_T65 t198 0).f1) 0).f0).toList) == ([97, 114, 109, 97, 32, 117, 105, 114, 117, 109, 113, 117, 101] : List UInt8) && (((rd_T67 ((rd_T65 t198 0).f1) 0).f1) == 6)) = true
         ·rw [if_pos c84] at H
          have c84b0 : ((((rd_T67 ((rd_T65 t198 0).f1) 0).f0).toList) == ([97, 114, 109, 97, 32, 117, 105, 114, 117, 109, 113, 117, 101] : List UInt8) && (((rd_T67 ((rd_T65 t198 0).f1) 0).f1) == 6)) = true := c84
          (try (have c84b1 : decide ((((rd_T67 ((rd_T65 t198 0).f1) 0).f0).toList) = ([97, 114, 109, 97, 32, 117, 105, 114, 117, 109, 113, 117, 101] : List UInt8) && (((rd_T67 ((rd_T65 t198 0).f1) 0).f1) == 6)) = true := by simpa using c84))
          (try (have c84b2 : ((((rd_T67 ((rd_T65 t198 0).f1) 0).f0).toList) == ([97, 114, 109, 97, 32, 117, 105, 114, 117, 109, 113, 117, 101] : List UInt8) && (((rd_T67 ((rd_T65 t198 0).f1) 0).f1) == 6)) = true := by simpa using c84))
          clear c84
          exact absurd (Option.some.inj H) (by decide)
         ·rw [if_neg c84] at H
          have c84b0 : ((((rd_T67 ((rd_T65 t198 0).f1) 0).f0).toList) == ([97, 114, 109, 97, 32, 117, 105, 114, 117, 109, 113, 117, 101] : List UInt8) && (((rd_T67 ((rd_T65 t198 0).f1) 0).f1) == 6)) = false := by simpa using c84
          (try (have c84b1 : decide ((((rd_T67 ((rd_T65 t198 0).f1) 0).f0).toList) = ([97, 114, 109, 97, 32, 117, 105, 114, 117, 109, 113, 117, 101] : List UInt8) && (((rd_T67 ((rd_T65 t198 0).f1) 0).f1) == 6)) = false := by simpa using c84))
          (try (have c84b2 : ((((rd_T67 ((rd_T65 t198 0).f1) 0).f0).toList) == ([97, 114, 109, 97, 32, 117, 105, 114, 117, 109, 113, 117, 101] : List UInt8) && (((rd_T67 ((rd_T65 t198 0).f1) 0).f1) == 6)) = false := by simpa using c84))
          (try (have c84b3 : ¬ ((((rd_T67 ((rd_T65 t198 0).f1) 0).f0).toList) = ([97, 114, 109, 97, 32, 117, 105, 114, 117, 109, 113, 117, 101] : List UInt8) && (((rd_T67 ((rd_T65 t198 0).f1) 0).f1) == 6)) := by simpa using c84))
          clear c84
          exact absurd (Option.some.inj H) (by decide)
       ·rw [if_neg c64] at H
        exact absurd H (by simp)
      ·rw [if_neg c63] at H
       exact absurd H (by simp)
     ·rw [if_neg c62] at H
      have c62b0 : (((rd_T65 t198 0).f0).toList == ([97, 114, 109, 97, 32, 118, 105, 114, 117, 109, 113, 117, 101] : List UInt8)) = false := beq_eq_false_iff_ne.mpr c62
      have c62b1 : (((rd_T65 t198 0).f0).toList != ([97, 114, 109, 97, 32, 118, 105, 114, 117, 109, 113, 117, 101] : List UInt8)) = true := bne_iff_ne.mpr c62
      by_cases c85 : 0 < (t210.length : Int)
      ·rw [if_pos c85] at H
       have c85b0 : decide (0 < (t210.length : Int)) = true := decide_eq_true c85
       have c85b1 : decide (0 < t210.length) = true := decide_eq_true (by omega)
       clear c85
       by_cases c86 : ((rd_T65 t210 0).f0).toList = ([97, 114, 109, 97, 32, 117, 105, 114, 117, 109, 113, 117, 101] : List UInt8)
       ·rw [if_pos c86] at H
        have c86b0 : (((rd_T65 t210 0).f0).toList == ([97, 114, 109, 97, 32, 117, 105, 114, 117, 109, 113, 117, 101] : List UInt8)) = true := beq_iff_eq.mpr c86
        have c86b1 : (((rd_T65 t210 0).f0).toList != ([97, 114, 109, 97, 32, 117, 105, 114, 117, 109, 113, 117, 101] : List UInt8)) = false := bne_eq_false_iff_eq.mpr c86
        clear c86
        by_cases c87 : 0 < (((rd_T65 t210 0).f1).length : Int)
        ·rw [if_pos c87] at H
         have c87b0 : decide (0 < (((rd_T65 t210 0).f1).length : Int)) = true := decide_eq_true c87
         have c87b1 : decide (0 < ((rd_T65 t210 0).f1).length) = true := decide_eq_true (by omega)
         clear c87
         exact absurd (Option.some.inj H) (by decide)
        ·rw [if_neg c87] at H
         exact absurd H (by simp)
       ·rw [if_neg c86] at H
        have c86b0 : (((rd_T65 t210 0).f0).toList == ([97, 114, 109, 97, 32, 117, 105, 114, 117, 109, 113, 117, 101] : List UInt8)) = false := beq_eq_false_iff_ne.mpr c86
        have c86b1 : (((rd_T65 t210 0).f0).toList != ([97, 114, 109, 97, 32, 117, 105, 114, 117, 109, 113, 117, 101] : List UInt8)) = true := bne_iff_ne.mpr c86
        exact absurd (Option.some.inj H) (by decide)
      ·rw [if_neg c85] at H
       exact absurd H (by simp)
    ·rw [if_neg c61] at H
     exact absurd H (by simp)
def ancepslaw57_awake.f (k : Nat)  : Option (Bool) := (ancepslaw57_awake.g k).bind fun b => if b = true then some true else none
theorem ancepslaw57_awake.mono : ∀ k, LeO (ancepslaw57_awake.f k) (ancepslaw57_awake.f (k + 1)) := by
 intro k
 unfold ancepslaw57_awake.f
 exact LeO.bind (ancepslaw57_awake.monoG k) (fun _ => LeO.refl _)
theorem ancepslaw57_awake.calls (k : Nat)  (r : Bool) (w : World) (h : ancepslaw57_awake.f k  = some r) :
  Calls Try.prog 9 #[] w fun e w' => e = .returned (.bool r) ∧ Below w.heap.size w w' := by
 unfold ancepslaw57_awake.f at h
 obtain ⟨b, h1, h2⟩ := Option.bind_eq_some_iff.mp h
 cases b with
 | true =>
  rw [if_pos rfl] at h2
  obtain rfl := Option.some.inj h2
  exact ancepslaw57_awake.callsT k w h1
 | false => simp at h2

/-! ### ancepsref01_Equal: function 21 -/
def ancepsref01_Equal.l0 : Nat → List ByteArray → List ByteArray → Int → Option (Bool)
 | 0, _, _, _ => none
 | k + 1, x0, x1, x5 => if x5 < (x0.length : Int) then (if 0 ≤ x5 then (if x5 < (x1.length : Int) then (if (rdOf ByteArray.empty x0 x5).toList = (rdOf ByteArray.empty x1 x5).toList then (ancepsref01_Equal.l0 k x0 x1 (wrap64 (x5 + 1))) else (some false)) else (none)) else (none)) else (some true)
def ancepsref01_Equal.f (k : Nat) (l0 : List ByteArray) (l1 : List ByteArray) : Option (Bool) := if (l0.length : Int) = (l1.length : Int) then (ancepsref01_Equal.l0 k l0 l1 0) else (some false)
theorem ancepsref01_Equal.mono_l : ∀ k, (∀ y0 y1 y2, LeO (ancepsref01_Equal.l0 k y0 y1 y2) (ancepsref01_Equal.l0 (k + 1) y0 y1 y2))
 | 0 => fun _ _ _ r h => by simp [ancepsref01_Equal.l0] at h
 | k + 1 => by
  have ih0 := ancepsref01_Equal.mono_l k
  ·intro y0 y1 y2
   unfold ancepsref01_Equal.l0
   repeat' first
   | (with_reducible exact ih0 _ _ _)
   | (with_reducible exact LeO.refl _)
   | (with_reducible exact LeO.none _)
   | (with_reducible refine LeO.ite ?_ ?_)
   | (with_reducible refine LeO.bind ?_ (fun _ => ?_))
   | exact ih0 _ _ _
   | exact LeO.none _
   | refine LeO.ite ?_ ?_
   | refine LeO.bind ?_ (fun _ => ?_)
theorem ancepsref01_Equal.mono : ∀ a0 a1 k, LeO (ancepsref01_Equal.f k a0 a1) (ancepsref01_Equal.f (k + 1) a0 a1) := by
 intro a0 a1 k
 have ih0 := ancepsref01_Equal.mono_l k
 unfold ancepsref01_Equal.f
 repeat' first
   | (with_reducible exact ih0 _ _ _)
   | (with_reducible exact LeO.refl _)
   | (with_reducible exact LeO.none _)
   | (with_reducible refine LeO.ite ?_ ?_)
   | (with_reducible refine LeO.bind ?_ (fun _ => ?_))
   | exact ih0 _ _ _
   | exact LeO.none _
   | refine LeO.ite ?_ ?_
   | refine LeO.bind ?_ (fun _ => ?_)
set_option maxHeartbeats 8000000 in
set_option maxRecDepth 100000 in
theorem ancepsref01_Equal.calls (k : Nat) (A0 : Option Addr) (c0 : Nat) (l0 : List ByteArray) (A1 : Option Addr) (c1 : Nat) (l1 : List ByteArray) (r : Bool) (w : World) (hr0 : Kd.C Kd.string w A0 l0.length l0) (hc0 : l0.length ≤ c0) (hr1 : Kd.C Kd.string w A1 l1.length l1) (hc1 : l1.length ≤ c1) (h : ancepsref01_Equal.f k l0 l1 = some r) :
  Calls Try.prog 21 #[.slice A0 l0.length c0, .slice A1 l1.length c1] w fun e w' => e = .returned (.bool r) ∧ Drawn0 w w' := by
 have HR0 := Aside0.mk hr0
 have HC0 := Aside0.mk hc0
 clear hr0 hc0
 have HR1 := Aside0.mk hr1
 have HC1 := Aside0.mk hc1
 clear hr1 hc1
 have H : (if (l0.length : Int) = (l1.length : Int) then (ancepsref01_Equal.l0 k l0 l1 0) else (some false)) = some r := h
 clear h
 by_cases c3 : (l0.length : Int) = (l1.length : Int)
 ·rw [if_pos c3] at H
  have c3b0 : ((l0.length : Int) == (l1.length : Int)) = true := beq_iff_eq.mpr c3
  have c3b1 : ((l0.length : Int) != (l1.length : Int)) = false := bne_eq_false_iff_eq.mpr c3
  have c3b2 : (l0.length == l1.length) = true := by first | simpa using c3 | (simp at c3 ⊢; omega)
  clear c3
  have H' := Aside0.mk H
  clear H
  go_enter Try.func21, Try.ntmps21
  go_wp2
  repeat (go_quiet (fail); try go_wp2)
  go_loopg [5] k (fun kq v5 w' => ∃ (x5_1 : Int), v5 = .int .i64 x5_1 ∧ Aside0 (ancepsref01_Equal.l0 kq l0 l1 x5_1 = some r) ∧ Aside0 (kq ≤ k) ∧ Drawn0 w w')
  case atStart => exact ⟨(0), eV, H', ⟨Nat.le_refl _⟩, dR⟩
  case round =>
   clear H'
   (try clear c1); (try clear c2); (try clear p2); (try clear c3); (try clear c3b0); (try clear c3b1); (try clear c3b2)
   obtain ⟨x5_1, rfl, HA, HK1, ⟨m1, rfl⟩⟩ := hrel
   cases gk with
   | zero => exact absurd HA.out (by simp [ancepsref01_Equal.l0])
   | succ k1 =>
    have H := HA.out
    clear HA
    simp only [ancepsref01_Equal.l0] at H
    by_cases c4 : x5_1 < (l0.length : Int)
    ·rw [if_pos c4] at H
     have c4b0 : decide (x5_1 < (l0.length : Int)) = true := decide_eq_true c4
     clear c4
     by_cases c5 : 0 ≤ x5_1
     ·rw [if_pos c5] at H
      have c5b0 : decide (0 ≤ x5_1) = true := decide_eq_true c5
      clear c5
      by_cases c6 : x5_1 < (l1.length : Int)
      ·rw [if_pos c6] at H
       have c6b0 : decide (x5_1 < (l1.length : Int)) = true := decide_eq_true c6
       clear c6
       by_cases c7 : (rdOf ByteArray.empty l0 x5_1).toList = (rdOf ByteArray.empty l1 x5_1).toList
       ·rw [if_pos c7] at H
        have c7b0 : ((rdOf ByteArray.empty l0 x5_1).toList == (rdOf ByteArray.empty l1 x5_1).toList) = true := beq_iff_eq.mpr c7
        have c7b1 : ((rdOf ByteArray.empty l0 x5_1).toList != (rdOf ByteArray.empty l1 x5_1).toList) = false := bne_eq_false_iff_eq.mpr c7
        clear c7
        have H' := Aside0.mk H
        clear H
        have p239 := oD (0 ≤ (x5_1 : Int))
        have q239 := oD (x5_1 < (l0.length : Int))
        obtain ⟨ad239, e239, hx239_0⟩ := Kd.at_string HR0.out x5_1 p239 q239
        cases e239
        replace p239 := eq_true p239
        replace q239 := eq_true q239
        have p240 := oD (0 ≤ (x5_1 : Int))
        have q240 := oD (x5_1 < (l1.length : Int))
        obtain ⟨ad240, e240, hx240_0⟩ := Kd.at_string HR1.out x5_1 p240 q240
        cases e240
        replace p240 := eq_true p240
        replace q240 := eq_true q240
        go_wp2
        repeat (go_quiet (fail); try go_wp2)
        go_roundg k1
        case measure => have := HK1.out; omega
        case rel => exact ⟨(wrap64 (x5_1 + 1)), eV, H', ⟨by have := HK1.out; omega⟩, dR⟩
       ·rw [if_neg c7] at H
        have c7b0 : ((rdOf ByteArray.empty l0 x5_1).toList == (rdOf ByteArray.empty l1 x5_1).toList) = false := beq_eq_false_iff_ne.mpr c7
        have c7b1 : ((rdOf ByteArray.empty l0 x5_1).toList != (rdOf ByteArray.empty l1 x5_1).toList) = true := bne_iff_ne.mpr c7
        obtain rfl := Option.some.inj H
        have p239 := oD (0 ≤ (x5_1 : Int))
        have q239 := oD (x5_1 < (l0.length : Int))
        obtain ⟨ad239, e239, hx239_0⟩ := Kd.at_string HR0.out x5_1 p239 q239
        cases e239
        replace p239 := eq_true p239
        replace q239 := eq_true q239
        have p240 := oD (0 ≤ (x5_1 : Int))
        have q240 := oD (x5_1 < (l1.length : Int))
        obtain ⟨ad240, e240, hx240_0⟩ := Kd.at_string HR1.out x5_1 p240 q240
        cases e240
        replace p240 := eq_true p240
        replace q240 := eq_true q240
        go_wp2
        repeat (go_quiet (fail); try go_wp2)
        go_ret
        exact ⟨eV, dR⟩
      ·rw [if_neg c6] at H
       exact absurd H (by simp)
     ·rw [if_neg c5] at H
      exact absurd H (by simp)
    ·rw [if_neg c4] at H
     have c4b0 : decide (x5_1 < (l0.length : Int)) = false := decide_eq_false c4
     clear c4
     obtain rfl := Option.some.inj H
     go_wp2
     repeat (go_quiet (fail); try go_wp2)
     go_ret
     exact ⟨eV, dR⟩
 ·rw [if_neg c3] at H
  have c3b0 : ((l0.length : Int) == (l1.length : Int)) = false := beq_eq_false_iff_ne.mpr c3
  have c3b1 : ((l0.length : Int) != (l1.length : Int)) = true := bne_iff_ne.mpr c3
  have c3b2 : (l0.length == l1.length) = false := by first | simpa using c3 | (simp at c3 ⊢; omega)
  obtain rfl := Option.some.inj H
  go_enter Try.func21, Try.ntmps21
  go_wp2
  repeat (go_quiet (fail); try go_wp2)
  go_ret
  exact ⟨eV, dR⟩

end Go.Proofs.Ytmjigfoldeekmaa.X
