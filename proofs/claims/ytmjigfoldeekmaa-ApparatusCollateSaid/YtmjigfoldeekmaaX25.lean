-- shortened
-- thinned
-- halved indents
-- printed by this session's xprint.py: out of the translation, by the kit's print with additions; Lean checks it
import Derived.Test.YtmjigfoldeekmaaWN
import Derived.Test.YtmjigfoldeekmaaWShare
import Derived.Test.YtmjigfoldeekmaaWRepsOne
import Derived.Test.YtmjigfoldeekmaaWGuard
import Derived.Test.YtmjigfoldeekmaaX0
import Derived.Test.YtmjigfoldeekmaaX5
import Derived.Test.YtmjigfoldeekmaaX7
import Derived.Test.YtmjigfoldeekmaaX11
import Derived.Test.YtmjigfoldeekmaaX12
import Derived.Test.YtmjigfoldeekmaaX22
import Derived.Test.YtmjigfoldeekmaaX23
import Derived.Test.YtmjigfoldeekmaaX24
import Derived.Test.YtmjigfoldeekmaaXA
namespace Go.Proofs.Ytmjigfoldeekmaa.X
open Go.RowKit Go.Proofs.YtmjigfoldeekmaaW.PrintWords Go.Proofs.YtmjigfoldeekmaaW.PrintLast Go.Proofs.YtmjigfoldeekmaaW.PrintMore
attribute [local go_sem] max2_int min2_int max_two min_two max_three min_three max_four min_four isSome_setCell binOp_gtr_str binOp_leq_str binOp_geq_str   -- for this text's walks alone
set_option linter.unusedVariables false
set_option linter.unusedSimpArgs false

/-! ### ancepslaw57_ApparatusCollate: function 5 -/
mutual
def ancepslaw57_ApparatusCollate.l0 : Nat → List ByteArray → List (List ByteArray) → Int → List (List ByteArray) → Int → Int → Option (Bool)
 | 0, _, _, _, _, _, _ => none
 | k + 1, x0, x1, x5, x21, x22, x23 => if x23 < x22 then (if 0 ≤ x23 then (if x23 < (x21.length : Int) then ((ancepsref01_Sum.f k (rd_L8 x21 x23) 4000).bind fun t390 => (ancepslaw57_ApparatusCollate.l0 k x0 x1 (wrap64 (x5 + (wrap64 (1 + t390)))) x21 x22 (wrap64 (x23 + 1)))) else (none)) else (none)) else ((ancepslaw57_awake.f k).bind fun t391 => (if t391 = true then (if (x0.length : Int) > 12 then (ancepslaw57_ApparatusCollate.j1 k x0 x1 true) else (if (x1.length : Int) > 12 then (ancepslaw57_ApparatusCollate.j1 k x0 x1 true) else (ancepslaw57_ApparatusCollate.j1 k x0 x1 (decide (x5 > 4000))))) else (ancepslaw57_ApparatusCollate.j1 k x0 x1 true)))
def ancepslaw57_ApparatusCollate.j1 : Nat → List ByteArray → List (List ByteArray) → Bool → Option (Bool)
 | 0, _, _, _ => none
 | k + 1, x0, x1, x48 => if x48 = true then ((ancepslaw57_awake.f k).bind fun t392 => (some t392)) else (ancepslaw57_ApparatusCollate.l1 k x0 x1 ([] : List (List ByteArray)) x1 (x1.length : Int) 0)
def ancepslaw57_ApparatusCollate.l1 : Nat → List ByteArray → List (List ByteArray) → List (List ByteArray) → List (List ByteArray) → Int → Int → Option (Bool)
 | 0, _, _, _, _, _, _ => none
 | k + 1, x0, x1, x8, x50, x51, x52 => if x52 < x51 then (if 0 ≤ x52 then (if x52 < (x50.length : Int) then ((slices_Clone_string_string.f (rd_L8 x50 x52)).bind fun t394 => (if x8.length < 5864062014805 then (ancepslaw57_ApparatusCollate.l1 k x0 x1 (x8 ++ [t394]) x50 x51 (wrap64 (x52 + 1))) else (none))) else (none)) else (none)) else ((slices_Clone_string_string.f x0).bind fun t400 => ((apparatus_Collate.f k t400 x8).bind fun bt403 => ((ancepsref57_Collate.f k x0 x1).bind fun bt411 => (if bt403.2.2 = bt411.2.2 then ((ancepsref57_Same.f k bt403.1 bt403.2.1 bt411.1 bt411.2.1).bind fun t419 => (if t419 = true then (ancepslaw57_ApparatusCollate.j3 k x0 x1 bt403.2.2 bt411.2.2 (bt403.2.2 != 0) bt403.1 bt403.2.1 bt411.1 bt411.2.1) else (ancepslaw57_ApparatusCollate.j3 k x0 x1 bt403.2.2 bt411.2.2 true bt403.1 bt403.2.1 bt411.1 bt411.2.1))) else (ancepslaw57_ApparatusCollate.j3 k x0 x1 bt403.2.2 bt411.2.2 true bt403.1 bt403.2.1 bt411.1 bt411.2.1)))))
def ancepslaw57_ApparatusCollate.j3 : Nat → List ByteArray → List (List ByteArray) → Int → Int → Bool → List ByteArray → List (S65) → List ByteArray → List (S65) → Option (Bool)
 | 0, _, _, _, _, _, _, _, _, _ => none
 | k + 1, x0, x1, x12, x14, x87, x411000, x411001, x419000, x419001 => if x87 = true then (if x12 = x14 then ((ancepsref57_Same.f k x411000 x411001 x419000 x419001).bind fun t420 => (some t420)) else (some false)) else (ancepslaw57_ApparatusCollate.l2 k x1 x0 (x0.length : Int) 0 x411000 x411001)
def ancepslaw57_ApparatusCollate.l2 : Nat → List (List ByteArray) → List ByteArray → Int → Int → List ByteArray → List (S65) → Option (Bool)
 | 0, _, _, _, _, _, _ => none
 | k + 1, x1, x96, x97, x98, x411000, x411001 => if x98 < x97 then (if 0 ≤ x98 then (if x98 < (x96.length : Int) then ((apparatus_Of.f k x411000 x411001 (rdOf ByteArray.empty x96 x98)).bind fun bt422 => (if bt422.2 = 0 then (if x98 < (x1.length : Int) then ((ancepsref01_Equal.f k bt422.1 (rd_L8 x1 x98)).bind fun t427 => (if t427 = true then (ancepslaw57_ApparatusCollate.l2 k x1 x96 x97 (wrap64 (x98 + 1)) x411000 x411001) else (some false))) else (none)) else (some false))) else (none)) else (none)) else (some true)
end
def ancepslaw57_ApparatusCollate.f (k : Nat) (l0 : List ByteArray) (l1 : List (List ByteArray)) : Option (Bool) := (ancepsref01_Sum.f k l0 4000).bind fun t388 => (ancepslaw57_ApparatusCollate.l0 k l0 l1 t388 l1 (l1.length : Int) 0)
theorem ancepslaw57_ApparatusCollate.mono_l : ∀ k, (∀ y0 y1 y2 y3 y4 y5, LeO (ancepslaw57_ApparatusCollate.l0 k y0 y1 y2 y3 y4 y5) (ancepslaw57_ApparatusCollate.l0 (k + 1) y0 y1 y2 y3 y4 y5)) ∧ (∀ y0 y1 y2, LeO (ancepslaw57_ApparatusCollate.j1 k y0 y1 y2) (ancepslaw57_ApparatusCollate.j1 (k + 1) y0 y1 y2)) ∧ (∀ y0 y1 y2 y3 y4 y5, LeO (ancepslaw57_ApparatusCollate.l1 k y0 y1 y2 y3 y4 y5) (ancepslaw57_ApparatusCollate.l1 (k + 1) y0 y1 y2 y3 y4 y5)) ∧ (∀ y0 y1 y2 y3 y4 y5 y6 y7 y8, LeO (ancepslaw57_ApparatusCollate.j3 k y0 y1 y2 y3 y4 y5 y6 y7 y8) (ancepslaw57_ApparatusCollate.j3 (k + 1) y0 y1 y2 y3 y4 y5 y6 y7 y8)) ∧ (∀ y0 y1 y2 y3 y4 y5, LeO (ancepslaw57_ApparatusCollate.l2 k y0 y1 y2 y3 y4 y5) (ancepslaw57_ApparatusCollate.l2 (k + 1) y0 y1 y2 y3 y4 y5))
 | 0 => ⟨fun _ _ _ _ _ _ r h => by simp [ancepslaw57_ApparatusCollate.l0] at h, fun _ _ _ r h => by simp [ancepslaw57_ApparatusCollate.j1] at h, fun _ _ _ _ _ _ r h => by simp [ancepslaw57_ApparatusCollate.l1] at h, fun _ _ _ _ _ _ _ _ _ r h => by simp [ancepslaw57_ApparatusCollate.j3] at h, fun _ _ _ _ _ _ r h => by simp [ancepslaw57_ApparatusCollate.l2] at h⟩
 | k + 1 => by
  obtain ⟨ih0, ih1, ih2, ih3, ih4⟩ := ancepslaw57_ApparatusCollate.mono_l k
  refine ⟨?_, ?_, ?_, ?_, ?_⟩
  ·intro y0 y1 y2 y3 y4 y5
   unfold ancepslaw57_ApparatusCollate.l0
   repeat' first
   | (with_reducible exact ih0 _ _ _ _ _ _)
   | (with_reducible exact ih1 _ _ _)
   | (with_reducible exact ih2 _ _ _ _ _ _)
   | (with_reducible exact ih3 _ _ _ _ _ _ _ _ _)
   | (with_reducible exact ih4 _ _ _ _ _ _)
   | (with_reducible exact ancepslaw57_awake.mono _)
   | (with_reducible exact ancepsref01_Equal.mono _ _ _)
   | (with_reducible exact ancepsref01_Sum.mono _ _ _)
   | (with_reducible exact ancepsref57_Collate.mono _ _ _)
   | (with_reducible exact ancepsref57_Same.mono _ _ _ _ _)
   | (with_reducible exact apparatus_Collate.mono _ _ _)
   | (with_reducible exact apparatus_Of.mono _ _ _ _)
   | (with_reducible exact LeO.refl _)
   | (with_reducible exact LeO.none _)
   | (with_reducible refine LeO.ite ?_ ?_)
   | (with_reducible refine LeO.bind ?_ (fun _ => ?_))
   | exact ih0 _ _ _ _ _ _
   | exact ih1 _ _ _
   | exact ih2 _ _ _ _ _ _
   | exact ih3 _ _ _ _ _ _ _ _ _
   | exact ih4 _ _ _ _ _ _
   | exact ancepslaw57_awake.mono _
   | exact ancepsref01_Equal.mono _ _ _
   | exact ancepsref01_Sum.mono _ _ _
   | exact ancepsref57_Collate.mono _ _ _
   | exact ancepsref57_Same.mono _ _ _ _ _
   | exact apparatus_Collate.mono _ _ _
   | exact apparatus_Of.mono _ _ _ _
   | exact LeO.none _
   | refine LeO.ite ?_ ?_
   | refine LeO.bind ?_ (fun _ => ?_)
  ·intro y0 y1 y2
   unfold ancepslaw57_ApparatusCollate.j1
   repeat' first
   | (with_reducible exact ih0 _ _ _ _ _ _)
   | (with_reducible exact ih1 _ _ _)
   | (with_reducible exact ih2 _ _ _ _ _ _)
   | (with_reducible exact ih3 _ _ _ _ _ _ _ _ _)
   | (with_reducible exact ih4 _ _ _ _ _ _)
   | (with_reducible exact ancepslaw57_awake.mono _)
   | (with_reducible exact ancepsref01_Equal.mono _ _ _)
   | (with_reducible exact ancepsref01_Sum.mono _ _ _)
   | (with_reducible exact ancepsref57_Collate.mono _ _ _)
   | (with_reducible exact ancepsref57_Same.mono _ _ _ _ _)
   | (with_reducible exact apparatus_Collate.mono _ _ _)
   | (with_reducible exact apparatus_Of.mono _ _ _ _)
   | (with_reducible exact LeO.refl _)
   | (with_reducible exact LeO.none _)
   | (with_reducible refine LeO.ite ?_ ?_)
   | (with_reducible refine LeO.bind ?_ (fun _ => ?_))
   | exact ih0 _ _ _ _ _ _
   | exact ih1 _ _ _
   | exact ih2 _ _ _ _ _ _
   | exact ih3 _ _ _ _ _ _ _ _ _
   | exact ih4 _ _ _ _ _ _
   | exact ancepslaw57_awake.mono _
   | exact ancepsref01_Equal.mono _ _ _
   | exact ancepsref01_Sum.mono _ _ _
   | exact ancepsref57_Collate.mono _ _ _
   | exact ancepsref57_Same.mono _ _ _ _ _
   | exact apparatus_Collate.mono _ _ _
   | exact apparatus_Of.mono _ _ _ _
   | exact LeO.none _
   | refine LeO.ite ?_ ?_
   | refine LeO.bind ?_ (fun _ => ?_)
  ·intro y0 y1 y2 y3 y4 y5
   unfold ancepslaw57_ApparatusCollate.l1
   repeat' first
   | (with_reducible exact ih0 _ _ _ _ _ _)
   | (with_reducible exact ih1 _ _ _)
   | (with_reducible exact ih2 _ _ _ _ _ _)
   | (with_reducible exact ih3 _ _ _ _ _ _ _ _ _)
   | (with_reducible exact ih4 _ _ _ _ _ _)
   | (with_reducible exact ancepslaw57_awake.mono _)
   | (with_reducible exact ancepsref01_Equal.mono _ _ _)
   | (with_reducible exact ancepsref01_Sum.mono _ _ _)
   | (with_reducible exact ancepsref57_Collate.mono _ _ _)
   | (with_reducible exact ancepsref57_Same.mono _ _ _ _ _)
   | (with_reducible exact apparatus_Collate.mono _ _ _)
   | (with_reducible exact apparatus_Of.mono _ _ _ _)
   | (with_reducible exact LeO.refl _)
   | (with_reducible exact LeO.none _)
   | (with_reducible refine LeO.ite ?_ ?_)
   | (with_reducible refine LeO.bind ?_ (fun _ => ?_))
   | exact ih0 _ _ _ _ _ _
   | exact ih1 _ _ _
   | exact ih2 _ _ _ _ _ _
   | exact ih3 _ _ _ _ _ _ _ _ _
   | exact ih4 _ _ _ _ _ _
   | exact ancepslaw57_awake.mono _
   | exact ancepsref01_Equal.mono _ _ _
   | exact ancepsref01_Sum.mono _ _ _
   | exact ancepsref57_Collate.mono _ _ _
   | exact ancepsref57_Same.mono _ _ _ _ _
   | exact apparatus_Collate.mono _ _ _
   | exact apparatus_Of.mono _ _ _ _
   | exact LeO.none _
   | refine LeO.ite ?_ ?_
   | refine LeO.bind ?_ (fun _ => ?_)
  ·intro y0 y1 y2 y3 y4 y5 y6 y7 y8
   unfold ancepslaw57_ApparatusCollate.j3
   repeat' first
   | (with_reducible exact ih0 _ _ _ _ _ _)
   | (with_reducible exact ih1 _ _ _)
   | (with_reducible exact ih2 _ _ _ _ _ _)
   | (with_reducible exact ih3 _ _ _ _ _ _ _ _ _)
   | (with_reducible exact ih4 _ _ _ _ _ _)
   | (with_reducible exact ancepslaw57_awake.mono _)
   | (with_reducible exact ancepsref01_Equal.mono _ _ _)
   | (with_reducible exact ancepsref01_Sum.mono _ _ _)
   | (with_reducible exact ancepsref57_Collate.mono _ _ _)
   | (with_reducible exact ancepsref57_Same.mono _ _ _ _ _)
   | (with_reducible exact apparatus_Collate.mono _ _ _)
   | (with_reducible exact apparatus_Of.mono _ _ _ _)
   | (with_reducible exact LeO.refl _)
   | (with_reducible exact LeO.none _)
   | (with_reducible refine LeO.ite ?_ ?_)
   | (with_reducible refine LeO.bind ?_ (fun _ => ?_))
   | exact ih0 _ _ _ _ _ _
   | exact ih1 _ _ _
   | exact ih2 _ _ _ _ _ _
   | exact ih3 _ _ _ _ _ _ _ _ _
   | exact ih4 _ _ _ _ _ _
   | exact ancepslaw57_awake.mono _
   | exact ancepsref01_Equal.mono _ _ _
   | exact ancepsref01_Sum.mono _ _ _
   | exact ancepsref57_Collate.mono _ _ _
   | exact ancepsref57_Same.mono _ _ _ _ _
   | exact apparatus_Collate.mono _ _ _
   | exact apparatus_Of.mono _ _ _ _
   | exact LeO.none _
   | refine LeO.ite ?_ ?_
   | refine LeO.bind ?_ (fun _ => ?_)
  ·intro y0 y1 y2 y3 y4 y5
   unfold ancepslaw57_ApparatusCollate.l2
   repeat' first
   | (with_reducible exact ih0 _ _ _ _ _ _)
   | (with_reducible exact ih1 _ _ _)
   | (with_reducible exact ih2 _ _ _ _ _ _)
   | (with_reducible exact ih3 _ _ _ _ _ _ _ _ _)
   | (with_reducible exact ih4 _ _ _ _ _ _)
   | (with_reducible exact ancepslaw57_awake.mono _)
   | (with_reducible exact ancepsref01_Equal.mono _ _ _)
   | (with_reducible exact ancepsref01_Sum.mono _ _ _)
   | (with_reducible exact ancepsref57_Collate.mono _ _ _)
   | (with_reducible exact ancepsref57_Same.mono _ _ _ _ _)
   | (with_reducible exact apparatus_Collate.mono _ _ _)
   | (with_reducible exact apparatus_Of.mono _ _ _ _)
   | (with_reducible exact LeO.refl _)
   | (with_reducible exact LeO.none _)
   | (with_reducible refine LeO.ite ?_ ?_)
   | (with_reducible refine LeO.bind ?_ (fun _ => ?_))
   | exact ih0 _ _ _ _ _ _
   | exact ih1 _ _ _
   | exact ih2 _ _ _ _ _ _
   | exact ih3 _ _ _ _ _ _ _ _ _
   | exact ih4 _ _ _ _ _ _
   | exact ancepslaw57_awake.mono _
   | exact ancepsref01_Equal.mono _ _ _
   | exact ancepsref01_Sum.mono _ _ _
   | exact ancepsref57_Collate.mono _ _ _
   | exact ancepsref57_Same.mono _ _ _ _ _
   | exact apparatus_Collate.mono _ _ _
   | exact apparatus_Of.mono _ _ _ _
   | exact LeO.none _
   | refine LeO.ite ?_ ?_
   | refine LeO.bind ?_ (fun _ => ?_)
theorem ancepslaw57_ApparatusCollate.mono : ∀ a0 a1 k, LeO (ancepslaw57_ApparatusCollate.f k a0 a1) (ancepslaw57_ApparatusCollate.f (k + 1) a0 a1) := by
 intro a0 a1 k
 obtain ⟨ih0, ih1, ih2, ih3, ih4⟩ := ancepslaw57_ApparatusCollate.mono_l k
 unfold ancepslaw57_ApparatusCollate.f
 repeat' first
   | (with_reducible exact ih0 _ _ _ _ _ _)
   | (with_reducible exact ih1 _ _ _)
   | (with_reducible exact ih2 _ _ _ _ _ _)
   | (with_reducible exact ih3 _ _ _ _ _ _ _ _ _)
   | (with_reducible exact ih4 _ _ _ _ _ _)
   | (with_reducible exact ancepslaw57_awake.mono _)
   | (with_reducible exact ancepsref01_Equal.mono _ _ _)
   | (with_reducible exact ancepsref01_Sum.mono _ _ _)
   | (with_reducible exact ancepsref57_Collate.mono _ _ _)
   | (with_reducible exact ancepsref57_Same.mono _ _ _ _ _)
   | (with_reducible exact apparatus_Collate.mono _ _ _)
   | (with_reducible exact apparatus_Of.mono _ _ _ _)
   | (with_reducible exact LeO.refl _)
   | (with_reducible exact LeO.none _)
   | (with_reducible refine LeO.ite ?_ ?_)
   | (with_reducible refine LeO.bind ?_ (fun _ => ?_))
   | exact ih0 _ _ _ _ _ _
   | exact ih1 _ _ _
   | exact ih2 _ _ _ _ _ _
   | exact ih3 _ _ _ _ _ _ _ _ _
   | exact ih4 _ _ _ _ _ _
   | exact ancepslaw57_awake.mono _
   | exact ancepsref01_Equal.mono _ _ _
   | exact ancepsref01_Sum.mono _ _ _
   | exact ancepsref57_Collate.mono _ _ _
   | exact ancepsref57_Same.mono _ _ _ _ _
   | exact apparatus_Collate.mono _ _ _
   | exact apparatus_Of.mono _ _ _ _
   | exact LeO.none _
   | refine LeO.ite ?_ ?_
   | refine LeO.bind ?_ (fun _ => ?_)
set_option maxHeartbeats 8000000 in
set_option maxRecDepth 100000 in
theorem ancepslaw57_ApparatusCollate.calls (k : Nat) (A0 : Option Addr) (c0 : Nat) (l0 : List ByteArray) (A1 : Option Addr) (c1 : Nat) (l1 : List (List ByteArray)) (r : Bool) (w : World) (hr0 : Kd.C Kd.string w A0 l0.length l0) (hc0 : l0.length ≤ c0) (hr1 : Kd.C (Kd.slice 9 Kd.string) w A1 l1.length l1) (hc1 : l1.length ≤ c1) (h : ancepslaw57_ApparatusCollate.f k l0 l1 = some r) :
  Calls Try.prog 5 #[.slice A0 l0.length c0, .slice A1 l1.length c1] w fun e w' => e = .returned (.bool r) ∧ Below w.heap.size w w' := by
 have hu42 := Try.underlying42
 have HR0 := Aside0.mk hr0
 have HC0 := Aside0.mk hc0
 clear hr0 hc0
 have HR1 := Aside0.mk hr1
 have HC1 := Aside0.mk hc1
 clear hr1 hc1
 have HB := Aside0.mk (Below.refl w.heap.size w)
 have H : ((ancepsref01_Sum.f k l0 4000).bind fun t388 => (ancepslaw57_ApparatusCollate.l0 k l0 l1 t388 l1 (l1.length : Int) 0)) = some r := h
 clear h
 replace H := Option.bind_eq_some_iff.mp H
 obtain ⟨t388, A30, H⟩ := H
 try dsimp only at H
 have A3 := Aside0.mk A30
 clear A30
 have H' := Aside0.mk H
 clear H
 go_enter Try.func5, Try.ntmps5
 go_wp2_with (first | ((with_reducible refine gate_callee (f := 15) rfl ?_); refine gL_ (some 20) Try.func15 #[.slice A0 l0.length c0, .int .i64 4000] ?_; (with_reducible refine (ancepsref01_Sum.calls k _ _ l0 4000 t388 _ ?side1 ?side2 A3.out).mono ?_); (case side1 => repeat (first | exact HR0.out | (with_reducible refine Kd.C_alloc ?_ _) | (with_reducible refine Kd.C_drewN ?_ _) | (with_reducible refine Kd.C_drew ?_))); (case side2 => exact HC0.out); rintro e w' ⟨rfl, ⟨nd, rfl⟩⟩; refine ⟨_, rfl, ?_⟩))
 go_loopg [5, 23] k (fun kq v5 v23 w' => ∃ (x5_1 : Int) (x23_1 : Int), v5 = .int .i64 x5_1 ∧ v23 = .int .i64 x23_1 ∧ Aside0 (ancepslaw57_ApparatusCollate.l0 kq l0 l1 x5_1 l1 (l1.length : Int) x23_1 = some r) ∧ Aside0 (kq ≤ k) ∧ Aside0 (Below w.heap.size w w'))
 case atStart => exact ⟨(t388), (0), (by first | rfl | (simp; done) | (simp [*]; done)), (by first | rfl | (simp; done) | (simp [*]; done)), H', ⟨Nat.le_refl _⟩, ⟨by repeat (first | (with_reducible first | exact HB.out | apply below_alloc | apply pw_below_drewN | apply below_drew1) | exact HB.out)⟩⟩
 case round =>
  clear H'
  try clear c1
  try clear p2
  obtain ⟨x5_1, x23_1, rfl, rfl, HA, HK1, HB⟩ := hrel
  cases gk with
  | zero => exact absurd HA.out (by simp [ancepslaw57_ApparatusCollate.l0])
  | succ k1 =>
   have H := HA.out
   clear HA
   simp only [ancepslaw57_ApparatusCollate.l0] at H
   by_cases c4 : x23_1 < (l1.length : Int)
   ·rw [if_pos c4] at H
    have c4b0 : decide (x23_1 < (l1.length : Int)) = true := decide_eq_true c4
    clear c4
    by_cases c5 : 0 ≤ x23_1
    ·rw [if_pos c5] at H
     have c5b0 : decide (0 ≤ x23_1) = true := decide_eq_true c5
     clear c5
     by_cases c6 : x23_1 < (l1.length : Int)
     ·rw [if_pos c6] at H
      have c6b0 : decide (x23_1 < (l1.length : Int)) = true := decide_eq_true c6
      clear c6
      replace H := Option.bind_eq_some_iff.mp H
      obtain ⟨t390, A70, H⟩ := H
      try dsimp only at H
      have A7 := Aside0.mk A70
      clear A70
      have H' := Aside0.mk H
      clear H
      have p389 : 0 ≤ (x23_1 : Int) := of_decide_eq_true (by first | (with_reducible assumption) | assumption)
      have q389 : x23_1 < (l1.length : Int) := of_decide_eq_true (by first | (with_reducible assumption) | assumption)
      obtain ⟨ad389, A389_0, c389_0, e389, hx389_0, hl389_0, hi389_0⟩ := at_L8 HR1.out x23_1 p389 q389
      cases e389
      replace hx389_0 := (HB.out.cell (World.block_lt_of_cell? w _ hx389_0)).trans hx389_0
      have HR389_0 := Aside0.mk hi389_0
      have HC389_0 := Aside0.mk hl389_0
      clear hi389_0 hl389_0
      replace p389 := eq_true p389
      replace q389 := eq_true q389
      go_wp2_with (first | ((with_reducible refine gate_callee (f := 15) rfl ?_); refine gL_ (some 29) Try.func15 #[.slice A389_0 (rd_L8 l1 x23_1).length c389_0, .int .i64 4000] ?_; (with_reducible refine (ancepsref01_Sum.calls k1 _ _ (rd_L8 l1 x23_1) 4000 t390 _ ?side1 ?side2 A7.out).mono ?_); (case side1 => exact iC HR389_0 HB); (case side2 => exact HC389_0.out); rintro e w' ⟨rfl, ⟨nd, rfl⟩⟩; refine ⟨_, rfl, ?_⟩))
      go_roundg k1
      case measure => have := HK1.out; omega
      case rel => exact ⟨(wrap64 (x5_1 + (wrap64 (1 + t390)))), (wrap64 (x23_1 + 1)), (by first | rfl | (simp; done) | (simp [*]; done)), (by first | rfl | (simp; done) | (simp [*]; done)), H', ⟨by have := HK1.out; omega⟩, ⟨by repeat (first | (with_reducible first | exact HB.out | apply below_alloc | apply pw_below_drewN | apply below_drew1) | exact HB.out)⟩⟩
     ·rw [if_neg c6] at H
      exact absurd H (by simp)
    ·rw [if_neg c5] at H
     exact absurd H (by simp)
   ·rw [if_neg c4] at H
    have c4b0 : decide (x23_1 < (l1.length : Int)) = false := decide_eq_false c4
    clear c4
    have HC8 := Aside0.mk H
    clear H
    go_upto_region 7 with (fail)
    go_cut [48] (fun v48 wc => ∃ (kq : Nat) (x48_7 : Bool), v48 = .bool x48_7 ∧ Aside0 (ancepslaw57_ApparatusCollate.j1 kq l0 l1 x48_7 = some r) ∧ Aside0 (kq ≤ k1) ∧ Aside0 (Below w.heap.size w wc))
    case first =>
     have H := HC8.out
     clear HC8
     replace H := Option.bind_eq_some_iff.mp H
     obtain ⟨t391, A90, H⟩ := H
     try dsimp only at H
     have A9 := Aside0.mk A90
     clear A90
     by_cases c10 : t391 = true
     ·subst c10
      have H1 : (if (l0.length : Int) > 12 then (ancepslaw57_ApparatusCollate.j1 k1 l0 l1 true) else (if (l1.length : Int) > 12 then (ancepslaw57_ApparatusCollate.j1 k1 l0 l1 true) else (ancepslaw57_ApparatusCollate.j1 k1 l0 l1 (decide (x5_1 > 4000))))) = some r := by rw [if_pos rfl] at H; exact H
      clear H
      have H := H1
      clear H1
      by_cases c11 : (l0.length : Int) > 12
      ·rw [if_pos c11] at H
       have c11b0 : decide (12 < (l0.length : Int)) = true := decide_eq_true c11
       have c11b1 : decide (12 < l0.length) = true := decide_eq_true (by omega)
       clear c11
       (first | rw [c11b0] | (simp only [i64_w, i32_w]; rw [c11b0]) | skip)
       have H' := Aside0.mk H
       clear H
       go_wp2_with (first | ((with_reducible refine gate_callee (f := 9) rfl ?_); refine gL_ (some 33) Try.func9 #[] ?_; (with_reducible refine (ancepslaw57_awake.calls k1  true _ A9.out).mono ?_); rintro e w12 ⟨rfl, hb⟩; refine ⟨_, rfl, ?_⟩; have n0_ := jL HB hb; clear HB; have HB := n0_; clear n0_; (try clear hb); (try clear hb2); (try clear hk); (try clear hi)))
       go_meet
       case rel => exact ⟨_, (true), (by first | rfl | (simp; done) | (simp [*]; done)), H', ⟨by have := HK1.out; first | omega | exact Nat.le_refl _⟩, ⟨by repeat (first | (with_reducible first | exact HB.out | apply below_alloc | apply pw_below_drewN | apply below_drew1) | exact HB.out)⟩⟩
      ·rw [if_neg c11] at H
       have c11b0 : decide (12 < (l0.length : Int)) = false := decide_eq_false c11
       have c11b1 : decide (12 < l0.length) = false := decide_eq_false (by omega)
       clear c11
       (first | rw [c11b0] | (simp only [i64_w, i32_w]; rw [c11b0]) | skip)
       by_cases c13 : (l1.length : Int) > 12
       ·rw [if_pos c13] at H
        have c13b0 : decide (12 < (l1.length : Int)) = true := decide_eq_true c13
        have c13b1 : decide (12 < l1.length) = true := decide_eq_true (by omega)
        clear c13
        have H' := Aside0.mk H
        clear H
        go_wp2_with (first | ((with_reducible refine gate_callee (f := 9) rfl ?_); refine gL_ (some 33) Try.func9 #[] ?_; (with_reducible refine (ancepslaw57_awake.calls k1  true _ A9.out).mono ?_); rintro e w14 ⟨rfl, hb⟩; refine ⟨_, rfl, ?_⟩; have n0_ := jL HB hb; clear HB; have HB := n0_; clear n0_; (try clear hb); (try clear hb2); (try clear hk); (try clear hi)))
        go_meet
        case rel => exact ⟨_, (true), (by first | rfl | (simp; done) | (simp [*]; done)), H', ⟨by have := HK1.out; first | omega | exact Nat.le_refl _⟩, ⟨by repeat (first | (with_reducible first | exact HB.out | apply below_alloc | apply pw_below_drewN | apply below_drew1) | exact HB.out)⟩⟩
       ·rw [if_neg c13] at H
        have c13b0 : decide (12 < (l1.length : Int)) = false := decide_eq_false c13
        have c13b1 : decide (12 < l1.length) = false := decide_eq_false (by omega)
        clear c13
        have H' := Aside0.mk H
        clear H
        go_wp2_with (first | ((with_reducible refine gate_callee (f := 9) rfl ?_); refine gL_ (some 33) Try.func9 #[] ?_; (with_reducible refine (ancepslaw57_awake.calls k1  true _ A9.out).mono ?_); rintro e w15 ⟨rfl, hb⟩; refine ⟨_, rfl, ?_⟩; have n0_ := jL HB hb; clear HB; have HB := n0_; clear n0_; (try clear hb); (try clear hb2); (try clear hk); (try clear hi)))
        go_meet
        case rel => exact ⟨_, (decide (x5_1 > 4000)), (by first | rfl | (simp; done) | (simp [*]; done)), H', ⟨by have := HK1.out; first | omega | exact Nat.le_refl _⟩, ⟨by repeat (first | (with_reducible first | exact HB.out | apply below_alloc | apply pw_below_drewN | apply below_drew1) | exact HB.out)⟩⟩
     ·replace c10 := Bool.eq_false_iff.mpr c10
      subst c10
      have H1 : (ancepslaw57_ApparatusCollate.j1 k1 l0 l1 true) = some r := by rw [if_neg (show ¬ (false = true) by decide)] at H; exact H
      clear H
      have H := H1
      clear H1
      have H' := Aside0.mk H
      clear H
      go_wp2_with (first | ((with_reducible refine gate_callee (f := 9) rfl ?_); refine gL_ (some 33) Try.func9 #[] ?_; (with_reducible refine (ancepslaw57_awake.calls k1  false _ A9.out).mono ?_); rintro e w16 ⟨rfl, hb⟩; refine ⟨_, rfl, ?_⟩; have n0_ := jL HB hb; clear HB; have HB := n0_; clear n0_; (try clear hb); (try clear hb2); (try clear hk); (try clear hi)))
      go_meet
      case rel => exact ⟨_, (true), (by first | rfl | (simp; done) | (simp [*]; done)), H', ⟨by have := HK1.out; first | omega | exact Nat.le_refl _⟩, ⟨by repeat (first | (with_reducible first | exact HB.out | apply below_alloc | apply pw_below_drewN | apply below_drew1) | exact HB.out)⟩⟩
    case rest =>
     clear HC8
     try clear c1
     try clear p2
     try clear c3
     try clear p3
     try clear q3
     try clear hx3
     try clear c4
     try clear c4b0
     try clear c5
     try clear c5b0
     try clear c6
     try clear c6b0
     try clear p6
     try clear c9
     try clear c10
     try clear c11
     try clear c11b0
     try clear c11b1
     try clear c13
     try clear c13b0
     try clear c13b1
     try clear c15
     try clear hx389_0
     try clear p2
     try clear p389
     try clear q389
     obtain ⟨kq, x48_7, rfl, HA, HJ7, HB⟩ := hcut
     cases kq with
     | zero => exact absurd HA.out (by simp [ancepslaw57_ApparatusCollate.j1])
     | succ kj7 =>
      have H := HA.out
      clear HA
      simp only [ancepslaw57_ApparatusCollate.j1] at H
      by_cases c17 : x48_7 = true
      ·subst c17
       have H1 : ((ancepslaw57_awake.f kj7).bind fun t392 => (some t392)) = some r := by rw [if_pos rfl] at H; exact H
       clear H
       have H := H1
       clear H1
       replace H := Option.bind_eq_some_iff.mp H
       obtain ⟨t392, A180, H⟩ := H
       replace H : (some t392) = some r := H
       have A18 := Aside0.mk A180
       clear A180
       obtain rfl := Option.some.inj H
       go_wp2_with (first | ((with_reducible refine gate_callee (f := 9) rfl ?_); refine gL_ (some 49) Try.func9 #[] ?_; (with_reducible refine (ancepslaw57_awake.calls kj7  t392 _ A18.out).mono ?_); rintro e w19 ⟨rfl, hb⟩; refine ⟨_, rfl, ?_⟩; have n0_ := jL HB hb; clear HB; have HB := n0_; clear n0_; (try clear hb); (try clear hb2); (try clear hk); (try clear hi)))
       go_ret
       exact ⟨by first | rfl | (simp [errW_none, errW_some] <;> rfl) | (simp [*, errW_none, errW_some] <;> rfl), by repeat (first | (with_reducible first | exact HB.out | apply below_alloc | apply pw_below_drewN | apply below_drew1) | exact HB.out)⟩
      ·replace c17 := Bool.eq_false_iff.mpr c17
       subst c17
       have H1 : (ancepslaw57_ApparatusCollate.l1 kj7 l0 l1 ([] : List (List ByteArray)) l1 (l1.length : Int) 0) = some r := by rw [if_neg (show ¬ (false = true) by decide)] at H; exact H
       clear H
       have H := H1
       clear H1
       have H' := Aside0.mk H
       clear H
       go_wp2
       go_loopg [8, 52] kj7 (fun kq v8 v52 w' => ∃ (x8_3 : List (List ByteArray)) (x52_3 : Int), v52 = .int .i64 x52_3 ∧ Aside0 (ancepslaw57_ApparatusCollate.l1 kq l0 l1 x8_3 l1 (l1.length : Int) x52_3 = some r) ∧ Aside0 (kq ≤ kj7) ∧ Aside0 (Kd.S (Kd.slice 9 Kd.string) 34 w' w.heap.size (fun _ => True) v8 x8_3) ∧ Aside0 (Below w.heap.size w w'))
       case atStart => exact ⟨(([] : List (List ByteArray))), (0), (by first | rfl | (simp; done) | (simp [*]; done)), H', ⟨Nat.le_refl _⟩, ⟨by first | exact Kd.S_nil _ _ _ _ _ | exact Kd.N_nil _ _ _ _ _ | exact Kd.V_nil _ _ _ _ _ | exact Kd.Q_nil _ _ _ _ _ | exact Kd.R_nil _ _ _ _ _⟩, ⟨by repeat (first | (with_reducible first | exact HB.out | apply below_alloc | apply pw_below_drewN | apply below_drew1) | exact HB.out)⟩⟩
       case round =>
        clear H'
        try clear c1
        try clear p2
        try clear c3
        try clear p3
        try clear q3
        try clear hx3
        try clear c4
        try clear c4b0
        try clear c5
        try clear c5b0
        try clear c6
        try clear c6b0
        try clear p6
        try clear c9
        try clear c10
        try clear c11
        try clear c11b0
        try clear c11b1
        try clear c13
        try clear c13b0
        try clear c13b1
        try clear c15
        try clear c17
        try clear hx389_0
        try clear p2
        try clear p3
        try clear p389
        try clear p6
        try clear q3
        try clear q389
        obtain ⟨x8_3, x52_3, rfl, HA, HK3, HO_8, HB⟩ := hrel
        cases gk with
        | zero => exact absurd HA.out (by simp [ancepslaw57_ApparatusCollate.l1])
        | succ k3 =>
         have H := HA.out
         clear HA
         simp only [ancepslaw57_ApparatusCollate.l1] at H
         by_cases c20 : x52_3 < (l1.length : Int)
         ·rw [if_pos c20] at H
          have c20b0 : decide (x52_3 < (l1.length : Int)) = true := decide_eq_true c20
          clear c20
          by_cases c21 : 0 ≤ x52_3
          ·rw [if_pos c21] at H
           have c21b0 : decide (0 ≤ x52_3) = true := decide_eq_true c21
           clear c21
           by_cases c22 : x52_3 < (l1.length : Int)
           ·rw [if_pos c22] at H
            have c22b0 : decide (x52_3 < (l1.length : Int)) = true := decide_eq_true c22
            clear c22
            replace H := Option.bind_eq_some_iff.mp H
            obtain ⟨t394, A230, H⟩ := H
            try dsimp only at H
            have A23 := Aside0.mk A230
            clear A230
            by_cases c24 : x8_3.length < 5864062014805
            ·rw [if_pos c24] at H
             have LMc24 := Aside0.mk c24
             clear c24
             obtain ⟨y397, hy397⟩ : ∃ y_ : List (List ByteArray), y_ = (x8_3 ++ [t394]) := ⟨_, rfl⟩
             replace H : (ancepslaw57_ApparatusCollate.l1 k3 l0 l1 y397 l1 (l1.length : Int) (wrap64 (x52_3 + 1))) = some r := by first | (rw [hy397]; with_reducible exact H) | (have H2_ := (Option.bind_some _ _).symm.trans H; rw [hy397]; with_reducible exact H2_) | (have H2_ := (Option.bind_some _ _).symm.trans H; with_reducible exact H2_) | with_reducible exact H | (rw [hy397]; exact H) | exact H
             have Ny397 := Aside0.mk hy397
             clear hy397
             have H' := Aside0.mk H
             clear H
             have p393 : 0 ≤ (x52_3 : Int) := of_decide_eq_true (by first | (with_reducible assumption) | assumption)
             have q393 : x52_3 < (l1.length : Int) := of_decide_eq_true (by first | (with_reducible assumption) | assumption)
             obtain ⟨ad393, A393_0, c393_0, e393, hx393_0, hl393_0, hi393_0⟩ := at_L8 HR1.out x52_3 p393 q393
             cases e393
             replace hx393_0 := (HB.out.cell (World.block_lt_of_cell? w _ hx393_0)).trans hx393_0
             have HR393_0 := Aside0.mk hi393_0
             have HC393_0 := Aside0.mk hl393_0
             clear hi393_0 hl393_0
             replace p393 := eq_true p393
             replace q393 := eq_true q393
             go_wp2_with (first | ((with_reducible refine gate_callee (f := 16) rfl ?_); refine gL_ (some 58) Try.func16 #[.slice A393_0 (rd_L8 l1 x52_3).length c393_0] ?_; (with_reducible refine (slices_Clone_string_string.calls _ _ (rd_L8 l1 x52_3) t394 _ ?side1 ?side2 A23.out).mono ?_); (case side1 => exact iC HR393_0 HB); (case side2 => exact HC393_0.out); rintro e w25 ⟨v395, rfl, ho0, hb⟩; refine ⟨_, rfl, ?_⟩; have n0_ := Aside0.mk (Kd.S_elder' (by (with_reducible repeat (first | apply Kd.S_alloc | apply Kd.S_drewN | apply Kd.S_drew)); exact HO_8.out) (Kd.R_base ho0) hb); have n1_ := Aside0.mk (Kd.R_lower ho0 (below_size (iL HB))); have n2_ := jL HB hb; clear HO_8; clear HB; have HO_8 := n0_; have HO396 := n1_; have HB := n2_; clear n0_ n1_ n2_; (try clear hb); (try clear hb2); (try clear hk); (try clear hi); (try clear ho0); obtain ⟨Ao27, co27, eo27⟩ := Kd.R_slice HO396.out; subst eo27) | ((with_reducible refine gate_builtin (b := .append) (xs := #[.tmp 56, .tmp 59]) rfl ?_); (try (refine gate_guard (by rfl) ?_; dsimp only)); at_builtin; refine Kd.S_append (Kd.slice 9 Kd.string) (w0 := w) w.heap.size rfl (.tmp 56) (.tmp 59) 37 34 (.slice none 0 0) 24 rfl Try.underlying37 info34 rfl (by decide) (by omega) u8 x8_3 t394 [.slice Ao27 t394.length co27] (fun _ => True) (fun k_ => some k_ = (.slice Ao27 t394.length co27 : Value).ownBlock) rfl rfl ?aP (fun k_ hk_ => ((Kd.R_mono (ok' := fun k_ => ((fun _ => True)) k_ ∧ some k_ ≠ (u8 : Value).ownBlock) (Kd.R_apart' (HO396.out) (Kd.S_typed HO_8.out) (by decide)) (fun k_ hk => ⟨trivial, hk.2⟩))).1 k_ hk_.symm) ?aF ?aO ?aB ?aS ?aL ?_; (case aP => exact Kd.M_row (Kd.R_mono (Kd.R_tight rfl (Kd.R_mono (ok' := fun k_ => ((fun _ => True)) k_ ∧ some k_ ≠ (u8 : Value).ownBlock) (Kd.R_apart' (HO396.out) (Kd.S_typed HO_8.out) (by decide)) (fun k_ hk => ⟨trivial, hk.2⟩))) (fun _ h_ => h_))); (case aB => exact (iL HB)); (case aF => exact (fun _ _ => trivial)); (case aO => exact (by (with_reducible repeat (first | apply Kd.S_alloc | apply Kd.S_drewN | apply Kd.S_drew)); exact Kd.S_mono HO_8.out (fun k_ hk => ⟨trivial, fun e_ => hk.2 e_⟩))); (case aS => exact (below_size (iL HB))); (case aL => have := LMc24.out; omega); intro v398 w26 ho hb hg hat; rw [← Ny397.out] at ho; have n0_ := Aside0.mk (hb); have n1_ := Aside0.mk (ho); clear HB; clear HO_8; clear HO396; have HB := n0_; have HO399 := n1_; clear n0_ n1_; clear ho hb hg hat))
             go_roundg k3
             case measure => have := HK1.out; have := HJ7.out; have := HK3.out; omega
             case rel => exact ⟨(y397), (wrap64 (x52_3 + 1)), (by first | rfl | (simp; done) | (simp [*]; done)), H', ⟨by have := HK1.out; have := HJ7.out; have := HK3.out; omega⟩, ⟨by (with_reducible repeat (first | apply Kd.S_alloc | apply Kd.S_drewN | apply Kd.S_drew)); exact HO399.out⟩, ⟨by repeat (first | (with_reducible first | exact HB.out | apply below_alloc | apply pw_below_drewN | apply below_drew1) | exact HB.out)⟩⟩
            ·rw [if_neg c24] at H
             exact absurd H (by simp)
           ·rw [if_neg c22] at H
            exact absurd H (by simp)
          ·rw [if_neg c21] at H
           exact absurd H (by simp)
         ·rw [if_neg c20] at H
          have c20b0 : decide (x52_3 < (l1.length : Int)) = false := decide_eq_false c20
          clear c20
          replace H := Option.bind_eq_some_iff.mp H
          obtain ⟨t400, A280, H⟩ := H
          try dsimp only at H
          have A28 := Aside0.mk A280
          clear A280
          replace H := Option.bind_eq_some_iff.mp H
          obtain ⟨⟨t403, t406, t409⟩, A290, H⟩ := H
          try dsimp only at H
          have A29 := Aside0.mk A290
          clear A290
          replace H := Option.bind_eq_some_iff.mp H
          obtain ⟨⟨t411, t414, t417⟩, A300, H⟩ := H
          try dsimp only at H
          have A30 := Aside0.mk A300
          clear A300
          have HC31 := Aside0.mk H
          clear H
          go_upto_region 17 with (first | ((with_reducible refine gate_callee (f := 16) rfl ?_); refine gL_ (some 64) Try.func16 #[.slice A0 l0.length c0] ?_; (with_reducible refine (slices_Clone_string_string.calls _ _ l0 t400 _ ?side1 ?side2 A28.out).mono ?_); (case side1 => exact iC HR0 HB); (case side2 => exact HC0.out); rintro e w32 ⟨v401, rfl, ho0, hb⟩; refine ⟨_, rfl, ?_⟩; have n0_ := Aside0.mk (Kd.S_elder' (by (with_reducible repeat (first | apply Kd.S_alloc | apply Kd.S_drewN | apply Kd.S_drew)); exact HO_8.out) (Kd.R_base ho0) hb); have n1_ := Aside0.mk (Kd.R_lower ho0 (below_size (iL HB))); have n2_ := jL HB hb; clear HO_8; clear HB; have HO_8 := n0_; have HO402 := n1_; have HB := n2_; clear n0_ n1_ n2_; (try clear hb); (try clear hb2); (try clear hk); (try clear hi); (try clear ho0); obtain ⟨Ao33, co33, eo33⟩ := Kd.R_slice HO402.out; subst eo33; obtain ⟨Ao34, co34, eo34⟩ := Kd.S_slice HO_8.out; subst eo34) | ((with_reducible refine gate_callee (f := 17) rfl ?_); refine gL_ (some 66) Try.func17 #[.slice Ao33 t400.length co33, .slice Ao34 x8_3.length co34] ?_; (with_reducible refine (apparatus_Collate.calls k3 _ _ t400 _ _ x8_3 t403 t406 t409 _ ?side1 ?side2 ?side3 ?side4 A29.out).mono ?_); (case side1 => repeat (first | exact (Kd.R_reads' HO402.out).2.2 | (with_reducible refine Kd.C_alloc ?_ _) | (with_reducible refine Kd.C_drewN ?_ _) | (with_reducible refine Kd.C_drew ?_))); (case side2 => exact (Kd.R_reads' HO402.out).2.1); (case side3 => repeat (first | exact (Kd.S_reads' HO_8.out).2.2 | (with_reducible refine Kd.C_alloc ?_ _) | (with_reducible refine Kd.C_drewN ?_ _) | (with_reducible refine Kd.C_drew ?_))); (case side4 => exact (Kd.S_reads' HO_8.out).2.1); rintro e w35 ⟨v404, v407, rfl, ho0, ho1, hb⟩; refine ⟨_, rfl, ?_⟩; have n0_ := Aside0.mk (Kd.S_elder' (by (with_reducible repeat (first | apply Kd.S_alloc | apply Kd.S_drewN | apply Kd.S_drew)); exact HO_8.out) (Kd.R_base ho0) hb); have n1_ := Aside0.mk (Kd.R_elder' (iR HO402) (Kd.R_base ho0) hb); have n2_ := Aside0.mk (Kd.R_lower (Kd.R_new' ho0 (Kd.R_lt (iR HO402))) (below_size (iL HB))); have n3_ := Aside0.mk (Kd.S_lower ho1 (below_size (iL HB))); have n4_ := jL HB hb; clear HO_8; clear HO402; clear HB; have HO_8 := n0_; have HO402 := n1_; have HO405 := n2_; have HO408 := n3_; have HB := n4_; clear n0_ n1_ n2_ n3_ n4_; (try clear hb); (try clear hb2); (try clear hk); (try clear hi); (try clear ho0); (try clear ho1)) | ((with_reducible refine gate_dst (N := 11) rfl ?_); (try (refine gate_guard (by rfl) ?_; dsimp only)); refine bX 11 #[.slice none 0 0, .slice none 0 0] 42 ?_; intro gb410 hg w36 hbox hb; have n0_ := Aside0.mk (Kd.S_below (by (with_reducible repeat (first | apply Kd.S_alloc | apply Kd.S_drewN | apply Kd.S_drew)); exact HO_8.out) hb); have n1_ := jR HO402 hb; have n2_ := jR HO405 hb; have n3_ := Aside0.mk (Kd.S_below (by (with_reducible repeat (first | apply Kd.S_alloc | apply Kd.S_drewN | apply Kd.S_drew)); exact HO408.out) hb); have n4_ := jL HB hb; have n5_ := Aside0.mk (hbox); have n6_ := Aside0.mk ((by rw [hg]; exact (below_size (iL HB)) : w.heap.size ≤ gb410)); have n7_ := Aside0.mk ((by rw [hg]; exact (below_size (iL HB)) : w.heap.size ≤ gb410)); clear HO_8; clear HO402; clear HO405; clear HO408; clear HB; have HO_8 := n0_; have HO402 := n1_; have HO405 := n2_; have HO408 := n3_; have HB := n4_; have BK410 := n5_; have GW410 := n6_; have GE410 := n7_; clear n0_ n1_ n2_ n3_ n4_ n5_ n6_ n7_; clear hb hbox hg; obtain ⟨Ao37, co37, eo37⟩ := Kd.R_slice HO405.out; subst eo37; have hcz38_0 := cZ BK410 0 (.slice none 0 0); have hcz38_1 := cZ BK410 1 (.slice none 0 0); have hfz38_0 := blk_frozen BK410.out 0; have hfz38_1 := blk_frozen BK410.out 1; obtain ⟨Ao39, co39, eo39⟩ := Kd.S_slice HO408.out; subst eo39) | ((with_reducible refine gate_callee (f := 18) rfl ?_); refine gL_ (some 72) Try.func18 #[.slice A0 l0.length c0, .slice A1 l1.length c1] ?_; (with_reducible refine (ancepsref57_Collate.calls k3 _ _ l0 _ _ l1 t411 t414 t417 _ ?side1 ?side2 ?side3 ?side4 A30.out).mono ?_); (case side1 => exact Kd.C_below HR0.out (iL HB)); (case side2 => exact HC0.out); (case side3 => exact Kd.C_below HR1.out (iL HB)); (case side4 => exact HC1.out); rintro e w40 ⟨v412, v415, rfl, ho0, ho1, hb⟩; refine ⟨_, rfl, ?_⟩; have n0_ := Aside0.mk (Kd.S_elder' (by (with_reducible repeat (first | apply Kd.S_alloc | apply Kd.S_drewN | apply Kd.S_drew)); exact (Kd.S_mono (Kd.S_far (p := ⟨gb410, 1, none⟩) (Kd.S_far (p := ⟨gb410, 0, none⟩) (Kd.S_types HO_8.out BK410.out (by decide)) (fun _ hk => hk.2) (.slice Ao37 t403.length co37)) (fun _ hk => hk.2) (.slice Ao39 t406.length co39)) (fun _ h_ => h_.1))) (Kd.R_base ho0) hb); have n1_ := Aside0.mk (Kd.R_elder' (by (with_reducible repeat (first | apply Kd.R_alloc | apply Kd.R_drewN | apply Kd.R_drew)); exact (Kd.R_mono (Kd.R_far (p := ⟨gb410, 1, none⟩) (Kd.R_far (p := ⟨gb410, 0, none⟩) (Kd.R_types HO402.out BK410.out (by decide)) (fun _ hk => hk.2) (.slice Ao37 t403.length co37)) (fun _ hk => hk.2) (.slice Ao39 t406.length co39)) (fun _ h_ => h_.1))) (Kd.R_base ho0) hb); have n2_ := Aside0.mk (Kd.R_elder' (by (with_reducible repeat (first | apply Kd.R_alloc | apply Kd.R_drewN | apply Kd.R_drew)); exact (Kd.R_mono (Kd.R_far (p := ⟨gb410, 1, none⟩) (Kd.R_far (p := ⟨gb410, 0, none⟩) (Kd.R_types HO405.out BK410.out (by decide)) (fun _ hk => hk.2) (.slice Ao37 t403.length co37)) (fun _ hk => hk.2) (.slice Ao39 t406.length co39)) (fun _ h_ => h_.1))) (Kd.R_base ho0) hb); have n3_ := Aside0.mk (Kd.S_elder' (by (with_reducible repeat (first | apply Kd.S_alloc | apply Kd.S_drewN | apply Kd.S_drew)); exact (Kd.S_mono (Kd.S_far (p := ⟨gb410, 1, none⟩) (Kd.S_far (p := ⟨gb410, 0, none⟩) (Kd.S_types HO408.out BK410.out (by decide)) (fun _ hk => hk.2) (.slice Ao37 t403.length co37)) (fun _ hk => hk.2) (.slice Ao39 t406.length co39)) (fun _ h_ => h_.1))) (Kd.S_base ho1) hb); have n4_ := Aside0.mk (Kd.R_lower (Kd.R_new' (Kd.R_new' ho0 (Kd.R_lt (by (with_reducible repeat (first | apply Kd.R_alloc | apply Kd.R_drewN | apply Kd.R_drew)); exact (Kd.R_mono (Kd.R_far (p := ⟨gb410, 1, none⟩) (Kd.R_far (p := ⟨gb410, 0, none⟩) (Kd.R_types HO402.out BK410.out (by decide)) (fun _ hk => hk.2) (.slice Ao37 t403.length co37)) (fun _ hk => hk.2) (.slice Ao39 t406.length co39)) (fun _ h_ => h_.1))))) (Kd.R_lt (by (with_reducible repeat (first | apply Kd.R_alloc | apply Kd.R_drewN | apply Kd.R_drew)); exact (Kd.R_mono (Kd.R_far (p := ⟨gb410, 1, none⟩) (Kd.R_far (p := ⟨gb410, 0, none⟩) (Kd.R_types HO405.out BK410.out (by decide)) (fun _ hk => hk.2) (.slice Ao37 t403.length co37)) (fun _ hk => hk.2) (.slice Ao39 t406.length co39)) (fun _ h_ => h_.1))))) (below_size (iL HB))); have n5_ := Aside0.mk (Kd.S_lower (Kd.S_new' ho1 (Kd.S_lt (by (with_reducible repeat (first | apply Kd.S_alloc | apply Kd.S_drewN | apply Kd.S_drew)); exact (Kd.S_mono (Kd.S_far (p := ⟨gb410, 1, none⟩) (Kd.S_far (p := ⟨gb410, 0, none⟩) (Kd.S_types HO408.out BK410.out (by decide)) (fun _ hk => hk.2) (.slice Ao37 t403.length co37)) (fun _ hk => hk.2) (.slice Ao39 t406.length co39)) (fun _ h_ => h_.1))))) (below_size (iL HB))); have n6_ := Aside0.mk (blk_below (g := gb410) (o := .cells #[.slice Ao37 t403.length co37, .slice Ao39 t406.length co39] 42 (0, 0)) (by (with_reducible repeat (first | apply blk_drewN | apply blk_drew | apply blk_alloc)); refine blk_put (cs := #[.slice Ao37 t403.length co37, .slice none 0 0]) ?_ 1 _ rfl; (with_reducible repeat (first | apply blk_drewN | apply blk_drew | apply blk_alloc)); refine blk_put (cs := #[.slice none 0 0, .slice none 0 0]) ?_ 0 _ rfl; (with_reducible repeat (first | apply blk_drewN | apply blk_drew | apply blk_alloc)); exact BK410.out) hb); have n7_ := jL HB hb; clear HO_8; clear HO402; clear HO405; clear HO408; clear BK410; clear HB; have HO_8 := n0_; have HO402 := n1_; have HO405 := n2_; have HO408 := n3_; have HO413 := n4_; have HO416 := n5_; have BK410 := n6_; have HB := n7_; clear n0_ n1_ n2_ n3_ n4_ n5_ n6_ n7_; (try clear hb); (try clear hb2); (try clear hk); (try clear hi); (try clear ho0); (try clear ho1)) | ((with_reducible refine gate_dst (N := 13) rfl ?_); (try (refine gate_guard (by rfl) ?_; dsimp only)); refine bX 13 #[.slice none 0 0, .slice none 0 0] 42 ?_; intro gb418 hg w41 hbox hb; have n0_ := Aside0.mk (Kd.S_below (by (with_reducible repeat (first | apply Kd.S_alloc | apply Kd.S_drewN | apply Kd.S_drew)); exact HO_8.out) hb); have n1_ := jR HO402 hb; have n2_ := jR HO405 hb; have n3_ := Aside0.mk (Kd.S_below (by (with_reducible repeat (first | apply Kd.S_alloc | apply Kd.S_drewN | apply Kd.S_drew)); exact HO408.out) hb); have n4_ := jR HO413 hb; have n5_ := Aside0.mk (Kd.S_below (by (with_reducible repeat (first | apply Kd.S_alloc | apply Kd.S_drewN | apply Kd.S_drew)); exact HO416.out) hb); have n6_ := jB BK410 hb; have n7_ := jL HB hb; have n8_ := Aside0.mk (hbox); have n9_ := Aside0.mk ((by rw [hg]; exact (below_size (iL HB)) : w.heap.size ≤ gb418)); have n10_ := Aside0.mk ((by rw [hg]; exact (below_size (iL HB)) : w.heap.size ≤ gb418)); have n11_ := Aside0.mk ((by rw [hg]; exact Nat.ne_of_lt (blk_lt (g := gb410) (o := .cells #[.slice Ao37 t403.length co37, .slice Ao39 t406.length co39] 42 (0, 0)) (iB BK410)) : gb410 ≠ gb418)); have n12_ := Aside0.mk ((by rw [hg]; exact Nat.ne_of_gt (blk_lt (g := gb410) (o := .cells #[.slice Ao37 t403.length co37, .slice Ao39 t406.length co39] 42 (0, 0)) (iB BK410)) : gb418 ≠ gb410)); clear HO_8; clear HO402; clear HO405; clear HO408; clear HO413; clear HO416; clear BK410; clear HB; have HO_8 := n0_; have HO402 := n1_; have HO405 := n2_; have HO408 := n3_; have HO413 := n4_; have HO416 := n5_; have BK410 := n6_; have HB := n7_; have BK418 := n8_; have GW418 := n9_; have GE418 := n10_; have NB410_418 := n11_; have NB418_410 := n12_; clear n0_ n1_ n2_ n3_ n4_ n5_ n6_ n7_ n8_ n9_ n10_ n11_ n12_; clear hb hbox hg; obtain ⟨Ao42, co42, eo42⟩ := Kd.R_slice HO413.out; subst eo42; have hnb43 := NB418_410.out; have hnc43 := NB410_418.out; have hcz44_0 := cZ BK418 0 (.slice none 0 0); have hcz44_1 := cZ BK418 1 (.slice none 0 0); have hfz44_0 := blk_frozen BK418.out 0; have hfz44_1 := blk_frozen BK418.out 1; obtain ⟨Ao45, co45, eo45⟩ := Kd.S_slice HO416.out; subst eo45))
          (try simp only [Act.put, List.setIfInBounds_toArray, List.set_cons_zero, List.set_cons_succ])
          go_cut [87] (fun v87 wc => ∃ (kq : Nat) (x87_30 : Bool), v87 = .bool x87_30 ∧ Aside0 (ancepslaw57_ApparatusCollate.j3 kq l0 l1 t409 t417 x87_30 t403 t406 t411 t414 = some r) ∧ Aside0 (kq ≤ k3) ∧ Aside0 (Kd.R Kd.string 9 wc w.heap.size (fun k_ => some k_ ≠ ((.slice Ao42 t411.length co42) : Value).ownBlock) (.slice Ao37 t403.length co37) t403) ∧ Aside0 (Kd.S k65 65 wc w.heap.size (fun k_ => some k_ ≠ ((.slice Ao45 t414.length co45) : Value).ownBlock) (.slice Ao39 t406.length co39) t406) ∧ Aside0 (Kd.R Kd.string 9 wc w.heap.size (fun k_ => some k_ ≠ ((.slice Ao37 t403.length co37) : Value).ownBlock) (.slice Ao42 t411.length co42) t411) ∧ Aside0 (Kd.S k65 65 wc w.heap.size (fun k_ => some k_ ≠ ((.slice Ao39 t406.length co39) : Value).ownBlock) (.slice Ao45 t414.length co45) t414) ∧ Aside0 (wc.heap[gb410]? = some (.cells #[(.slice Ao37 t403.length co37), (.slice Ao39 t406.length co39)] 42 (0, 0))) ∧ Aside0 (wc.heap[gb418]? = some (.cells #[(.slice Ao42 t411.length co42), (.slice Ao45 t414.length co45)] 42 (0, 0))) ∧ Aside0 (Below w.heap.size w wc))
          case first =>
           have H := HC31.out
           clear HC31
           by_cases c46 : t409 = t417
           ·rw [if_pos c46] at H
            have c46b0 : (t409 == t417) = true := beq_iff_eq.mpr c46
            have c46b1 : (t409 != t417) = false := bne_eq_false_iff_eq.mpr c46
            clear c46
            (first | rw [c46b0] | (simp only [i64_w, i32_w]; rw [c46b0]) | skip)
            replace H := Option.bind_eq_some_iff.mp H
            obtain ⟨t419, A470, H⟩ := H
            try dsimp only at H
            have A47 := Aside0.mk A470
            clear A470
            by_cases c48 : t419 = true
            ·subst c48
             have H1 : (ancepslaw57_ApparatusCollate.j3 k3 l0 l1 t409 t417 (t409 != 0) t403 t406 t411 t414) = some r := by rw [if_pos rfl] at H; exact H
             clear H
             have H := H1
             clear H1
             have H' := Aside0.mk H
             clear H
             have hnb49 := NB410_418.out
             have hnc49 := NB418_410.out
             have hcz50_0 := cZ BK410 0 (.slice Ao37 t403.length co37)
             have hcz50_1 := cZ BK410 1 (.slice Ao39 t406.length co39)
             have hfz50_0 := blk_frozen BK410.out 0
             have hfz50_1 := blk_frozen BK410.out 1
             have hcz51_0 := cZ BK418 0 (.slice none 0 0)
             have hcz51_1 := cZ BK418 1 (.slice none 0 0)
             have hfz51_0 := blk_frozen BK418.out 0
             have hfz51_1 := blk_frozen BK418.out 1
             go_wp2_with (first | (go_at_call 19; (with_reducible refine (ancepsref57_Same.calls k3 _ _ t403 _ _ t406 _ _ t411 _ _ t414 true _ ?side1 ?side2 ?side3 ?side4 ?side5 ?side6 ?side7 ?side8 A47.out).mono ?_); (case side1 => refine (Kd.R_reads' (e := 9) (base := w.heap.size) (ok := fun k_ => ((True ∧ some k_ ≠ (.slice Ao33 t400.length co33 : Value).ownBlock) ∧ some k_ ≠ (.slice Ao42 t411.length co42 : Value).ownBlock)) (n := t403.length) (c := co37) ?_).2.2; exact (by (with_reducible repeat (first | apply Kd.R_alloc | apply Kd.R_drewN | apply Kd.R_drew)); exact (Kd.R_mono (Kd.R_far (p := ⟨gb418, 1, none⟩) (Kd.R_far (p := ⟨gb418, 0, none⟩) (Kd.R_types HO405.out BK418.out (by decide)) (fun _ hk => hk.2) (.slice Ao42 t411.length co42)) (fun _ hk => hk.2) (.slice Ao45 t414.length co45)) (fun _ h_ => h_.1)))); (case side2 => exact (Kd.R_reads' HO405.out).2.1); (case side3 => refine (Kd.S_reads' (e := 65) (base := w.heap.size) (ok := fun k_ => (True ∧ some k_ ≠ (.slice Ao45 t414.length co45 : Value).ownBlock)) (n := t406.length) (c := co39) ?_).2.2; exact (by (with_reducible repeat (first | apply Kd.S_alloc | apply Kd.S_drewN | apply Kd.S_drew)); exact (Kd.S_mono (Kd.S_far (p := ⟨gb418, 1, none⟩) (Kd.S_far (p := ⟨gb418, 0, none⟩) (Kd.S_types HO408.out BK418.out (by decide)) (fun _ hk => hk.2) (.slice Ao42 t411.length co42)) (fun _ hk => hk.2) (.slice Ao45 t414.length co45)) (fun _ h_ => h_.1)))); (case side4 => exact (Kd.S_reads' HO408.out).2.1); (case side5 => refine (Kd.R_reads' (e := 9) (base := w.heap.size) (ok := fun k_ => ((True ∧ some k_ ≠ (.slice Ao33 t400.length co33 : Value).ownBlock) ∧ some k_ ≠ (.slice Ao37 t403.length co37 : Value).ownBlock)) (n := t411.length) (c := co42) ?_).2.2; exact (by (with_reducible repeat (first | apply Kd.R_alloc | apply Kd.R_drewN | apply Kd.R_drew)); exact (Kd.R_mono (Kd.R_far (p := ⟨gb418, 1, none⟩) (Kd.R_far (p := ⟨gb418, 0, none⟩) (Kd.R_types HO413.out BK418.out (by decide)) (fun _ hk => hk.2) (.slice Ao42 t411.length co42)) (fun _ hk => hk.2) (.slice Ao45 t414.length co45)) (fun _ h_ => h_.1)))); (case side6 => exact (Kd.R_reads' HO413.out).2.1); (case side7 => refine (Kd.S_reads' (e := 65) (base := w.heap.size) (ok := fun k_ => (True ∧ some k_ ≠ (.slice Ao39 t406.length co39 : Value).ownBlock)) (n := t414.length) (c := co45) ?_).2.2; exact (by (with_reducible repeat (first | apply Kd.S_alloc | apply Kd.S_drewN | apply Kd.S_drew)); exact (Kd.S_mono (Kd.S_far (p := ⟨gb418, 1, none⟩) (Kd.S_far (p := ⟨gb418, 0, none⟩) (Kd.S_types HO416.out BK418.out (by decide)) (fun _ hk => hk.2) (.slice Ao42 t411.length co42)) (fun _ hk => hk.2) (.slice Ao45 t414.length co45)) (fun _ h_ => h_.1)))); (case side8 => exact (Kd.S_reads' HO416.out).2.1); rintro e w52 ⟨rfl, hb⟩; have n0_ := Aside0.mk (Kd.S_below (by (with_reducible repeat (first | apply Kd.S_alloc | apply Kd.S_drewN | apply Kd.S_drew)); exact (Kd.S_mono (Kd.S_far (p := ⟨gb418, 1, none⟩) (Kd.S_far (p := ⟨gb418, 0, none⟩) (Kd.S_types HO_8.out BK418.out (by decide)) (fun _ hk => hk.2) (.slice Ao42 t411.length co42)) (fun _ hk => hk.2) (.slice Ao45 t414.length co45)) (fun _ h_ => h_.1))) hb); have n1_ := Aside0.mk (Kd.R_below (by (with_reducible repeat (first | apply Kd.R_alloc | apply Kd.R_drewN | apply Kd.R_drew)); exact (Kd.R_mono (Kd.R_far (p := ⟨gb418, 1, none⟩) (Kd.R_far (p := ⟨gb418, 0, none⟩) (Kd.R_types HO402.out BK418.out (by decide)) (fun _ hk => hk.2) (.slice Ao42 t411.length co42)) (fun _ hk => hk.2) (.slice Ao45 t414.length co45)) (fun _ h_ => h_.1))) hb); have n2_ := Aside0.mk (Kd.R_below (by (with_reducible repeat (first | apply Kd.R_alloc | apply Kd.R_drewN | apply Kd.R_drew)); exact (Kd.R_mono (Kd.R_far (p := ⟨gb418, 1, none⟩) (Kd.R_far (p := ⟨gb418, 0, none⟩) (Kd.R_types HO405.out BK418.out (by decide)) (fun _ hk => hk.2) (.slice Ao42 t411.length co42)) (fun _ hk => hk.2) (.slice Ao45 t414.length co45)) (fun _ h_ => h_.1))) hb); have n3_ := Aside0.mk (Kd.S_below (by (with_reducible repeat (first | apply Kd.S_alloc | apply Kd.S_drewN | apply Kd.S_drew)); exact (Kd.S_mono (Kd.S_far (p := ⟨gb418, 1, none⟩) (Kd.S_far (p := ⟨gb418, 0, none⟩) (Kd.S_types HO408.out BK418.out (by decide)) (fun _ hk => hk.2) (.slice Ao42 t411.length co42)) (fun _ hk => hk.2) (.slice Ao45 t414.length co45)) (fun _ h_ => h_.1))) hb); have n4_ := Aside0.mk (Kd.R_below (by (with_reducible repeat (first | apply Kd.R_alloc | apply Kd.R_drewN | apply Kd.R_drew)); exact (Kd.R_mono (Kd.R_far (p := ⟨gb418, 1, none⟩) (Kd.R_far (p := ⟨gb418, 0, none⟩) (Kd.R_types HO413.out BK418.out (by decide)) (fun _ hk => hk.2) (.slice Ao42 t411.length co42)) (fun _ hk => hk.2) (.slice Ao45 t414.length co45)) (fun _ h_ => h_.1))) hb); have n5_ := Aside0.mk (Kd.S_below (by (with_reducible repeat (first | apply Kd.S_alloc | apply Kd.S_drewN | apply Kd.S_drew)); exact (Kd.S_mono (Kd.S_far (p := ⟨gb418, 1, none⟩) (Kd.S_far (p := ⟨gb418, 0, none⟩) (Kd.S_types HO416.out BK418.out (by decide)) (fun _ hk => hk.2) (.slice Ao42 t411.length co42)) (fun _ hk => hk.2) (.slice Ao45 t414.length co45)) (fun _ h_ => h_.1))) hb); have n6_ := Aside0.mk (blk_below (g := gb410) (o := .cells #[.slice Ao37 t403.length co37, .slice Ao39 t406.length co39] 42 (0, 0)) (by (with_reducible repeat (first | apply blk_drewN | apply blk_drew | apply blk_alloc)); refine blk_far ?_ NB410_418.out _; (with_reducible repeat (first | apply blk_drewN | apply blk_drew | apply blk_alloc)); refine blk_far ?_ NB410_418.out _; (with_reducible repeat (first | apply blk_drewN | apply blk_drew | apply blk_alloc)); exact BK410.out) hb); have n7_ := Aside0.mk (blk_below (g := gb418) (o := .cells #[.slice Ao42 t411.length co42, .slice Ao45 t414.length co45] 42 (0, 0)) (by (with_reducible repeat (first | apply blk_drewN | apply blk_drew | apply blk_alloc)); refine blk_put (cs := #[.slice Ao42 t411.length co42, .slice none 0 0]) ?_ 1 _ rfl; (with_reducible repeat (first | apply blk_drewN | apply blk_drew | apply blk_alloc)); refine blk_put (cs := #[.slice none 0 0, .slice none 0 0]) ?_ 0 _ rfl; (with_reducible repeat (first | apply blk_drewN | apply blk_drew | apply blk_alloc)); exact BK418.out) hb); have n8_ := jL HB hb; clear HO_8; clear HO402; clear HO405; clear HO408; clear HO413; clear HO416; clear BK410; clear BK418; clear HB; have HO_8 := n0_; have HO402 := n1_; have HO405 := n2_; have HO408 := n3_; have HO413 := n4_; have HO416 := n5_; have BK410 := n6_; have BK418 := n7_; have HB := n8_; clear n0_ n1_ n2_ n3_ n4_ n5_ n6_ n7_ n8_; (try clear hb); (try clear hb2); (try clear hk); (try clear hi)))
             go_meet
             case rel => exact ⟨_, ((t409 != 0)), (by first | rfl | (simp; done) | (simp [*]; done)), H', ⟨by have := HK1.out; have := HJ7.out; have := HK3.out; first | omega | exact Nat.le_refl _⟩, ⟨by (with_reducible repeat (first | apply Kd.R_alloc | apply Kd.R_drewN | apply Kd.R_drew)); exact Kd.R_mono HO405.out (fun _ hk => hk.2)⟩, ⟨by (with_reducible repeat (first | apply Kd.S_alloc | apply Kd.S_drewN | apply Kd.S_drew)); exact Kd.S_mono HO408.out (fun _ hk => hk.2)⟩, ⟨by (with_reducible repeat (first | apply Kd.R_alloc | apply Kd.R_drewN | apply Kd.R_drew)); exact Kd.R_mono HO413.out (fun _ hk => hk.2)⟩, ⟨by (with_reducible repeat (first | apply Kd.S_alloc | apply Kd.S_drewN | apply Kd.S_drew)); exact Kd.S_mono HO416.out (fun _ hk => hk.2)⟩, ⟨by (with_reducible repeat (first | apply blk_drewN | apply blk_drew | apply blk_alloc)); exact BK410.out⟩, ⟨by (with_reducible repeat (first | apply blk_drewN | apply blk_drew | apply blk_alloc)); exact BK418.out⟩, ⟨by repeat (first | (with_reducible first | exact HB.out | apply below_alloc | apply pw_below_drewN | apply below_drew1 | refine below_set ?_ GE410.out | refine below_set ?_ GE418.out) | exact HB.out)⟩⟩
            ·replace c48 := Bool.eq_false_iff.mpr c48
             subst c48
             have H1 : (ancepslaw57_ApparatusCollate.j3 k3 l0 l1 t409 t417 true t403 t406 t411 t414) = some r := by rw [if_neg (show ¬ (false = true) by decide)] at H; exact H
             clear H
             have H := H1
             clear H1
             have H' := Aside0.mk H
             clear H
             have hnb53 := NB410_418.out
             have hnc53 := NB418_410.out
             have hcz54_0 := cZ BK410 0 (.slice Ao37 t403.length co37)
             have hcz54_1 := cZ BK410 1 (.slice Ao39 t406.length co39)
             have hfz54_0 := blk_frozen BK410.out 0
             have hfz54_1 := blk_frozen BK410.out 1
             have hcz55_0 := cZ BK418 0 (.slice none 0 0)
             have hcz55_1 := cZ BK418 1 (.slice none 0 0)
             have hfz55_0 := blk_frozen BK418.out 0
             have hfz55_1 := blk_frozen BK418.out 1
             go_wp2_with (first | (go_at_call 19; (with_reducible refine (ancepsref57_Same.calls k3 _ _ t403 _ _ t406 _ _ t411 _ _ t414 false _ ?side1 ?side2 ?side3 ?side4 ?side5 ?side6 ?side7 ?side8 A47.out).mono ?_); (case side1 => refine (Kd.R_reads' (e := 9) (base := w.heap.size) (ok := fun k_ => ((True ∧ some k_ ≠ (.slice Ao33 t400.length co33 : Value).ownBlock) ∧ some k_ ≠ (.slice Ao42 t411.length co42 : Value).ownBlock)) (n := t403.length) (c := co37) ?_).2.2; exact (by (with_reducible repeat (first | apply Kd.R_alloc | apply Kd.R_drewN | apply Kd.R_drew)); exact (Kd.R_mono (Kd.R_far (p := ⟨gb418, 1, none⟩) (Kd.R_far (p := ⟨gb418, 0, none⟩) (Kd.R_types HO405.out BK418.out (by decide)) (fun _ hk => hk.2) (.slice Ao42 t411.length co42)) (fun _ hk => hk.2) (.slice Ao45 t414.length co45)) (fun _ h_ => h_.1)))); (case side2 => exact (Kd.R_reads' HO405.out).2.1); (case side3 => refine (Kd.S_reads' (e := 65) (base := w.heap.size) (ok := fun k_ => (True ∧ some k_ ≠ (.slice Ao45 t414.length co45 : Value).ownBlock)) (n := t406.length) (c := co39) ?_).2.2; exact (by (with_reducible repeat (first | apply Kd.S_alloc | apply Kd.S_drewN | apply Kd.S_drew)); exact (Kd.S_mono (Kd.S_far (p := ⟨gb418, 1, none⟩) (Kd.S_far (p := ⟨gb418, 0, none⟩) (Kd.S_types HO408.out BK418.out (by decide)) (fun _ hk => hk.2) (.slice Ao42 t411.length co42)) (fun _ hk => hk.2) (.slice Ao45 t414.length co45)) (fun _ h_ => h_.1)))); (case side4 => exact (Kd.S_reads' HO408.out).2.1); (case side5 => refine (Kd.R_reads' (e := 9) (base := w.heap.size) (ok := fun k_ => ((True ∧ some k_ ≠ (.slice Ao33 t400.length co33 : Value).ownBlock) ∧ some k_ ≠ (.slice Ao37 t403.length co37 : Value).ownBlock)) (n := t411.length) (c := co42) ?_).2.2; exact (by (with_reducible repeat (first | apply Kd.R_alloc | apply Kd.R_drewN | apply Kd.R_drew)); exact (Kd.R_mono (Kd.R_far (p := ⟨gb418, 1, none⟩) (Kd.R_far (p := ⟨gb418, 0, none⟩) (Kd.R_types HO413.out BK418.out (by decide)) (fun _ hk => hk.2) (.slice Ao42 t411.length co42)) (fun _ hk => hk.2) (.slice Ao45 t414.length co45)) (fun _ h_ => h_.1)))); (case side6 => exact (Kd.R_reads' HO413.out).2.1); (case side7 => refine (Kd.S_reads' (e := 65) (base := w.heap.size) (ok := fun k_ => (True ∧ some k_ ≠ (.slice Ao39 t406.length co39 : Value).ownBlock)) (n := t414.length) (c := co45) ?_).2.2; exact (by (with_reducible repeat (first | apply Kd.S_alloc | apply Kd.S_drewN | apply Kd.S_drew)); exact (Kd.S_mono (Kd.S_far (p := ⟨gb418, 1, none⟩) (Kd.S_far (p := ⟨gb418, 0, none⟩) (Kd.S_types HO416.out BK418.out (by decide)) (fun _ hk => hk.2) (.slice Ao42 t411.length co42)) (fun _ hk => hk.2) (.slice Ao45 t414.length co45)) (fun _ h_ => h_.1)))); (case side8 => exact (Kd.S_reads' HO416.out).2.1); rintro e w56 ⟨rfl, hb⟩; have n0_ := Aside0.mk (Kd.S_below (by (with_reducible repeat (first | apply Kd.S_alloc | apply Kd.S_drewN | apply Kd.S_drew)); exact (Kd.S_mono (Kd.S_far (p := ⟨gb418, 1, none⟩) (Kd.S_far (p := ⟨gb418, 0, none⟩) (Kd.S_types HO_8.out BK418.out (by decide)) (fun _ hk => hk.2) (.slice Ao42 t411.length co42)) (fun _ hk => hk.2) (.slice Ao45 t414.length co45)) (fun _ h_ => h_.1))) hb); have n1_ := Aside0.mk (Kd.R_below (by (with_reducible repeat (first | apply Kd.R_alloc | apply Kd.R_drewN | apply Kd.R_drew)); exact (Kd.R_mono (Kd.R_far (p := ⟨gb418, 1, none⟩) (Kd.R_far (p := ⟨gb418, 0, none⟩) (Kd.R_types HO402.out BK418.out (by decide)) (fun _ hk => hk.2) (.slice Ao42 t411.length co42)) (fun _ hk => hk.2) (.slice Ao45 t414.length co45)) (fun _ h_ => h_.1))) hb); have n2_ := Aside0.mk (Kd.R_below (by (with_reducible repeat (first | apply Kd.R_alloc | apply Kd.R_drewN | apply Kd.R_drew)); exact (Kd.R_mono (Kd.R_far (p := ⟨gb418, 1, none⟩) (Kd.R_far (p := ⟨gb418, 0, none⟩) (Kd.R_types HO405.out BK418.out (by decide)) (fun _ hk => hk.2) (.slice Ao42 t411.length co42)) (fun _ hk => hk.2) (.slice Ao45 t414.length co45)) (fun _ h_ => h_.1))) hb); have n3_ := Aside0.mk (Kd.S_below (by (with_reducible repeat (first | apply Kd.S_alloc | apply Kd.S_drewN | apply Kd.S_drew)); exact (Kd.S_mono (Kd.S_far (p := ⟨gb418, 1, none⟩) (Kd.S_far (p := ⟨gb418, 0, none⟩) (Kd.S_types HO408.out BK418.out (by decide)) (fun _ hk => hk.2) (.slice Ao42 t411.length co42)) (fun _ hk => hk.2) (.slice Ao45 t414.length co45)) (fun _ h_ => h_.1))) hb); have n4_ := Aside0.mk (Kd.R_below (by (with_reducible repeat (first | apply Kd.R_alloc | apply Kd.R_drewN | apply Kd.R_drew)); exact (Kd.R_mono (Kd.R_far (p := ⟨gb418, 1, none⟩) (Kd.R_far (p := ⟨gb418, 0, none⟩) (Kd.R_types HO413.out BK418.out (by decide)) (fun _ hk => hk.2) (.slice Ao42 t411.length co42)) (fun _ hk => hk.2) (.slice Ao45 t414.length co45)) (fun _ h_ => h_.1))) hb); have n5_ := Aside0.mk (Kd.S_below (by (with_reducible repeat (first | apply Kd.S_alloc | apply Kd.S_drewN | apply Kd.S_drew)); exact (Kd.S_mono (Kd.S_far (p := ⟨gb418, 1, none⟩) (Kd.S_far (p := ⟨gb418, 0, none⟩) (Kd.S_types HO416.out BK418.out (by decide)) (fun _ hk => hk.2) (.slice Ao42 t411.length co42)) (fun _ hk => hk.2) (.slice Ao45 t414.length co45)) (fun _ h_ => h_.1))) hb); have n6_ := Aside0.mk (blk_below (g := gb410) (o := .cells #[.slice Ao37 t403.length co37, .slice Ao39 t406.length co39] 42 (0, 0)) (by (with_reducible repeat (first | apply blk_drewN | apply blk_drew | apply blk_alloc)); refine blk_far ?_ NB410_418.out _; (with_reducible repeat (first | apply blk_drewN | apply blk_drew | apply blk_alloc)); refine blk_far ?_ NB410_418.out _; (with_reducible repeat (first | apply blk_drewN | apply blk_drew | apply blk_alloc)); exact BK410.out) hb); have n7_ := Aside0.mk (blk_below (g := gb418) (o := .cells #[.slice Ao42 t411.length co42, .slice Ao45 t414.length co45] 42 (0, 0)) (by (with_reducible repeat (first | apply blk_drewN | apply blk_drew | apply blk_alloc)); refine blk_put (cs := #[.slice Ao42 t411.length co42, .slice none 0 0]) ?_ 1 _ rfl; (with_reducible repeat (first | apply blk_drewN | apply blk_drew | apply blk_alloc)); refine blk_put (cs := #[.slice none 0 0, .slice none 0 0]) ?_ 0 _ rfl; (with_reducible repeat (first | apply blk_drewN | apply blk_drew | apply blk_alloc)); exact BK418.out) hb); have n8_ := jL HB hb; clear HO_8; clear HO402; clear HO405; clear HO408; clear HO413; clear HO416; clear BK410; clear BK418; clear HB; have HO_8 := n0_; have HO402 := n1_; have HO405 := n2_; have HO408 := n3_; have HO413 := n4_; have HO416 := n5_; have BK410 := n6_; have BK418 := n7_; have HB := n8_; clear n0_ n1_ n2_ n3_ n4_ n5_ n6_ n7_ n8_; (try clear hb); (try clear hb2); (try clear hk); (try clear hi)))
             go_meet
             case rel => exact ⟨_, (true), (by first | rfl | (simp; done) | (simp [*]; done)), H', ⟨by have := HK1.out; have := HJ7.out; have := HK3.out; first | omega | exact Nat.le_refl _⟩, ⟨by (with_reducible repeat (first | apply Kd.R_alloc | apply Kd.R_drewN | apply Kd.R_drew)); exact Kd.R_mono HO405.out (fun _ hk => hk.2)⟩, ⟨by (with_reducible repeat (first | apply Kd.S_alloc | apply Kd.S_drewN | apply Kd.S_drew)); exact Kd.S_mono HO408.out (fun _ hk => hk.2)⟩, ⟨by (with_reducible repeat (first | apply Kd.R_alloc | apply Kd.R_drewN | apply Kd.R_drew)); exact Kd.R_mono HO413.out (fun _ hk => hk.2)⟩, ⟨by (with_reducible repeat (first | apply Kd.S_alloc | apply Kd.S_drewN | apply Kd.S_drew)); exact Kd.S_mono HO416.out (fun _ hk => hk.2)⟩, ⟨by (with_reducible repeat (first | apply blk_drewN | apply blk_drew | apply blk_alloc)); exact BK410.out⟩, ⟨by (with_reducible repeat (first | apply blk_drewN | apply blk_drew | apply blk_alloc)); exact BK418.out⟩, ⟨by repeat (first | (with_reducible first | exact HB.out | apply below_alloc | apply pw_below_drewN | apply below_drew1 | refine below_set ?_ GE410.out | refine below_set ?_ GE418.out) | exact HB.out)⟩⟩
           ·rw [if_neg c46] at H
            have c46b0 : (t409 == t417) = false := beq_eq_false_iff_ne.mpr c46
            have c46b1 : (t409 != t417) = true := bne_iff_ne.mpr c46
            (first | rw [c46b0] | (simp only [i64_w, i32_w]; rw [c46b0]) | skip)
            have H' := Aside0.mk H
            clear H
            go_wp2
            go_meet
            case rel => exact ⟨_, (true), (by first | rfl | (simp; done) | (simp [*]; done)), H', ⟨by have := HK1.out; have := HJ7.out; have := HK3.out; first | omega | exact Nat.le_refl _⟩, ⟨by (with_reducible repeat (first | apply Kd.R_alloc | apply Kd.R_drewN | apply Kd.R_drew)); exact Kd.R_mono (Kd.R_far (p := ⟨gb418, 1, none⟩) (Kd.R_far (p := ⟨gb418, 0, none⟩) (Kd.R_types HO405.out BK418.out (by decide)) (fun _ hk => hk.2) (.slice Ao42 t411.length co42)) (fun _ hk => hk.2) (.slice Ao45 t414.length co45)) (fun _ hk => hk.1.2)⟩, ⟨by (with_reducible repeat (first | apply Kd.S_alloc | apply Kd.S_drewN | apply Kd.S_drew)); exact Kd.S_mono (Kd.S_far (p := ⟨gb418, 1, none⟩) (Kd.S_far (p := ⟨gb418, 0, none⟩) (Kd.S_types HO408.out BK418.out (by decide)) (fun _ hk => hk.2) (.slice Ao42 t411.length co42)) (fun _ hk => hk.2) (.slice Ao45 t414.length co45)) (fun _ hk => hk.1.2)⟩, ⟨by (with_reducible repeat (first | apply Kd.R_alloc | apply Kd.R_drewN | apply Kd.R_drew)); exact Kd.R_mono (Kd.R_far (p := ⟨gb418, 1, none⟩) (Kd.R_far (p := ⟨gb418, 0, none⟩) (Kd.R_types HO413.out BK418.out (by decide)) (fun _ hk => hk.2) (.slice Ao42 t411.length co42)) (fun _ hk => hk.2) (.slice Ao45 t414.length co45)) (fun _ hk => hk.1.2)⟩, ⟨by (with_reducible repeat (first | apply Kd.S_alloc | apply Kd.S_drewN | apply Kd.S_drew)); exact Kd.S_mono (Kd.S_far (p := ⟨gb418, 1, none⟩) (Kd.S_far (p := ⟨gb418, 0, none⟩) (Kd.S_types HO416.out BK418.out (by decide)) (fun _ hk => hk.2) (.slice Ao42 t411.length co42)) (fun _ hk => hk.2) (.slice Ao45 t414.length co45)) (fun _ hk => hk.1.2)⟩, ⟨by (with_reducible repeat (first | apply blk_drewN | apply blk_drew | apply blk_alloc)); refine blk_far ?_ NB410_418.out _; (with_reducible repeat (first | apply blk_drewN | apply blk_drew | apply blk_alloc)); refine blk_far ?_ NB410_418.out _; (with_reducible repeat (first | apply blk_drewN | apply blk_drew | apply blk_alloc)); exact BK410.out⟩, ⟨by (with_reducible repeat (first | apply blk_drewN | apply blk_drew | apply blk_alloc)); refine blk_put (cs := #[.slice Ao42 t411.length co42, .slice none 0 0]) ?_ 1 _ rfl; (with_reducible repeat (first | apply blk_drewN | apply blk_drew | apply blk_alloc)); refine blk_put (cs := #[.slice none 0 0, .slice none 0 0]) ?_ 0 _ rfl; (with_reducible repeat (first | apply blk_drewN | apply blk_drew | apply blk_alloc)); exact BK418.out⟩, ⟨by repeat (first | (with_reducible first | exact HB.out | apply below_alloc | apply pw_below_drewN | apply below_drew1 | refine below_set ?_ GE410.out | refine below_set ?_ GE418.out) | exact HB.out)⟩⟩
          case rest =>
           clear HC31
           try clear c1
           try clear c2
           try clear p2
           try clear c3
           try clear p3
           try clear q3
           try clear hx3
           try clear c4
           try clear c4b0
           try clear c5
           try clear c5b0
           try clear c6
           try clear c6b0
           try clear p6
           try clear c9
           try clear c10
           try clear c11
           try clear c11b0
           try clear c11b1
           try clear c13
           try clear c13b0
           try clear c13b1
           try clear c15
           try clear c16
           try clear c17
           try clear c18
           try clear c20
           try clear c20b0
           try clear c21
           try clear c21b0
           try clear c22
           try clear c22b0
           try clear c24
           try clear c38
           try clear p38
           try clear q38
           try clear hx38
           try clear c39
           try clear p39
           try clear q39
           try clear hx39
           try clear c43
           try clear c46
           try clear c46b0
           try clear c46b1
           try clear c48
           try clear c49
           try clear c53
           try clear hcz38_0
           try clear hcz38_1
           try clear hcz44_0
           try clear hcz44_1
           try clear hcz50_0
           try clear hcz50_1
           try clear hcz51_0
           try clear hcz51_1
           try clear hcz54_0
           try clear hcz54_1
           try clear hcz55_0
           try clear hcz55_1
           try clear hfz38_0
           try clear hfz38_1
           try clear hfz44_0
           try clear hfz44_1
           try clear hfz50_0
           try clear hfz50_1
           try clear hfz51_0
           try clear hfz51_1
           try clear hfz54_0
           try clear hfz54_1
           try clear hfz55_0
           try clear hfz55_1
           try clear hx389_0
           try clear hx393_0
           try clear p2
           try clear p3
           try clear p389
           try clear p393
           try clear p6
           try clear q3
           try clear q389
           try clear q393
           obtain ⟨kq, x87_30, rfl, HA, HJ30, HO_411000, HO_411001, HO_419000, HO_419001, BK410, BK418, HB⟩ := hcut
           cases kq with
           | zero => exact absurd HA.out (by simp [ancepslaw57_ApparatusCollate.j3])
           | succ kj30 =>
            have H := HA.out
            clear HA
            simp only [ancepslaw57_ApparatusCollate.j3] at H
            by_cases c57 : x87_30 = true
            ·subst c57
             have H1 : (if t409 = t417 then ((ancepsref57_Same.f kj30 t403 t406 t411 t414).bind fun t420 => (some t420)) else (some false)) = some r := by rw [if_pos rfl] at H; exact H
             clear H
             have H := H1
             clear H1
             by_cases c58 : t409 = t417
             ·rw [if_pos c58] at H
              have c58b0 : (t409 == t417) = true := beq_iff_eq.mpr c58
              have c58b1 : (t409 != t417) = false := bne_eq_false_iff_eq.mpr c58
              clear c58
              replace H := Option.bind_eq_some_iff.mp H
              obtain ⟨t420, A590, H⟩ := H
              replace H : (some t420) = some r := H
              have A59 := Aside0.mk A590
              clear A590
              obtain rfl := Option.some.inj H
              have hnb60 := NB410_418.out
              have hnc60 := NB418_410.out
              have hcz61_0 := cZ BK410 0 (.slice Ao37 t403.length co37)
              have hcz61_1 := cZ BK410 1 (.slice Ao39 t406.length co39)
              have hfz61_0 := blk_frozen BK410.out 0
              have hfz61_1 := blk_frozen BK410.out 1
              have hcz62_0 := cZ BK418 0 (.slice Ao42 t411.length co42)
              have hcz62_1 := cZ BK418 1 (.slice Ao45 t414.length co45)
              have hfz62_0 := blk_frozen BK418.out 0
              have hfz62_1 := blk_frozen BK418.out 1
              go_wp2_with (first | (go_at_call 19; (with_reducible refine (ancepsref57_Same.calls kj30 _ _ t403 _ _ t406 _ _ t411 _ _ t414 t420 _ ?side1 ?side2 ?side3 ?side4 ?side5 ?side6 ?side7 ?side8 A59.out).mono ?_); (case side1 => repeat (first | exact (Kd.R_reads' HO_411000.out).2.2 | (with_reducible refine Kd.C_alloc ?_ _) | (with_reducible refine Kd.C_drewN ?_ _) | (with_reducible refine Kd.C_drew ?_))); (case side2 => exact (Kd.R_reads' HO_411000.out).2.1); (case side3 => repeat (first | exact (Kd.S_reads' HO_411001.out).2.2 | (with_reducible refine Kd.C_alloc ?_ _) | (with_reducible refine Kd.C_drewN ?_ _) | (with_reducible refine Kd.C_drew ?_))); (case side4 => exact (Kd.S_reads' HO_411001.out).2.1); (case side5 => repeat (first | exact (Kd.R_reads' HO_419000.out).2.2 | (with_reducible refine Kd.C_alloc ?_ _) | (with_reducible refine Kd.C_drewN ?_ _) | (with_reducible refine Kd.C_drew ?_))); (case side6 => exact (Kd.R_reads' HO_419000.out).2.1); (case side7 => repeat (first | exact (Kd.S_reads' HO_419001.out).2.2 | (with_reducible refine Kd.C_alloc ?_ _) | (with_reducible refine Kd.C_drewN ?_ _) | (with_reducible refine Kd.C_drew ?_))); (case side8 => exact (Kd.S_reads' HO_419001.out).2.1); rintro e w63 ⟨rfl, hb⟩; have n0_ := jR HO_411000 hb; have n1_ := Aside0.mk (Kd.S_below (by (with_reducible repeat (first | apply Kd.S_alloc | apply Kd.S_drewN | apply Kd.S_drew)); exact HO_411001.out) hb); have n2_ := jR HO_419000 hb; have n3_ := Aside0.mk (Kd.S_below (by (with_reducible repeat (first | apply Kd.S_alloc | apply Kd.S_drewN | apply Kd.S_drew)); exact HO_419001.out) hb); have n4_ := jB BK410 hb; have n5_ := jB BK418 hb; have n6_ := jL HB hb; clear HO_411000; clear HO_411001; clear HO_419000; clear HO_419001; clear BK410; clear BK418; clear HB; have HO_411000 := n0_; have HO_411001 := n1_; have HO_419000 := n2_; have HO_419001 := n3_; have BK410 := n4_; have BK418 := n5_; have HB := n6_; clear n0_ n1_ n2_ n3_ n4_ n5_ n6_; (try clear hb); (try clear hb2); (try clear hk); (try clear hi)))
              go_ret
              exact ⟨by first | rfl | (simp [errW_none, errW_some] <;> rfl) | (simp [*, errW_none, errW_some] <;> rfl), by repeat (first | (with_reducible first | exact HB.out | apply below_alloc | apply pw_below_drewN | apply below_drew1 | refine below_set ?_ GE410.out | refine below_set ?_ GE418.out) | exact HB.out)⟩
             ·rw [if_neg c58] at H
              have c58b0 : (t409 == t417) = false := beq_eq_false_iff_ne.mpr c58
              have c58b1 : (t409 != t417) = true := bne_iff_ne.mpr c58
              obtain rfl := Option.some.inj H
              go_wp2
              go_ret
              exact ⟨by first | rfl | (simp [errW_none, errW_some] <;> rfl) | (simp [*, errW_none, errW_some] <;> rfl), by repeat (first | (with_reducible first | exact HB.out | apply below_alloc | apply pw_below_drewN | apply below_drew1 | refine below_set ?_ GE410.out | refine below_set ?_ GE418.out) | exact HB.out)⟩
            ·replace c57 := Bool.eq_false_iff.mpr c57
             subst c57
             have H1 : (ancepslaw57_ApparatusCollate.l2 kj30 l1 l0 (l0.length : Int) 0 t403 t406) = some r := by rw [if_neg (show ¬ (false = true) by decide)] at H; exact H
             clear H
             have H := H1
             clear H1
             have H' := Aside0.mk H
             clear H
             go_wp2
             go_loopg [98] kj30 (fun kq v98 w' => ∃ (x98_5 : Int), v98 = .int .i64 x98_5 ∧ Aside0 (ancepslaw57_ApparatusCollate.l2 kq l1 l0 (l0.length : Int) x98_5 t403 t406 = some r) ∧ Aside0 (kq ≤ kj30) ∧ Aside0 (Kd.R Kd.string 9 w' w.heap.size (fun k_ => some k_ ≠ ((.slice Ao42 t411.length co42) : Value).ownBlock) (.slice Ao37 t403.length co37) t403) ∧ Aside0 (Kd.S k65 65 w' w.heap.size (fun k_ => some k_ ≠ ((.slice Ao45 t414.length co45) : Value).ownBlock) (.slice Ao39 t406.length co39) t406) ∧ Aside0 (Kd.R Kd.string 9 w' w.heap.size (fun k_ => some k_ ≠ ((.slice Ao37 t403.length co37) : Value).ownBlock) (.slice Ao42 t411.length co42) t411) ∧ Aside0 (Kd.S k65 65 w' w.heap.size (fun k_ => some k_ ≠ ((.slice Ao39 t406.length co39) : Value).ownBlock) (.slice Ao45 t414.length co45) t414) ∧ Aside0 (w'.heap[gb410]? = some (.cells #[(.slice Ao37 t403.length co37), (.slice Ao39 t406.length co39)] 42 (0, 0))) ∧ Aside0 (w'.heap[gb418]? = some (.cells #[(.slice Ao42 t411.length co42), (.slice Ao45 t414.length co45)] 42 (0, 0))) ∧ Aside0 (Below w.heap.size w w'))
             case atStart => exact ⟨(0), (by first | rfl | (simp; done) | (simp [*]; done)), H', ⟨Nat.le_refl _⟩, ⟨by (with_reducible repeat (first | apply Kd.R_alloc | apply Kd.R_drewN | apply Kd.R_drew)); exact HO_411000.out⟩, ⟨by (with_reducible repeat (first | apply Kd.S_alloc | apply Kd.S_drewN | apply Kd.S_drew)); exact HO_411001.out⟩, ⟨by (with_reducible repeat (first | apply Kd.R_alloc | apply Kd.R_drewN | apply Kd.R_drew)); exact HO_419000.out⟩, ⟨by (with_reducible repeat (first | apply Kd.S_alloc | apply Kd.S_drewN | apply Kd.S_drew)); exact HO_419001.out⟩, ⟨by (with_reducible repeat (first | apply blk_drewN | apply blk_drew | apply blk_alloc)); exact BK410.out⟩, ⟨by (with_reducible repeat (first | apply blk_drewN | apply blk_drew | apply blk_alloc)); exact BK418.out⟩, ⟨by repeat (first | (with_reducible first | exact HB.out | apply below_alloc | apply pw_below_drewN | apply below_drew1 | refine below_set ?_ GE410.out | refine below_set ?_ GE418.out) | exact HB.out)⟩⟩
             case round =>
              clear H'
              try clear c1
              try clear c2
              try clear p2
              try clear c3
              try clear p3
              try clear q3
              try clear hx3
              try clear c4
              try clear c4b0
              try clear c5
              try clear c5b0
              try clear c6
              try clear c6b0
              try clear p6
              try clear c9
              try clear c10
              try clear c11
              try clear c11b0
              try clear c11b1
              try clear c13
              try clear c13b0
              try clear c13b1
              try clear c15
              try clear c16
              try clear c17
              try clear c18
              try clear c20
              try clear c20b0
              try clear c21
              try clear c21b0
              try clear c22
              try clear c22b0
              try clear c24
              try clear c38
              try clear p38
              try clear q38
              try clear hx38
              try clear c39
              try clear p39
              try clear q39
              try clear hx39
              try clear c43
              try clear c46
              try clear c46b0
              try clear c46b1
              try clear c48
              try clear c49
              try clear c53
              try clear c57
              try clear c58
              try clear c58b0
              try clear c58b1
              try clear c60
              try clear hcz38_0
              try clear hcz38_1
              try clear hcz44_0
              try clear hcz44_1
              try clear hcz50_0
              try clear hcz50_1
              try clear hcz51_0
              try clear hcz51_1
              try clear hcz54_0
              try clear hcz54_1
              try clear hcz55_0
              try clear hcz55_1
              try clear hcz61_0
              try clear hcz61_1
              try clear hcz62_0
              try clear hcz62_1
              try clear hfz38_0
              try clear hfz38_1
              try clear hfz44_0
              try clear hfz44_1
              try clear hfz50_0
              try clear hfz50_1
              try clear hfz51_0
              try clear hfz51_1
              try clear hfz54_0
              try clear hfz54_1
              try clear hfz55_0
              try clear hfz55_1
              try clear hfz61_0
              try clear hfz61_1
              try clear hfz62_0
              try clear hfz62_1
              try clear hx389_0
              try clear hx393_0
              try clear p2
              try clear p3
              try clear p38
              try clear p389
              try clear p39
              try clear p393
              try clear p6
              try clear q3
              try clear q38
              try clear q389
              try clear q39
              try clear q393
              obtain ⟨x98_5, rfl, HA, HK5, HO_411000, HO_411001, HO_419000, HO_419001, BK410, BK418, HB⟩ := hrel
              cases gk with
              | zero => exact absurd HA.out (by simp [ancepslaw57_ApparatusCollate.l2])
              | succ k5 =>
               have H := HA.out
               clear HA
               simp only [ancepslaw57_ApparatusCollate.l2] at H
               by_cases c64 : x98_5 < (l0.length : Int)
               ·rw [if_pos c64] at H
                have c64b0 : decide (x98_5 < (l0.length : Int)) = true := decide_eq_true c64
                clear c64
                by_cases c65 : 0 ≤ x98_5
                ·rw [if_pos c65] at H
                 have c65b0 : decide (0 ≤ x98_5) = true := decide_eq_true c65
                 clear c65
                 by_cases c66 : x98_5 < (l0.length : Int)
                 ·rw [if_pos c66] at H
                  have c66b0 : decide (x98_5 < (l0.length : Int)) = true := decide_eq_true c66
                  clear c66
                  replace H := Option.bind_eq_some_iff.mp H
                  obtain ⟨⟨t422, t425⟩, A670, H⟩ := H
                  try dsimp only at H
                  have A67 := Aside0.mk A670
                  clear A670
                  by_cases c68 : t425 = 0
                  ·rw [if_pos c68] at H
                   have c68b0 : (t425 == 0) = true := beq_iff_eq.mpr c68
                   have c68b1 : (t425 != 0) = false := bne_eq_false_iff_eq.mpr c68
                   clear c68
                   by_cases c69 : x98_5 < (l1.length : Int)
                   ·rw [if_pos c69] at H
                    have c69b0 : decide (x98_5 < (l1.length : Int)) = true := decide_eq_true c69
                    clear c69
                    replace H := Option.bind_eq_some_iff.mp H
                    obtain ⟨t427, A700, H⟩ := H
                    try dsimp only at H
                    have A70 := Aside0.mk A700
                    clear A700
                    by_cases c71 : t427 = true
                    ·subst c71
                     have H1 : (ancepslaw57_ApparatusCollate.l2 k5 l1 l0 (l0.length : Int) (wrap64 (x98_5 + 1)) t403 t406) = some r := by rw [if_pos rfl] at H; exact H
                     clear H
                     have H := H1
                     clear H1
                     have H' := Aside0.mk H
                     clear H
                     have p421 : 0 ≤ (x98_5 : Int) := of_decide_eq_true (by first | (with_reducible assumption) | assumption)
                     have q421 : x98_5 < (l0.length : Int) := of_decide_eq_true (by first | (with_reducible assumption) | assumption)
                     obtain ⟨ad421, e421, hx421_0⟩ := Kd.at_string HR0.out x98_5 p421 q421
                     cases e421
                     replace hx421_0 := (HB.out.cell (World.block_lt_of_cell? w _ hx421_0)).trans hx421_0
                     replace p421 := eq_true p421
                     replace q421 := eq_true q421
                     have hnb72 := NB410_418.out
                     have hnc72 := NB418_410.out
                     have hcz73_0 := cZ BK410 0 (.slice Ao37 t403.length co37)
                     have hcz73_1 := cZ BK410 1 (.slice Ao39 t406.length co39)
                     have hfz73_0 := blk_frozen BK410.out 0
                     have hfz73_1 := blk_frozen BK410.out 1
                     go_wp2_with (first | ((with_reducible refine gate_callee (f := 20) rfl ?_); refine gL_ (some 106) Try.func20 #[.agg #[.slice Ao37 t403.length co37, .slice Ao39 t406.length co39], .string (rdOf ByteArray.empty l0 x98_5)] ?_; (with_reducible refine (apparatus_Of.calls k5 _ _ t403 _ _ t406 (rdOf ByteArray.empty l0 x98_5) t422 t425 _ ?side1 ?side2 ?side3 ?side4 A67.out).mono ?_); (case side1 => repeat (first | exact (Kd.R_reads' HO_411000.out).2.2 | (with_reducible refine Kd.C_alloc ?_ _) | (with_reducible refine Kd.C_drewN ?_ _) | (with_reducible refine Kd.C_drew ?_))); (case side2 => exact (Kd.R_reads' HO_411000.out).2.1); (case side3 => repeat (first | exact (Kd.S_reads' HO_411001.out).2.2 | (with_reducible refine Kd.C_alloc ?_ _) | (with_reducible refine Kd.C_drewN ?_ _) | (with_reducible refine Kd.C_drew ?_))); (case side4 => exact (Kd.S_reads' HO_411001.out).2.1); rintro e w74 ⟨v423, rfl, ho0, hb⟩; refine ⟨_, rfl, ?_⟩; have n0_ := Aside0.mk (Kd.R_elder' (iR HO_411000) (Kd.R_base ho0) hb); have n1_ := Aside0.mk (Kd.S_below (by (with_reducible repeat (first | apply Kd.S_alloc | apply Kd.S_drewN | apply Kd.S_drew)); exact HO_411001.out) hb); have n2_ := Aside0.mk (Kd.R_elder' (iR HO_419000) (Kd.R_base ho0) hb); have n3_ := Aside0.mk (Kd.S_below (by (with_reducible repeat (first | apply Kd.S_alloc | apply Kd.S_drewN | apply Kd.S_drew)); exact HO_419001.out) hb); have n4_ := Aside0.mk (Kd.R_lower (Kd.R_new' (Kd.R_new' ho0 (Kd.R_lt (iR HO_411000))) (Kd.R_lt (iR HO_419000))) (below_size (iL HB))); have n5_ := jB BK410 hb; have n6_ := jB BK418 hb; have n7_ := jL HB hb; clear HO_411000; clear HO_411001; clear HO_419000; clear HO_419001; clear BK410; clear BK418; clear HB; have HO_411000 := n0_; have HO_411001 := n1_; have HO_419000 := n2_; have HO_419001 := n3_; have HO424 := n4_; have BK410 := n5_; have BK418 := n6_; have HB := n7_; clear n0_ n1_ n2_ n3_ n4_ n5_ n6_ n7_; (try clear hb); (try clear hb2); (try clear hk); (try clear hi); (try clear ho0); have p426 : 0 ≤ (x98_5 : Int) := of_decide_eq_true (by first | (with_reducible assumption) | assumption); have q426 : x98_5 < (l1.length : Int) := of_decide_eq_true (by first | (with_reducible assumption) | assumption); obtain ⟨ad426, A426_0, c426_0, e426, hx426_0, hl426_0, hi426_0⟩ := at_L8 HR1.out x98_5 p426 q426; cases e426; replace hx426_0 := (HB.out.cell (World.block_lt_of_cell? w _ hx426_0)).trans hx426_0; have HR426_0 := Aside0.mk hi426_0; have HC426_0 := Aside0.mk hl426_0; clear hi426_0 hl426_0; replace p426 := eq_true p426; replace q426 := eq_true q426; obtain ⟨Ao75, co75, eo75⟩ := Kd.R_slice HO424.out; subst eo75) | (go_at_call 21; (with_reducible refine (ancepsref01_Equal.calls k5 _ _ t422 _ _ (rd_L8 l1 x98_5) true _ ?side1 ?side2 ?side3 ?side4 A70.out).mono ?_); (case side1 => repeat (first | exact (Kd.R_reads' HO424.out).2.2 | (with_reducible refine Kd.C_alloc ?_ _) | (with_reducible refine Kd.C_drewN ?_ _) | (with_reducible refine Kd.C_drew ?_))); (case side2 => exact (Kd.R_reads' HO424.out).2.1); (case side3 => exact iC HR426_0 HB); (case side4 => exact HC426_0.out); rintro e w' ⟨rfl, ⟨nd, rfl⟩⟩))
                     go_roundg k5
                     case measure => have := HK1.out; have := HJ7.out; have := HK3.out; have := HJ30.out; have := HK5.out; omega
                     case rel => exact ⟨(wrap64 (x98_5 + 1)), (by first | rfl | (simp; done) | (simp [*]; done)), H', ⟨by have := HK1.out; have := HJ7.out; have := HK3.out; have := HJ30.out; have := HK5.out; omega⟩, ⟨by (with_reducible repeat (first | apply Kd.R_alloc | apply Kd.R_drewN | apply Kd.R_drew)); exact Kd.R_mono HO_411000.out (fun _ hk => hk.1)⟩, ⟨by (with_reducible repeat (first | apply Kd.S_alloc | apply Kd.S_drewN | apply Kd.S_drew)); exact HO_411001.out⟩, ⟨by (with_reducible repeat (first | apply Kd.R_alloc | apply Kd.R_drewN | apply Kd.R_drew)); exact Kd.R_mono HO_419000.out (fun _ hk => hk.1)⟩, ⟨by (with_reducible repeat (first | apply Kd.S_alloc | apply Kd.S_drewN | apply Kd.S_drew)); exact HO_419001.out⟩, ⟨by (with_reducible repeat (first | apply blk_drewN | apply blk_drew | apply blk_alloc)); exact BK410.out⟩, ⟨by (with_reducible repeat (first | apply blk_drewN | apply blk_drew | apply blk_alloc)); exact BK418.out⟩, ⟨by repeat (first | (with_reducible first | exact HB.out | apply below_alloc | apply pw_below_drewN | apply below_drew1 | refine below_set ?_ GE410.out | refine below_set ?_ GE418.out) | exact HB.out)⟩⟩
                    ·replace c71 := Bool.eq_false_iff.mpr c71
                     subst c71
                     have H1 : (some false) = some r := by rw [if_neg (show ¬ (false = true) by decide)] at H; exact H
                     clear H
                     have H := H1
                     clear H1
                     obtain rfl := Option.some.inj H
                     have p421 : 0 ≤ (x98_5 : Int) := of_decide_eq_true (by first | (with_reducible assumption) | assumption)
                     have q421 : x98_5 < (l0.length : Int) := of_decide_eq_true (by first | (with_reducible assumption) | assumption)
                     obtain ⟨ad421, e421, hx421_0⟩ := Kd.at_string HR0.out x98_5 p421 q421
                     cases e421
                     replace hx421_0 := (HB.out.cell (World.block_lt_of_cell? w _ hx421_0)).trans hx421_0
                     replace p421 := eq_true p421
                     replace q421 := eq_true q421
                     have hnb76 := NB410_418.out
                     have hnc76 := NB418_410.out
                     have hcz77_0 := cZ BK410 0 (.slice Ao37 t403.length co37)
                     have hcz77_1 := cZ BK410 1 (.slice Ao39 t406.length co39)
                     have hfz77_0 := blk_frozen BK410.out 0
                     have hfz77_1 := blk_frozen BK410.out 1
                     go_wp2_with (first | ((with_reducible refine gate_callee (f := 20) rfl ?_); refine gL_ (some 106) Try.func20 #[.agg #[.slice Ao37 t403.length co37, .slice Ao39 t406.length co39], .string (rdOf ByteArray.empty l0 x98_5)] ?_; (with_reducible refine (apparatus_Of.calls k5 _ _ t403 _ _ t406 (rdOf ByteArray.empty l0 x98_5) t422 t425 _ ?side1 ?side2 ?side3 ?side4 A67.out).mono ?_); (case side1 => repeat (first | exact (Kd.R_reads' HO_411000.out).2.2 | (with_reducible refine Kd.C_alloc ?_ _) | (with_reducible refine Kd.C_drewN ?_ _) | (with_reducible refine Kd.C_drew ?_))); (case side2 => exact (Kd.R_reads' HO_411000.out).2.1); (case side3 => repeat (first | exact (Kd.S_reads' HO_411001.out).2.2 | (with_reducible refine Kd.C_alloc ?_ _) | (with_reducible refine Kd.C_drewN ?_ _) | (with_reducible refine Kd.C_drew ?_))); (case side4 => exact (Kd.S_reads' HO_411001.out).2.1); rintro e w78 ⟨v423, rfl, ho0, hb⟩; refine ⟨_, rfl, ?_⟩; have n0_ := Aside0.mk (Kd.R_elder' (iR HO_411000) (Kd.R_base ho0) hb); have n1_ := Aside0.mk (Kd.S_below (by (with_reducible repeat (first | apply Kd.S_alloc | apply Kd.S_drewN | apply Kd.S_drew)); exact HO_411001.out) hb); have n2_ := Aside0.mk (Kd.R_elder' (iR HO_419000) (Kd.R_base ho0) hb); have n3_ := Aside0.mk (Kd.S_below (by (with_reducible repeat (first | apply Kd.S_alloc | apply Kd.S_drewN | apply Kd.S_drew)); exact HO_419001.out) hb); have n4_ := Aside0.mk (Kd.R_lower (Kd.R_new' (Kd.R_new' ho0 (Kd.R_lt (iR HO_411000))) (Kd.R_lt (iR HO_419000))) (below_size (iL HB))); have n5_ := jB BK410 hb; have n6_ := jB BK418 hb; have n7_ := jL HB hb; clear HO_411000; clear HO_411001; clear HO_419000; clear HO_419001; clear BK410; clear BK418; clear HB; have HO_411000 := n0_; have HO_411001 := n1_; have HO_419000 := n2_; have HO_419001 := n3_; have HO424 := n4_; have BK410 := n5_; have BK418 := n6_; have HB := n7_; clear n0_ n1_ n2_ n3_ n4_ n5_ n6_ n7_; (try clear hb); (try clear hb2); (try clear hk); (try clear hi); (try clear ho0); have p426 : 0 ≤ (x98_5 : Int) := of_decide_eq_true (by first | (with_reducible assumption) | assumption); have q426 : x98_5 < (l1.length : Int) := of_decide_eq_true (by first | (with_reducible assumption) | assumption); obtain ⟨ad426, A426_0, c426_0, e426, hx426_0, hl426_0, hi426_0⟩ := at_L8 HR1.out x98_5 p426 q426; cases e426; replace hx426_0 := (HB.out.cell (World.block_lt_of_cell? w _ hx426_0)).trans hx426_0; have HR426_0 := Aside0.mk hi426_0; have HC426_0 := Aside0.mk hl426_0; clear hi426_0 hl426_0; replace p426 := eq_true p426; replace q426 := eq_true q426; obtain ⟨Ao79, co79, eo79⟩ := Kd.R_slice HO424.out; subst eo79) | (go_at_call 21; (with_reducible refine (ancepsref01_Equal.calls k5 _ _ t422 _ _ (rd_L8 l1 x98_5) false _ ?side1 ?side2 ?side3 ?side4 A70.out).mono ?_); (case side1 => repeat (first | exact (Kd.R_reads' HO424.out).2.2 | (with_reducible refine Kd.C_alloc ?_ _) | (with_reducible refine Kd.C_drewN ?_ _) | (with_reducible refine Kd.C_drew ?_))); (case side2 => exact (Kd.R_reads' HO424.out).2.1); (case side3 => exact iC HR426_0 HB); (case side4 => exact HC426_0.out); rintro e w' ⟨rfl, ⟨nd, rfl⟩⟩))
                     go_ret
                     exact ⟨by first | rfl | (simp [errW_none, errW_some] <;> rfl) | (simp [*, errW_none, errW_some] <;> rfl), by repeat (first | (with_reducible first | exact HB.out | apply below_alloc | apply pw_below_drewN | apply below_drew1 | refine below_set ?_ GE410.out | refine below_set ?_ GE418.out) | exact HB.out)⟩
                   ·rw [if_neg c69] at H
                    exact absurd H (by simp)
                  ·rw [if_neg c68] at H
                   have c68b0 : (t425 == 0) = false := beq_eq_false_iff_ne.mpr c68
                   have c68b1 : (t425 != 0) = true := bne_iff_ne.mpr c68
                   obtain rfl := Option.some.inj H
                   have p421 : 0 ≤ (x98_5 : Int) := of_decide_eq_true (by first | (with_reducible assumption) | assumption)
                   have q421 : x98_5 < (l0.length : Int) := of_decide_eq_true (by first | (with_reducible assumption) | assumption)
                   obtain ⟨ad421, e421, hx421_0⟩ := Kd.at_string HR0.out x98_5 p421 q421
                   cases e421
                   replace hx421_0 := (HB.out.cell (World.block_lt_of_cell? w _ hx421_0)).trans hx421_0
                   replace p421 := eq_true p421
                   replace q421 := eq_true q421
                   have hnb80 := NB410_418.out
                   have hnc80 := NB418_410.out
                   have hcz81_0 := cZ BK410 0 (.slice Ao37 t403.length co37)
                   have hcz81_1 := cZ BK410 1 (.slice Ao39 t406.length co39)
                   have hfz81_0 := blk_frozen BK410.out 0
                   have hfz81_1 := blk_frozen BK410.out 1
                   go_wp2_with (first | ((with_reducible refine gate_callee (f := 20) rfl ?_); refine gL_ (some 106) Try.func20 #[.agg #[.slice Ao37 t403.length co37, .slice Ao39 t406.length co39], .string (rdOf ByteArray.empty l0 x98_5)] ?_; (with_reducible refine (apparatus_Of.calls k5 _ _ t403 _ _ t406 (rdOf ByteArray.empty l0 x98_5) t422 t425 _ ?side1 ?side2 ?side3 ?side4 A67.out).mono ?_); (case side1 => repeat (first | exact (Kd.R_reads' HO_411000.out).2.2 | (with_reducible refine Kd.C_alloc ?_ _) | (with_reducible refine Kd.C_drewN ?_ _) | (with_reducible refine Kd.C_drew ?_))); (case side2 => exact (Kd.R_reads' HO_411000.out).2.1); (case side3 => repeat (first | exact (Kd.S_reads' HO_411001.out).2.2 | (with_reducible refine Kd.C_alloc ?_ _) | (with_reducible refine Kd.C_drewN ?_ _) | (with_reducible refine Kd.C_drew ?_))); (case side4 => exact (Kd.S_reads' HO_411001.out).2.1); rintro e w82 ⟨v423, rfl, ho0, hb⟩; refine ⟨_, rfl, ?_⟩; have n0_ := Aside0.mk (Kd.R_elder' (iR HO_411000) (Kd.R_base ho0) hb); have n1_ := Aside0.mk (Kd.S_below (by (with_reducible repeat (first | apply Kd.S_alloc | apply Kd.S_drewN | apply Kd.S_drew)); exact HO_411001.out) hb); have n2_ := Aside0.mk (Kd.R_elder' (iR HO_419000) (Kd.R_base ho0) hb); have n3_ := Aside0.mk (Kd.S_below (by (with_reducible repeat (first | apply Kd.S_alloc | apply Kd.S_drewN | apply Kd.S_drew)); exact HO_419001.out) hb); have n4_ := Aside0.mk (Kd.R_lower (Kd.R_new' (Kd.R_new' ho0 (Kd.R_lt (iR HO_411000))) (Kd.R_lt (iR HO_419000))) (below_size (iL HB))); have n5_ := jB BK410 hb; have n6_ := jB BK418 hb; have n7_ := jL HB hb; clear HO_411000; clear HO_411001; clear HO_419000; clear HO_419001; clear BK410; clear BK418; clear HB; have HO_411000 := n0_; have HO_411001 := n1_; have HO_419000 := n2_; have HO_419001 := n3_; have HO424 := n4_; have BK410 := n5_; have BK418 := n6_; have HB := n7_; clear n0_ n1_ n2_ n3_ n4_ n5_ n6_ n7_; (try clear hb); (try clear hb2); (try clear hk); (try clear hi); (try clear ho0)))
                   go_ret
                   exact ⟨by first | rfl | (simp [errW_none, errW_some] <;> rfl) | (simp [*, errW_none, errW_some] <;> rfl), by repeat (first | (with_reducible first | exact HB.out | apply below_alloc | apply pw_below_drewN | apply below_drew1 | refine below_set ?_ GE410.out | refine below_set ?_ GE418.out) | exact HB.out)⟩
                 ·rw [if_neg c66] at H
                  exact absurd H (by simp)
                ·rw [if_neg c65] at H
                 exact absurd H (by simp)
               ·rw [if_neg c64] at H
                have c64b0 : decide (x98_5 < (l0.length : Int)) = false := decide_eq_false c64
                clear c64
                obtain rfl := Option.some.inj H
                go_wp2
                go_ret
                exact ⟨by first | rfl | (simp [errW_none, errW_some] <;> rfl) | (simp [*, errW_none, errW_some] <;> rfl), by repeat (first | (with_reducible first | exact HB.out | apply below_alloc | apply pw_below_drewN | apply below_drew1 | refine below_set ?_ GE410.out | refine below_set ?_ GE418.out) | exact HB.out)⟩

/-- THE ONE PURE STATEMENT of ancepslaw57_ApparatusCollate: yours. -/
def ancepslaw57_ApparatusCollate.Pure : Prop := ∀ (l0 : List ByteArray) (l1 : List (List ByteArray)), l0.length ≤ maxLen → l0.length * 16 ≤ 140737488351232 → (∀ x ∈ l0, x.size ≤ 140737488351232) → l1.length ≤ maxLen → l1.length * 24 ≤ 140737488351232 → (∀ x ∈ l1, (x.length ≤ maxLen ∧ x.length * 16 ≤ 140737488351232 ∧ ∀ y0 ∈ x, y0.size ≤ 140737488351232)) → ∃ k, ancepslaw57_ApparatusCollate.f k l0 l1 = some true
theorem ancepslaw57_ApparatusCollate.walk (P : ancepslaw57_ApparatusCollate.Pure) (a0 : Option Addr) (cap0 : Nat) (l0 : List ByteArray) (a1 : Option Addr) (cap1 : Nat) (l1 : List (List ByteArray)) (w : World) (hr0 : Kd.C Kd.string w a0 l0.length l0) (hc0 : l0.length ≤ cap0) (hm0 : l0.length ≤ maxLen) (y0 : l0.length * 16 ≤ 140737488351232) (hw0 : ∀ x ∈ l0, x.size ≤ 140737488351232) (hr1 : Kd.C (Kd.slice 9 Kd.string) w a1 l1.length l1) (hc1 : l1.length ≤ cap1) (hm1 : l1.length ≤ maxLen) (y1 : l1.length * 24 ≤ 140737488351232) (hw1 : ∀ x ∈ l1, (x.length ≤ maxLen ∧ x.length * 16 ≤ 140737488351232 ∧ ∀ y0 ∈ x, y0.size ≤ 140737488351232)) :
  Calls Try.prog 5 #[.slice a0 l0.length cap0, .slice a1 l1.length cap1] w fun e w' => e = .returned (.bool true) ∧ Below w.heap.size w w' := by
 obtain ⟨k, h⟩ := P l0 l1 hm0 y0 hw0 hm1 y1 hw1
 refine (ancepslaw57_ApparatusCollate.calls k _ _ l0 _ _ l1 true w hr0 hc0 hr1 hc1 h).mono ?_
 rintro e w' ⟨rfl, hd⟩
 exact ⟨rfl, hd⟩

end Go.Proofs.Ytmjigfoldeekmaa.X
