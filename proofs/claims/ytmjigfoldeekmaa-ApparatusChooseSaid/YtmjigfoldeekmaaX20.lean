-- and more
-- shortened
-- thinned
-- halved indents
-- printed by this session's xprint.py: out of the translation, by the kit's print with additions; Lean checks it
import Derived.Test.YtmjigfoldeekmaaXE
import Derived.Test.YtmjigfoldeekmaaWN
import Derived.Test.YtmjigfoldeekmaaWShare
import Derived.Test.YtmjigfoldeekmaaWRepsOne
import Derived.Test.YtmjigfoldeekmaaX0
import Derived.Test.YtmjigfoldeekmaaX10
import Derived.Test.YtmjigfoldeekmaaX11
import Derived.Test.YtmjigfoldeekmaaX12
import Derived.Test.YtmjigfoldeekmaaX13
import Derived.Test.YtmjigfoldeekmaaX14
import Derived.Test.YtmjigfoldeekmaaX18
import Derived.Test.YtmjigfoldeekmaaX19
import Derived.Test.YtmjigfoldeekmaaXA
namespace Go.Proofs.Ytmjigfoldeekmaa.X
open Go.RowKit Go.Proofs.YtmjigfoldeekmaaW.PrintWords Go.Proofs.YtmjigfoldeekmaaW.PrintLast Go.Proofs.YtmjigfoldeekmaaW.PrintMore
attribute [local go_sem] max2_int min2_int max_two min_two max_three min_three max_four min_four isSome_setCell binOp_gtr_str binOp_leq_str binOp_geq_str   -- for this text's walks alone
set_option linter.unusedVariables false
set_option linter.unusedSimpArgs false

/-! ### ancepslaw57_ApparatusChoose: function 7 -/
mutual
def ancepslaw57_ApparatusChoose.j0 : Nat → Int → Int → Bool → List ByteArray → List (S65) → Option (Bool)
 | 0, _, _, _, _, _ => none
 | k + 1, x1, x2, x25, x337000, x337001 => if x25 = true then ((ancepslaw57_awake.f k).bind fun t339 => (some t339)) else ((ancepslaw57_own.f x337000 x337001).bind fun bt340 => ((apparatus_Choose.f k bt340.1 bt340.2 x1 x2).bind fun bt346 => ((ancepsref57_Choose.f k x337000 x337001 x1 x2).bind fun bt354 => (if bt346.2.2 = bt354.2.2 then ((ancepsref57_Same.f k bt346.1 bt346.2.1 bt354.1 bt354.2.1).bind fun t362 => (if t362 = true then (ancepslaw57_ApparatusChoose.j1 k x1 x2 bt346.2.2 bt354.2.2 (bt346.2.2 != 0) x337000 x337001 bt346.1 bt346.2.1 bt354.1 bt354.2.1) else (ancepslaw57_ApparatusChoose.j1 k x1 x2 bt346.2.2 bt354.2.2 true x337000 x337001 bt346.1 bt346.2.1 bt354.1 bt354.2.1))) else (ancepslaw57_ApparatusChoose.j1 k x1 x2 bt346.2.2 bt354.2.2 true x337000 x337001 bt346.1 bt346.2.1 bt354.1 bt354.2.1)))))
def ancepslaw57_ApparatusChoose.j1 : Nat → Int → Int → Int → Int → Bool → List ByteArray → List (S65) → List ByteArray → List (S65) → List ByteArray → List (S65) → Option (Bool)
 | 0, _, _, _, _, _, _, _, _, _, _, _ => none
 | k + 1, x1, x2, x8, x10, x54, x337000, x337001, x354000, x354001, x362000, x362001 => if x54 = true then (if x8 = x10 then ((ancepsref57_Same.f k x354000 x354001 x362000 x362001).bind fun t363 => (some t363)) else (none)) else (ancepslaw57_ApparatusChoose.l0 k x1 x2 x337000 (x337000.length : Int) 0 x337000 x337001 x354000 x354001)
def ancepslaw57_ApparatusChoose.l0 : Nat → Int → Int → List ByteArray → Int → Int → List ByteArray → List (S65) → List ByteArray → List (S65) → Option (Bool)
 | 0, _, _, _, _, _, _, _, _, _ => none
 | k + 1, x1, x2, x64, x65, x66, x337000, x337001, x354000, x354001 => if x66 < x65 then (if 0 ≤ x66 then (if x66 < (x64.length : Int) then ((apparatus_Of.f k x354000 x354001 (rdOf ByteArray.empty x64 x66)).bind fun bt374 => ((ancepsref57_Of.f k x337000 x337001 (rdOf ByteArray.empty x64 x66)).bind fun bt378 => (if bt374.2 = 0 then ((ancepsref01_Equal.f k bt374.1 bt378.1).bind fun t382 => (if t382 = true then (ancepslaw57_ApparatusChoose.l0 k x1 x2 x64 x65 (wrap64 (x66 + 1)) x337000 x337001 x354000 x354001) else (none))) else (none)))) else (none)) else (none)) else ((apparatus_Choose.f k x354000 x354001 x1 x2).bind fun bt364 => (if bt364.2.2 = 0 then ((ancepsref57_Same.f k bt364.1 bt364.2.1 x337000 x337001).bind fun t372 => (some t372)) else (none)))
end
def ancepslaw57_ApparatusChoose.f (k : Nat) (l0_0 : List ByteArray) (l0_1 : List (S65)) (a1 : Int) (a2 : Int) : Option (Bool) := (ancepslaw57_awake.f k).bind fun t337 => (if t337 = true then ((ancepsref57_Few.f k l0_0 l0_1).bind fun t338 => (ancepslaw57_ApparatusChoose.j0 k a1 a2 (!t338) l0_0 l0_1)) else (ancepslaw57_ApparatusChoose.j0 k a1 a2 true l0_0 l0_1))
theorem ancepslaw57_ApparatusChoose.mono_l : ∀ k, (∀ y0 y1 y2 y3 y4, LeO (ancepslaw57_ApparatusChoose.j0 k y0 y1 y2 y3 y4) (ancepslaw57_ApparatusChoose.j0 (k + 1) y0 y1 y2 y3 y4)) ∧ (∀ y0 y1 y2 y3 y4 y5 y6 y7 y8 y9 y10, LeO (ancepslaw57_ApparatusChoose.j1 k y0 y1 y2 y3 y4 y5 y6 y7 y8 y9 y10) (ancepslaw57_ApparatusChoose.j1 (k + 1) y0 y1 y2 y3 y4 y5 y6 y7 y8 y9 y10)) ∧ (∀ y0 y1 y2 y3 y4 y5 y6 y7 y8, LeO (ancepslaw57_ApparatusChoose.l0 k y0 y1 y2 y3 y4 y5 y6 y7 y8) (ancepslaw57_ApparatusChoose.l0 (k + 1) y0 y1 y2 y3 y4 y5 y6 y7 y8))
 | 0 => ⟨fun _ _ _ _ _ r h => by simp [ancepslaw57_ApparatusChoose.j0] at h, fun _ _ _ _ _ _ _ _ _ _ _ r h => by simp [ancepslaw57_ApparatusChoose.j1] at h, fun _ _ _ _ _ _ _ _ _ r h => by simp [ancepslaw57_ApparatusChoose.l0] at h⟩
 | k + 1 => by
  obtain ⟨ih0, ih1, ih2⟩ := ancepslaw57_ApparatusChoose.mono_l k
  refine ⟨?_, ?_, ?_⟩
  ·intro y0 y1 y2 y3 y4
   unfold ancepslaw57_ApparatusChoose.j0
   repeat' first
   | (with_reducible exact ih0 _ _ _ _ _)
   | (with_reducible exact ih1 _ _ _ _ _ _ _ _ _ _ _)
   | (with_reducible exact ih2 _ _ _ _ _ _ _ _ _)
   | (with_reducible exact ancepslaw57_awake.mono _)
   | (with_reducible exact ancepsref01_Equal.mono _ _ _)
   | (with_reducible exact ancepsref57_Choose.mono _ _ _ _ _)
   | (with_reducible exact ancepsref57_Few.mono _ _ _)
   | (with_reducible exact ancepsref57_Of.mono _ _ _ _)
   | (with_reducible exact ancepsref57_Same.mono _ _ _ _ _)
   | (with_reducible exact apparatus_Choose.mono _ _ _ _ _)
   | (with_reducible exact apparatus_Of.mono _ _ _ _)
   | (with_reducible exact LeO.refl _)
   | (with_reducible exact LeO.none _)
   | (with_reducible refine LeO.ite ?_ ?_)
   | (with_reducible refine LeO.bind ?_ (fun _ => ?_))
   | exact ih0 _ _ _ _ _
   | exact ih1 _ _ _ _ _ _ _ _ _ _ _
   | exact ih2 _ _ _ _ _ _ _ _ _
   | exact ancepslaw57_awake.mono _
   | exact ancepsref01_Equal.mono _ _ _
   | exact ancepsref57_Choose.mono _ _ _ _ _
   | exact ancepsref57_Few.mono _ _ _
   | exact ancepsref57_Of.mono _ _ _ _
   | exact ancepsref57_Same.mono _ _ _ _ _
   | exact apparatus_Choose.mono _ _ _ _ _
   | exact apparatus_Of.mono _ _ _ _
   | exact LeO.none _
   | refine LeO.ite ?_ ?_
   | refine LeO.bind ?_ (fun _ => ?_)
  ·intro y0 y1 y2 y3 y4 y5 y6 y7 y8 y9 y10
   unfold ancepslaw57_ApparatusChoose.j1
   repeat' first
   | (with_reducible exact ih0 _ _ _ _ _)
   | (with_reducible exact ih1 _ _ _ _ _ _ _ _ _ _ _)
   | (with_reducible exact ih2 _ _ _ _ _ _ _ _ _)
   | (with_reducible exact ancepslaw57_awake.mono _)
   | (with_reducible exact ancepsref01_Equal.mono _ _ _)
   | (with_reducible exact ancepsref57_Choose.mono _ _ _ _ _)
   | (with_reducible exact ancepsref57_Few.mono _ _ _)
   | (with_reducible exact ancepsref57_Of.mono _ _ _ _)
   | (with_reducible exact ancepsref57_Same.mono _ _ _ _ _)
   | (with_reducible exact apparatus_Choose.mono _ _ _ _ _)
   | (with_reducible exact apparatus_Of.mono _ _ _ _)
   | (with_reducible exact LeO.refl _)
   | (with_reducible exact LeO.none _)
   | (with_reducible refine LeO.ite ?_ ?_)
   | (with_reducible refine LeO.bind ?_ (fun _ => ?_))
   | exact ih0 _ _ _ _ _
   | exact ih1 _ _ _ _ _ _ _ _ _ _ _
   | exact ih2 _ _ _ _ _ _ _ _ _
   | exact ancepslaw57_awake.mono _
   | exact ancepsref01_Equal.mono _ _ _
   | exact ancepsref57_Choose.mono _ _ _ _ _
   | exact ancepsref57_Few.mono _ _ _
   | exact ancepsref57_Of.mono _ _ _ _
   | exact ancepsref57_Same.mono _ _ _ _ _
   | exact apparatus_Choose.mono _ _ _ _ _
   | exact apparatus_Of.mono _ _ _ _
   | exact LeO.none _
   | refine LeO.ite ?_ ?_
   | refine LeO.bind ?_ (fun _ => ?_)
  ·intro y0 y1 y2 y3 y4 y5 y6 y7 y8
   unfold ancepslaw57_ApparatusChoose.l0
   repeat' first
   | (with_reducible exact ih0 _ _ _ _ _)
   | (with_reducible exact ih1 _ _ _ _ _ _ _ _ _ _ _)
   | (with_reducible exact ih2 _ _ _ _ _ _ _ _ _)
   | (with_reducible exact ancepslaw57_awake.mono _)
   | (with_reducible exact ancepsref01_Equal.mono _ _ _)
   | (with_reducible exact ancepsref57_Choose.mono _ _ _ _ _)
   | (with_reducible exact ancepsref57_Few.mono _ _ _)
   | (with_reducible exact ancepsref57_Of.mono _ _ _ _)
   | (with_reducible exact ancepsref57_Same.mono _ _ _ _ _)
   | (with_reducible exact apparatus_Choose.mono _ _ _ _ _)
   | (with_reducible exact apparatus_Of.mono _ _ _ _)
   | (with_reducible exact LeO.refl _)
   | (with_reducible exact LeO.none _)
   | (with_reducible refine LeO.ite ?_ ?_)
   | (with_reducible refine LeO.bind ?_ (fun _ => ?_))
   | exact ih0 _ _ _ _ _
   | exact ih1 _ _ _ _ _ _ _ _ _ _ _
   | exact ih2 _ _ _ _ _ _ _ _ _
   | exact ancepslaw57_awake.mono _
   | exact ancepsref01_Equal.mono _ _ _
   | exact ancepsref57_Choose.mono _ _ _ _ _
   | exact ancepsref57_Few.mono _ _ _
   | exact ancepsref57_Of.mono _ _ _ _
   | exact ancepsref57_Same.mono _ _ _ _ _
   | exact apparatus_Choose.mono _ _ _ _ _
   | exact apparatus_Of.mono _ _ _ _
   | exact LeO.none _
   | refine LeO.ite ?_ ?_
   | refine LeO.bind ?_ (fun _ => ?_)
theorem ancepslaw57_ApparatusChoose.mono : ∀ a0 a1 a2 a3 k, LeO (ancepslaw57_ApparatusChoose.f k a0 a1 a2 a3) (ancepslaw57_ApparatusChoose.f (k + 1) a0 a1 a2 a3) := by
 intro a0 a1 a2 a3 k
 obtain ⟨ih0, ih1, ih2⟩ := ancepslaw57_ApparatusChoose.mono_l k
 unfold ancepslaw57_ApparatusChoose.f
 repeat' first
   | (with_reducible exact ih0 _ _ _ _ _)
   | (with_reducible exact ih1 _ _ _ _ _ _ _ _ _ _ _)
   | (with_reducible exact ih2 _ _ _ _ _ _ _ _ _)
   | (with_reducible exact ancepslaw57_awake.mono _)
   | (with_reducible exact ancepsref01_Equal.mono _ _ _)
   | (with_reducible exact ancepsref57_Choose.mono _ _ _ _ _)
   | (with_reducible exact ancepsref57_Few.mono _ _ _)
   | (with_reducible exact ancepsref57_Of.mono _ _ _ _)
   | (with_reducible exact ancepsref57_Same.mono _ _ _ _ _)
   | (with_reducible exact apparatus_Choose.mono _ _ _ _ _)
   | (with_reducible exact apparatus_Of.mono _ _ _ _)
   | (with_reducible exact LeO.refl _)
   | (with_reducible exact LeO.none _)
   | (with_reducible refine LeO.ite ?_ ?_)
   | (with_reducible refine LeO.bind ?_ (fun _ => ?_))
   | exact ih0 _ _ _ _ _
   | exact ih1 _ _ _ _ _ _ _ _ _ _ _
   | exact ih2 _ _ _ _ _ _ _ _ _
   | exact ancepslaw57_awake.mono _
   | exact ancepsref01_Equal.mono _ _ _
   | exact ancepsref57_Choose.mono _ _ _ _ _
   | exact ancepsref57_Few.mono _ _ _
   | exact ancepsref57_Of.mono _ _ _ _
   | exact ancepsref57_Same.mono _ _ _ _ _
   | exact apparatus_Choose.mono _ _ _ _ _
   | exact apparatus_Of.mono _ _ _ _
   | exact LeO.none _
   | refine LeO.ite ?_ ?_
   | refine LeO.bind ?_ (fun _ => ?_)
set_option maxHeartbeats 8000000 in
set_option maxRecDepth 100000 in
theorem ancepslaw57_ApparatusChoose.calls (k : Nat) (A0_0 : Option Addr) (c0_0 : Nat) (l0_0 : List ByteArray) (A0_1 : Option Addr) (c0_1 : Nat) (l0_1 : List (S65)) (a1 : Int) (a2 : Int) (r : Bool) (w : World) (hr0_0 : Kd.C Kd.string w A0_0 l0_0.length l0_0) (hc0_0 : l0_0.length ≤ c0_0) (hr0_1 : Kd.C k65 w A0_1 l0_1.length l0_1) (hc0_1 : l0_1.length ≤ c0_1) (h : ancepslaw57_ApparatusChoose.f k l0_0 l0_1 a1 a2 = some r) :
  Calls Try.prog 7 #[.agg #[.slice A0_0 l0_0.length c0_0, .slice A0_1 l0_1.length c0_1], .int .i64 a1, .int .i64 a2] w fun e w' => e = .returned (.bool r) ∧ Below w.heap.size w w' := by
 have hu42 := Try.underlying42
 have HR0_0 := Aside0.mk hr0_0
 have HC0_0 := Aside0.mk hc0_0
 clear hr0_0 hc0_0
 have HR0_1 := Aside0.mk hr0_1
 have HC0_1 := Aside0.mk hc0_1
 clear hr0_1 hc0_1
 have HB := Aside0.mk (Below.refl w.heap.size w)
 have H : ((ancepslaw57_awake.f k).bind fun t337 => (if t337 = true then ((ancepsref57_Few.f k l0_0 l0_1).bind fun t338 => (ancepslaw57_ApparatusChoose.j0 k a1 a2 (!t338) l0_0 l0_1)) else (ancepslaw57_ApparatusChoose.j0 k a1 a2 true l0_0 l0_1))) = some r := h
 clear h
 have HC4 := Aside0.mk H
 clear H
 go_enter Try.func7, Try.ntmps7
 go_upto_region 1 with (first | ((with_reducible refine gate_dst (N := 3) rfl ?_); refine bX 3 #[.slice A0_0 l0_0.length c0_0, .slice A0_1 l0_1.length c0_1] 42 ?_; intro gb336 hg w5 hbox hb; have n0_ := jL HB hb; have n1_ := Aside0.mk (hbox); have n2_ := Aside0.mk ((by rw [hg]; exact (below_size (iL HB)) : w.heap.size ≤ gb336)); have n3_ := Aside0.mk ((by rw [hg]; exact (below_size (iL HB)) : w.heap.size ≤ gb336)); clear HB; have HB := n0_; have BK336 := n1_; have GW336 := n2_; have GE336 := n3_; clear n0_ n1_ n2_ n3_; clear hb hbox hg))
 (try simp only [Act.put, List.setIfInBounds_toArray, List.set_cons_zero, List.set_cons_succ])
 go_cut [25] (fun v25 wc => ∃ (kq : Nat) (x25_3 : Bool), v25 = .bool x25_3 ∧ Aside0 (ancepslaw57_ApparatusChoose.j0 kq a1 a2 x25_3 l0_0 l0_1 = some r) ∧ Aside0 (kq ≤ k) ∧ Aside0 (wc.heap[gb336]? = some (.cells #[(.slice A0_0 l0_0.length c0_0), (.slice A0_1 l0_1.length c0_1)] 42 (0, 0))) ∧ Aside0 (Below w.heap.size w wc))
 case first =>
  have H := HC4.out
  clear HC4
  replace H := Option.bind_eq_some_iff.mp H
  obtain ⟨t337, A60, H⟩ := H
  try dsimp only at H
  have A6 := Aside0.mk A60
  clear A60
  by_cases c7 : t337 = true
  ·subst c7
   have H1 : ((ancepsref57_Few.f k l0_0 l0_1).bind fun t338 => (ancepslaw57_ApparatusChoose.j0 k a1 a2 (!t338) l0_0 l0_1)) = some r := by rw [if_pos rfl] at H; exact H
   clear H
   have H := H1
   clear H1
   replace H := Option.bind_eq_some_iff.mp H
   obtain ⟨t338, A80, H⟩ := H
   try dsimp only at H
   have A8 := Aside0.mk A80
   clear A80
   have H' := Aside0.mk H
   clear H
   go_wp2_with (first | ((with_reducible refine gate_callee (f := 9) rfl ?_); refine gL_ (some 19) Try.func9 #[] ?_; (with_reducible refine (ancepslaw57_awake.calls k  true _ A6.out).mono ?_); rintro e w9 ⟨rfl, hb⟩; refine ⟨_, rfl, ?_⟩; have n0_ := jB BK336 hb; have n1_ := jL HB hb; clear BK336; clear HB; have BK336 := n0_; have HB := n1_; clear n0_ n1_; (try clear hb); have hcz10_0 := cZ BK336 0 (.slice A0_0 l0_0.length c0_0); have hcz10_1 := cZ BK336 1 (.slice A0_1 l0_1.length c0_1); have hfz10_0 := blk_frozen BK336.out 0; have hfz10_1 := blk_frozen BK336.out 1) | (go_at_call 22; (with_reducible refine (ancepsref57_Few.calls k _ _ l0_0 _ _ l0_1 t338 _ ?side1 ?side2 ?side3 ?side4 A8.out).mono ?_); (case side1 => exact iC HR0_0 HB); (case side2 => exact HC0_0.out); (case side3 => exact iC HR0_1 HB); (case side4 => exact HC0_1.out); rintro e w11 ⟨rfl, hb⟩; have n0_ := jB BK336 hb; have n1_ := jL HB hb; clear BK336; clear HB; have BK336 := n0_; have HB := n1_; clear n0_ n1_; (try clear hb)))
   go_meet
   case rel => exact ⟨_, (!t338), eV, H', ⟨by first | omega | exact Nat.le_refl _⟩, ⟨iB BK336⟩, ⟨iL HB⟩⟩
  ·replace c7 := Bool.eq_false_iff.mpr c7
   subst c7
   have H1 : (ancepslaw57_ApparatusChoose.j0 k a1 a2 true l0_0 l0_1) = some r := by rw [if_neg (show ¬ (false = true) by decide)] at H; exact H
   clear H
   have H := H1
   clear H1
   have H' := Aside0.mk H
   clear H
   go_wp2_with (first | ((with_reducible refine gate_callee (f := 9) rfl ?_); refine gL_ (some 19) Try.func9 #[] ?_; (with_reducible refine (ancepslaw57_awake.calls k  false _ A6.out).mono ?_); rintro e w12 ⟨rfl, hb⟩; refine ⟨_, rfl, ?_⟩; have n0_ := jB BK336 hb; have n1_ := jL HB hb; clear BK336; clear HB; have BK336 := n0_; have HB := n1_; clear n0_ n1_; (try clear hb)))
   go_meet
   case rel => exact ⟨_, (true), eV, H', ⟨by first | omega | exact Nat.le_refl _⟩, ⟨iB BK336⟩, ⟨iL HB⟩⟩
 case rest =>
  clear HC4
  (try clear p2); (try clear c7); (try clear c9); (try clear hcz10_0); (try clear hcz10_1); (try clear hfz10_0); (try clear hfz10_1)
  obtain ⟨kq, x25_3, rfl, HA, HJ3, BK336, HB⟩ := hcut
  cases kq with
  | zero => exact absurd HA.out (by simp [ancepslaw57_ApparatusChoose.j0])
  | succ kj3 =>
   have H := HA.out
   clear HA
   simp only [ancepslaw57_ApparatusChoose.j0] at H
   by_cases c13 : x25_3 = true
   ·subst c13
    have H1 : ((ancepslaw57_awake.f kj3).bind fun t339 => (some t339)) = some r := by rw [if_pos rfl] at H; exact H
    clear H
    have H := H1
    clear H1
    replace H := Option.bind_eq_some_iff.mp H
    obtain ⟨t339, A140, H⟩ := H
    replace H : (some t339) = some r := H
    have A14 := Aside0.mk A140
    clear A140
    obtain rfl := Option.some.inj H
    go_wp2_with (first | ((with_reducible refine gate_callee (f := 9) rfl ?_); refine gL_ (some 26) Try.func9 #[] ?_; (with_reducible refine (ancepslaw57_awake.calls kj3  t339 _ A14.out).mono ?_); rintro e w15 ⟨rfl, hb⟩; refine ⟨_, rfl, ?_⟩; have n0_ := jB BK336 hb; have n1_ := jL HB hb; clear BK336; clear HB; have BK336 := n0_; have HB := n1_; clear n0_ n1_; (try clear hb)))
    go_ret
    exact ⟨eV, iL HB⟩
   ·replace c13 := Bool.eq_false_iff.mpr c13
    subst c13
    have H1 : ((ancepslaw57_own.f l0_0 l0_1).bind fun bt340 => ((apparatus_Choose.f kj3 bt340.1 bt340.2 a1 a2).bind fun bt346 => ((ancepsref57_Choose.f kj3 l0_0 l0_1 a1 a2).bind fun bt354 => (if bt346.2.2 = bt354.2.2 then ((ancepsref57_Same.f kj3 bt346.1 bt346.2.1 bt354.1 bt354.2.1).bind fun t362 => (if t362 = true then (ancepslaw57_ApparatusChoose.j1 kj3 a1 a2 bt346.2.2 bt354.2.2 (bt346.2.2 != 0) l0_0 l0_1 bt346.1 bt346.2.1 bt354.1 bt354.2.1) else (ancepslaw57_ApparatusChoose.j1 kj3 a1 a2 bt346.2.2 bt354.2.2 true l0_0 l0_1 bt346.1 bt346.2.1 bt354.1 bt354.2.1))) else (ancepslaw57_ApparatusChoose.j1 kj3 a1 a2 bt346.2.2 bt354.2.2 true l0_0 l0_1 bt346.1 bt346.2.1 bt354.1 bt354.2.1))))) = some r := by rw [if_neg (show ¬ (false = true) by decide)] at H; exact H
    clear H
    have H := H1
    clear H1
    replace H := Option.bind_eq_some_iff.mp H
    obtain ⟨⟨t340, t343⟩, A160, H⟩ := H
    try dsimp only at H
    have A16 := Aside0.mk A160
    clear A160
    replace H := Option.bind_eq_some_iff.mp H
    obtain ⟨⟨t346, t349, t352⟩, A170, H⟩ := H
    try dsimp only at H
    have A17 := Aside0.mk A170
    clear A170
    replace H := Option.bind_eq_some_iff.mp H
    obtain ⟨⟨t354, t357, t360⟩, A180, H⟩ := H
    try dsimp only at H
    have A18 := Aside0.mk A180
    clear A180
    have HC19 := Aside0.mk H
    clear H
    have hcz20_0 := cZ BK336 0 (.slice A0_0 l0_0.length c0_0)
    have hcz20_1 := cZ BK336 1 (.slice A0_1 l0_1.length c0_1)
    have hfz20_0 := blk_frozen BK336.out 0
    have hfz20_1 := blk_frozen BK336.out 1
    go_upto_region 5 with (first | ((with_reducible refine gate_callee (f := 28) rfl ?_); refine gL_ (some 29) Try.func28 #[.agg #[.slice A0_0 l0_0.length c0_0, .slice A0_1 l0_1.length c0_1]] ?_; (with_reducible refine (ancepslaw57_own.calls _ _ l0_0 _ _ l0_1 t340 t343 _ ?side1 ?side2 ?side3 ?side4 A16.out).mono ?_); (case side1 => exact iC HR0_0 HB); (case side2 => exact HC0_0.out); (case side3 => exact iC HR0_1 HB); (case side4 => exact HC0_1.out); rintro e w21 ⟨v341, v344, rfl, ho0, ho1, hb⟩; refine ⟨_, rfl, ?_⟩; have n0_ := Aside0.mk (Kd.R_lower ho0 (below_size (iL HB))); have n1_ := Aside0.mk (Kd.N_lower (Kd.N_mono (ok' := fun k_ => some k_ ≠ (v341 : Value).ownBlock ∧ k_ ≠ gb336) (Kd.S_N (Kd.S_bound (Kd.S_apart' ho1 (Kd.R_typed ho0) (by decide)))) (fun k_ hk_ => ⟨hk_.1.2, (Kd.freshB (g := gb336) (o := .cells #[.slice A0_0 l0_0.length c0_0, .slice A0_1 l0_1.length c0_1] 42 (0, 0)) (iB BK336) k_ hk_.2.1)⟩)) (below_size (iL HB))); have n2_ := jB BK336 hb; have n3_ := jL HB hb; clear BK336; clear HB; have HO342 := n0_; have HO345 := n1_; have BK336 := n2_; have HB := n3_; clear n0_ n1_ n2_ n3_; (try clear hb); (try clear ho0); (try clear ho1); obtain ⟨Ao22, co22, eo22⟩ := Kd.R_slice HO342.out; subst eo22; obtain ⟨Ao23, co23, eo23⟩ := Kd.N_slice HO345.out; subst eo23) | ((with_reducible refine gate_callee (f := 27) rfl ?_); refine gL_ (some 32) Try.func27 #[.agg #[.slice Ao22 t340.length co22, .slice Ao23 t343.length co23], .int .i64 a1, .int .i64 a2] ?_; (with_reducible refine (apparatus_Choose.calls kj3 _ _ t340 _ _ t343 a1 a2 t346 t349 t352 _ ?side1 ?side2 ?side3 ?side4 A17.out).mono ?_); (case side1 => repeat (first | exact (Kd.R_reads' HO342.out).2.2 | (with_reducible refine Kd.C_alloc ?_ _) | (with_reducible refine Kd.C_drewN ?_ _) | (with_reducible refine Kd.C_drew ?_))); (case side2 => exact (Kd.R_reads' HO342.out).2.1); (case side3 => repeat (first | exact (Kd.N_reads' HO345.out).2.2 | (with_reducible refine Kd.C_alloc ?_ _) | (with_reducible refine Kd.C_drewN ?_ _) | (with_reducible refine Kd.C_drew ?_))); (case side4 => exact (Kd.N_reads' HO345.out).2.1); rintro e w24 ⟨v347, v350, rfl, ho0, ho1, hb⟩; refine ⟨_, rfl, ?_⟩; have n0_ := Aside0.mk (Kd.R_elder' (iR HO342) (Kd.R_base ho0) hb); have n1_ := Aside0.mk (Kd.N_mono (Kd.N_told (Kd.N_told (Kd.N_old (iN HO345) hb) (Kd.R_base ho0)) (Kd.N_base (Kd.S_N ho1))) (fun _ h_ => h_.1)); have n2_ := Aside0.mk (Kd.R_lower (Kd.R_new' ho0 (Kd.R_lt (iR HO342))) (below_size (iL HB))); have n3_ := Aside0.mk (Kd.N_lower (Kd.N_mono (ok' := fun k_ => some k_ ≠ (v347 : Value).ownBlock ∧ some k_ ≠ (.slice Ao22 t340.length co22 : Value).ownBlock ∧ some k_ ≠ (.slice Ao23 t343.length co23 : Value).ownBlock ∧ k_ ≠ gb336) (Kd.S_N (Kd.S_bound (Kd.S_apart' ho1 (Kd.R_typed ho0) (by decide)))) (fun k_ hk_ => ⟨hk_.1.2, (Kd.fresh' (Kd.R_lt (iR HO342)) k_ hk_.2.1), (Kd.fresh' (Kd.N_lt (iN HO345)) k_ hk_.2.1), (Kd.freshB (g := gb336) (o := .cells #[.slice A0_0 l0_0.length c0_0, .slice A0_1 l0_1.length c0_1] 42 (0, 0)) (iB BK336) k_ hk_.2.1)⟩)) (below_size (iL HB))); have n4_ := jB BK336 hb; have n5_ := jL HB hb; clear HO342; clear HO345; clear BK336; clear HB; have HO342 := n0_; have HO345 := n1_; have HO348 := n2_; have HO351 := n3_; have BK336 := n4_; have HB := n5_; clear n0_ n1_ n2_ n3_ n4_ n5_; (try clear hb); (try clear ho0); (try clear ho1)) | ((with_reducible refine gate_dst (N := 7) rfl ?_); refine bX 7 #[.slice none 0 0, .slice none 0 0] 42 ?_; intro gb353 hg w25 hbox hb; have n0_ := jR HO342 hb; have n1_ := Aside0.mk (Kd.N_below (Kd.N_elderB (iN HO345) gb353 (Nat.le_of_eq hg.symm)) hb); have n2_ := jR HO348 hb; have n3_ := Aside0.mk (Kd.N_below (Kd.N_elderB (iN HO351) gb353 (Nat.le_of_eq hg.symm)) hb); have n4_ := jB BK336 hb; have n5_ := jL HB hb; have n6_ := Aside0.mk (hbox); have n7_ := Aside0.mk ((by rw [hg]; exact (below_size (iL HB)) : w.heap.size ≤ gb353)); have n8_ := Aside0.mk ((by rw [hg]; exact (below_size (iL HB)) : w.heap.size ≤ gb353)); have n9_ := Aside0.mk ((by rw [hg]; exact Nat.ne_of_lt (blk_lt (g := gb336) (o := .cells #[.slice A0_0 l0_0.length c0_0, .slice A0_1 l0_1.length c0_1] 42 (0, 0)) (iB BK336)) : gb336 ≠ gb353)); have n10_ := Aside0.mk ((by rw [hg]; exact Nat.ne_of_gt (blk_lt (g := gb336) (o := .cells #[.slice A0_0 l0_0.length c0_0, .slice A0_1 l0_1.length c0_1] 42 (0, 0)) (iB BK336)) : gb353 ≠ gb336)); clear HO342; clear HO345; clear HO348; clear HO351; clear BK336; clear HB; have HO342 := n0_; have HO345 := n1_; have HO348 := n2_; have HO351 := n3_; have BK336 := n4_; have HB := n5_; have BK353 := n6_; have GW353 := n7_; have GE353 := n8_; have NB336_353 := n9_; have NB353_336 := n10_; clear n0_ n1_ n2_ n3_ n4_ n5_ n6_ n7_ n8_ n9_ n10_; clear hb hbox hg; obtain ⟨Ao26, co26, eo26⟩ := Kd.R_slice HO348.out; subst eo26; have hnb27 := NB353_336.out; have hnc27 := NB336_353.out; have hcz28_0 := cZ BK353 0 (.slice none 0 0); have hcz28_1 := cZ BK353 1 (.slice none 0 0); have hfz28_0 := blk_frozen BK353.out 0; have hfz28_1 := blk_frozen BK353.out 1; obtain ⟨Ao29, co29, eo29⟩ := Kd.N_slice HO351.out; subst eo29) | ((with_reducible refine gate_store (t := 42) (p := 7) rfl ?_); refine store_event (t := 42) (p := 7) (v := ?vo_w30) (w1 := ((w25.setCell ⟨gb353, 0, none⟩ (.slice Ao26 t346.length co26)).setCell ⟨gb353, 1, none⟩ (.slice Ao29 t349.length co29))) ?hg ?ho ?hn ?hr ?_; (case ho => rfl); (case hg => rfl); (case hn => rfl); (case hr => first | (go_simp; done) | (go_simp; rfl)); intro w30 hw; have n0_ : Aside0 (Kd.R Kd.string 9 w30 w.heap.size (fun k_ => some k_ ≠ (.slice Ao26 t346.length co26 : Value).ownBlock) (.slice Ao22 t340.length co22) t340) := ⟨(by rw [hw]; exact (by (with_reducible repeat (first | apply Kd.R_alloc | apply Kd.R_drewN | apply Kd.R_drew)); exact Kd.R_mono (Kd.R_far (p := ⟨gb353, 1, none⟩) (Kd.R_far (p := ⟨gb353, 0, none⟩) (Kd.R_types HO342.out BK353.out (by decide)) (fun _ hk => hk.2) (.slice Ao26 t346.length co26)) (fun _ hk => hk.2) (.slice Ao29 t349.length co29)) (fun _ hk => hk.1.2)))⟩; have n1_ : Aside0 (Kd.N k65 65 w30 w.heap.size (fun k_ => some k_ ≠ (.slice Ao22 t340.length co22 : Value).ownBlock ∧ some k_ ≠ (.slice Ao26 t346.length co26 : Value).ownBlock ∧ some k_ ≠ (.slice Ao29 t349.length co29 : Value).ownBlock ∧ k_ ≠ gb336 ∧ k_ ≠ gb353) (.slice Ao23 t343.length co23) t343) := ⟨(by rw [hw]; exact (by (with_reducible repeat (first | apply Kd.N_alloc | apply Kd.N_drewN | apply Kd.N_drew)); exact Kd.N_mono (Kd.N_far (p := ⟨gb353, 1, none⟩) (Kd.N_far (p := ⟨gb353, 0, none⟩) (Kd.N_mono HO345.out (fun k_ hk => (⟨hk, hk.2⟩ : _ ∧ k_ ≠ gb353))) (fun _ hk => hk.2) (.slice Ao26 t346.length co26)) (fun _ hk => hk.2) (.slice Ao29 t349.length co29)) (fun _ hk => ⟨hk.1.1.1.1.1, ⟨hk.1.1.1.2, ⟨hk.1.1.2, ⟨hk.1.1.1.1.2, hk.1.2⟩⟩⟩⟩)))⟩; have n2_ : Aside0 (Kd.R Kd.string 9 w30 w.heap.size (fun k_ => some k_ ≠ (.slice Ao22 t340.length co22 : Value).ownBlock) (.slice Ao26 t346.length co26) t346) := ⟨(by rw [hw]; exact (by (with_reducible repeat (first | apply Kd.R_alloc | apply Kd.R_drewN | apply Kd.R_drew)); exact Kd.R_mono (Kd.R_far (p := ⟨gb353, 1, none⟩) (Kd.R_far (p := ⟨gb353, 0, none⟩) (Kd.R_types HO348.out BK353.out (by decide)) (fun _ hk => hk.2) (.slice Ao26 t346.length co26)) (fun _ hk => hk.2) (.slice Ao29 t349.length co29)) (fun _ hk => hk.1.2)))⟩; have n3_ : Aside0 (Kd.N k65 65 w30 w.heap.size (fun k_ => some k_ ≠ (.slice Ao22 t340.length co22 : Value).ownBlock ∧ some k_ ≠ (.slice Ao23 t343.length co23 : Value).ownBlock ∧ some k_ ≠ (.slice Ao26 t346.length co26 : Value).ownBlock ∧ k_ ≠ gb336 ∧ k_ ≠ gb353) (.slice Ao29 t349.length co29) t349) := ⟨(by rw [hw]; exact (by (with_reducible repeat (first | apply Kd.N_alloc | apply Kd.N_drewN | apply Kd.N_drew)); exact Kd.N_mono (Kd.N_far (p := ⟨gb353, 1, none⟩) (Kd.N_far (p := ⟨gb353, 0, none⟩) (Kd.N_mono HO351.out (fun k_ hk => (⟨hk, hk.2⟩ : _ ∧ k_ ≠ gb353))) (fun _ hk => hk.2) (.slice Ao26 t346.length co26)) (fun _ hk => hk.2) (.slice Ao29 t349.length co29)) (fun _ hk => ⟨hk.1.1.2.1, ⟨hk.1.1.2.2.1, ⟨hk.1.1.1, ⟨hk.1.1.2.2.2, hk.1.2⟩⟩⟩⟩)))⟩; have n4_ : Aside0 (w30.heap[gb336]? = some (.cells #[.slice A0_0 l0_0.length c0_0, .slice A0_1 l0_1.length c0_1] 42 (0, 0))) := ⟨(by rw [hw]; exact (by (with_reducible repeat (first | apply blk_drewN | apply blk_drew | apply blk_alloc)); refine blk_far ?_ NB336_353.out _; (with_reducible repeat (first | apply blk_drewN | apply blk_drew | apply blk_alloc)); refine blk_far ?_ NB336_353.out _; (with_reducible repeat (first | apply blk_drewN | apply blk_drew | apply blk_alloc)); exact BK336.out))⟩; have n5_ : Aside0 (w30.heap[gb353]? = some (.cells #[.slice Ao26 t346.length co26, .slice Ao29 t349.length co29] 42 (0, 0))) := ⟨(by rw [hw]; exact (by (with_reducible repeat (first | apply blk_drewN | apply blk_drew | apply blk_alloc)); refine blk_put (cs := #[.slice Ao26 t346.length co26, .slice none 0 0]) ?_ 1 _ rfl; (with_reducible repeat (first | apply blk_drewN | apply blk_drew | apply blk_alloc)); refine blk_put (cs := #[.slice none 0 0, .slice none 0 0]) ?_ 0 _ rfl; (with_reducible repeat (first | apply blk_drewN | apply blk_drew | apply blk_alloc)); exact BK353.out))⟩; have n6_ : Aside0 (Below w.heap.size w w30) := ⟨(by rw [hw]; exact (iL HB))⟩; clear hw; clear HO342; clear HO345; clear HO348; clear HO351; clear BK336; clear BK353; clear HB; have HO342 := n0_; have HO345 := n1_; have HO348 := n2_; have HO351 := n3_; have BK336 := n4_; have BK353 := n5_; have HB := n6_; clear n0_ n1_ n2_ n3_ n4_ n5_ n6_; have hcz31_0 := cZ BK336 0 (.slice A0_0 l0_0.length c0_0); have hcz31_1 := cZ BK336 1 (.slice A0_1 l0_1.length c0_1); have hfz31_0 := blk_frozen BK336.out 0; have hfz31_1 := blk_frozen BK336.out 1) | ((with_reducible refine gate_callee (f := 29) rfl ?_); refine gL_ (some 39) Try.func29 #[.agg #[.slice A0_0 l0_0.length c0_0, .slice A0_1 l0_1.length c0_1], .int .i64 a1, .int .i64 a2] ?_; (with_reducible refine (ancepsref57_Choose.calls kj3 (fun k_ => k_ < w.heap.size) _ _ l0_0 (fun k_ => k_ < w.heap.size) _ _ l0_1 a1 a2 t354 t357 t360 _ ?side1 ?side2 A18.out).mono ?_); (case side1 => exact Kd.V_mk HC0_0.out (Kd.F_below (Kd.C_F Kd.heap_string HR0_0.out) (iL HB))); (case side2 => exact Kd.V_mk HC0_1.out (Kd.F_below (Kd.C_F k65_heap HR0_1.out) (iL HB))); rintro e w32 ⟨v355, v358, rfl, ho0, ho1, hb⟩; refine ⟨_, rfl, ?_⟩; have n0_ := jR HO342 hb; have n1_ := Aside0.mk (Kd.N_elder' (iN HO345) (Kd.N_base ho1) hb); have n2_ := jR HO348 hb; have n3_ := Aside0.mk (Kd.N_elder' (iN HO351) (Kd.N_base ho1) hb); have n4_ := Aside0.mk (Kd.V_lower (Kd.V_mono (ok' := fun k_ => some k_ ≠ (v358 : Value).ownBlock ∧ some k_ ≠ (.slice Ao22 t340.length co22 : Value).ownBlock ∧ some k_ ≠ (.slice Ao23 t343.length co23 : Value).ownBlock ∧ some k_ ≠ (.slice Ao26 t346.length co26 : Value).ownBlock ∧ some k_ ≠ (.slice Ao29 t349.length co29 : Value).ownBlock ∧ k_ ≠ gb336 ∧ k_ ≠ gb353) ho0 (fun k_ hk_ => ⟨hk_.2, Or.elim hk_.1 (fun hs_ => Or.elim hs_ (fun hs_ => fun e_ => Nat.not_le.2 hs_ (Kd.R_base HO342.out k_ e_.symm)) (fun hs_ => fun e_ => Nat.not_le.2 hs_ (Kd.R_base HO342.out k_ e_.symm))) (fun hn_ => (Kd.fresh' (Kd.R_lt (iR HO342)) k_ hn_)), Or.elim hk_.1 (fun hs_ => Or.elim hs_ (fun hs_ => fun e_ => Nat.not_le.2 hs_ (Kd.N_base HO345.out k_ e_.symm)) (fun hs_ => fun e_ => Nat.not_le.2 hs_ (Kd.N_base HO345.out k_ e_.symm))) (fun hn_ => (Kd.fresh' (Kd.N_lt (iN HO345)) k_ hn_)), Or.elim hk_.1 (fun hs_ => Or.elim hs_ (fun hs_ => fun e_ => Nat.not_le.2 hs_ (Kd.R_base HO348.out k_ e_.symm)) (fun hs_ => fun e_ => Nat.not_le.2 hs_ (Kd.R_base HO348.out k_ e_.symm))) (fun hn_ => (Kd.fresh' (Kd.R_lt (iR HO348)) k_ hn_)), Or.elim hk_.1 (fun hs_ => Or.elim hs_ (fun hs_ => fun e_ => Nat.not_le.2 hs_ (Kd.N_base HO351.out k_ e_.symm)) (fun hs_ => fun e_ => Nat.not_le.2 hs_ (Kd.N_base HO351.out k_ e_.symm))) (fun hn_ => (Kd.fresh' (Kd.N_lt (iN HO351)) k_ hn_)), Or.elim hk_.1 (fun hs_ => Or.elim hs_ (fun hs_ => fun e_ => Nat.not_le.2 hs_ (by rw [e_]; exact GW336.out)) (fun hs_ => fun e_ => Nat.not_le.2 hs_ (by rw [e_]; exact GW336.out))) (fun hn_ => (Kd.freshB (g := gb336) (o := .cells #[.slice A0_0 l0_0.length c0_0, .slice A0_1 l0_1.length c0_1] 42 (0, 0)) (iB BK336) k_ hn_)), Or.elim hk_.1 (fun hs_ => Or.elim hs_ (fun hs_ => fun e_ => Nat.not_le.2 hs_ (by rw [e_]; exact GW353.out)) (fun hs_ => fun e_ => Nat.not_le.2 hs_ (by rw [e_]; exact GW353.out))) (fun hn_ => (Kd.freshB (g := gb353) (o := .cells #[.slice Ao26 t346.length co26, .slice Ao29 t349.length co29] 42 (0, 0)) (iB BK353) k_ hn_))⟩)) (below_size (iL HB))); have n5_ := Aside0.mk (Kd.N_lower (Kd.N_mono (ok' := fun k_ => some k_ ≠ (.slice Ao22 t340.length co22 : Value).ownBlock ∧ some k_ ≠ (.slice Ao23 t343.length co23 : Value).ownBlock ∧ some k_ ≠ (.slice Ao26 t346.length co26 : Value).ownBlock ∧ some k_ ≠ (.slice Ao29 t349.length co29 : Value).ownBlock ∧ k_ ≠ gb336 ∧ k_ ≠ gb353) ho1 (fun k_ hk_ => ⟨Or.elim hk_ (fun hs_ => Or.elim hs_ (fun hs_ => fun e_ => Nat.not_le.2 hs_ (Kd.R_base HO342.out k_ e_.symm)) (fun hs_ => fun e_ => Nat.not_le.2 hs_ (Kd.R_base HO342.out k_ e_.symm))) (fun hn_ => (Kd.fresh' (Kd.R_lt (iR HO342)) k_ hn_)), Or.elim hk_ (fun hs_ => Or.elim hs_ (fun hs_ => fun e_ => Nat.not_le.2 hs_ (Kd.N_base HO345.out k_ e_.symm)) (fun hs_ => fun e_ => Nat.not_le.2 hs_ (Kd.N_base HO345.out k_ e_.symm))) (fun hn_ => (Kd.fresh' (Kd.N_lt (iN HO345)) k_ hn_)), Or.elim hk_ (fun hs_ => Or.elim hs_ (fun hs_ => fun e_ => Nat.not_le.2 hs_ (Kd.R_base HO348.out k_ e_.symm)) (fun hs_ => fun e_ => Nat.not_le.2 hs_ (Kd.R_base HO348.out k_ e_.symm))) (fun hn_ => (Kd.fresh' (Kd.R_lt (iR HO348)) k_ hn_)), Or.elim hk_ (fun hs_ => Or.elim hs_ (fun hs_ => fun e_ => Nat.not_le.2 hs_ (Kd.N_base HO351.out k_ e_.symm)) (fun hs_ => fun e_ => Nat.not_le.2 hs_ (Kd.N_base HO351.out k_ e_.symm))) (fun hn_ => (Kd.fresh' (Kd.N_lt (iN HO351)) k_ hn_)), Or.elim hk_ (fun hs_ => Or.elim hs_ (fun hs_ => fun e_ => Nat.not_le.2 hs_ (by rw [e_]; exact GW336.out)) (fun hs_ => fun e_ => Nat.not_le.2 hs_ (by rw [e_]; exact GW336.out))) (fun hn_ => (Kd.freshB (g := gb336) (o := .cells #[.slice A0_0 l0_0.length c0_0, .slice A0_1 l0_1.length c0_1] 42 (0, 0)) (iB BK336) k_ hn_)), Or.elim hk_ (fun hs_ => Or.elim hs_ (fun hs_ => fun e_ => Nat.not_le.2 hs_ (by rw [e_]; exact GW353.out)) (fun hs_ => fun e_ => Nat.not_le.2 hs_ (by rw [e_]; exact GW353.out))) (fun hn_ => (Kd.freshB (g := gb353) (o := .cells #[.slice Ao26 t346.length co26, .slice Ao29 t349.length co29] 42 (0, 0)) (iB BK353) k_ hn_))⟩)) (below_size (iL HB))); have n6_ := jB BK336 hb; have n7_ := jB BK353 hb; have n8_ := jL HB hb; clear HO342; clear HO345; clear HO348; clear HO351; clear BK336; clear BK353; clear HB; have HO342 := n0_; have HO345 := n1_; have HO348 := n2_; have HO351 := n3_; have HO356 := n4_; have HO359 := n5_; have BK336 := n6_; have BK353 := n7_; have HB := n8_; clear n0_ n1_ n2_ n3_ n4_ n5_ n6_ n7_ n8_; (try clear hb); (try clear ho0); (try clear ho1)) | ((with_reducible refine gate_dst (N := 9) rfl ?_); refine bX 9 #[.slice none 0 0, .slice none 0 0] 42 ?_; intro gb361 hg w33 hbox hb; have n0_ := jR HO342 hb; have n1_ := Aside0.mk (Kd.N_below (Kd.N_elderB (iN HO345) gb361 (Nat.le_of_eq hg.symm)) hb); have n2_ := jR HO348 hb; have n3_ := Aside0.mk (Kd.N_below (Kd.N_elderB (iN HO351) gb361 (Nat.le_of_eq hg.symm)) hb); have n4_ := Aside0.mk (Kd.V_below (Kd.V_elderB (iV HO356) gb361 (Nat.le_of_eq hg.symm)) hb); have n5_ := Aside0.mk (Kd.N_below (Kd.N_elderB (iN HO359) gb361 (Nat.le_of_eq hg.symm)) hb); have n6_ := jB BK336 hb; have n7_ := jB BK353 hb; have n8_ := jL HB hb; have n9_ := Aside0.mk (hbox); have n10_ := Aside0.mk ((by rw [hg]; exact (below_size (iL HB)) : w.heap.size ≤ gb361)); have n11_ := Aside0.mk ((by rw [hg]; exact (below_size (iL HB)) : w.heap.size ≤ gb361)); have n12_ := Aside0.mk ((by rw [hg]; exact Nat.ne_of_lt (blk_lt (g := gb336) (o := .cells #[.slice A0_0 l0_0.length c0_0, .slice A0_1 l0_1.length c0_1] 42 (0, 0)) (iB BK336)) : gb336 ≠ gb361)); have n13_ := Aside0.mk ((by rw [hg]; exact Nat.ne_of_gt (blk_lt (g := gb336) (o := .cells #[.slice A0_0 l0_0.length c0_0, .slice A0_1 l0_1.length c0_1] 42 (0, 0)) (iB BK336)) : gb361 ≠ gb336)); have n14_ := Aside0.mk ((by rw [hg]; exact Nat.ne_of_lt (blk_lt (g := gb353) (o := .cells #[.slice Ao26 t346.length co26, .slice Ao29 t349.length co29] 42 (0, 0)) (iB BK353)) : gb353 ≠ gb361)); have n15_ := Aside0.mk ((by rw [hg]; exact Nat.ne_of_gt (blk_lt (g := gb353) (o := .cells #[.slice Ao26 t346.length co26, .slice Ao29 t349.length co29] 42 (0, 0)) (iB BK353)) : gb361 ≠ gb353)); clear HO342; clear HO345; clear HO348; clear HO351; clear HO356; clear HO359; clear BK336; clear BK353; clear HB; have HO342 := n0_; have HO345 := n1_; have HO348 := n2_; have HO351 := n3_; have HO356 := n4_; have HO359 := n5_; have BK336 := n6_; have BK353 := n7_; have HB := n8_; have BK361 := n9_; have GW361 := n10_; have GE361 := n11_; have NB336_361 := n12_; have NB361_336 := n13_; have NB353_361 := n14_; have NB361_353 := n15_; clear n0_ n1_ n2_ n3_ n4_ n5_ n6_ n7_ n8_ n9_ n10_ n11_ n12_ n13_ n14_ n15_; clear hb hbox hg; obtain ⟨Ao34, co34, eo34⟩ := Kd.V_slice HO356.out; subst eo34; have hnb35 := NB361_336.out; have hnc35 := NB336_361.out; have hnb36 := NB361_353.out; have hnc36 := NB353_361.out; have hcz37_0 := cZ BK361 0 (.slice none 0 0); have hcz37_1 := cZ BK361 1 (.slice none 0 0); have hfz37_0 := blk_frozen BK361.out 0; have hfz37_1 := blk_frozen BK361.out 1; obtain ⟨Ao38, co38, eo38⟩ := Kd.N_slice HO359.out; subst eo38))
    (try simp only [Act.put, List.setIfInBounds_toArray, List.set_cons_zero, List.set_cons_succ])
    go_cut [54] (fun v54 wc => ∃ (kq : Nat) (x54_18 : Bool), v54 = .bool x54_18 ∧ Aside0 (ancepslaw57_ApparatusChoose.j1 kq a1 a2 t352 t360 x54_18 l0_0 l0_1 t346 t349 t354 t357 = some r) ∧ Aside0 (kq ≤ kj3) ∧ Aside0 (Kd.R Kd.string 9 wc w.heap.size (fun _ => True) (.slice Ao26 t346.length co26) t346) ∧ Aside0 (Kd.N k65 65 wc w.heap.size (fun k_ => some k_ ≠ ((.slice Ao26 t346.length co26) : Value).ownBlock ∧ some k_ ≠ ((.slice Ao38 t357.length co38) : Value).ownBlock ∧ k_ ≠ gb336 ∧ k_ ≠ gb353 ∧ k_ ≠ gb361) (.slice Ao29 t349.length co29) t349) ∧ Aside0 (Kd.V Kd.string 9 wc w.heap.size (fun k_ => some k_ ≠ ((.slice Ao26 t346.length co26) : Value).ownBlock ∧ some k_ ≠ ((.slice Ao29 t349.length co29) : Value).ownBlock ∧ some k_ ≠ ((.slice Ao38 t357.length co38) : Value).ownBlock ∧ k_ ≠ gb336 ∧ k_ ≠ gb353 ∧ k_ ≠ gb361) (.slice Ao34 t354.length co34) t354) ∧ Aside0 (Kd.N k65 65 wc w.heap.size (fun k_ => some k_ ≠ ((.slice Ao26 t346.length co26) : Value).ownBlock ∧ some k_ ≠ ((.slice Ao29 t349.length co29) : Value).ownBlock ∧ k_ ≠ gb336 ∧ k_ ≠ gb353 ∧ k_ ≠ gb361) (.slice Ao38 t357.length co38) t357) ∧ Aside0 (wc.heap[gb336]? = some (.cells #[(.slice A0_0 l0_0.length c0_0), (.slice A0_1 l0_1.length c0_1)] 42 (0, 0))) ∧ Aside0 (wc.heap[gb353]? = some (.cells #[(.slice Ao26 t346.length co26), (.slice Ao29 t349.length co29)] 42 (0, 0))) ∧ Aside0 (wc.heap[gb361]? = some (.cells #[(.slice Ao34 t354.length co34), (.slice Ao38 t357.length co38)] 42 (0, 0))) ∧ Aside0 (Below w.heap.size w wc))
    case first =>
     have H := HC19.out
     clear HC19
     by_cases c39 : t352 = t360
     ·rw [if_pos c39] at H
      have c39b0 : (t352 == t360) = true := beq_iff_eq.mpr c39
      have c39b1 : (t352 != t360) = false := bne_eq_false_iff_eq.mpr c39
      clear c39
      (first | rw [c39b0] | (simp only [i64_w, i32_w]; rw [c39b0]) | skip)
      replace H := Option.bind_eq_some_iff.mp H
      obtain ⟨t362, A400, H⟩ := H
      try dsimp only at H
      have A40 := Aside0.mk A400
      clear A400
      by_cases c41 : t362 = true
      ·subst c41
       have H1 : (ancepslaw57_ApparatusChoose.j1 kj3 a1 a2 t352 t360 (t352 != 0) l0_0 l0_1 t346 t349 t354 t357) = some r := by rw [if_pos rfl] at H; exact H
       clear H
       have H := H1
       clear H1
       have H' := Aside0.mk H
       clear H
       have hnb42 := NB353_336.out
       have hnc42 := NB336_353.out
       have hnb43 := NB353_361.out
       have hnc43 := NB361_353.out
       have hcz44_0 := cZ BK353 0 (.slice Ao26 t346.length co26)
       have hcz44_1 := cZ BK353 1 (.slice Ao29 t349.length co29)
       have hfz44_0 := blk_frozen BK353.out 0
       have hfz44_1 := blk_frozen BK353.out 1
       have hnb45 := NB361_336.out
       have hnc45 := NB336_361.out
       have hcz46_0 := cZ BK361 0 (.slice none 0 0)
       have hcz46_1 := cZ BK361 1 (.slice none 0 0)
       have hfz46_0 := blk_frozen BK361.out 0
       have hfz46_1 := blk_frozen BK361.out 1
       go_wp2_with (first | (go_at_call 19; (with_reducible refine (ancepsref57_Same.calls kj3 _ _ t346 _ _ t349 _ _ t354 _ _ t357 true _ ?side1 ?side2 ?side3 ?side4 ?side5 ?side6 ?side7 ?side8 A40.out).mono ?_); (case side1 => refine (Kd.R_reads' (e := 9) (base := w.heap.size) (ok := fun k_ => some k_ ≠ (.slice Ao22 t340.length co22 : Value).ownBlock) (n := t346.length) (c := co26) ?_).2.2; exact (by (with_reducible repeat (first | apply Kd.R_alloc | apply Kd.R_drewN | apply Kd.R_drew)); exact (Kd.R_mono (Kd.R_far (p := ⟨gb361, 1, none⟩) (Kd.R_far (p := ⟨gb361, 0, none⟩) (Kd.R_types HO348.out BK361.out (by decide)) (fun _ hk => hk.2) (.slice Ao34 t354.length co34)) (fun _ hk => hk.2) (.slice Ao38 t357.length co38)) (fun _ h_ => h_.1)))); (case side2 => exact (Kd.R_reads' HO348.out).2.1); (case side3 => refine (Kd.N_reads' (e := 65) (base := w.heap.size) (ok := fun k_ => (((some k_ ≠ (.slice Ao22 t340.length co22 : Value).ownBlock ∧ (some k_ ≠ (.slice Ao23 t343.length co23 : Value).ownBlock ∧ (some k_ ≠ (.slice Ao26 t346.length co26 : Value).ownBlock ∧ (k_ ≠ gb336 ∧ k_ ≠ gb353)))) ∧ some k_ ≠ (.slice Ao38 t357.length co38 : Value).ownBlock) ∧ k_ ≠ gb361)) (n := t349.length) (c := co29) ?_).2.2; exact (by (with_reducible repeat (first | apply Kd.N_alloc | apply Kd.N_drewN | apply Kd.N_drew)); exact (Kd.N_mono (Kd.N_far (p := ⟨gb361, 1, none⟩) (Kd.N_far (p := ⟨gb361, 0, none⟩) (Kd.N_mono HO351.out (fun k_ hk => (⟨hk, hk.2⟩ : _ ∧ k_ ≠ gb361))) (fun _ hk => hk.2) (.slice Ao34 t354.length co34)) (fun _ hk => hk.2) (.slice Ao38 t357.length co38)) (fun _ h_ => h_.1)))); (case side4 => exact (Kd.N_reads' HO351.out).2.1); (case side5 => refine (Kd.V_reads' (e := 9) (base := w.heap.size) (ok := fun k_ => ((some k_ ≠ (.slice Ao38 t357.length co38 : Value).ownBlock ∧ (some k_ ≠ (.slice Ao22 t340.length co22 : Value).ownBlock ∧ (some k_ ≠ (.slice Ao23 t343.length co23 : Value).ownBlock ∧ (some k_ ≠ (.slice Ao26 t346.length co26 : Value).ownBlock ∧ (some k_ ≠ (.slice Ao29 t349.length co29 : Value).ownBlock ∧ (k_ ≠ gb336 ∧ k_ ≠ gb353)))))) ∧ k_ ≠ gb361)) (n := t354.length) (c := co34) ?_).2.2; exact (by (with_reducible repeat (first | apply Kd.V_alloc | apply Kd.V_drewN | apply Kd.V_drew)); exact (Kd.V_mono (Kd.V_far (p := ⟨gb361, 1, none⟩) (Kd.V_far (p := ⟨gb361, 0, none⟩) (Kd.V_mono HO356.out (fun k_ hk => (⟨hk, hk.2⟩ : _ ∧ k_ ≠ gb361))) (fun _ hk => hk.2) (.slice Ao34 t354.length co34)) (fun _ hk => hk.2) (.slice Ao38 t357.length co38)) (fun _ h_ => h_.1)))); (case side6 => exact (Kd.V_reads' HO356.out).2.1); (case side7 => refine (Kd.N_reads' (e := 65) (base := w.heap.size) (ok := fun k_ => ((some k_ ≠ (.slice Ao22 t340.length co22 : Value).ownBlock ∧ (some k_ ≠ (.slice Ao23 t343.length co23 : Value).ownBlock ∧ (some k_ ≠ (.slice Ao26 t346.length co26 : Value).ownBlock ∧ (some k_ ≠ (.slice Ao29 t349.length co29 : Value).ownBlock ∧ (k_ ≠ gb336 ∧ k_ ≠ gb353))))) ∧ k_ ≠ gb361)) (n := t357.length) (c := co38) ?_).2.2; exact (by (with_reducible repeat (first | apply Kd.N_alloc | apply Kd.N_drewN | apply Kd.N_drew)); exact (Kd.N_mono (Kd.N_far (p := ⟨gb361, 1, none⟩) (Kd.N_far (p := ⟨gb361, 0, none⟩) (Kd.N_mono HO359.out (fun k_ hk => (⟨hk, hk.2⟩ : _ ∧ k_ ≠ gb361))) (fun _ hk => hk.2) (.slice Ao34 t354.length co34)) (fun _ hk => hk.2) (.slice Ao38 t357.length co38)) (fun _ h_ => h_.1)))); (case side8 => exact (Kd.N_reads' HO359.out).2.1); rintro e w47 ⟨rfl, hb⟩; have n0_ := Aside0.mk (Kd.R_below (by (with_reducible repeat (first | apply Kd.R_alloc | apply Kd.R_drewN | apply Kd.R_drew)); exact (Kd.R_mono (Kd.R_far (p := ⟨gb361, 1, none⟩) (Kd.R_far (p := ⟨gb361, 0, none⟩) (Kd.R_types HO342.out BK361.out (by decide)) (fun _ hk => hk.2) (.slice Ao34 t354.length co34)) (fun _ hk => hk.2) (.slice Ao38 t357.length co38)) (fun _ h_ => h_.1))) hb); have n1_ := Aside0.mk (Kd.N_below (by (with_reducible repeat (first | apply Kd.N_alloc | apply Kd.N_drewN | apply Kd.N_drew)); exact (Kd.N_mono (Kd.N_far (p := ⟨gb361, 1, none⟩) (Kd.N_far (p := ⟨gb361, 0, none⟩) (Kd.N_mono HO345.out (fun k_ hk => (⟨hk, hk.2⟩ : _ ∧ k_ ≠ gb361))) (fun _ hk => hk.2) (.slice Ao34 t354.length co34)) (fun _ hk => hk.2) (.slice Ao38 t357.length co38)) (fun _ h_ => h_.1))) hb); have n2_ := Aside0.mk (Kd.R_below (by (with_reducible repeat (first | apply Kd.R_alloc | apply Kd.R_drewN | apply Kd.R_drew)); exact (Kd.R_mono (Kd.R_far (p := ⟨gb361, 1, none⟩) (Kd.R_far (p := ⟨gb361, 0, none⟩) (Kd.R_types HO348.out BK361.out (by decide)) (fun _ hk => hk.2) (.slice Ao34 t354.length co34)) (fun _ hk => hk.2) (.slice Ao38 t357.length co38)) (fun _ h_ => h_.1))) hb); have n3_ := Aside0.mk (Kd.N_below (by (with_reducible repeat (first | apply Kd.N_alloc | apply Kd.N_drewN | apply Kd.N_drew)); exact (Kd.N_mono (Kd.N_far (p := ⟨gb361, 1, none⟩) (Kd.N_far (p := ⟨gb361, 0, none⟩) (Kd.N_mono HO351.out (fun k_ hk => (⟨hk, hk.2⟩ : _ ∧ k_ ≠ gb361))) (fun _ hk => hk.2) (.slice Ao34 t354.length co34)) (fun _ hk => hk.2) (.slice Ao38 t357.length co38)) (fun _ h_ => h_.1))) hb); have n4_ := Aside0.mk (Kd.V_below (by (with_reducible repeat (first | apply Kd.V_alloc | apply Kd.V_drewN | apply Kd.V_drew)); exact (Kd.V_mono (Kd.V_far (p := ⟨gb361, 1, none⟩) (Kd.V_far (p := ⟨gb361, 0, none⟩) (Kd.V_mono HO356.out (fun k_ hk => (⟨hk, hk.2⟩ : _ ∧ k_ ≠ gb361))) (fun _ hk => hk.2) (.slice Ao34 t354.length co34)) (fun _ hk => hk.2) (.slice Ao38 t357.length co38)) (fun _ h_ => h_.1))) hb); have n5_ := Aside0.mk (Kd.N_below (by (with_reducible repeat (first | apply Kd.N_alloc | apply Kd.N_drewN | apply Kd.N_drew)); exact (Kd.N_mono (Kd.N_far (p := ⟨gb361, 1, none⟩) (Kd.N_far (p := ⟨gb361, 0, none⟩) (Kd.N_mono HO359.out (fun k_ hk => (⟨hk, hk.2⟩ : _ ∧ k_ ≠ gb361))) (fun _ hk => hk.2) (.slice Ao34 t354.length co34)) (fun _ hk => hk.2) (.slice Ao38 t357.length co38)) (fun _ h_ => h_.1))) hb); have n6_ := Aside0.mk (blk_below (g := gb336) (o := .cells #[.slice A0_0 l0_0.length c0_0, .slice A0_1 l0_1.length c0_1] 42 (0, 0)) (by (with_reducible repeat (first | apply blk_drewN | apply blk_drew | apply blk_alloc)); refine blk_far ?_ NB336_361.out _; (with_reducible repeat (first | apply blk_drewN | apply blk_drew | apply blk_alloc)); refine blk_far ?_ NB336_361.out _; (with_reducible repeat (first | apply blk_drewN | apply blk_drew | apply blk_alloc)); exact BK336.out) hb); have n7_ := Aside0.mk (blk_below (g := gb353) (o := .cells #[.slice Ao26 t346.length co26, .slice Ao29 t349.length co29] 42 (0, 0)) (by (with_reducible repeat (first | apply blk_drewN | apply blk_drew | apply blk_alloc)); refine blk_far ?_ NB353_361.out _; (with_reducible repeat (first | apply blk_drewN | apply blk_drew | apply blk_alloc)); refine blk_far ?_ NB353_361.out _; (with_reducible repeat (first | apply blk_drewN | apply blk_drew | apply blk_alloc)); exact BK353.out) hb); have n8_ := Aside0.mk (blk_below (g := gb361) (o := .cells #[.slice Ao34 t354.length co34, .slice Ao38 t357.length co38] 42 (0, 0)) (by (with_reducible repeat (first | apply blk_drewN | apply blk_drew | apply blk_alloc)); refine blk_put (cs := #[.slice Ao34 t354.length co34, .slice none 0 0]) ?_ 1 _ rfl; (with_reducible repeat (first | apply blk_drewN | apply blk_drew | apply blk_alloc)); refine blk_put (cs := #[.slice none 0 0, .slice none 0 0]) ?_ 0 _ rfl; (with_reducible repeat (first | apply blk_drewN | apply blk_drew | apply blk_alloc)); exact BK361.out) hb); have n9_ := jL HB hb; clear HO342; clear HO345; clear HO348; clear HO351; clear HO356; clear HO359; clear BK336; clear BK353; clear BK361; clear HB; have HO342 := n0_; have HO345 := n1_; have HO348 := n2_; have HO351 := n3_; have HO356 := n4_; have HO359 := n5_; have BK336 := n6_; have BK353 := n7_; have BK361 := n8_; have HB := n9_; clear n0_ n1_ n2_ n3_ n4_ n5_ n6_ n7_ n8_ n9_; (try clear hb)))
       go_meet
       case rel => exact ⟨_, ((t352 != 0)), eV, H', ⟨by have := HJ3.out; first | omega | exact Nat.le_refl _⟩, ⟨by (with_reducible repeat (first | apply Kd.R_alloc | apply Kd.R_drewN | apply Kd.R_drew)); exact Kd.R_mono HO348.out (fun _ hk => trivial)⟩, ⟨by (with_reducible repeat (first | apply Kd.N_alloc | apply Kd.N_drewN | apply Kd.N_drew)); exact Kd.N_mono HO351.out (fun _ hk => ⟨hk.1.1.2.2.1, ⟨hk.1.2, ⟨hk.1.1.2.2.2.1, ⟨hk.1.1.2.2.2.2, hk.2⟩⟩⟩⟩)⟩, ⟨by (with_reducible repeat (first | apply Kd.V_alloc | apply Kd.V_drewN | apply Kd.V_drew)); exact Kd.V_mono HO356.out (fun _ hk => ⟨hk.1.2.2.2.1, ⟨hk.1.2.2.2.2.1, ⟨hk.1.1, ⟨hk.1.2.2.2.2.2.1, ⟨hk.1.2.2.2.2.2.2, hk.2⟩⟩⟩⟩⟩)⟩, ⟨by (with_reducible repeat (first | apply Kd.N_alloc | apply Kd.N_drewN | apply Kd.N_drew)); exact Kd.N_mono HO359.out (fun _ hk => ⟨hk.1.2.2.1, ⟨hk.1.2.2.2.1, ⟨hk.1.2.2.2.2.1, ⟨hk.1.2.2.2.2.2, hk.2⟩⟩⟩⟩)⟩, ⟨iB BK336⟩, ⟨iB BK353⟩, ⟨iB BK361⟩, ⟨iL HB⟩⟩
      ·replace c41 := Bool.eq_false_iff.mpr c41
       subst c41
       have H1 : (ancepslaw57_ApparatusChoose.j1 kj3 a1 a2 t352 t360 true l0_0 l0_1 t346 t349 t354 t357) = some r := by rw [if_neg (show ¬ (false = true) by decide)] at H; exact H
       clear H
       have H := H1
       clear H1
       have H' := Aside0.mk H
       clear H
       have hnb48 := NB353_336.out
       have hnc48 := NB336_353.out
       have hnb49 := NB353_361.out
       have hnc49 := NB361_353.out
       have hcz50_0 := cZ BK353 0 (.slice Ao26 t346.length co26)
       have hcz50_1 := cZ BK353 1 (.slice Ao29 t349.length co29)
       have hfz50_0 := blk_frozen BK353.out 0
       have hfz50_1 := blk_frozen BK353.out 1
       have hnb51 := NB361_336.out
       have hnc51 := NB336_361.out
       have hcz52_0 := cZ BK361 0 (.slice none 0 0)
       have hcz52_1 := cZ BK361 1 (.slice none 0 0)
       have hfz52_0 := blk_frozen BK361.out 0
       have hfz52_1 := blk_frozen BK361.out 1
       go_wp2_with (first | (go_at_call 19; (with_reducible refine (ancepsref57_Same.calls kj3 _ _ t346 _ _ t349 _ _ t354 _ _ t357 false _ ?side1 ?side2 ?side3 ?side4 ?side5 ?side6 ?side7 ?side8 A40.out).mono ?_); (case side1 => refine (Kd.R_reads' (e := 9) (base := w.heap.size) (ok := fun k_ => some k_ ≠ (.slice Ao22 t340.length co22 : Value).ownBlock) (n := t346.length) (c := co26) ?_).2.2; exact (by (with_reducible repeat (first | apply Kd.R_alloc | apply Kd.R_drewN | apply Kd.R_drew)); exact (Kd.R_mono (Kd.R_far (p := ⟨gb361, 1, none⟩) (Kd.R_far (p := ⟨gb361, 0, none⟩) (Kd.R_types HO348.out BK361.out (by decide)) (fun _ hk => hk.2) (.slice Ao34 t354.length co34)) (fun _ hk => hk.2) (.slice Ao38 t357.length co38)) (fun _ h_ => h_.1)))); (case side2 => exact (Kd.R_reads' HO348.out).2.1); (case side3 => refine (Kd.N_reads' (e := 65) (base := w.heap.size) (ok := fun k_ => (((some k_ ≠ (.slice Ao22 t340.length co22 : Value).ownBlock ∧ (some k_ ≠ (.slice Ao23 t343.length co23 : Value).ownBlock ∧ (some k_ ≠ (.slice Ao26 t346.length co26 : Value).ownBlock ∧ (k_ ≠ gb336 ∧ k_ ≠ gb353)))) ∧ some k_ ≠ (.slice Ao38 t357.length co38 : Value).ownBlock) ∧ k_ ≠ gb361)) (n := t349.length) (c := co29) ?_).2.2; exact (by (with_reducible repeat (first | apply Kd.N_alloc | apply Kd.N_drewN | apply Kd.N_drew)); exact (Kd.N_mono (Kd.N_far (p := ⟨gb361, 1, none⟩) (Kd.N_far (p := ⟨gb361, 0, none⟩) (Kd.N_mono HO351.out (fun k_ hk => (⟨hk, hk.2⟩ : _ ∧ k_ ≠ gb361))) (fun _ hk => hk.2) (.slice Ao34 t354.length co34)) (fun _ hk => hk.2) (.slice Ao38 t357.length co38)) (fun _ h_ => h_.1)))); (case side4 => exact (Kd.N_reads' HO351.out).2.1); (case side5 => refine (Kd.V_reads' (e := 9) (base := w.heap.size) (ok := fun k_ => ((some k_ ≠ (.slice Ao38 t357.length co38 : Value).ownBlock ∧ (some k_ ≠ (.slice Ao22 t340.length co22 : Value).ownBlock ∧ (some k_ ≠ (.slice Ao23 t343.length co23 : Value).ownBlock ∧ (some k_ ≠ (.slice Ao26 t346.length co26 : Value).ownBlock ∧ (some k_ ≠ (.slice Ao29 t349.length co29 : Value).ownBlock ∧ (k_ ≠ gb336 ∧ k_ ≠ gb353)))))) ∧ k_ ≠ gb361)) (n := t354.length) (c := co34) ?_).2.2; exact (by (with_reducible repeat (first | apply Kd.V_alloc | apply Kd.V_drewN | apply Kd.V_drew)); exact (Kd.V_mono (Kd.V_far (p := ⟨gb361, 1, none⟩) (Kd.V_far (p := ⟨gb361, 0, none⟩) (Kd.V_mono HO356.out (fun k_ hk => (⟨hk, hk.2⟩ : _ ∧ k_ ≠ gb361))) (fun _ hk => hk.2) (.slice Ao34 t354.length co34)) (fun _ hk => hk.2) (.slice Ao38 t357.length co38)) (fun _ h_ => h_.1)))); (case side6 => exact (Kd.V_reads' HO356.out).2.1); (case side7 => refine (Kd.N_reads' (e := 65) (base := w.heap.size) (ok := fun k_ => ((some k_ ≠ (.slice Ao22 t340.length co22 : Value).ownBlock ∧ (some k_ ≠ (.slice Ao23 t343.length co23 : Value).ownBlock ∧ (some k_ ≠ (.slice Ao26 t346.length co26 : Value).ownBlock ∧ (some k_ ≠ (.slice Ao29 t349.length co29 : Value).ownBlock ∧ (k_ ≠ gb336 ∧ k_ ≠ gb353))))) ∧ k_ ≠ gb361)) (n := t357.length) (c := co38) ?_).2.2; exact (by (with_reducible repeat (first | apply Kd.N_alloc | apply Kd.N_drewN | apply Kd.N_drew)); exact (Kd.N_mono (Kd.N_far (p := ⟨gb361, 1, none⟩) (Kd.N_far (p := ⟨gb361, 0, none⟩) (Kd.N_mono HO359.out (fun k_ hk => (⟨hk, hk.2⟩ : _ ∧ k_ ≠ gb361))) (fun _ hk => hk.2) (.slice Ao34 t354.length co34)) (fun _ hk => hk.2) (.slice Ao38 t357.length co38)) (fun _ h_ => h_.1)))); (case side8 => exact (Kd.N_reads' HO359.out).2.1); rintro e w53 ⟨rfl, hb⟩; have n0_ := Aside0.mk (Kd.R_below (by (with_reducible repeat (first | apply Kd.R_alloc | apply Kd.R_drewN | apply Kd.R_drew)); exact (Kd.R_mono (Kd.R_far (p := ⟨gb361, 1, none⟩) (Kd.R_far (p := ⟨gb361, 0, none⟩) (Kd.R_types HO342.out BK361.out (by decide)) (fun _ hk => hk.2) (.slice Ao34 t354.length co34)) (fun _ hk => hk.2) (.slice Ao38 t357.length co38)) (fun _ h_ => h_.1))) hb); have n1_ := Aside0.mk (Kd.N_below (by (with_reducible repeat (first | apply Kd.N_alloc | apply Kd.N_drewN | apply Kd.N_drew)); exact (Kd.N_mono (Kd.N_far (p := ⟨gb361, 1, none⟩) (Kd.N_far (p := ⟨gb361, 0, none⟩) (Kd.N_mono HO345.out (fun k_ hk => (⟨hk, hk.2⟩ : _ ∧ k_ ≠ gb361))) (fun _ hk => hk.2) (.slice Ao34 t354.length co34)) (fun _ hk => hk.2) (.slice Ao38 t357.length co38)) (fun _ h_ => h_.1))) hb); have n2_ := Aside0.mk (Kd.R_below (by (with_reducible repeat (first | apply Kd.R_alloc | apply Kd.R_drewN | apply Kd.R_drew)); exact (Kd.R_mono (Kd.R_far (p := ⟨gb361, 1, none⟩) (Kd.R_far (p := ⟨gb361, 0, none⟩) (Kd.R_types HO348.out BK361.out (by decide)) (fun _ hk => hk.2) (.slice Ao34 t354.length co34)) (fun _ hk => hk.2) (.slice Ao38 t357.length co38)) (fun _ h_ => h_.1))) hb); have n3_ := Aside0.mk (Kd.N_below (by (with_reducible repeat (first | apply Kd.N_alloc | apply Kd.N_drewN | apply Kd.N_drew)); exact (Kd.N_mono (Kd.N_far (p := ⟨gb361, 1, none⟩) (Kd.N_far (p := ⟨gb361, 0, none⟩) (Kd.N_mono HO351.out (fun k_ hk => (⟨hk, hk.2⟩ : _ ∧ k_ ≠ gb361))) (fun _ hk => hk.2) (.slice Ao34 t354.length co34)) (fun _ hk => hk.2) (.slice Ao38 t357.length co38)) (fun _ h_ => h_.1))) hb); have n4_ := Aside0.mk (Kd.V_below (by (with_reducible repeat (first | apply Kd.V_alloc | apply Kd.V_drewN | apply Kd.V_drew)); exact (Kd.V_mono (Kd.V_far (p := ⟨gb361, 1, none⟩) (Kd.V_far (p := ⟨gb361, 0, none⟩) (Kd.V_mono HO356.out (fun k_ hk => (⟨hk, hk.2⟩ : _ ∧ k_ ≠ gb361))) (fun _ hk => hk.2) (.slice Ao34 t354.length co34)) (fun _ hk => hk.2) (.slice Ao38 t357.length co38)) (fun _ h_ => h_.1))) hb); have n5_ := Aside0.mk (Kd.N_below (by (with_reducible repeat (first | apply Kd.N_alloc | apply Kd.N_drewN | apply Kd.N_drew)); exact (Kd.N_mono (Kd.N_far (p := ⟨gb361, 1, none⟩) (Kd.N_far (p := ⟨gb361, 0, none⟩) (Kd.N_mono HO359.out (fun k_ hk => (⟨hk, hk.2⟩ : _ ∧ k_ ≠ gb361))) (fun _ hk => hk.2) (.slice Ao34 t354.length co34)) (fun _ hk => hk.2) (.slice Ao38 t357.length co38)) (fun _ h_ => h_.1))) hb); have n6_ := Aside0.mk (blk_below (g := gb336) (o := .cells #[.slice A0_0 l0_0.length c0_0, .slice A0_1 l0_1.length c0_1] 42 (0, 0)) (by (with_reducible repeat (first | apply blk_drewN | apply blk_drew | apply blk_alloc)); refine blk_far ?_ NB336_361.out _; (with_reducible repeat (first | apply blk_drewN | apply blk_drew | apply blk_alloc)); refine blk_far ?_ NB336_361.out _; (with_reducible repeat (first | apply blk_drewN | apply blk_drew | apply blk_alloc)); exact BK336.out) hb); have n7_ := Aside0.mk (blk_below (g := gb353) (o := .cells #[.slice Ao26 t346.length co26, .slice Ao29 t349.length co29] 42 (0, 0)) (by (with_reducible repeat (first | apply blk_drewN | apply blk_drew | apply blk_alloc)); refine blk_far ?_ NB353_361.out _; (with_reducible repeat (first | apply blk_drewN | apply blk_drew | apply blk_alloc)); refine blk_far ?_ NB353_361.out _; (with_reducible repeat (first | apply blk_drewN | apply blk_drew | apply blk_alloc)); exact BK353.out) hb); have n8_ := Aside0.mk (blk_below (g := gb361) (o := .cells #[.slice Ao34 t354.length co34, .slice Ao38 t357.length co38] 42 (0, 0)) (by (with_reducible repeat (first | apply blk_drewN | apply blk_drew | apply blk_alloc)); refine blk_put (cs := #[.slice Ao34 t354.length co34, .slice none 0 0]) ?_ 1 _ rfl; (with_reducible repeat (first | apply blk_drewN | apply blk_drew | apply blk_alloc)); refine blk_put (cs := #[.slice none 0 0, .slice none 0 0]) ?_ 0 _ rfl; (with_reducible repeat (first | apply blk_drewN | apply blk_drew | apply blk_alloc)); exact BK361.out) hb); have n9_ := jL HB hb; clear HO342; clear HO345; clear HO348; clear HO351; clear HO356; clear HO359; clear BK336; clear BK353; clear BK361; clear HB; have HO342 := n0_; have HO345 := n1_; have HO348 := n2_; have HO351 := n3_; have HO356 := n4_; have HO359 := n5_; have BK336 := n6_; have BK353 := n7_; have BK361 := n8_; have HB := n9_; clear n0_ n1_ n2_ n3_ n4_ n5_ n6_ n7_ n8_ n9_; (try clear hb)))
       go_meet
       case rel => exact ⟨_, (true), eV, H', ⟨by have := HJ3.out; first | omega | exact Nat.le_refl _⟩, ⟨by (with_reducible repeat (first | apply Kd.R_alloc | apply Kd.R_drewN | apply Kd.R_drew)); exact Kd.R_mono HO348.out (fun _ hk => trivial)⟩, ⟨by (with_reducible repeat (first | apply Kd.N_alloc | apply Kd.N_drewN | apply Kd.N_drew)); exact Kd.N_mono HO351.out (fun _ hk => ⟨hk.1.1.2.2.1, ⟨hk.1.2, ⟨hk.1.1.2.2.2.1, ⟨hk.1.1.2.2.2.2, hk.2⟩⟩⟩⟩)⟩, ⟨by (with_reducible repeat (first | apply Kd.V_alloc | apply Kd.V_drewN | apply Kd.V_drew)); exact Kd.V_mono HO356.out (fun _ hk => ⟨hk.1.2.2.2.1, ⟨hk.1.2.2.2.2.1, ⟨hk.1.1, ⟨hk.1.2.2.2.2.2.1, ⟨hk.1.2.2.2.2.2.2, hk.2⟩⟩⟩⟩⟩)⟩, ⟨by (with_reducible repeat (first | apply Kd.N_alloc | apply Kd.N_drewN | apply Kd.N_drew)); exact Kd.N_mono HO359.out (fun _ hk => ⟨hk.1.2.2.1, ⟨hk.1.2.2.2.1, ⟨hk.1.2.2.2.2.1, ⟨hk.1.2.2.2.2.2, hk.2⟩⟩⟩⟩)⟩, ⟨iB BK336⟩, ⟨iB BK353⟩, ⟨iB BK361⟩, ⟨iL HB⟩⟩
     ·rw [if_neg c39] at H
      have c39b0 : (t352 == t360) = false := beq_eq_false_iff_ne.mpr c39
      have c39b1 : (t352 != t360) = true := bne_iff_ne.mpr c39
      (first | rw [c39b0] | (simp only [i64_w, i32_w]; rw [c39b0]) | skip)
      have H' := Aside0.mk H
      clear H
      go_wp2
      go_meet
      case rel => exact ⟨_, (true), eV, H', ⟨by have := HJ3.out; first | omega | exact Nat.le_refl _⟩, ⟨by (with_reducible repeat (first | apply Kd.R_alloc | apply Kd.R_drewN | apply Kd.R_drew)); exact Kd.R_mono (Kd.R_far (p := ⟨gb361, 1, none⟩) (Kd.R_far (p := ⟨gb361, 0, none⟩) (Kd.R_types HO348.out BK361.out (by decide)) (fun _ hk => hk.2) (.slice Ao34 t354.length co34)) (fun _ hk => hk.2) (.slice Ao38 t357.length co38)) (fun _ hk => trivial)⟩, ⟨by (with_reducible repeat (first | apply Kd.N_alloc | apply Kd.N_drewN | apply Kd.N_drew)); exact Kd.N_mono (Kd.N_far (p := ⟨gb361, 1, none⟩) (Kd.N_far (p := ⟨gb361, 0, none⟩) (Kd.N_mono HO351.out (fun k_ hk => (⟨hk, hk.2⟩ : _ ∧ k_ ≠ gb361))) (fun _ hk => hk.2) (.slice Ao34 t354.length co34)) (fun _ hk => hk.2) (.slice Ao38 t357.length co38)) (fun _ hk => ⟨hk.1.1.1.2.2.1, ⟨hk.1.1.2, ⟨hk.1.1.1.2.2.2.1, ⟨hk.1.1.1.2.2.2.2, hk.1.2⟩⟩⟩⟩)⟩, ⟨by (with_reducible repeat (first | apply Kd.V_alloc | apply Kd.V_drewN | apply Kd.V_drew)); exact Kd.V_mono (Kd.V_far (p := ⟨gb361, 1, none⟩) (Kd.V_far (p := ⟨gb361, 0, none⟩) (Kd.V_mono HO356.out (fun k_ hk => (⟨hk, hk.2⟩ : _ ∧ k_ ≠ gb361))) (fun _ hk => hk.2) (.slice Ao34 t354.length co34)) (fun _ hk => hk.2) (.slice Ao38 t357.length co38)) (fun _ hk => ⟨hk.1.1.2.2.2.1, ⟨hk.1.1.2.2.2.2.1, ⟨hk.1.1.1, ⟨hk.1.1.2.2.2.2.2.1, ⟨hk.1.1.2.2.2.2.2.2, hk.1.2⟩⟩⟩⟩⟩)⟩, ⟨by (with_reducible repeat (first | apply Kd.N_alloc | apply Kd.N_drewN | apply Kd.N_drew)); exact Kd.N_mono (Kd.N_far (p := ⟨gb361, 1, none⟩) (Kd.N_far (p := ⟨gb361, 0, none⟩) (Kd.N_mono HO359.out (fun k_ hk => (⟨hk, hk.2⟩ : _ ∧ k_ ≠ gb361))) (fun _ hk => hk.2) (.slice Ao34 t354.length co34)) (fun _ hk => hk.2) (.slice Ao38 t357.length co38)) (fun _ hk => ⟨hk.1.1.2.2.1, ⟨hk.1.1.2.2.2.1, ⟨hk.1.1.2.2.2.2.1, ⟨hk.1.1.2.2.2.2.2, hk.1.2⟩⟩⟩⟩)⟩, ⟨by (with_reducible repeat (first | apply blk_drewN | apply blk_drew | apply blk_alloc)); refine blk_far ?_ NB336_361.out _; (with_reducible repeat (first | apply blk_drewN | apply blk_drew | apply blk_alloc)); refine blk_far ?_ NB336_361.out _; (with_reducible repeat (first | apply blk_drewN | apply blk_drew | apply blk_alloc)); exact BK336.out⟩, ⟨by (with_reducible repeat (first | apply blk_drewN | apply blk_drew | apply blk_alloc)); refine blk_far ?_ NB353_361.out _; (with_reducible repeat (first | apply blk_drewN | apply blk_drew | apply blk_alloc)); refine blk_far ?_ NB353_361.out _; (with_reducible repeat (first | apply blk_drewN | apply blk_drew | apply blk_alloc)); exact BK353.out⟩, ⟨by (with_reducible repeat (first | apply blk_drewN | apply blk_drew | apply blk_alloc)); refine blk_put (cs := #[.slice Ao34 t354.length co34, .slice none 0 0]) ?_ 1 _ rfl; (with_reducible repeat (first | apply blk_drewN | apply blk_drew | apply blk_alloc)); refine blk_put (cs := #[.slice none 0 0, .slice none 0 0]) ?_ 0 _ rfl; (with_reducible repeat (first | apply blk_drewN | apply blk_drew | apply blk_alloc)); exact BK361.out⟩, ⟨iL HB⟩⟩
    case rest =>
     clear HC19
     (try clear c1); (try clear c2); (try clear p2); (try clear c3); (try clear c4); (try clear c5); (try clear c7); (try clear c9); (try clear c13); (try clear c27); (try clear c28); (try clear c29); (try clear c35); (try clear c36); (try clear c39); (try clear c39b0); (try clear c39b1); (try clear c41); (try clear c42); (try clear c43); (try clear c45); (try clear c48); (try clear c49); (try clear c51); (try clear hcz10_0); (try clear hcz10_1); (try clear hcz20_0); (try clear hcz20_1); (try clear hcz28_0); (try clear hcz28_1); (try clear hcz31_0); (try clear hcz31_1); (try clear hcz37_0); (try clear hcz37_1); (try clear hcz44_0); (try clear hcz44_1); (try clear hcz46_0); (try clear hcz46_1); (try clear hcz50_0); (try clear hcz50_1); (try clear hcz52_0); (try clear hcz52_1); (try clear hfz10_0); (try clear hfz10_1); (try clear hfz20_0); (try clear hfz20_1); (try clear hfz28_0); (try clear hfz28_1); (try clear hfz31_0); (try clear hfz31_1); (try clear hfz37_0); (try clear hfz37_1); (try clear hfz44_0); (try clear hfz44_1); (try clear hfz46_0); (try clear hfz46_1); (try clear hfz50_0); (try clear hfz50_1); (try clear hfz52_0); (try clear hfz52_1); (try clear p2)
     obtain ⟨kq, x54_18, rfl, HA, HJ18, HO_354000, HO_354001, HO_362000, HO_362001, BK336, BK353, BK361, HB⟩ := hcut
     cases kq with
     | zero => exact absurd HA.out (by simp [ancepslaw57_ApparatusChoose.j1])
     | succ kj18 =>
      have H := HA.out
      clear HA
      simp only [ancepslaw57_ApparatusChoose.j1] at H
      by_cases c54 : x54_18 = true
      ·subst c54
       have H1 : (if t352 = t360 then ((ancepsref57_Same.f kj18 t346 t349 t354 t357).bind fun t363 => (some t363)) else (none)) = some r := by rw [if_pos rfl] at H; exact H
       clear H
       have H := H1
       clear H1
       by_cases c55 : t352 = t360
       ·rw [if_pos c55] at H
        have c55b0 : (t352 == t360) = true := beq_iff_eq.mpr c55
        have c55b1 : (t352 != t360) = false := bne_eq_false_iff_eq.mpr c55
        clear c55
        replace H := Option.bind_eq_some_iff.mp H
        obtain ⟨t363, A560, H⟩ := H
        replace H : (some t363) = some r := H
        have A56 := Aside0.mk A560
        clear A560
        obtain rfl := Option.some.inj H
        have hnb57 := NB353_336.out
        have hnc57 := NB336_353.out
        have hnb58 := NB353_361.out
        have hnc58 := NB361_353.out
        have hcz59_0 := cZ BK353 0 (.slice Ao26 t346.length co26)
        have hcz59_1 := cZ BK353 1 (.slice Ao29 t349.length co29)
        have hfz59_0 := blk_frozen BK353.out 0
        have hfz59_1 := blk_frozen BK353.out 1
        have hnb60 := NB361_336.out
        have hnc60 := NB336_361.out
        have hcz61_0 := cZ BK361 0 (.slice Ao34 t354.length co34)
        have hcz61_1 := cZ BK361 1 (.slice Ao38 t357.length co38)
        have hfz61_0 := blk_frozen BK361.out 0
        have hfz61_1 := blk_frozen BK361.out 1
        go_wp2_with (first | (go_at_call 19; (with_reducible refine (ancepsref57_Same.calls kj18 _ _ t346 _ _ t349 _ _ t354 _ _ t357 t363 _ ?side1 ?side2 ?side3 ?side4 ?side5 ?side6 ?side7 ?side8 A56.out).mono ?_); (case side1 => repeat (first | exact (Kd.R_reads' HO_354000.out).2.2 | (with_reducible refine Kd.C_alloc ?_ _) | (with_reducible refine Kd.C_drewN ?_ _) | (with_reducible refine Kd.C_drew ?_))); (case side2 => exact (Kd.R_reads' HO_354000.out).2.1); (case side3 => repeat (first | exact (Kd.N_reads' HO_354001.out).2.2 | (with_reducible refine Kd.C_alloc ?_ _) | (with_reducible refine Kd.C_drewN ?_ _) | (with_reducible refine Kd.C_drew ?_))); (case side4 => exact (Kd.N_reads' HO_354001.out).2.1); (case side5 => repeat (first | exact (Kd.V_reads' HO_362000.out).2.2 | (with_reducible refine Kd.C_alloc ?_ _) | (with_reducible refine Kd.C_drewN ?_ _) | (with_reducible refine Kd.C_drew ?_))); (case side6 => exact (Kd.V_reads' HO_362000.out).2.1); (case side7 => repeat (first | exact (Kd.N_reads' HO_362001.out).2.2 | (with_reducible refine Kd.C_alloc ?_ _) | (with_reducible refine Kd.C_drewN ?_ _) | (with_reducible refine Kd.C_drew ?_))); (case side8 => exact (Kd.N_reads' HO_362001.out).2.1); rintro e w62 ⟨rfl, hb⟩; have n0_ := jR HO_354000 hb; have n1_ := Aside0.mk (Kd.N_below (iN HO_354001) hb); have n2_ := Aside0.mk (Kd.V_below (iV HO_362000) hb); have n3_ := Aside0.mk (Kd.N_below (iN HO_362001) hb); have n4_ := jB BK336 hb; have n5_ := jB BK353 hb; have n6_ := jB BK361 hb; have n7_ := jL HB hb; clear HO_354000; clear HO_354001; clear HO_362000; clear HO_362001; clear BK336; clear BK353; clear BK361; clear HB; have HO_354000 := n0_; have HO_354001 := n1_; have HO_362000 := n2_; have HO_362001 := n3_; have BK336 := n4_; have BK353 := n5_; have BK361 := n6_; have HB := n7_; clear n0_ n1_ n2_ n3_ n4_ n5_ n6_ n7_; (try clear hb)))
        go_ret
        exact ⟨eV, iL HB⟩
       ·rw [if_neg c55] at H; cases H
      ·replace c54 := Bool.eq_false_iff.mpr c54
       subst c54
       have H1 : (ancepslaw57_ApparatusChoose.l0 kj18 a1 a2 l0_0 (l0_0.length : Int) 0 l0_0 l0_1 t346 t349) = some r := by rw [if_neg (show ¬ (false = true) by decide)] at H; exact H
       clear H
       have H := H1
       clear H1
       have H' := Aside0.mk H
       clear H
       have hnb63 := NB336_353.out
       have hnc63 := NB353_336.out
       have hnb64 := NB336_361.out
       have hnc64 := NB361_336.out
       have hcz65_0 := cZ BK336 0 (.slice A0_0 l0_0.length c0_0)
       have hcz65_1 := cZ BK336 1 (.slice A0_1 l0_1.length c0_1)
       have hfz65_0 := blk_frozen BK336.out 0
       have hfz65_1 := blk_frozen BK336.out 1
       go_wp2
       go_loopg [66] kj18 (fun kq v66 w' => ∃ (x66_3 : Int), v66 = .int .i64 x66_3 ∧ Aside0 (ancepslaw57_ApparatusChoose.l0 kq a1 a2 l0_0 (l0_0.length : Int) x66_3 l0_0 l0_1 t346 t349 = some r) ∧ Aside0 (kq ≤ kj18) ∧ Aside0 (Kd.R Kd.string 9 w' w.heap.size (fun _ => True) (.slice Ao26 t346.length co26) t346) ∧ Aside0 (Kd.N k65 65 w' w.heap.size (fun k_ => some k_ ≠ ((.slice Ao26 t346.length co26) : Value).ownBlock ∧ some k_ ≠ ((.slice Ao38 t357.length co38) : Value).ownBlock ∧ k_ ≠ gb336 ∧ k_ ≠ gb353 ∧ k_ ≠ gb361) (.slice Ao29 t349.length co29) t349) ∧ Aside0 (Kd.V Kd.string 9 w' w.heap.size (fun k_ => some k_ ≠ ((.slice Ao26 t346.length co26) : Value).ownBlock ∧ some k_ ≠ ((.slice Ao29 t349.length co29) : Value).ownBlock ∧ some k_ ≠ ((.slice Ao38 t357.length co38) : Value).ownBlock ∧ k_ ≠ gb336 ∧ k_ ≠ gb353 ∧ k_ ≠ gb361) (.slice Ao34 t354.length co34) t354) ∧ Aside0 (Kd.N k65 65 w' w.heap.size (fun k_ => some k_ ≠ ((.slice Ao26 t346.length co26) : Value).ownBlock ∧ some k_ ≠ ((.slice Ao29 t349.length co29) : Value).ownBlock ∧ k_ ≠ gb336 ∧ k_ ≠ gb353 ∧ k_ ≠ gb361) (.slice Ao38 t357.length co38) t357) ∧ Aside0 (w'.heap[gb336]? = some (.cells #[(.slice A0_0 l0_0.length c0_0), (.slice A0_1 l0_1.length c0_1)] 42 (0, 0))) ∧ Aside0 (w'.heap[gb353]? = some (.cells #[(.slice Ao26 t346.length co26), (.slice Ao29 t349.length co29)] 42 (0, 0))) ∧ Aside0 (w'.heap[gb361]? = some (.cells #[(.slice Ao34 t354.length co34), (.slice Ao38 t357.length co38)] 42 (0, 0))) ∧ Aside0 (Below w.heap.size w w'))
       case atStart => exact ⟨(0), eV, H', ⟨Nat.le_refl _⟩, ⟨iR HO_354000⟩, ⟨iN HO_354001⟩, ⟨iV HO_362000⟩, ⟨iN HO_362001⟩, ⟨iB BK336⟩, ⟨iB BK353⟩, ⟨iB BK361⟩, ⟨iL HB⟩⟩
       case round =>
        clear H'
        (try clear c1); (try clear c2); (try clear p2); (try clear c3); (try clear c4); (try clear c5); (try clear c6); (try clear c7); (try clear c9); (try clear c13); (try clear c27); (try clear c28); (try clear c29); (try clear c35); (try clear c36); (try clear c39); (try clear c39b0); (try clear c39b1); (try clear c41); (try clear c42); (try clear c43); (try clear c45); (try clear c48); (try clear c49); (try clear c51); (try clear c54); (try clear c55); (try clear c55b0); (try clear c55b1); (try clear c57); (try clear c58); (try clear c60); (try clear c63); (try clear c64); (try clear hcz10_0); (try clear hcz10_1); (try clear hcz20_0); (try clear hcz20_1); (try clear hcz28_0); (try clear hcz28_1); (try clear hcz31_0); (try clear hcz31_1); (try clear hcz37_0); (try clear hcz37_1); (try clear hcz44_0); (try clear hcz44_1); (try clear hcz46_0); (try clear hcz46_1); (try clear hcz50_0); (try clear hcz50_1); (try clear hcz52_0); (try clear hcz52_1); (try clear hcz59_0); (try clear hcz59_1); (try clear hcz61_0); (try clear hcz61_1); (try clear hcz65_0); (try clear hcz65_1); (try clear hfz10_0); (try clear hfz10_1); (try clear hfz20_0); (try clear hfz20_1); (try clear hfz28_0); (try clear hfz28_1); (try clear hfz31_0); (try clear hfz31_1); (try clear hfz37_0); (try clear hfz37_1); (try clear hfz44_0); (try clear hfz44_1); (try clear hfz46_0); (try clear hfz46_1); (try clear hfz50_0); (try clear hfz50_1); (try clear hfz52_0); (try clear hfz52_1); (try clear hfz59_0); (try clear hfz59_1); (try clear hfz61_0); (try clear hfz61_1); (try clear hfz65_0); (try clear hfz65_1); (try clear p2)
        obtain ⟨x66_3, rfl, HA, HK3, HO_354000, HO_354001, HO_362000, HO_362001, BK336, BK353, BK361, HB⟩ := hrel
        cases gk with
        | zero => exact absurd HA.out (by simp [ancepslaw57_ApparatusChoose.l0])
        | succ k3 =>
         have H := HA.out
         clear HA
         simp only [ancepslaw57_ApparatusChoose.l0] at H
         by_cases c66 : x66_3 < (l0_0.length : Int)
         ·rw [if_pos c66] at H
          have c66b0 : decide (x66_3 < (l0_0.length : Int)) = true := decide_eq_true c66
          clear c66
          by_cases c67 : 0 ≤ x66_3
          ·rw [if_pos c67] at H
           have c67b0 : decide (0 ≤ x66_3) = true := decide_eq_true c67
           clear c67
           by_cases c68 : x66_3 < (l0_0.length : Int)
           ·rw [if_pos c68] at H
            have c68b0 : decide (x66_3 < (l0_0.length : Int)) = true := decide_eq_true c68
            clear c68
            replace H := Option.bind_eq_some_iff.mp H
            obtain ⟨⟨t374, t377⟩, A690, H⟩ := H
            try dsimp only at H
            have A69 := Aside0.mk A690
            clear A690
            replace H := Option.bind_eq_some_iff.mp H
            obtain ⟨⟨t378, t381⟩, A700, H⟩ := H
            try dsimp only at H
            have A70 := Aside0.mk A700
            clear A700
            by_cases c71 : t377 = 0
            ·rw [if_pos c71] at H
             have c71b0 : (t377 == 0) = true := beq_iff_eq.mpr c71
             have c71b1 : (t377 != 0) = false := bne_eq_false_iff_eq.mpr c71
             clear c71
             replace H := Option.bind_eq_some_iff.mp H
             obtain ⟨t382, A720, H⟩ := H
             try dsimp only at H
             have A72 := Aside0.mk A720
             clear A720
             by_cases c73 : t382 = true
             ·subst c73
              have H1 : (ancepslaw57_ApparatusChoose.l0 k3 a1 a2 l0_0 (l0_0.length : Int) (wrap64 (x66_3 + 1)) l0_0 l0_1 t346 t349) = some r := by rw [if_pos rfl] at H; exact H
              clear H
              have H := H1
              clear H1
              have H' := Aside0.mk H
              clear H
              have p373 := oD (0 ≤ (x66_3 : Int))
              have q373 := oD (x66_3 < (l0_0.length : Int))
              obtain ⟨ad373, e373, hx373_0⟩ := Kd.at_string HR0_0.out x66_3 p373 q373
              cases e373
              replace hx373_0 := (HB.out.cell (World.block_lt_of_cell? w _ hx373_0)).trans hx373_0
              replace p373 := eq_true p373
              replace q373 := eq_true q373
              have hnb74 := NB353_336.out
              have hnc74 := NB336_353.out
              have hnb75 := NB353_361.out
              have hnc75 := NB361_353.out
              have hcz76_0 := cZ BK353 0 (.slice Ao26 t346.length co26)
              have hcz76_1 := cZ BK353 1 (.slice Ao29 t349.length co29)
              have hfz76_0 := blk_frozen BK353.out 0
              have hfz76_1 := blk_frozen BK353.out 1
              go_wp2_with (first | ((with_reducible refine gate_callee (f := 20) rfl ?_); refine gL_ (some 73) Try.func20 #[.agg #[.slice Ao26 t346.length co26, .slice Ao29 t349.length co29], .string (rdOf ByteArray.empty l0_0 x66_3)] ?_; (with_reducible refine (apparatus_Of.calls k3 _ _ t346 _ _ t349 (rdOf ByteArray.empty l0_0 x66_3) t374 t377 _ ?side1 ?side2 ?side3 ?side4 A69.out).mono ?_); (case side1 => repeat (first | exact (Kd.R_reads' HO_354000.out).2.2 | (with_reducible refine Kd.C_alloc ?_ _) | (with_reducible refine Kd.C_drewN ?_ _) | (with_reducible refine Kd.C_drew ?_))); (case side2 => exact (Kd.R_reads' HO_354000.out).2.1); (case side3 => repeat (first | exact (Kd.N_reads' HO_354001.out).2.2 | (with_reducible refine Kd.C_alloc ?_ _) | (with_reducible refine Kd.C_drewN ?_ _) | (with_reducible refine Kd.C_drew ?_))); (case side4 => exact (Kd.N_reads' HO_354001.out).2.1); rintro e w77 ⟨v375, rfl, ho0, hb⟩; refine ⟨_, rfl, ?_⟩; have n0_ := Aside0.mk (Kd.R_elder' (iR HO_354000) (Kd.R_base ho0) hb); have n1_ := Aside0.mk (Kd.N_elder' (iN HO_354001) (Kd.R_base ho0) hb); have n2_ := Aside0.mk (Kd.V_elder' (iV HO_362000) (Kd.R_base ho0) hb); have n3_ := Aside0.mk (Kd.N_elder' (iN HO_362001) (Kd.R_base ho0) hb); have n4_ := Aside0.mk (Kd.R_lower (Kd.R_new' ho0 (Kd.R_lt (iR HO_354000))) (below_size (iL HB))); have n5_ := jB BK336 hb; have n6_ := jB BK353 hb; have n7_ := jB BK361 hb; have n8_ := jL HB hb; clear HO_354000; clear HO_354001; clear HO_362000; clear HO_362001; clear BK336; clear BK353; clear BK361; clear HB; have HO_354000 := n0_; have HO_354001 := n1_; have HO_362000 := n2_; have HO_362001 := n3_; have HO376 := n4_; have BK336 := n5_; have BK353 := n6_; have BK361 := n7_; have HB := n8_; clear n0_ n1_ n2_ n3_ n4_ n5_ n6_ n7_ n8_; (try clear hb); (try clear ho0); have hnb78 := NB336_361.out; have hnc78 := NB361_336.out; have hcz79_0 := cZ BK336 0 (.slice (some ad373) l0_0.length c0_0); have hcz79_1 := cZ BK336 1 (.slice A0_1 l0_1.length c0_1); have hfz79_0 := blk_frozen BK336.out 0; have hfz79_1 := blk_frozen BK336.out 1) | ((with_reducible refine gate_callee (f := 30) rfl ?_); refine gL_ (some 79) Try.func30 #[.agg #[.slice (some ad373) l0_0.length c0_0, .slice A0_1 l0_1.length c0_1], .string (rdOf ByteArray.empty l0_0 x66_3)] ?_; (with_reducible refine (ancepsref57_Of.calls k3 _ _ l0_0 _ _ l0_1 (rdOf ByteArray.empty l0_0 x66_3) t378 t381 _ ?side1 ?side2 ?side3 ?side4 A70.out).mono ?_); (case side1 => exact iC HR0_0 HB); (case side2 => exact HC0_0.out); (case side3 => exact iC HR0_1 HB); (case side4 => exact HC0_1.out); rintro e w80 ⟨v379, rfl, ho0, hb⟩; refine ⟨_, rfl, ?_⟩; have n0_ := Aside0.mk (Kd.R_elder' (iR HO_354000) (Kd.R_base ho0) hb); have n1_ := Aside0.mk (Kd.N_elder' (iN HO_354001) (Kd.R_base ho0) hb); have n2_ := Aside0.mk (Kd.V_elder' (iV HO_362000) (Kd.R_base ho0) hb); have n3_ := Aside0.mk (Kd.N_elder' (iN HO_362001) (Kd.R_base ho0) hb); have n4_ := Aside0.mk (Kd.R_elder' (iR HO376) (Kd.R_base ho0) hb); have n5_ := Aside0.mk (Kd.R_lower (Kd.R_new' (Kd.R_new' ho0 (Kd.R_lt (iR HO_354000))) (Kd.R_lt (iR HO376))) (below_size (iL HB))); have n6_ := jB BK336 hb; have n7_ := jB BK353 hb; have n8_ := jB BK361 hb; have n9_ := jL HB hb; clear HO_354000; clear HO_354001; clear HO_362000; clear HO_362001; clear HO376; clear BK336; clear BK353; clear BK361; clear HB; have HO_354000 := n0_; have HO_354001 := n1_; have HO_362000 := n2_; have HO_362001 := n3_; have HO376 := n4_; have HO380 := n5_; have BK336 := n6_; have BK353 := n7_; have BK361 := n8_; have HB := n9_; clear n0_ n1_ n2_ n3_ n4_ n5_ n6_ n7_ n8_ n9_; (try clear hb); (try clear ho0); obtain ⟨Ao81, co81, eo81⟩ := Kd.R_slice HO376.out; subst eo81; obtain ⟨Ao82, co82, eo82⟩ := Kd.R_slice HO380.out; subst eo82) | (go_at_call 21; (with_reducible refine (ancepsref01_Equal.calls k3 _ _ t374 _ _ t378 true _ ?side1 ?side2 ?side3 ?side4 A72.out).mono ?_); (case side1 => repeat (first | exact (Kd.R_reads' HO376.out).2.2 | (with_reducible refine Kd.C_alloc ?_ _) | (with_reducible refine Kd.C_drewN ?_ _) | (with_reducible refine Kd.C_drew ?_))); (case side2 => exact (Kd.R_reads' HO376.out).2.1); (case side3 => repeat (first | exact (Kd.R_reads' HO380.out).2.2 | (with_reducible refine Kd.C_alloc ?_ _) | (with_reducible refine Kd.C_drewN ?_ _) | (with_reducible refine Kd.C_drew ?_))); (case side4 => exact (Kd.R_reads' HO380.out).2.1); rintro e w' ⟨rfl, ⟨nd, rfl⟩⟩))
              go_roundg k3
              case measure => have := HJ3.out; have := HJ18.out; have := HK3.out; omega
              case rel => exact ⟨(wrap64 (x66_3 + 1)), eV, H', ⟨by have := HJ3.out; have := HJ18.out; have := HK3.out; omega⟩, ⟨by (with_reducible repeat (first | apply Kd.R_alloc | apply Kd.R_drewN | apply Kd.R_drew)); exact Kd.R_mono HO_354000.out (fun _ hk => trivial)⟩, ⟨by (with_reducible repeat (first | apply Kd.N_alloc | apply Kd.N_drewN | apply Kd.N_drew)); exact Kd.N_mono HO_354001.out (fun _ hk => ⟨hk.1.1.1, ⟨hk.1.1.2.1, ⟨hk.1.1.2.2.1, ⟨hk.1.1.2.2.2.1, hk.1.1.2.2.2.2⟩⟩⟩⟩)⟩, ⟨by (with_reducible repeat (first | apply Kd.V_alloc | apply Kd.V_drewN | apply Kd.V_drew)); exact Kd.V_mono HO_362000.out (fun _ hk => ⟨hk.1.1.1, ⟨hk.1.1.2.1, ⟨hk.1.1.2.2.1, ⟨hk.1.1.2.2.2.1, ⟨hk.1.1.2.2.2.2.1, hk.1.1.2.2.2.2.2⟩⟩⟩⟩⟩)⟩, ⟨by (with_reducible repeat (first | apply Kd.N_alloc | apply Kd.N_drewN | apply Kd.N_drew)); exact Kd.N_mono HO_362001.out (fun _ hk => ⟨hk.1.1.1, ⟨hk.1.1.2.1, ⟨hk.1.1.2.2.1, ⟨hk.1.1.2.2.2.1, hk.1.1.2.2.2.2⟩⟩⟩⟩)⟩, ⟨iB BK336⟩, ⟨iB BK353⟩, ⟨iB BK361⟩, ⟨iL HB⟩⟩
             ·rw [if_neg (show ¬ _ from c73)] at H; cases H
            ·rw [if_neg c71] at H; cases H
           ·rw [if_neg c68] at H; cases H
          ·rw [if_neg c67] at H; cases H
         ·rw [if_neg c66] at H
          have c66b0 : decide (x66_3 < (l0_0.length : Int)) = false := decide_eq_false c66
          clear c66
          replace H := Option.bind_eq_some_iff.mp H
          obtain ⟨⟨t364, t367, t370⟩, A990, H⟩ := H
          try dsimp only at H
          have A99 := Aside0.mk A990
          clear A990
          by_cases c100 : t370 = 0
          ·rw [if_pos c100] at H
           have c100b0 : (t370 == 0) = true := beq_iff_eq.mpr c100
           have c100b1 : (t370 != 0) = false := bne_eq_false_iff_eq.mpr c100
           clear c100
           replace H := Option.bind_eq_some_iff.mp H
           obtain ⟨t372, A1010, H⟩ := H
           replace H : (some t372) = some r := H
           have A101 := Aside0.mk A1010
           clear A1010
           obtain rfl := Option.some.inj H
           have hnb102 := NB353_336.out
           have hnc102 := NB336_353.out
           have hnb103 := NB353_361.out
           have hnc103 := NB361_353.out
           have hcz104_0 := cZ BK353 0 (.slice Ao26 t346.length co26)
           have hcz104_1 := cZ BK353 1 (.slice Ao29 t349.length co29)
           have hfz104_0 := blk_frozen BK353.out 0
           have hfz104_1 := blk_frozen BK353.out 1
           go_wp2_with (first | ((with_reducible refine gate_callee (f := 27) rfl ?_); refine gL_ (some 95) Try.func27 #[.agg #[.slice Ao26 t346.length co26, .slice Ao29 t349.length co29], .int .i64 a1, .int .i64 a2] ?_; (with_reducible refine (apparatus_Choose.calls k3 _ _ t346 _ _ t349 a1 a2 t364 t367 t370 _ ?side1 ?side2 ?side3 ?side4 A99.out).mono ?_); (case side1 => repeat (first | exact (Kd.R_reads' HO_354000.out).2.2 | (with_reducible refine Kd.C_alloc ?_ _) | (with_reducible refine Kd.C_drewN ?_ _) | (with_reducible refine Kd.C_drew ?_))); (case side2 => exact (Kd.R_reads' HO_354000.out).2.1); (case side3 => repeat (first | exact (Kd.N_reads' HO_354001.out).2.2 | (with_reducible refine Kd.C_alloc ?_ _) | (with_reducible refine Kd.C_drewN ?_ _) | (with_reducible refine Kd.C_drew ?_))); (case side4 => exact (Kd.N_reads' HO_354001.out).2.1); rintro e w105 ⟨v365, v368, rfl, ho0, ho1, hb⟩; refine ⟨_, rfl, ?_⟩; have n0_ := Aside0.mk (Kd.R_elder' (iR HO_354000) (Kd.R_base ho0) hb); have n1_ := Aside0.mk (Kd.N_mono (Kd.N_told (Kd.N_told (Kd.N_old (iN HO_354001) hb) (Kd.R_base ho0)) (Kd.N_base (Kd.S_N ho1))) (fun _ h_ => h_.1)); have n2_ := Aside0.mk (Kd.V_mono (Kd.V_told (Kd.V_told (Kd.V_old (iV HO_362000) hb) (Kd.R_base ho0)) (Kd.N_base (Kd.S_N ho1))) (fun _ h_ => h_.1)); have n3_ := Aside0.mk (Kd.N_mono (Kd.N_told (Kd.N_told (Kd.N_old (iN HO_362001) hb) (Kd.R_base ho0)) (Kd.N_base (Kd.S_N ho1))) (fun _ h_ => h_.1)); have n4_ := Aside0.mk (Kd.R_lower (Kd.R_new' ho0 (Kd.R_lt (iR HO_354000))) (below_size (iL HB))); have n5_ := Aside0.mk (Kd.N_lower (Kd.N_mono (ok' := fun k_ => some k_ ≠ (v365 : Value).ownBlock ∧ some k_ ≠ (.slice Ao26 t346.length co26 : Value).ownBlock ∧ some k_ ≠ (.slice Ao29 t349.length co29 : Value).ownBlock ∧ some k_ ≠ (.slice Ao38 t357.length co38 : Value).ownBlock ∧ k_ ≠ gb336 ∧ k_ ≠ gb353 ∧ k_ ≠ gb361) (Kd.S_N (Kd.S_bound (Kd.S_apart' ho1 (Kd.R_typed ho0) (by decide)))) (fun k_ hk_ => ⟨hk_.1.2, (Kd.fresh' (Kd.R_lt (iR HO_354000)) k_ hk_.2.1), (Kd.fresh' (Kd.N_lt (iN HO_354001)) k_ hk_.2.1), (Kd.fresh' (Kd.N_lt (iN HO_362001)) k_ hk_.2.1), (Kd.freshB (g := gb336) (o := .cells #[.slice A0_0 l0_0.length c0_0, .slice A0_1 l0_1.length c0_1] 42 (0, 0)) (iB BK336) k_ hk_.2.1), (Kd.freshB (g := gb353) (o := .cells #[.slice Ao26 t346.length co26, .slice Ao29 t349.length co29] 42 (0, 0)) (iB BK353) k_ hk_.2.1), (Kd.freshB (g := gb361) (o := .cells #[.slice Ao34 t354.length co34, .slice Ao38 t357.length co38] 42 (0, 0)) (iB BK361) k_ hk_.2.1)⟩)) (below_size (iL HB))); have n6_ := jB BK336 hb; have n7_ := jB BK353 hb; have n8_ := jB BK361 hb; have n9_ := jL HB hb; clear HO_354000; clear HO_354001; clear HO_362000; clear HO_362001; clear BK336; clear BK353; clear BK361; clear HB; have HO_354000 := n0_; have HO_354001 := n1_; have HO_362000 := n2_; have HO_362001 := n3_; have HO366 := n4_; have HO369 := n5_; have BK336 := n6_; have BK353 := n7_; have BK361 := n8_; have HB := n9_; clear n0_ n1_ n2_ n3_ n4_ n5_ n6_ n7_ n8_ n9_; (try clear hb); (try clear ho0); (try clear ho1)) | ((with_reducible refine gate_dst (N := 17) rfl ?_); refine bX 17 #[.slice none 0 0, .slice none 0 0] 42 ?_; intro gb371 hg w106 hbox hb; have n0_ := jR HO_354000 hb; have n1_ := Aside0.mk (Kd.N_below (Kd.N_elderB (iN HO_354001) gb371 (Nat.le_of_eq hg.symm)) hb); have n2_ := Aside0.mk (Kd.V_below (Kd.V_elderB (iV HO_362000) gb371 (Nat.le_of_eq hg.symm)) hb); have n3_ := Aside0.mk (Kd.N_below (Kd.N_elderB (iN HO_362001) gb371 (Nat.le_of_eq hg.symm)) hb); have n4_ := jR HO366 hb; have n5_ := Aside0.mk (Kd.N_below (Kd.N_elderB (iN HO369) gb371 (Nat.le_of_eq hg.symm)) hb); have n6_ := jB BK336 hb; have n7_ := jB BK353 hb; have n8_ := jB BK361 hb; have n9_ := jL HB hb; have n10_ := Aside0.mk (hbox); have n11_ := Aside0.mk ((by rw [hg]; exact (below_size (iL HB)) : w.heap.size ≤ gb371)); have n12_ := Aside0.mk ((by rw [hg]; exact (below_size (iL HB)) : w.heap.size ≤ gb371)); have n13_ := Aside0.mk ((by rw [hg]; exact Nat.ne_of_lt (blk_lt (g := gb336) (o := .cells #[.slice A0_0 l0_0.length c0_0, .slice A0_1 l0_1.length c0_1] 42 (0, 0)) (iB BK336)) : gb336 ≠ gb371)); have n14_ := Aside0.mk ((by rw [hg]; exact Nat.ne_of_gt (blk_lt (g := gb336) (o := .cells #[.slice A0_0 l0_0.length c0_0, .slice A0_1 l0_1.length c0_1] 42 (0, 0)) (iB BK336)) : gb371 ≠ gb336)); have n15_ := Aside0.mk ((by rw [hg]; exact Nat.ne_of_lt (blk_lt (g := gb353) (o := .cells #[.slice Ao26 t346.length co26, .slice Ao29 t349.length co29] 42 (0, 0)) (iB BK353)) : gb353 ≠ gb371)); have n16_ := Aside0.mk ((by rw [hg]; exact Nat.ne_of_gt (blk_lt (g := gb353) (o := .cells #[.slice Ao26 t346.length co26, .slice Ao29 t349.length co29] 42 (0, 0)) (iB BK353)) : gb371 ≠ gb353)); have n17_ := Aside0.mk ((by rw [hg]; exact Nat.ne_of_lt (blk_lt (g := gb361) (o := .cells #[.slice Ao34 t354.length co34, .slice Ao38 t357.length co38] 42 (0, 0)) (iB BK361)) : gb361 ≠ gb371)); have n18_ := Aside0.mk ((by rw [hg]; exact Nat.ne_of_gt (blk_lt (g := gb361) (o := .cells #[.slice Ao34 t354.length co34, .slice Ao38 t357.length co38] 42 (0, 0)) (iB BK361)) : gb371 ≠ gb361)); clear HO_354000; clear HO_354001; clear HO_362000; clear HO_362001; clear HO366; clear HO369; clear BK336; clear BK353; clear BK361; clear HB; have HO_354000 := n0_; have HO_354001 := n1_; have HO_362000 := n2_; have HO_362001 := n3_; have HO366 := n4_; have HO369 := n5_; have BK336 := n6_; have BK353 := n7_; have BK361 := n8_; have HB := n9_; have BK371 := n10_; have GW371 := n11_; have GE371 := n12_; have NB336_371 := n13_; have NB371_336 := n14_; have NB353_371 := n15_; have NB371_353 := n16_; have NB361_371 := n17_; have NB371_361 := n18_; clear n0_ n1_ n2_ n3_ n4_ n5_ n6_ n7_ n8_ n9_ n10_ n11_ n12_ n13_ n14_ n15_ n16_ n17_ n18_; clear hb hbox hg; obtain ⟨Ao107, co107, eo107⟩ := Kd.R_slice HO366.out; subst eo107; have hnb108 := NB371_336.out; have hnc108 := NB336_371.out; have hnb109 := NB371_353.out; have hnc109 := NB353_371.out; have hnb110 := NB371_361.out; have hnc110 := NB361_371.out; have hcz111_0 := cZ BK371 0 (.slice none 0 0); have hcz111_1 := cZ BK371 1 (.slice none 0 0); have hfz111_0 := blk_frozen BK371.out 0; have hfz111_1 := blk_frozen BK371.out 1; obtain ⟨Ao112, co112, eo112⟩ := Kd.N_slice HO369.out; subst eo112; have hnb113 := NB336_361.out; have hnc113 := NB361_336.out; have hcz114_0 := cZ BK336 0 (.slice A0_0 l0_0.length c0_0); have hcz114_1 := cZ BK336 1 (.slice A0_1 l0_1.length c0_1); have hfz114_0 := blk_frozen BK336.out 0; have hfz114_1 := blk_frozen BK336.out 1) | (go_at_call 19; (with_reducible refine (ancepsref57_Same.calls k3 _ _ t364 _ _ t367 _ _ l0_0 _ _ l0_1 t372 _ ?side1 ?side2 ?side3 ?side4 ?side5 ?side6 ?side7 ?side8 A101.out).mono ?_); (case side1 => refine (Kd.R_reads' (e := 9) (base := w.heap.size) (ok := fun k_ => (True ∧ some k_ ≠ (.slice Ao26 t346.length co26 : Value).ownBlock)) (n := t364.length) (c := co107) ?_).2.2; exact (by (with_reducible repeat (first | apply Kd.R_alloc | apply Kd.R_drewN | apply Kd.R_drew)); exact (Kd.R_mono (Kd.R_far (p := ⟨gb371, 1, none⟩) (Kd.R_far (p := ⟨gb371, 0, none⟩) (Kd.R_types HO366.out BK371.out (by decide)) (fun _ hk => hk.2) (.slice Ao107 t364.length co107)) (fun _ hk => hk.2) (.slice Ao112 t367.length co112)) (fun _ h_ => h_.1)))); (case side2 => exact (Kd.R_reads' HO366.out).2.1); (case side3 => refine (Kd.N_reads' (e := 65) (base := w.heap.size) (ok := fun k_ => ((some k_ ≠ (.slice Ao107 t364.length co107 : Value).ownBlock ∧ (some k_ ≠ (.slice Ao26 t346.length co26 : Value).ownBlock ∧ (some k_ ≠ (.slice Ao29 t349.length co29 : Value).ownBlock ∧ (some k_ ≠ (.slice Ao38 t357.length co38 : Value).ownBlock ∧ (k_ ≠ gb336 ∧ (k_ ≠ gb353 ∧ k_ ≠ gb361)))))) ∧ k_ ≠ gb371)) (n := t367.length) (c := co112) ?_).2.2; exact (by (with_reducible repeat (first | apply Kd.N_alloc | apply Kd.N_drewN | apply Kd.N_drew)); exact (Kd.N_mono (Kd.N_far (p := ⟨gb371, 1, none⟩) (Kd.N_far (p := ⟨gb371, 0, none⟩) (Kd.N_mono HO369.out (fun k_ hk => (⟨hk, hk.2⟩ : _ ∧ k_ ≠ gb371))) (fun _ hk => hk.2) (.slice Ao107 t364.length co107)) (fun _ hk => hk.2) (.slice Ao112 t367.length co112)) (fun _ h_ => h_.1)))); (case side4 => exact (Kd.N_reads' HO369.out).2.1); (case side5 => exact Kd.C_below HR0_0.out (iL HB)); (case side6 => exact HC0_0.out); (case side7 => exact Kd.C_below HR0_1.out (iL HB)); (case side8 => exact HC0_1.out); rintro e w115 ⟨rfl, hb⟩; have n0_ := Aside0.mk (Kd.R_below (by (with_reducible repeat (first | apply Kd.R_alloc | apply Kd.R_drewN | apply Kd.R_drew)); exact (Kd.R_mono (Kd.R_far (p := ⟨gb371, 1, none⟩) (Kd.R_far (p := ⟨gb371, 0, none⟩) (Kd.R_types HO_354000.out BK371.out (by decide)) (fun _ hk => hk.2) (.slice Ao107 t364.length co107)) (fun _ hk => hk.2) (.slice Ao112 t367.length co112)) (fun _ h_ => h_.1))) hb); have n1_ := Aside0.mk (Kd.N_below (by (with_reducible repeat (first | apply Kd.N_alloc | apply Kd.N_drewN | apply Kd.N_drew)); exact (Kd.N_mono (Kd.N_far (p := ⟨gb371, 1, none⟩) (Kd.N_far (p := ⟨gb371, 0, none⟩) (Kd.N_mono HO_354001.out (fun k_ hk => (⟨hk, hk.2⟩ : _ ∧ k_ ≠ gb371))) (fun _ hk => hk.2) (.slice Ao107 t364.length co107)) (fun _ hk => hk.2) (.slice Ao112 t367.length co112)) (fun _ h_ => h_.1))) hb); have n2_ := Aside0.mk (Kd.V_below (by (with_reducible repeat (first | apply Kd.V_alloc | apply Kd.V_drewN | apply Kd.V_drew)); exact (Kd.V_mono (Kd.V_far (p := ⟨gb371, 1, none⟩) (Kd.V_far (p := ⟨gb371, 0, none⟩) (Kd.V_mono HO_362000.out (fun k_ hk => (⟨hk, hk.2⟩ : _ ∧ k_ ≠ gb371))) (fun _ hk => hk.2) (.slice Ao107 t364.length co107)) (fun _ hk => hk.2) (.slice Ao112 t367.length co112)) (fun _ h_ => h_.1))) hb); have n3_ := Aside0.mk (Kd.N_below (by (with_reducible repeat (first | apply Kd.N_alloc | apply Kd.N_drewN | apply Kd.N_drew)); exact (Kd.N_mono (Kd.N_far (p := ⟨gb371, 1, none⟩) (Kd.N_far (p := ⟨gb371, 0, none⟩) (Kd.N_mono HO_362001.out (fun k_ hk => (⟨hk, hk.2⟩ : _ ∧ k_ ≠ gb371))) (fun _ hk => hk.2) (.slice Ao107 t364.length co107)) (fun _ hk => hk.2) (.slice Ao112 t367.length co112)) (fun _ h_ => h_.1))) hb); have n4_ := Aside0.mk (Kd.R_below (by (with_reducible repeat (first | apply Kd.R_alloc | apply Kd.R_drewN | apply Kd.R_drew)); exact (Kd.R_mono (Kd.R_far (p := ⟨gb371, 1, none⟩) (Kd.R_far (p := ⟨gb371, 0, none⟩) (Kd.R_types HO366.out BK371.out (by decide)) (fun _ hk => hk.2) (.slice Ao107 t364.length co107)) (fun _ hk => hk.2) (.slice Ao112 t367.length co112)) (fun _ h_ => h_.1))) hb); have n5_ := Aside0.mk (Kd.N_below (by (with_reducible repeat (first | apply Kd.N_alloc | apply Kd.N_drewN | apply Kd.N_drew)); exact (Kd.N_mono (Kd.N_far (p := ⟨gb371, 1, none⟩) (Kd.N_far (p := ⟨gb371, 0, none⟩) (Kd.N_mono HO369.out (fun k_ hk => (⟨hk, hk.2⟩ : _ ∧ k_ ≠ gb371))) (fun _ hk => hk.2) (.slice Ao107 t364.length co107)) (fun _ hk => hk.2) (.slice Ao112 t367.length co112)) (fun _ h_ => h_.1))) hb); have n6_ := Aside0.mk (blk_below (g := gb336) (o := .cells #[.slice A0_0 l0_0.length c0_0, .slice A0_1 l0_1.length c0_1] 42 (0, 0)) (by (with_reducible repeat (first | apply blk_drewN | apply blk_drew | apply blk_alloc)); refine blk_far ?_ NB336_371.out _; (with_reducible repeat (first | apply blk_drewN | apply blk_drew | apply blk_alloc)); refine blk_far ?_ NB336_371.out _; (with_reducible repeat (first | apply blk_drewN | apply blk_drew | apply blk_alloc)); exact BK336.out) hb); have n7_ := Aside0.mk (blk_below (g := gb353) (o := .cells #[.slice Ao26 t346.length co26, .slice Ao29 t349.length co29] 42 (0, 0)) (by (with_reducible repeat (first | apply blk_drewN | apply blk_drew | apply blk_alloc)); refine blk_far ?_ NB353_371.out _; (with_reducible repeat (first | apply blk_drewN | apply blk_drew | apply blk_alloc)); refine blk_far ?_ NB353_371.out _; (with_reducible repeat (first | apply blk_drewN | apply blk_drew | apply blk_alloc)); exact BK353.out) hb); have n8_ := Aside0.mk (blk_below (g := gb361) (o := .cells #[.slice Ao34 t354.length co34, .slice Ao38 t357.length co38] 42 (0, 0)) (by (with_reducible repeat (first | apply blk_drewN | apply blk_drew | apply blk_alloc)); refine blk_far ?_ NB361_371.out _; (with_reducible repeat (first | apply blk_drewN | apply blk_drew | apply blk_alloc)); refine blk_far ?_ NB361_371.out _; (with_reducible repeat (first | apply blk_drewN | apply blk_drew | apply blk_alloc)); exact BK361.out) hb); have n9_ := Aside0.mk (blk_below (g := gb371) (o := .cells #[.slice Ao107 t364.length co107, .slice Ao112 t367.length co112] 42 (0, 0)) (by (with_reducible repeat (first | apply blk_drewN | apply blk_drew | apply blk_alloc)); refine blk_put (cs := #[.slice Ao107 t364.length co107, .slice none 0 0]) ?_ 1 _ rfl; (with_reducible repeat (first | apply blk_drewN | apply blk_drew | apply blk_alloc)); refine blk_put (cs := #[.slice none 0 0, .slice none 0 0]) ?_ 0 _ rfl; (with_reducible repeat (first | apply blk_drewN | apply blk_drew | apply blk_alloc)); exact BK371.out) hb); have n10_ := jL HB hb; clear HO_354000; clear HO_354001; clear HO_362000; clear HO_362001; clear HO366; clear HO369; clear BK336; clear BK353; clear BK361; clear BK371; clear HB; have HO_354000 := n0_; have HO_354001 := n1_; have HO_362000 := n2_; have HO_362001 := n3_; have HO366 := n4_; have HO369 := n5_; have BK336 := n6_; have BK353 := n7_; have BK361 := n8_; have BK371 := n9_; have HB := n10_; clear n0_ n1_ n2_ n3_ n4_ n5_ n6_ n7_ n8_ n9_ n10_; (try clear hb)))
           go_ret
           exact ⟨eV, iL HB⟩
          ·rw [if_neg c100] at H; cases H
/-- THE ONE PURE STATEMENT of ancepslaw57_ApparatusChoose: yours. -/
def ancepslaw57_ApparatusChoose.Pure : Prop := ∀ (l0_0 : List ByteArray) (l0_1 : List (S65)) (a1 : Int) (a2 : Int), l0_0.length ≤ maxLen → l0_0.length * 16 ≤ 140737488351232 → (∀ x ∈ l0_0, x.size ≤ 140737488351232) → l0_1.length ≤ maxLen → l0_1.length * 40 ≤ 140737488351232 → (∀ x ∈ l0_1, x.f0.size ≤ 140737488351232 ∧ (x.f1.length ≤ maxLen ∧ x.f1.length * 24 ≤ 140737488351232 ∧ ∀ y0 ∈ x.f1, y0.f0.size ≤ 140737488351232 ∧ (Lit.int .i64 y0.f1).wf = true)) → (Lit.int .i64 a1).wf = true → (Lit.int .i64 a2).wf = true → ∃ k, ancepslaw57_ApparatusChoose.f k l0_0 l0_1 a1 a2 = some true
theorem ancepslaw57_ApparatusChoose.walk (P : ancepslaw57_ApparatusChoose.Pure) (A0_0 : Option Addr) (c0_0 : Nat) (l0_0 : List ByteArray) (A0_1 : Option Addr) (c0_1 : Nat) (l0_1 : List (S65)) (a1 : Int) (a2 : Int) (w : World) (hr0_0 : Kd.C Kd.string w A0_0 l0_0.length l0_0) (hc0_0 : l0_0.length ≤ c0_0) (hm0_0 : l0_0.length ≤ maxLen) (y0_0 : l0_0.length * 16 ≤ 140737488351232) (hw0_0 : ∀ x ∈ l0_0, x.size ≤ 140737488351232) (hr0_1 : Kd.C k65 w A0_1 l0_1.length l0_1) (hc0_1 : l0_1.length ≤ c0_1) (hm0_1 : l0_1.length ≤ maxLen) (y0_1 : l0_1.length * 40 ≤ 140737488351232) (hw0_1 : ∀ x ∈ l0_1, x.f0.size ≤ 140737488351232 ∧ (x.f1.length ≤ maxLen ∧ x.f1.length * 24 ≤ 140737488351232 ∧ ∀ y0 ∈ x.f1, y0.f0.size ≤ 140737488351232 ∧ (Lit.int .i64 y0.f1).wf = true)) (w1 : (Lit.int .i64 a1).wf = true) (w2 : (Lit.int .i64 a2).wf = true) :
  Calls Try.prog 7 #[.agg #[.slice A0_0 l0_0.length c0_0, .slice A0_1 l0_1.length c0_1], .int .i64 a1, .int .i64 a2] w fun e w' => e = .returned (.bool true) ∧ Below w.heap.size w w' := by
 obtain ⟨k, h⟩ := P l0_0 l0_1 a1 a2 hm0_0 y0_0 hw0_0 hm0_1 y0_1 hw0_1 w1 w2
 refine (ancepslaw57_ApparatusChoose.calls k _ _ l0_0 _ _ l0_1 a1 a2 true w hr0_0 hc0_0 hr0_1 hc0_1 h).mono ?_
 rintro e w' ⟨rfl, hd⟩
 exact ⟨rfl, hd⟩

end Go.Proofs.Ytmjigfoldeekmaa.X
