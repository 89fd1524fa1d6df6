-- and more
-- shortened
-- thinned
-- halved indents
-- printed by this session's xprint.py: out of the translation, by the kit's print with additions; Lean checks it
import Derived.Test.YtmjigfoldeekmaaXE
import Derived.Test.YtmjigfoldeekmaaWN
import Derived.Test.YtmjigfoldeekmaaWShare
import Derived.Test.YtmjigfoldeekmaaWRepsOne
import Derived.Test.YtmjigfoldeekmaaWGuard
import Derived.Test.YtmjigfoldeekmaaX0
import Derived.Test.YtmjigfoldeekmaaX5
import Derived.Test.YtmjigfoldeekmaaX8
import Derived.Test.YtmjigfoldeekmaaXA
namespace Go.Proofs.Ytmjigfoldeekmaa.X
open Go.RowKit Go.Proofs.YtmjigfoldeekmaaW.PrintWords Go.Proofs.YtmjigfoldeekmaaW.PrintLast Go.Proofs.YtmjigfoldeekmaaW.PrintMore
attribute [local go_sem] max2_int min2_int max_two min_two max_three min_three max_four min_four isSome_setCell binOp_gtr_str binOp_leq_str binOp_geq_str   -- for this text's walks alone
set_option linter.unusedVariables false
set_option linter.unusedSimpArgs false

/-! ### apparatus_witness: function 50 -/
def apparatus_witness.f (k : Nat) (l0_0 : List ByteArray) (l0_1 : List (S65)) (a1 : ByteArray) : Option (Int × Int) := (apparatus_Valid.f k l0_0 l0_1).bind fun t251 => (if t251 = 0 then ((slices_Index_string_string.f k l0_0 a1).bind fun t252 => (if t252 < 0 then (some (0, 4)) else (some (t252, 0)))) else (some (0, t251)))
theorem apparatus_witness.mono : ∀ a0 a1 a2 k, LeO (apparatus_witness.f k a0 a1 a2) (apparatus_witness.f (k + 1) a0 a1 a2) := by
 intro a0 a1 a2 k
 unfold apparatus_witness.f
 repeat' first
   | (with_reducible exact apparatus_Valid.mono _ _ _)
   | (with_reducible exact slices_Index_string_string.mono _ _ _)
   | (with_reducible exact LeO.refl _)
   | (with_reducible exact LeO.none _)
   | (with_reducible refine LeO.ite ?_ ?_)
   | (with_reducible refine LeO.bind ?_ (fun _ => ?_))
   | exact apparatus_Valid.mono _ _ _
   | exact slices_Index_string_string.mono _ _ _
   | exact LeO.none _
   | refine LeO.ite ?_ ?_
   | refine LeO.bind ?_ (fun _ => ?_)
set_option maxHeartbeats 8000000 in
set_option maxRecDepth 100000 in
theorem apparatus_witness.calls (k : Nat) (A0_0 : Option Addr) (c0_0 : Nat) (l0_0 : List ByteArray) (A0_1 : Option Addr) (c0_1 : Nat) (l0_1 : List (S65)) (a1 : ByteArray) (r1 : Int) (r2 : Int) (w : World) (hr0_0 : Kd.C Kd.string w A0_0 l0_0.length l0_0) (hc0_0 : l0_0.length ≤ c0_0) (hr0_1 : Kd.C k65 w A0_1 l0_1.length l0_1) (hc0_1 : l0_1.length ≤ c0_1) (h : apparatus_witness.f k l0_0 l0_1 a1 = some (r1, r2)) :
  Calls Try.prog 50 #[.agg #[.slice A0_0 l0_0.length c0_0, .slice A0_1 l0_1.length c0_1], .string a1] w fun e w' => e = .returned (.tuple #[.int .i64 r1, .int .i64 r2]) ∧ Below w.heap.size w w' := by
 have hu42 := Try.underlying42
 have HR0_0 := Aside0.mk hr0_0
 have HC0_0 := Aside0.mk hc0_0
 clear hr0_0 hc0_0
 have HR0_1 := Aside0.mk hr0_1
 have HC0_1 := Aside0.mk hc0_1
 clear hr0_1 hc0_1
 have HB := Aside0.mk (Below.refl w.heap.size w)
 have H : ((apparatus_Valid.f k l0_0 l0_1).bind fun t251 => (if t251 = 0 then ((slices_Index_string_string.f k l0_0 a1).bind fun t252 => (if t252 < 0 then (some (0, 4)) else (some (t252, 0)))) else (some (0, t251)))) = some (r1, r2) := h
 clear h
 replace H := Option.bind_eq_some_iff.mp H
 obtain ⟨t251, A30, H⟩ := H
 try dsimp only at H
 have A3 := Aside0.mk A30
 clear A30
 by_cases c4 : t251 = 0
 ·rw [if_pos c4] at H
  have c4b0 : (t251 == 0) = true := beq_iff_eq.mpr c4
  have c4b1 : (t251 != 0) = false := bne_eq_false_iff_eq.mpr c4
  clear c4
  replace H := Option.bind_eq_some_iff.mp H
  obtain ⟨t252, A50, H⟩ := H
  try dsimp only at H
  have A5 := Aside0.mk A50
  clear A50
  by_cases c6 : t252 < 0
  ·rw [if_pos c6] at H
   have c6b0 : decide (t252 < 0) = true := decide_eq_true c6
   clear c6
   simp only [Option.some.injEq, Prod.mk.injEq] at H
   obtain ⟨rfl, rfl⟩ := H
   go_enter Try.func50, Try.ntmps50
   go_wp2_with (first | ((with_reducible refine gate_dst (N := 2) rfl ?_); refine bX 2 #[.slice A0_0 l0_0.length c0_0, .slice A0_1 l0_1.length c0_1] 42 ?_; intro gb250 hg w7 hbox hb; have n0_ := jL HB hb; have n1_ := Aside0.mk (hbox); have n2_ := Aside0.mk ((by rw [hg]; exact (below_size (iL HB)) : w.heap.size ≤ gb250)); have n3_ := Aside0.mk ((by rw [hg]; exact (below_size (iL HB)) : w.heap.size ≤ gb250)); clear HB; have HB := n0_; have BK250 := n1_; have GW250 := n2_; have GE250 := n3_; clear n0_ n1_ n2_ n3_; clear hb hbox hg; have hcz8_0 := cZ BK250 0 (.slice A0_0 l0_0.length c0_0); have hcz8_1 := cZ BK250 1 (.slice A0_1 l0_1.length c0_1); have hfz8_0 := blk_frozen BK250.out 0; have hfz8_1 := blk_frozen BK250.out 1) | ((with_reducible refine gate_callee (f := 52) rfl ?_); refine gL_ (some 9) Try.func52 #[.agg #[.slice A0_0 l0_0.length c0_0, .slice A0_1 l0_1.length c0_1]] ?_; (with_reducible refine (apparatus_Valid.calls k _ _ l0_0 _ _ l0_1 t251 _ ?side1 ?side2 ?side3 ?side4 A3.out).mono ?_); (case side1 => exact iC HR0_0 HB); (case side2 => exact HC0_0.out); (case side3 => exact iC HR0_1 HB); (case side4 => exact HC0_1.out); rintro e w9 ⟨rfl, hb⟩; refine ⟨_, rfl, ?_⟩; have n0_ := jB BK250 hb; have n1_ := jL HB hb; clear BK250; clear HB; have BK250 := n0_; have HB := n1_; clear n0_ n1_; (try clear hb); have hcz10_0 := cZ BK250 0 (.slice A0_0 l0_0.length c0_0); have hcz10_1 := cZ BK250 1 (.slice A0_1 l0_1.length c0_1); have hfz10_0 := blk_frozen BK250.out 0; have hfz10_1 := blk_frozen BK250.out 1) | ((with_reducible refine gate_callee (f := 25) rfl ?_); refine gL_ (some 16) Try.func25 #[.slice A0_0 l0_0.length c0_0, .string a1] ?_; (with_reducible refine (slices_Index_string_string.calls k _ _ l0_0 a1 t252 _ ?side1 ?side2 A5.out).mono ?_); (case side1 => exact iC HR0_0 HB); (case side2 => exact HC0_0.out); rintro e w' ⟨rfl, ⟨nd, rfl⟩⟩; refine ⟨_, rfl, ?_⟩))
   go_ret2
   exact ⟨eV, iL HB⟩
  ·rw [if_neg c6] at H
   have c6b0 : decide (t252 < 0) = false := decide_eq_false c6
   clear c6
   simp only [Option.some.injEq, Prod.mk.injEq] at H
   obtain ⟨rfl, rfl⟩ := H
   go_enter Try.func50, Try.ntmps50
   go_wp2_with (first | ((with_reducible refine gate_dst (N := 2) rfl ?_); refine bX 2 #[.slice A0_0 l0_0.length c0_0, .slice A0_1 l0_1.length c0_1] 42 ?_; intro gb250 hg w11 hbox hb; have n0_ := jL HB hb; have n1_ := Aside0.mk (hbox); have n2_ := Aside0.mk ((by rw [hg]; exact (below_size (iL HB)) : w.heap.size ≤ gb250)); have n3_ := Aside0.mk ((by rw [hg]; exact (below_size (iL HB)) : w.heap.size ≤ gb250)); clear HB; have HB := n0_; have BK250 := n1_; have GW250 := n2_; have GE250 := n3_; clear n0_ n1_ n2_ n3_; clear hb hbox hg; have hcz12_0 := cZ BK250 0 (.slice A0_0 l0_0.length c0_0); have hcz12_1 := cZ BK250 1 (.slice A0_1 l0_1.length c0_1); have hfz12_0 := blk_frozen BK250.out 0; have hfz12_1 := blk_frozen BK250.out 1) | ((with_reducible refine gate_callee (f := 52) rfl ?_); refine gL_ (some 9) Try.func52 #[.agg #[.slice A0_0 l0_0.length c0_0, .slice A0_1 l0_1.length c0_1]] ?_; (with_reducible refine (apparatus_Valid.calls k _ _ l0_0 _ _ l0_1 t251 _ ?side1 ?side2 ?side3 ?side4 A3.out).mono ?_); (case side1 => exact iC HR0_0 HB); (case side2 => exact HC0_0.out); (case side3 => exact iC HR0_1 HB); (case side4 => exact HC0_1.out); rintro e w13 ⟨rfl, hb⟩; refine ⟨_, rfl, ?_⟩; have n0_ := jB BK250 hb; have n1_ := jL HB hb; clear BK250; clear HB; have BK250 := n0_; have HB := n1_; clear n0_ n1_; (try clear hb); have hcz14_0 := cZ BK250 0 (.slice A0_0 l0_0.length c0_0); have hcz14_1 := cZ BK250 1 (.slice A0_1 l0_1.length c0_1); have hfz14_0 := blk_frozen BK250.out 0; have hfz14_1 := blk_frozen BK250.out 1) | ((with_reducible refine gate_callee (f := 25) rfl ?_); refine gL_ (some 16) Try.func25 #[.slice A0_0 l0_0.length c0_0, .string a1] ?_; (with_reducible refine (slices_Index_string_string.calls k _ _ l0_0 a1 t252 _ ?side1 ?side2 A5.out).mono ?_); (case side1 => exact iC HR0_0 HB); (case side2 => exact HC0_0.out); rintro e w' ⟨rfl, ⟨nd, rfl⟩⟩; refine ⟨_, rfl, ?_⟩))
   go_ret2
   exact ⟨eV, iL HB⟩
 ·rw [if_neg c4] at H
  have c4b0 : (t251 == 0) = false := beq_eq_false_iff_ne.mpr c4
  have c4b1 : (t251 != 0) = true := bne_iff_ne.mpr c4
  simp only [Option.some.injEq, Prod.mk.injEq] at H
  obtain ⟨rfl, rfl⟩ := H
  go_enter Try.func50, Try.ntmps50
  go_wp2_with (first | ((with_reducible refine gate_dst (N := 2) rfl ?_); refine bX 2 #[.slice A0_0 l0_0.length c0_0, .slice A0_1 l0_1.length c0_1] 42 ?_; intro gb250 hg w15 hbox hb; have n0_ := jL HB hb; have n1_ := Aside0.mk (hbox); have n2_ := Aside0.mk ((by rw [hg]; exact (below_size (iL HB)) : w.heap.size ≤ gb250)); have n3_ := Aside0.mk ((by rw [hg]; exact (below_size (iL HB)) : w.heap.size ≤ gb250)); clear HB; have HB := n0_; have BK250 := n1_; have GW250 := n2_; have GE250 := n3_; clear n0_ n1_ n2_ n3_; clear hb hbox hg; have hcz16_0 := cZ BK250 0 (.slice A0_0 l0_0.length c0_0); have hcz16_1 := cZ BK250 1 (.slice A0_1 l0_1.length c0_1); have hfz16_0 := blk_frozen BK250.out 0; have hfz16_1 := blk_frozen BK250.out 1) | ((with_reducible refine gate_callee (f := 52) rfl ?_); refine gL_ (some 9) Try.func52 #[.agg #[.slice A0_0 l0_0.length c0_0, .slice A0_1 l0_1.length c0_1]] ?_; (with_reducible refine (apparatus_Valid.calls k _ _ l0_0 _ _ l0_1 t251 _ ?side1 ?side2 ?side3 ?side4 A3.out).mono ?_); (case side1 => exact iC HR0_0 HB); (case side2 => exact HC0_0.out); (case side3 => exact iC HR0_1 HB); (case side4 => exact HC0_1.out); rintro e w17 ⟨rfl, hb⟩; refine ⟨_, rfl, ?_⟩; have n0_ := jB BK250 hb; have n1_ := jL HB hb; clear BK250; clear HB; have BK250 := n0_; have HB := n1_; clear n0_ n1_; (try clear hb)))
  go_ret2
  exact ⟨eV, iL HB⟩

/-! ### apparatus_Of: function 20 -/
def apparatus_Of.l0 : Nat → Int → List ByteArray → List (S65) → Int → Int → Option (List ByteArray × Int)
 | 0, _, _, _, _, _ => none
 | k + 1, x6, x8, x21, x22, x23 => if x23 < x22 then (if 0 ≤ x23 then (if x23 < (x21.length : Int) then ((apparatus_has.f k ((rd_T65 x21 x23).f0) ((rd_T65 x21 x23).f1) x6).bind fun t258 => (if x8.length < 8796093022208 then (apparatus_Of.l0 k x6 (x8 ++ [t258]) x21 x22 (wrap64 (x23 + 1))) else (none))) else (none)) else (none)) else (some (x8, 0))
def apparatus_Of.f (k : Nat) (l0_0 : List ByteArray) (l0_1 : List (S65)) (a1 : ByteArray) : Option (List ByteArray × Int) := (apparatus_witness.f k l0_0 l0_1 a1).bind fun bt254 => (if bt254.2 = 0 then (apparatus_Of.l0 k bt254.1 ([] : List ByteArray) l0_1 (l0_1.length : Int) 0) else (some (([] : List ByteArray), bt254.2)))
theorem apparatus_Of.mono_l : ∀ k, (∀ y0 y1 y2 y3 y4, LeO (apparatus_Of.l0 k y0 y1 y2 y3 y4) (apparatus_Of.l0 (k + 1) y0 y1 y2 y3 y4))
 | 0 => fun _ _ _ _ _ r h => by simp [apparatus_Of.l0] at h
 | k + 1 => by
  have ih0 := apparatus_Of.mono_l k
  ·intro y0 y1 y2 y3 y4
   unfold apparatus_Of.l0
   repeat' first
   | (with_reducible exact ih0 _ _ _ _ _)
   | (with_reducible exact apparatus_has.mono _ _ _ _)
   | (with_reducible exact apparatus_witness.mono _ _ _ _)
   | (with_reducible exact LeO.refl _)
   | (with_reducible exact LeO.none _)
   | (with_reducible refine LeO.ite ?_ ?_)
   | (with_reducible refine LeO.bind ?_ (fun _ => ?_))
   | exact ih0 _ _ _ _ _
   | exact apparatus_has.mono _ _ _ _
   | exact apparatus_witness.mono _ _ _ _
   | exact LeO.none _
   | refine LeO.ite ?_ ?_
   | refine LeO.bind ?_ (fun _ => ?_)
theorem apparatus_Of.mono : ∀ a0 a1 a2 k, LeO (apparatus_Of.f k a0 a1 a2) (apparatus_Of.f (k + 1) a0 a1 a2) := by
 intro a0 a1 a2 k
 have ih0 := apparatus_Of.mono_l k
 unfold apparatus_Of.f
 repeat' first
   | (with_reducible exact ih0 _ _ _ _ _)
   | (with_reducible exact apparatus_has.mono _ _ _ _)
   | (with_reducible exact apparatus_witness.mono _ _ _ _)
   | (with_reducible exact LeO.refl _)
   | (with_reducible exact LeO.none _)
   | (with_reducible refine LeO.ite ?_ ?_)
   | (with_reducible refine LeO.bind ?_ (fun _ => ?_))
   | exact ih0 _ _ _ _ _
   | exact apparatus_has.mono _ _ _ _
   | exact apparatus_witness.mono _ _ _ _
   | exact LeO.none _
   | refine LeO.ite ?_ ?_
   | refine LeO.bind ?_ (fun _ => ?_)
set_option maxHeartbeats 8000000 in
set_option maxRecDepth 100000 in
theorem apparatus_Of.calls (k : Nat) (A0_0 : Option Addr) (c0_0 : Nat) (l0_0 : List ByteArray) (A0_1 : Option Addr) (c0_1 : Nat) (l0_1 : List (S65)) (a1 : ByteArray) (r1 : List ByteArray) (r2 : Int) (w : World) (hr0_0 : Kd.C Kd.string w A0_0 l0_0.length l0_0) (hc0_0 : l0_0.length ≤ c0_0) (hr0_1 : Kd.C k65 w A0_1 l0_1.length l0_1) (hc0_1 : l0_1.length ≤ c0_1) (h : apparatus_Of.f k l0_0 l0_1 a1 = some (r1, r2)) :
  Calls Try.prog 20 #[.agg #[.slice A0_0 l0_0.length c0_0, .slice A0_1 l0_1.length c0_1], .string a1] w fun e w' => ∃ v0_ : Value, e = .returned (.tuple #[v0_, .int .i64 r2]) ∧ Kd.R Kd.string 9 w' w.heap.size (fun _ => True) v0_ r1 ∧ Below w.heap.size w w' := by
 have hu42 := Try.underlying42
 have hu65 := Try.underlying65
 have HR0_0 := Aside0.mk hr0_0
 have HC0_0 := Aside0.mk hc0_0
 clear hr0_0 hc0_0
 have HR0_1 := Aside0.mk hr0_1
 have HC0_1 := Aside0.mk hc0_1
 clear hr0_1 hc0_1
 have HB := Aside0.mk (Below.refl w.heap.size w)
 have H : ((apparatus_witness.f k l0_0 l0_1 a1).bind fun bt254 => (if bt254.2 = 0 then (apparatus_Of.l0 k bt254.1 ([] : List ByteArray) l0_1 (l0_1.length : Int) 0) else (some (([] : List ByteArray), bt254.2)))) = some (r1, r2) := h
 clear h
 replace H := Option.bind_eq_some_iff.mp H
 obtain ⟨⟨t254, t255⟩, A30, H⟩ := H
 try dsimp only at H
 have A3 := Aside0.mk A30
 clear A30
 by_cases c4 : t255 = 0
 ·rw [if_pos c4] at H
  have c4b0 : (t255 == 0) = true := beq_iff_eq.mpr c4
  have c4b1 : (t255 != 0) = false := bne_eq_false_iff_eq.mpr c4
  clear c4
  have H' := Aside0.mk H
  clear H
  go_enter Try.func20, Try.ntmps20
  go_wp2_with (first | ((with_reducible refine gate_dst (N := 2) rfl ?_); refine bX 2 #[.slice A0_0 l0_0.length c0_0, .slice A0_1 l0_1.length c0_1] 42 ?_; intro gb253 hg w5 hbox hb; have n0_ := jL HB hb; have n1_ := Aside0.mk (hbox); have n2_ := Aside0.mk ((by rw [hg]; exact (below_size (iL HB)) : w.heap.size ≤ gb253)); have n3_ := Aside0.mk ((by rw [hg]; exact (below_size (iL HB)) : w.heap.size ≤ gb253)); clear HB; have HB := n0_; have BK253 := n1_; have GW253 := n2_; have GE253 := n3_; clear n0_ n1_ n2_ n3_; clear hb hbox hg; have hcz6_0 := cZ BK253 0 (.slice A0_0 l0_0.length c0_0); have hcz6_1 := cZ BK253 1 (.slice A0_1 l0_1.length c0_1); have hfz6_0 := blk_frozen BK253.out 0; have hfz6_1 := blk_frozen BK253.out 1) | ((with_reducible refine gate_callee (f := 50) rfl ?_); refine gL_ (some 14) Try.func50 #[.agg #[.slice A0_0 l0_0.length c0_0, .slice A0_1 l0_1.length c0_1], .string a1] ?_; (with_reducible refine (apparatus_witness.calls k _ _ l0_0 _ _ l0_1 a1 t254 t255 _ ?side1 ?side2 ?side3 ?side4 A3.out).mono ?_); (case side1 => exact iC HR0_0 HB); (case side2 => exact HC0_0.out); (case side3 => exact iC HR0_1 HB); (case side4 => exact HC0_1.out); rintro e w7 ⟨rfl, hb⟩; refine ⟨_, rfl, ?_⟩; have n0_ := jB BK253 hb; have n1_ := jL HB hb; clear BK253; clear HB; have BK253 := n0_; have HB := n1_; clear n0_ n1_; (try clear hb); have hcz8_0 := cZ BK253 0 (.slice A0_0 l0_0.length c0_0); have hcz8_1 := cZ BK253 1 (.slice A0_1 l0_1.length c0_1); have hfz8_0 := blk_frozen BK253.out 0; have hfz8_1 := blk_frozen BK253.out 1))
  go_loopg [8, 23] k (fun kq v8 v23 w' => ∃ (x8_1 : List ByteArray) (x23_1 : Int), v23 = .int .i64 x23_1 ∧ Aside0 (apparatus_Of.l0 kq t254 x8_1 l0_1 (l0_1.length : Int) x23_1 = some (r1, r2)) ∧ Aside0 (kq ≤ k) ∧ Aside0 (Kd.R Kd.string 9 w' w.heap.size (fun _ => True) v8 x8_1) ∧ Aside0 (w'.heap[gb253]? = some (.cells #[(.slice A0_0 l0_0.length c0_0), (.slice A0_1 l0_1.length c0_1)] 42 (0, 0))) ∧ Aside0 (Below w.heap.size w w'))
  case atStart => exact ⟨(([] : List ByteArray)), (0), eV, H', ⟨Nat.le_refl _⟩, ⟨by first | exact Kd.R_nil _ _ _ _ _ | exact Kd.N_nil _ _ _ _ _ | exact Kd.V_nil _ _ _ _ _ | exact Kd.Q_nil _ _ _ _ _ | exact Kd.S_nil _ _ _ _ _⟩, ⟨iB BK253⟩, ⟨iL HB⟩⟩
  case round =>
   clear H'
   (try clear c2); (try clear p2); (try clear c4); (try clear c4b0); (try clear c4b1); (try clear c5); (try clear hcz6_0); (try clear hcz6_1); (try clear hcz8_0); (try clear hcz8_1); (try clear hfz6_0); (try clear hfz6_1); (try clear hfz8_0); (try clear hfz8_1)
   obtain ⟨x8_1, x23_1, rfl, HA, HK1, HO_8, BK253, HB⟩ := hrel
   cases gk with
   | zero => exact absurd HA.out (by simp [apparatus_Of.l0])
   | succ k1 =>
    have H := HA.out
    clear HA
    simp only [apparatus_Of.l0] at H
    by_cases c9 : x23_1 < (l0_1.length : Int)
    ·rw [if_pos c9] at H
     have c9b0 : decide (x23_1 < (l0_1.length : Int)) = true := decide_eq_true c9
     clear c9
     by_cases c10 : 0 ≤ x23_1
     ·rw [if_pos c10] at H
      have c10b0 : decide (0 ≤ x23_1) = true := decide_eq_true c10
      clear c10
      by_cases c11 : x23_1 < (l0_1.length : Int)
      ·rw [if_pos c11] at H
       have c11b0 : decide (x23_1 < (l0_1.length : Int)) = true := decide_eq_true c11
       clear c11
       replace H := Option.bind_eq_some_iff.mp H
       obtain ⟨t258, A120, H⟩ := H
       try dsimp only at H
       have A12 := Aside0.mk A120
       clear A120
       by_cases c13 : x8_1.length < 8796093022208
       ·rw [if_pos c13] at H
        have LMc13 := Aside0.mk c13
        clear c13
        obtain ⟨y259, hy259⟩ : ∃ y_ : List ByteArray, y_ = (x8_1 ++ [t258]) := ⟨_, rfl⟩
        replace H : (apparatus_Of.l0 k1 t254 y259 l0_1 (l0_1.length : Int) (wrap64 (x23_1 + 1))) = some (r1, r2) := by first | (rw [hy259]; with_reducible exact H) | (have H2_ := (Option.bind_some _ _).symm.trans H; rw [hy259]; with_reducible exact H2_) | (have H2_ := (Option.bind_some _ _).symm.trans H; with_reducible exact H2_) | with_reducible exact H | (rw [hy259]; exact H) | exact H
        have Ny259 := Aside0.mk hy259
        clear hy259
        have H' := Aside0.mk H
        clear H
        have p256 := oD (0 ≤ (x23_1 : Int))
        have q256 := oD (x23_1 < (l0_1.length : Int))
        obtain ⟨ad256, A256_1, c256_1, e256, hx256_0, hx256_1, hl256_1, hi256_1⟩ := at_T65 HR0_1.out x23_1 p256 q256
        cases e256
        replace hx256_0 := (HB.out.cell (World.block_lt_of_cell? w _ hx256_0)).trans hx256_0
        replace hx256_1 := (HB.out.cell (World.block_lt_of_cell? w _ hx256_1)).trans hx256_1
        have HR256_1 := Aside0.mk hi256_1
        have HC256_1 := Aside0.mk hl256_1
        clear hi256_1 hl256_1
        replace p256 := eq_true p256
        replace q256 := eq_true q256
        go_wp2_with (first | ((with_reducible refine gate_dst (N := 10) rfl ?_); refine bX 10 #[.string (⟨#[]⟩ : ByteArray), .slice none 0 0] 65 ?_; intro gb257 hg w14 hbox hb; have n0_ := jR HO_8 hb; have n1_ := jB BK253 hb; have n2_ := jL HB hb; have n3_ := Aside0.mk (hbox); have n4_ := Aside0.mk ((by rw [hg]; exact (below_size (iL HB)) : w.heap.size ≤ gb257)); have n5_ := Aside0.mk ((by rw [hg]; exact (below_size (iL HB)) : w.heap.size ≤ gb257)); have n6_ := Aside0.mk ((by rw [hg]; exact Nat.ne_of_lt (blk_lt (g := gb253) (o := .cells #[.slice A0_0 l0_0.length c0_0, .slice (some ad256) l0_1.length c0_1] 42 (0, 0)) (iB BK253)) : gb253 ≠ gb257)); have n7_ := Aside0.mk ((by rw [hg]; exact Nat.ne_of_gt (blk_lt (g := gb253) (o := .cells #[.slice A0_0 l0_0.length c0_0, .slice (some ad256) l0_1.length c0_1] 42 (0, 0)) (iB BK253)) : gb257 ≠ gb253)); clear HO_8; clear BK253; clear HB; have HO_8 := n0_; have BK253 := n1_; have HB := n2_; have BK257 := n3_; have GW257 := n4_; have GE257 := n5_; have NB253_257 := n6_; have NB257_253 := n7_; clear n0_ n1_ n2_ n3_ n4_ n5_ n6_ n7_; clear hb hbox hg; have hnb15 := NB257_253.out; have hnc15 := NB253_257.out; have hcz16_0 := cZ BK257 0 (.string (⟨#[]⟩ : ByteArray)); have hcz16_1 := cZ BK257 1 (.slice none 0 0); have hfz16_0 := blk_frozen BK257.out 0; have hfz16_1 := blk_frozen BK257.out 1) | ((with_reducible refine gate_callee (f := 51) rfl ?_); refine gL_ (some 30) Try.func51 #[.agg #[.string ((rd_T65 l0_1 x23_1).f0), .slice A256_1 ((rd_T65 l0_1 x23_1).f1).length c256_1], .int .i64 t254] ?_; (with_reducible refine (apparatus_has.calls k1 ((rd_T65 l0_1 x23_1).f0) _ _ ((rd_T65 l0_1 x23_1).f1) t254 t258 _ ?side1 ?side2 A12.out).mono ?_); (case side1 => exact Kd.C_below HR256_1.out (iL HB)); (case side2 => exact HC256_1.out); rintro e w17 ⟨rfl, hb⟩; refine ⟨_, rfl, ?_⟩; have n0_ := Aside0.mk (Kd.R_below (by (with_reducible repeat (first | apply Kd.R_alloc | apply Kd.R_drewN | apply Kd.R_drew)); exact (Kd.R_mono (Kd.R_far (p := ⟨gb257, 1, none⟩) (Kd.R_far (p := ⟨gb257, 0, none⟩) (Kd.R_types HO_8.out BK257.out (by decide)) (fun _ hk => hk.2) (.string ((rd_T65 l0_1 x23_1).f0))) (fun _ hk => hk.2) (.slice A256_1 ((rd_T65 l0_1 x23_1).f1).length c256_1)) (fun _ h_ => h_.1))) hb); have n1_ := Aside0.mk (blk_below (g := gb253) (o := .cells #[.slice A0_0 l0_0.length c0_0, .slice (some ad256) l0_1.length c0_1] 42 (0, 0)) (by (with_reducible repeat (first | apply blk_drewN | apply blk_drew | apply blk_alloc)); refine blk_far ?_ NB253_257.out _; (with_reducible repeat (first | apply blk_drewN | apply blk_drew | apply blk_alloc)); refine blk_far ?_ NB253_257.out _; (with_reducible repeat (first | apply blk_drewN | apply blk_drew | apply blk_alloc)); exact BK253.out) hb); have n2_ := Aside0.mk (blk_below (g := gb257) (o := .cells #[.string ((rd_T65 l0_1 x23_1).f0), .slice A256_1 ((rd_T65 l0_1 x23_1).f1).length c256_1] 65 (0, 0)) (by (with_reducible repeat (first | apply blk_drewN | apply blk_drew | apply blk_alloc)); refine blk_put (cs := #[.string ((rd_T65 l0_1 x23_1).f0), .slice none 0 0]) ?_ 1 _ rfl; (with_reducible repeat (first | apply blk_drewN | apply blk_drew | apply blk_alloc)); refine blk_put (cs := #[.string (⟨#[]⟩ : ByteArray), .slice none 0 0]) ?_ 0 _ rfl; (with_reducible repeat (first | apply blk_drewN | apply blk_drew | apply blk_alloc)); exact BK257.out) hb); have n3_ := jL HB hb; clear HO_8; clear BK253; clear BK257; clear HB; have HO_8 := n0_; have BK253 := n1_; have BK257 := n2_; have HB := n3_; clear n0_ n1_ n2_ n3_; (try clear hb)) | ((with_reducible refine gate_builtin (b := .append) (xs := #[.tmp 27, .tmp 31]) rfl ?_); at_builtin; refine Kd.R_append Kd.string (w0 := w) w.heap.size rfl (.tmp 27) (.tmp 31) 34 9 (.string ⟨#[]⟩) 16 rfl Try.underlying34 info9 rfl (by decide) (by omega) u8 x8_1 t258 [.string t258] (fun _ => True) (fun _ => False) rfl rfl ?aP (fun _ hk => hk.elim) ?aF ?aO ?aB ?aS ?aL ?_; (case aP => exact rfl); (case aB => exact (iL HB)); (case aF => exact (fun _ _ => trivial)); (case aO => exact (iR HO_8)); (case aS => exact (below_size (iL HB))); (case aL => have := LMc13.out; omega); intro v260 w18 ho hb hg hat; rw [← Ny259.out] at ho; have n0_ := Aside0.mk (blk_grown (g := gb253) (o := .cells #[.slice A0_0 l0_0.length c0_0, .slice (some ad256) l0_1.length c0_1] 42 (0, 0)) (iB BK253) hg (Kd.R_ne HO_8.out BK253.out (by decide))); have n1_ := Aside0.mk (blk_grown (g := gb257) (o := .cells #[.string ((rd_T65 l0_1 x23_1).f0), .slice A256_1 ((rd_T65 l0_1 x23_1).f1).length c256_1] 65 (0, 0)) (iB BK257) hg (Kd.R_ne HO_8.out BK257.out (by decide))); have n2_ := Aside0.mk (hb); have n3_ := Aside0.mk (ho); clear BK253; clear BK257; clear HB; clear HO_8; have BK253 := n0_; have BK257 := n1_; have HB := n2_; have HO261 := n3_; clear n0_ n1_ n2_ n3_; clear ho hb hg hat))
        go_roundg k1
        case measure => have := HK1.out; omega
        case rel => exact ⟨(y259), (wrap64 (x23_1 + 1)), eV, H', ⟨by have := HK1.out; omega⟩, ⟨iR HO261⟩, ⟨iB BK253⟩, ⟨iL HB⟩⟩
       ·rw [if_neg c13] at H
        exact absurd H (by simp)
      ·rw [if_neg c11] at H
       exact absurd H (by simp)
     ·rw [if_neg c10] at H
      exact absurd H (by simp)
    ·rw [if_neg c9] at H
     have c9b0 : decide (x23_1 < (l0_1.length : Int)) = false := decide_eq_false c9
     clear c9
     simp only [Option.some.injEq, Prod.mk.injEq] at H
     obtain ⟨rfl, rfl⟩ := H
     go_wp2
     go_ret2
     exact ⟨_, eV, by (with_reducible repeat (first | apply Kd.R_alloc | apply Kd.R_drewN | apply Kd.R_drew)); exact HO_8.out, iL HB⟩
 ·rw [if_neg c4] at H
  have c4b0 : (t255 == 0) = false := beq_eq_false_iff_ne.mpr c4
  have c4b1 : (t255 != 0) = true := bne_iff_ne.mpr c4
  simp only [Option.some.injEq, Prod.mk.injEq] at H
  obtain ⟨rfl, rfl⟩ := H
  go_enter Try.func20, Try.ntmps20
  go_wp2_with (first | ((with_reducible refine gate_dst (N := 2) rfl ?_); refine bX 2 #[.slice A0_0 l0_0.length c0_0, .slice A0_1 l0_1.length c0_1] 42 ?_; intro gb253 hg w19 hbox hb; have n0_ := jL HB hb; have n1_ := Aside0.mk (hbox); have n2_ := Aside0.mk ((by rw [hg]; exact (below_size (iL HB)) : w.heap.size ≤ gb253)); have n3_ := Aside0.mk ((by rw [hg]; exact (below_size (iL HB)) : w.heap.size ≤ gb253)); clear HB; have HB := n0_; have BK253 := n1_; have GW253 := n2_; have GE253 := n3_; clear n0_ n1_ n2_ n3_; clear hb hbox hg; have hcz20_0 := cZ BK253 0 (.slice A0_0 l0_0.length c0_0); have hcz20_1 := cZ BK253 1 (.slice A0_1 l0_1.length c0_1); have hfz20_0 := blk_frozen BK253.out 0; have hfz20_1 := blk_frozen BK253.out 1) | ((with_reducible refine gate_callee (f := 50) rfl ?_); refine gL_ (some 14) Try.func50 #[.agg #[.slice A0_0 l0_0.length c0_0, .slice A0_1 l0_1.length c0_1], .string a1] ?_; (with_reducible refine (apparatus_witness.calls k _ _ l0_0 _ _ l0_1 a1 t254 t255 _ ?side1 ?side2 ?side3 ?side4 A3.out).mono ?_); (case side1 => exact iC HR0_0 HB); (case side2 => exact HC0_0.out); (case side3 => exact iC HR0_1 HB); (case side4 => exact HC0_1.out); rintro e w21 ⟨rfl, hb⟩; refine ⟨_, rfl, ?_⟩; have n0_ := jB BK253 hb; have n1_ := jL HB hb; clear BK253; clear HB; have BK253 := n0_; have HB := n1_; clear n0_ n1_; (try clear hb)))
  go_ret2
  exact ⟨_, eV, by first | exact Kd.R_nil _ _ _ _ _ | exact Kd.N_nil _ _ _ _ _ | exact Kd.V_nil _ _ _ _ _ | exact Kd.Q_nil _ _ _ _ _ | exact Kd.S_nil _ _ _ _ _, iL HB⟩

/-! ### ancepsref01_Sum: function 15 -/
def ancepsref01_Sum.l0 : Nat → List ByteArray → Int → Int → Int → Option (Int)
 | 0, _, _, _, _ => none
 | k + 1, x0, x1, x5, x6 => if x6 < (x0.length : Int) then (if x5 ≤ x1 then (if 0 ≤ x6 then (ancepsref01_Sum.l0 k x0 x1 (wrap64 ((wrap64 (x5 + 1)) + ((rdOf ByteArray.empty x0 x6).size : Int))) (wrap64 (x6 + 1))) else (none)) else (some x5)) else (some x5)
def ancepsref01_Sum.f (k : Nat) (l0 : List ByteArray) (a1 : Int) : Option (Int) := ancepsref01_Sum.l0 k l0 a1 0 0
theorem ancepsref01_Sum.mono_l : ∀ k, (∀ y0 y1 y2 y3, LeO (ancepsref01_Sum.l0 k y0 y1 y2 y3) (ancepsref01_Sum.l0 (k + 1) y0 y1 y2 y3))
 | 0 => fun _ _ _ _ r h => by simp [ancepsref01_Sum.l0] at h
 | k + 1 => by
  have ih0 := ancepsref01_Sum.mono_l k
  ·intro y0 y1 y2 y3
   unfold ancepsref01_Sum.l0
   repeat' first
   | (with_reducible exact ih0 _ _ _ _)
   | (with_reducible exact LeO.refl _)
   | (with_reducible exact LeO.none _)
   | (with_reducible refine LeO.ite ?_ ?_)
   | (with_reducible refine LeO.bind ?_ (fun _ => ?_))
   | exact ih0 _ _ _ _
   | exact LeO.none _
   | refine LeO.ite ?_ ?_
   | refine LeO.bind ?_ (fun _ => ?_)
theorem ancepsref01_Sum.mono : ∀ a0 a1 k, LeO (ancepsref01_Sum.f k a0 a1) (ancepsref01_Sum.f (k + 1) a0 a1) := by
 intro a0 a1 k
 have ih0 := ancepsref01_Sum.mono_l k
 unfold ancepsref01_Sum.f
 repeat' first
   | (with_reducible exact ih0 _ _ _ _)
   | (with_reducible exact LeO.refl _)
   | (with_reducible exact LeO.none _)
   | (with_reducible refine LeO.ite ?_ ?_)
   | (with_reducible refine LeO.bind ?_ (fun _ => ?_))
   | exact ih0 _ _ _ _
   | exact LeO.none _
   | refine LeO.ite ?_ ?_
   | refine LeO.bind ?_ (fun _ => ?_)
set_option maxHeartbeats 8000000 in
set_option maxRecDepth 100000 in
theorem ancepsref01_Sum.calls (k : Nat) (A0 : Option Addr) (c0 : Nat) (l0 : List ByteArray) (a1 : Int) (r : Int) (w : World) (hr0 : Kd.C Kd.string w A0 l0.length l0) (hc0 : l0.length ≤ c0) (h : ancepsref01_Sum.f k l0 a1 = some r) :
  Calls Try.prog 15 #[.slice A0 l0.length c0, .int .i64 a1] w fun e w' => e = .returned (.int .i64 r) ∧ Drawn0 w w' := by
 have HR0 := Aside0.mk hr0
 have HC0 := Aside0.mk hc0
 clear hr0 hc0
 have H : (ancepsref01_Sum.l0 k l0 a1 0 0) = some r := h
 clear h
 have H' := Aside0.mk H
 clear H
 go_enter Try.func15, Try.ntmps15
 go_wp2
 go_loopg [5, 6] k (fun kq v5 v6 w' => ∃ (x5_1 : Int) (x6_1 : Int), v5 = .int .i64 x5_1 ∧ v6 = .int .i64 x6_1 ∧ Aside0 (ancepsref01_Sum.l0 kq l0 a1 x5_1 x6_1 = some r) ∧ Aside0 (kq ≤ k) ∧ Drawn0 w w')
 case atStart => exact ⟨(0), (0), eV, eV, H', ⟨Nat.le_refl _⟩, dR⟩
 case round =>
  clear H'
  (try clear c1); (try clear p2)
  obtain ⟨x5_1, x6_1, rfl, rfl, HA, HK1, ⟨m1, rfl⟩⟩ := hrel
  cases gk with
  | zero => exact absurd HA.out (by simp [ancepsref01_Sum.l0])
  | succ k1 =>
   have H := HA.out
   clear HA
   simp only [ancepsref01_Sum.l0] at H
   by_cases c3 : x6_1 < (l0.length : Int)
   ·rw [if_pos c3] at H
    have c3b0 : decide (x6_1 < (l0.length : Int)) = true := decide_eq_true c3
    clear c3
    by_cases c4 : x5_1 ≤ a1
    ·rw [if_pos c4] at H
     have c4b0 : decide (x5_1 ≤ a1) = true := decide_eq_true c4
     clear c4
     by_cases c5 : 0 ≤ x6_1
     ·rw [if_pos c5] at H
      have c5b0 : decide (0 ≤ x6_1) = true := decide_eq_true c5
      clear c5
      have H' := Aside0.mk H
      clear H
      have p262 := oD (0 ≤ (x6_1 : Int))
      have q262 := oD (x6_1 < (l0.length : Int))
      obtain ⟨ad262, e262, hx262_0⟩ := Kd.at_string HR0.out x6_1 p262 q262
      cases e262
      replace p262 := eq_true p262
      replace q262 := eq_true q262
      go_wp2
      go_roundg k1
      case measure => have := HK1.out; omega
      case rel => exact ⟨(wrap64 ((wrap64 (x5_1 + 1)) + ((rdOf ByteArray.empty l0 x6_1).size : Int))), (wrap64 (x6_1 + 1)), eV, eV, H', ⟨by have := HK1.out; omega⟩, dR⟩
     ·rw [if_neg c5] at H
      exact absurd H (by simp)
    ·rw [if_neg c4] at H
     have c4b0 : decide (x5_1 ≤ a1) = false := decide_eq_false c4
     clear c4
     obtain rfl := Option.some.inj H
     go_wp2
     go_ret
     exact ⟨eV, dR⟩
   ·rw [if_neg c3] at H
    have c3b0 : decide (x6_1 < (l0.length : Int)) = false := decide_eq_false c3
    clear c3
    obtain rfl := Option.some.inj H
    go_wp2
    go_ret
    exact ⟨eV, dR⟩

/-! ### ancepsref57_Few: function 22 -/
mutual
def ancepsref57_Few.l0 : Nat → Int → Int → List ByteArray → List (S65) → Option (Bool)
 | 0, _, _, _, _ => none
 | k + 1, x3, x4, x264000, x264001 => if x4 < (x264001.length : Int) then (ancepsref57_Few.j1 k x3 x4 (decide (x3 ≤ 4000)) x264000 x264001) else (ancepsref57_Few.j1 k x3 x4 false x264000 x264001)
def ancepsref57_Few.j1 : Nat → Int → Int → Bool → List ByteArray → List (S65) → Option (Bool)
 | 0, _, _, _, _, _ => none
 | k + 1, x3, x4, x17, x264000, x264001 => if x17 = true then (if 0 ≤ x4 then (if x4 < (x264001.length : Int) then (ancepsref57_Few.l1 k (wrap64 ((wrap64 (x3 + 1)) + (((rd_T65 x264001 x4).f0).size : Int))) x4 0 x264000 x264001) else (none)) else (none)) else (if (x264000.length : Int) ≤ 12 then (if (x264001.length : Int) ≤ 210 then (some (decide (x3 ≤ 4000))) else (some false)) else (some false))
def ancepsref57_Few.l1 : Nat → Int → Int → Int → List ByteArray → List (S65) → Option (Bool)
 | 0, _, _, _, _, _ => none
 | k + 1, x3, x4, x5, x264000, x264001 => if 0 ≤ x4 then (if x4 < (x264001.length : Int) then (if x5 < (((rd_T65 x264001 x4).f1).length : Int) then (if x3 ≤ 4000 then (if 0 ≤ x5 then (ancepsref57_Few.l1 k (wrap64 ((wrap64 (x3 + 1)) + (((rd_T67 ((rd_T65 x264001 x4).f1) x5).f0).size : Int))) x4 (wrap64 (x5 + 1)) x264000 x264001) else (none)) else (ancepsref57_Few.l0 k x3 (wrap64 (x4 + 1)) x264000 x264001)) else (ancepsref57_Few.l0 k x3 (wrap64 (x4 + 1)) x264000 x264001)) else (none)) else (none)
end
def ancepsref57_Few.f (k : Nat) (l0_0 : List ByteArray) (l0_1 : List (S65)) : Option (Bool) := (ancepsref01_Sum.f k l0_0 4000).bind fun t264 => (ancepsref57_Few.l0 k t264 0 l0_0 l0_1)
theorem ancepsref57_Few.mono_l : ∀ k, (∀ y0 y1 y2 y3, LeO (ancepsref57_Few.l0 k y0 y1 y2 y3) (ancepsref57_Few.l0 (k + 1) y0 y1 y2 y3)) ∧ (∀ y0 y1 y2 y3 y4, LeO (ancepsref57_Few.j1 k y0 y1 y2 y3 y4) (ancepsref57_Few.j1 (k + 1) y0 y1 y2 y3 y4)) ∧ (∀ y0 y1 y2 y3 y4, LeO (ancepsref57_Few.l1 k y0 y1 y2 y3 y4) (ancepsref57_Few.l1 (k + 1) y0 y1 y2 y3 y4))
 | 0 => ⟨fun _ _ _ _ r h => by simp [ancepsref57_Few.l0] at h, fun _ _ _ _ _ r h => by simp [ancepsref57_Few.j1] at h, fun _ _ _ _ _ r h => by simp [ancepsref57_Few.l1] at h⟩
 | k + 1 => by
  obtain ⟨ih0, ih1, ih2⟩ := ancepsref57_Few.mono_l k
  refine ⟨?_, ?_, ?_⟩
  ·intro y0 y1 y2 y3
   unfold ancepsref57_Few.l0
   repeat' first
   | (with_reducible exact ih0 _ _ _ _)
   | (with_reducible exact ih1 _ _ _ _ _)
   | (with_reducible exact ih2 _ _ _ _ _)
   | (with_reducible exact ancepsref01_Sum.mono _ _ _)
   | (with_reducible exact LeO.refl _)
   | (with_reducible exact LeO.none _)
   | (with_reducible refine LeO.ite ?_ ?_)
   | (with_reducible refine LeO.bind ?_ (fun _ => ?_))
   | exact ih0 _ _ _ _
   | exact ih1 _ _ _ _ _
   | exact ih2 _ _ _ _ _
   | exact ancepsref01_Sum.mono _ _ _
   | exact LeO.none _
   | refine LeO.ite ?_ ?_
   | refine LeO.bind ?_ (fun _ => ?_)
  ·intro y0 y1 y2 y3 y4
   unfold ancepsref57_Few.j1
   repeat' first
   | (with_reducible exact ih0 _ _ _ _)
   | (with_reducible exact ih1 _ _ _ _ _)
   | (with_reducible exact ih2 _ _ _ _ _)
   | (with_reducible exact ancepsref01_Sum.mono _ _ _)
   | (with_reducible exact LeO.refl _)
   | (with_reducible exact LeO.none _)
   | (with_reducible refine LeO.ite ?_ ?_)
   | (with_reducible refine LeO.bind ?_ (fun _ => ?_))
   | exact ih0 _ _ _ _
   | exact ih1 _ _ _ _ _
   | exact ih2 _ _ _ _ _
   | exact ancepsref01_Sum.mono _ _ _
   | exact LeO.none _
   | refine LeO.ite ?_ ?_
   | refine LeO.bind ?_ (fun _ => ?_)
  ·intro y0 y1 y2 y3 y4
   unfold ancepsref57_Few.l1
   repeat' first
   | (with_reducible exact ih0 _ _ _ _)
   | (with_reducible exact ih1 _ _ _ _ _)
   | (with_reducible exact ih2 _ _ _ _ _)
   | (with_reducible exact ancepsref01_Sum.mono _ _ _)
   | (with_reducible exact LeO.refl _)
   | (with_reducible exact LeO.none _)
   | (with_reducible refine LeO.ite ?_ ?_)
   | (with_reducible refine LeO.bind ?_ (fun _ => ?_))
   | exact ih0 _ _ _ _
   | exact ih1 _ _ _ _ _
   | exact ih2 _ _ _ _ _
   | exact ancepsref01_Sum.mono _ _ _
   | exact LeO.none _
   | refine LeO.ite ?_ ?_
   | refine LeO.bind ?_ (fun _ => ?_)
theorem ancepsref57_Few.mono : ∀ a0 a1 k, LeO (ancepsref57_Few.f k a0 a1) (ancepsref57_Few.f (k + 1) a0 a1) := by
 intro a0 a1 k
 obtain ⟨ih0, ih1, ih2⟩ := ancepsref57_Few.mono_l k
 unfold ancepsref57_Few.f
 repeat' first
   | (with_reducible exact ih0 _ _ _ _)
   | (with_reducible exact ih1 _ _ _ _ _)
   | (with_reducible exact ih2 _ _ _ _ _)
   | (with_reducible exact ancepsref01_Sum.mono _ _ _)
   | (with_reducible exact LeO.refl _)
   | (with_reducible exact LeO.none _)
   | (with_reducible refine LeO.ite ?_ ?_)
   | (with_reducible refine LeO.bind ?_ (fun _ => ?_))
   | exact ih0 _ _ _ _
   | exact ih1 _ _ _ _ _
   | exact ih2 _ _ _ _ _
   | exact ancepsref01_Sum.mono _ _ _
   | exact LeO.none _
   | refine LeO.ite ?_ ?_
   | refine LeO.bind ?_ (fun _ => ?_)
set_option maxHeartbeats 8000000 in
set_option maxRecDepth 100000 in
theorem ancepsref57_Few.calls (k : Nat) (A0_0 : Option Addr) (c0_0 : Nat) (l0_0 : List ByteArray) (A0_1 : Option Addr) (c0_1 : Nat) (l0_1 : List (S65)) (r : Bool) (w : World) (hr0_0 : Kd.C Kd.string w A0_0 l0_0.length l0_0) (hc0_0 : l0_0.length ≤ c0_0) (hr0_1 : Kd.C k65 w A0_1 l0_1.length l0_1) (hc0_1 : l0_1.length ≤ c0_1) (h : ancepsref57_Few.f k l0_0 l0_1 = some r) :
  Calls Try.prog 22 #[.agg #[.slice A0_0 l0_0.length c0_0, .slice A0_1 l0_1.length c0_1]] w fun e w' => e = .returned (.bool r) ∧ Below w.heap.size w w' := by
 have hu42 := Try.underlying42
 have HR0_0 := Aside0.mk hr0_0
 have HC0_0 := Aside0.mk hc0_0
 clear hr0_0 hc0_0
 have HR0_1 := Aside0.mk hr0_1
 have HC0_1 := Aside0.mk hc0_1
 clear hr0_1 hc0_1
 have HB := Aside0.mk (Below.refl w.heap.size w)
 have H : ((ancepsref01_Sum.f k l0_0 4000).bind fun t264 => (ancepsref57_Few.l0 k t264 0 l0_0 l0_1)) = some r := h
 clear h
 replace H := Option.bind_eq_some_iff.mp H
 obtain ⟨t264, A20, H⟩ := H
 try dsimp only at H
 have A2 := Aside0.mk A20
 clear A20
 have H' := Aside0.mk H
 clear H
 go_enter Try.func22, Try.ntmps22
 go_wp2_with (first | ((with_reducible refine gate_dst (N := 1) rfl ?_); (try (refine gate_guard (by rfl) ?_; dsimp only)); refine bX 1 #[.slice A0_0 l0_0.length c0_0, .slice A0_1 l0_1.length c0_1] 42 ?_; intro gb263 hg w3 hbox hb; have n0_ := jL HB hb; have n1_ := Aside0.mk (hbox); have n2_ := Aside0.mk ((by rw [hg]; exact (below_size (iL HB)) : w.heap.size ≤ gb263)); have n3_ := Aside0.mk ((by rw [hg]; exact (below_size (iL HB)) : w.heap.size ≤ gb263)); clear HB; have HB := n0_; have BK263 := n1_; have GW263 := n2_; have GE263 := n3_; clear n0_ n1_ n2_ n3_; clear hb hbox hg; have hcz4_0 := cZ BK263 0 (.slice A0_0 l0_0.length c0_0); have hcz4_1 := cZ BK263 1 (.slice A0_1 l0_1.length c0_1); have hfz4_0 := blk_frozen BK263.out 0; have hfz4_1 := blk_frozen BK263.out 1) | ((with_reducible refine gate_callee (f := 15) rfl ?_); refine gL_ (some 8) Try.func15 #[.slice A0_0 l0_0.length c0_0, .int .i64 4000] ?_; (with_reducible refine (ancepsref01_Sum.calls k _ _ l0_0 4000 t264 _ ?side1 ?side2 A2.out).mono ?_); (case side1 => exact iC HR0_0 HB); (case side2 => exact HC0_0.out); rintro e w' ⟨rfl, ⟨nd, rfl⟩⟩; refine ⟨_, rfl, ?_⟩))
 go_loopg [3, 4] k (fun kq v3 v4 w' => ∃ (x3_1 : Int) (x4_1 : Int), v3 = .int .i64 x3_1 ∧ v4 = .int .i64 x4_1 ∧ Aside0 (ancepsref57_Few.l0 kq x3_1 x4_1 l0_0 l0_1 = some r) ∧ Aside0 (kq ≤ k) ∧ Aside0 (w'.heap[gb263]? = some (.cells #[(.slice A0_0 l0_0.length c0_0), (.slice A0_1 l0_1.length c0_1)] 42 (0, 0))) ∧ Aside0 (Below w.heap.size w w'))
 case atStart => exact ⟨(t264), (0), eV, eV, H', ⟨Nat.le_refl _⟩, ⟨iB BK263⟩, ⟨iL HB⟩⟩
 case round =>
  clear H'
  (try clear c1); (try clear c2); (try clear p2); (try clear hcz4_0); (try clear hcz4_1); (try clear hfz4_0); (try clear hfz4_1)
  obtain ⟨x3_1, x4_1, rfl, rfl, HA, HK1, BK263, HB⟩ := hrel
  cases gk with
  | zero => exact absurd HA.out (by simp [ancepsref57_Few.l0])
  | succ k1 =>
   have H := HA.out
   clear HA
   simp only [ancepsref57_Few.l0] at H
   have HC5 := Aside0.mk H
   clear H
   go_upto_region 3 with (fail)
   go_cut [17] (fun v17 wc => ∃ (kq : Nat) (x17_4 : Bool), v17 = .bool x17_4 ∧ Aside0 (ancepsref57_Few.j1 kq x3_1 x4_1 x17_4 l0_0 l0_1 = some r) ∧ Aside0 (kq ≤ k1) ∧ Aside0 (wc.heap[gb263]? = some (.cells #[(.slice A0_0 l0_0.length c0_0), (.slice A0_1 l0_1.length c0_1)] 42 (0, 0))) ∧ Aside0 (Below w.heap.size w wc))
   case first =>
    have H := HC5.out
    clear HC5
    by_cases c6 : x4_1 < (l0_1.length : Int)
    ·rw [if_pos c6] at H
     have c6b0 : decide (x4_1 < (l0_1.length : Int)) = true := decide_eq_true c6
     clear c6
     (first | rw [c6b0] | (simp only [i64_w, i32_w]; rw [c6b0]) | skip)
     have H' := Aside0.mk H
     clear H
     have hcz7_0 := cZ BK263 0 (.slice A0_0 l0_0.length c0_0)
     have hcz7_1 := cZ BK263 1 (.slice A0_1 l0_1.length c0_1)
     have hfz7_0 := blk_frozen BK263.out 0
     have hfz7_1 := blk_frozen BK263.out 1
     go_wp2
     go_meet
     case rel => exact ⟨_, (decide (x3_1 ≤ 4000)), eV, H', ⟨by have := HK1.out; first | omega | exact Nat.le_refl _⟩, ⟨iB BK263⟩, ⟨iL HB⟩⟩
    ·rw [if_neg c6] at H
     have c6b0 : decide (x4_1 < (l0_1.length : Int)) = false := decide_eq_false c6
     clear c6
     (first | rw [c6b0] | (simp only [i64_w, i32_w]; rw [c6b0]) | skip)
     have H' := Aside0.mk H
     clear H
     have hcz8_0 := cZ BK263 0 (.slice A0_0 l0_0.length c0_0)
     have hcz8_1 := cZ BK263 1 (.slice A0_1 l0_1.length c0_1)
     have hfz8_0 := blk_frozen BK263.out 0
     have hfz8_1 := blk_frozen BK263.out 1
     go_wp2
     go_meet
     case rel => exact ⟨_, (false), eV, H', ⟨by have := HK1.out; first | omega | exact Nat.le_refl _⟩, ⟨iB BK263⟩, ⟨iL HB⟩⟩
   case rest =>
    clear HC5
    (try clear c1); (try clear c2); (try clear p2); (try clear c6); (try clear c6b0); (try clear hcz4_0); (try clear hcz4_1); (try clear hcz7_0); (try clear hcz7_1); (try clear hcz8_0); (try clear hcz8_1); (try clear hfz4_0); (try clear hfz4_1); (try clear hfz7_0); (try clear hfz7_1); (try clear hfz8_0); (try clear hfz8_1); (try clear p2)
    obtain ⟨kq, x17_4, rfl, HA, HJ4, BK263, HB⟩ := hcut
    cases kq with
    | zero => exact absurd HA.out (by simp [ancepsref57_Few.j1])
    | succ kj4 =>
     have H := HA.out
     clear HA
     simp only [ancepsref57_Few.j1] at H
     by_cases c9 : x17_4 = true
     ·subst c9
      have H1 : (if 0 ≤ x4_1 then (if x4_1 < (l0_1.length : Int) then (ancepsref57_Few.l1 kj4 (wrap64 ((wrap64 (x3_1 + 1)) + (((rd_T65 l0_1 x4_1).f0).size : Int))) x4_1 0 l0_0 l0_1) else (none)) else (none)) = some r := by rw [if_pos rfl] at H; exact H
      clear H
      have H := H1
      clear H1
      by_cases c10 : 0 ≤ x4_1
      ·rw [if_pos c10] at H
       have c10b0 : decide (0 ≤ x4_1) = true := decide_eq_true c10
       clear c10
       by_cases c11 : x4_1 < (l0_1.length : Int)
       ·rw [if_pos c11] at H
        have c11b0 : decide (x4_1 < (l0_1.length : Int)) = true := decide_eq_true c11
        clear c11
        have H' := Aside0.mk H
        clear H
        have hcz12_0 := cZ BK263 0 (.slice A0_0 l0_0.length c0_0)
        have hcz12_1 := cZ BK263 1 (.slice A0_1 l0_1.length c0_1)
        have hfz12_0 := blk_frozen BK263.out 0
        have hfz12_1 := blk_frozen BK263.out 1
        have p265 := oD (0 ≤ (x4_1 : Int))
        have q265 := oD (x4_1 < (l0_1.length : Int))
        obtain ⟨ad265, A265_1, c265_1, e265, hx265_0, hx265_1, hl265_1, hi265_1⟩ := at_T65 HR0_1.out x4_1 p265 q265
        cases e265
        replace hx265_0 := (HB.out.cell (World.block_lt_of_cell? w _ hx265_0)).trans hx265_0
        replace hx265_1 := (HB.out.cell (World.block_lt_of_cell? w _ hx265_1)).trans hx265_1
        have HR265_1 := Aside0.mk hi265_1
        have HC265_1 := Aside0.mk hl265_1
        clear hi265_1 hl265_1
        replace p265 := eq_true p265
        replace q265 := eq_true q265
        go_wp2
        go_loopg [3, 5] kj4 (fun kq v3 v5 w' => ∃ (x3_3 : Int) (x5_3 : Int), v3 = .int .i64 x3_3 ∧ v5 = .int .i64 x5_3 ∧ Aside0 (ancepsref57_Few.l1 kq x3_3 x4_1 x5_3 l0_0 l0_1 = some r) ∧ Aside0 (kq ≤ kj4) ∧ Aside0 (w'.heap[gb263]? = some (.cells #[(.slice A0_0 l0_0.length c0_0), (.slice (some ad265) l0_1.length c0_1)] 42 (0, 0))) ∧ Aside0 (Below w.heap.size w w'))
        case atStart => exact ⟨(wrap64 ((wrap64 (x3_1 + 1)) + (((rd_T65 l0_1 x4_1).f0).size : Int))), (0), eV, eV, H', ⟨Nat.le_refl _⟩, ⟨iB BK263⟩, ⟨iL HB⟩⟩
        case round =>
         clear H'
         (try clear c1); (try clear c2); (try clear p2); (try clear q2); (try clear hx2); (try clear c6); (try clear c6b0); (try clear p6); (try clear c9); (try clear c10); (try clear c10b0); (try clear c11); (try clear c11b0); (try clear hcz12_0); (try clear hcz12_1); (try clear hcz4_0); (try clear hcz4_1); (try clear hcz7_0); (try clear hcz7_1); (try clear hcz8_0); (try clear hcz8_1); (try clear hfz12_0); (try clear hfz12_1); (try clear hfz4_0); (try clear hfz4_1); (try clear hfz7_0); (try clear hfz7_1); (try clear hfz8_0); (try clear hfz8_1); (try clear hx265_0); (try clear hx265_1); (try clear p2); (try clear p265); (try clear q265)
         obtain ⟨x3_3, x5_3, rfl, rfl, HA, HK3, BK263, HB⟩ := hrel
         cases gk with
         | zero => exact absurd HA.out (by simp [ancepsref57_Few.l1])
         | succ k3 =>
          have H := HA.out
          clear HA
          simp only [ancepsref57_Few.l1] at H
          by_cases c13 : 0 ≤ x4_1
          ·rw [if_pos c13] at H
           have c13b0 : decide (0 ≤ x4_1) = true := decide_eq_true c13
           clear c13
           by_cases c14 : x4_1 < (l0_1.length : Int)
           ·rw [if_pos c14] at H
            have c14b0 : decide (x4_1 < (l0_1.length : Int)) = true := decide_eq_true c14
            clear c14
            by_cases c15 : x5_3 < (((rd_T65 l0_1 x4_1).f1).length : Int)
            ·rw [if_pos c15] at H
             have c15b0 : decide (x5_3 < (((rd_T65 l0_1 x4_1).f1).length : Int)) = true := decide_eq_true c15
             clear c15
             by_cases c16 : x3_3 ≤ 4000
             ·rw [if_pos c16] at H
              have c16b0 : decide (x3_3 ≤ 4000) = true := decide_eq_true c16
              clear c16
              by_cases c17 : 0 ≤ x5_3
              ·rw [if_pos c17] at H
               have c17b0 : decide (0 ≤ x5_3) = true := decide_eq_true c17
               clear c17
               have H' := Aside0.mk H
               clear H
               have hcz18_0 := cZ BK263 0 (.slice A0_0 l0_0.length c0_0)
               have hcz18_1 := cZ BK263 1 (.slice (some ad265) l0_1.length c0_1)
               have hfz18_0 := blk_frozen BK263.out 0
               have hfz18_1 := blk_frozen BK263.out 1
               have p266 := oD (0 ≤ (x4_1 : Int))
               have q266 := oD (x4_1 < (l0_1.length : Int))
               obtain ⟨ad266, A266_1, c266_1, e266, hx266_0, hx266_1, hl266_1, hi266_1⟩ := at_T65 HR0_1.out x4_1 p266 q266
               obtain rfl : ad265 = ad266 := (by injection e266)
               replace hx266_0 := (HB.out.cell (World.block_lt_of_cell? w _ hx266_0)).trans hx266_0
               replace hx266_1 := (HB.out.cell (World.block_lt_of_cell? w _ hx266_1)).trans hx266_1
               have HR266_1 := Aside0.mk hi266_1
               have HC266_1 := Aside0.mk hl266_1
               clear hi266_1 hl266_1
               replace p266 := eq_true p266
               replace q266 := eq_true q266
               have p267 := oD (0 ≤ (x4_1 : Int))
               have q267 := oD (x4_1 < (l0_1.length : Int))
               obtain ⟨ad267, A267_1, c267_1, e267, hx267_0, hx267_1, hl267_1, hi267_1⟩ := at_T65 HR0_1.out x4_1 p267 q267
               obtain rfl : ad265 = ad267 := (by injection e267)
               replace hx267_0 := (HB.out.cell (World.block_lt_of_cell? w _ hx267_0)).trans hx267_0
               replace hx267_1 := (HB.out.cell (World.block_lt_of_cell? w _ hx267_1)).trans hx267_1
               have HR267_1 := Aside0.mk hi267_1
               have HC267_1 := Aside0.mk hl267_1
               clear hi267_1 hl267_1
               replace p267 := eq_true p267
               replace q267 := eq_true q267
               have ea_ := Option.some.inj (hx266_1.symm.trans hx267_1)
               injection ea_ with ea_ en_ ec_
               subst ea_
               subst ec_
               clear en_
               have p268 := oD (0 ≤ (x5_3 : Int))
               have q268 := oD (x5_3 < (((rd_T65 l0_1 x4_1).f1).length : Int))
               obtain ⟨ad268, e268, hx268_0, hx268_1⟩ := at_T67 HR267_1.out x5_3 p268 q268
               cases e268
               replace hx268_0 := (HB.out.cell (World.block_lt_of_cell? w _ hx268_0)).trans hx268_0
               replace hx268_1 := (HB.out.cell (World.block_lt_of_cell? w _ hx268_1)).trans hx268_1
               replace p268 := eq_true p268
               replace q268 := eq_true q268
               go_wp2
               go_roundg k3
               case measure => have := HK1.out; have := HJ4.out; have := HK3.out; omega
               case rel => exact ⟨(wrap64 ((wrap64 (x3_3 + 1)) + (((rd_T67 ((rd_T65 l0_1 x4_1).f1) x5_3).f0).size : Int))), (wrap64 (x5_3 + 1)), eV, eV, H', ⟨by have := HK1.out; have := HJ4.out; have := HK3.out; omega⟩, ⟨iB BK263⟩, ⟨iL HB⟩⟩
              ·rw [if_neg c17] at H
               exact absurd H (by simp)
             ·rw [if_neg c16] at H
              have c16b0 : decide (x3_3 ≤ 4000) = false := decide_eq_false c16
              clear c16
              have H' := Aside0.mk H
              clear H
              have hcz19_0 := cZ BK263 0 (.slice A0_0 l0_0.length c0_0)
              have hcz19_1 := cZ BK263 1 (.slice (some ad265) l0_1.length c0_1)
              have hfz19_0 := blk_frozen BK263.out 0
              have hfz19_1 := blk_frozen BK263.out 1
              have p266 := oD (0 ≤ (x4_1 : Int))
              have q266 := oD (x4_1 < (l0_1.length : Int))
              obtain ⟨ad266, A266_1, c266_1, e266, hx266_0, hx266_1, hl266_1, hi266_1⟩ := at_T65 HR0_1.out x4_1 p266 q266
              obtain rfl : ad265 = ad266 := (by injection e266)
              replace hx266_0 := (HB.out.cell (World.block_lt_of_cell? w _ hx266_0)).trans hx266_0
              replace hx266_1 := (HB.out.cell (World.block_lt_of_cell? w _ hx266_1)).trans hx266_1
              have HR266_1 := Aside0.mk hi266_1
              have HC266_1 := Aside0.mk hl266_1
              clear hi266_1 hl266_1
              replace p266 := eq_true p266
              replace q266 := eq_true q266
              go_wp2
              go_roundg k3
              case measure => have := HK1.out; have := HJ4.out; have := HK3.out; omega
              case rel => exact ⟨(x3_3), (wrap64 (x4_1 + 1)), eV, eV, H', ⟨by have := HK1.out; have := HJ4.out; have := HK3.out; omega⟩, ⟨iB BK263⟩, ⟨iL HB⟩⟩
            ·rw [if_neg c15] at H
             have c15b0 : decide (x5_3 < (((rd_T65 l0_1 x4_1).f1).length : Int)) = false := decide_eq_false c15
             clear c15
             have H' := Aside0.mk H
             clear H
             have hcz20_0 := cZ BK263 0 (.slice A0_0 l0_0.length c0_0)
             have hcz20_1 := cZ BK263 1 (.slice (some ad265) l0_1.length c0_1)
             have hfz20_0 := blk_frozen BK263.out 0
             have hfz20_1 := blk_frozen BK263.out 1
             have p266 := oD (0 ≤ (x4_1 : Int))
             have q266 := oD (x4_1 < (l0_1.length : Int))
             obtain ⟨ad266, A266_1, c266_1, e266, hx266_0, hx266_1, hl266_1, hi266_1⟩ := at_T65 HR0_1.out x4_1 p266 q266
             obtain rfl : ad265 = ad266 := (by injection e266)
             replace hx266_0 := (HB.out.cell (World.block_lt_of_cell? w _ hx266_0)).trans hx266_0
             replace hx266_1 := (HB.out.cell (World.block_lt_of_cell? w _ hx266_1)).trans hx266_1
             have HR266_1 := Aside0.mk hi266_1
             have HC266_1 := Aside0.mk hl266_1
             clear hi266_1 hl266_1
             replace p266 := eq_true p266
             replace q266 := eq_true q266
             go_wp2
             go_roundg k3
             case measure => have := HK1.out; have := HJ4.out; have := HK3.out; omega
             case rel => exact ⟨(x3_3), (wrap64 (x4_1 + 1)), eV, eV, H', ⟨by have := HK1.out; have := HJ4.out; have := HK3.out; omega⟩, ⟨iB BK263⟩, ⟨iL HB⟩⟩
           ·rw [if_neg c14] at H
            exact absurd H (by simp)
          ·rw [if_neg c13] at H
           exact absurd H (by simp)
       ·rw [if_neg c11] at H
        exact absurd H (by simp)
      ·rw [if_neg c10] at H
       exact absurd H (by simp)
     ·replace c9 := Bool.eq_false_iff.mpr c9
      subst c9
      have H1 : (if (l0_0.length : Int) ≤ 12 then (if (l0_1.length : Int) ≤ 210 then (some (decide (x3_1 ≤ 4000))) else (some false)) else (some false)) = some r := by rw [if_neg (show ¬ (false = true) by decide)] at H; exact H
      clear H
      have H := H1
      clear H1
      by_cases c21 : (l0_0.length : Int) ≤ 12
      ·rw [if_pos c21] at H
       have c21b0 : decide ((l0_0.length : Int) ≤ 12) = true := decide_eq_true c21
       have c21b1 : decide (l0_0.length ≤ 12) = true := decide_eq_true (by omega)
       clear c21
       by_cases c22 : (l0_1.length : Int) ≤ 210
       ·rw [if_pos c22] at H
        have c22b0 : decide ((l0_1.length : Int) ≤ 210) = true := decide_eq_true c22
        have c22b1 : decide (l0_1.length ≤ 210) = true := decide_eq_true (by omega)
        clear c22
        obtain rfl := Option.some.inj H
        have hcz23_0 := cZ BK263 0 (.slice A0_0 l0_0.length c0_0)
        have hcz23_1 := cZ BK263 1 (.slice A0_1 l0_1.length c0_1)
        have hfz23_0 := blk_frozen BK263.out 0
        have hfz23_1 := blk_frozen BK263.out 1
        go_wp2
        go_ret
        exact ⟨eV, iL HB⟩
       ·rw [if_neg c22] at H
        have c22b0 : decide ((l0_1.length : Int) ≤ 210) = false := decide_eq_false c22
        have c22b1 : decide (l0_1.length ≤ 210) = false := decide_eq_false (by omega)
        clear c22
        obtain rfl := Option.some.inj H
        have hcz24_0 := cZ BK263 0 (.slice A0_0 l0_0.length c0_0)
        have hcz24_1 := cZ BK263 1 (.slice A0_1 l0_1.length c0_1)
        have hfz24_0 := blk_frozen BK263.out 0
        have hfz24_1 := blk_frozen BK263.out 1
        go_wp2
        go_ret
        exact ⟨eV, iL HB⟩
      ·rw [if_neg c21] at H
       have c21b0 : decide ((l0_0.length : Int) ≤ 12) = false := decide_eq_false c21
       have c21b1 : decide (l0_0.length ≤ 12) = false := decide_eq_false (by omega)
       clear c21
       obtain rfl := Option.some.inj H
       have hcz25_0 := cZ BK263 0 (.slice A0_0 l0_0.length c0_0)
       have hcz25_1 := cZ BK263 1 (.slice A0_1 l0_1.length c0_1)
       have hfz25_0 := blk_frozen BK263.out 0
       have hfz25_1 := blk_frozen BK263.out 1
       go_wp2
       go_ret
       exact ⟨eV, iL HB⟩

-- NOT PRINTED: function 57 (api_Row)

end Go.Proofs.Ytmjigfoldeekmaa.X
