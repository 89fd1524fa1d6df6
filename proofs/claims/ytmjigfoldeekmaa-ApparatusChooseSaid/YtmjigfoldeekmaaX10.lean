-- and more
-- shortened
-- thinned
-- halved indents
-- printed by this session's xprint.py: out of the translation, by the kit's print with additions; Lean checks it
import Derived.Test.YtmjigfoldeekmaaXE
import Derived.Test.YtmjigfoldeekmaaXD
import Derived.Test.YtmjigfoldeekmaaWN
import Derived.Test.YtmjigfoldeekmaaWShare
import Derived.Test.YtmjigfoldeekmaaWRepsOne
import Derived.Test.YtmjigfoldeekmaaWGuard
import Derived.Test.YtmjigfoldeekmaaX0
import Derived.Test.YtmjigfoldeekmaaX5
import Derived.Test.YtmjigfoldeekmaaX8
import Derived.Test.YtmjigfoldeekmaaX9
import Derived.Test.YtmjigfoldeekmaaXA
namespace Go.Proofs.Ytmjigfoldeekmaa.X
open Go.RowKit Go.Proofs.YtmjigfoldeekmaaW.PrintWords Go.Proofs.YtmjigfoldeekmaaW.PrintLast Go.Proofs.YtmjigfoldeekmaaW.PrintMore
attribute [local go_sem] max2_int min2_int max_two min_two max_three min_three max_four min_four isSome_setCell binOp_gtr_str binOp_leq_str binOp_geq_str   -- for this text's walks alone
set_option linter.unusedVariables false
set_option linter.unusedSimpArgs false

/-! ### apparatus_Choose: function 27 -/
def apparatus_Choose.c0 : Nat → List S65 → Int → List S65 → Option (List S65)
 | 0, _, _, _ => none
 | k + 1, l, i, acc => if i < (l.length : Int) then (if 0 ≤ i ∧ acc.length ≤ 1000000 then ((api_Variant_56.f (rd_T65 l i).f1).bind fun vs => apparatus_Choose.c0 k l (wrap64 (i + 1)) (acc ++ [⟨(rd_T65 l i).f0, vs⟩])) else none) else some acc
def apparatus_Choose.x0 : Nat → List S67 → Int → Int → Option Int
 | 0, _, _, _ => none
 | k + 1, l, i, x => if i < (l.length : Int) then (if 0 ≤ i then apparatus_Choose.x0 k l (wrap64 (i + 1)) (Go.bits .andNot .i64 x (rd_T67 l i).f1) else none) else some x
def apparatus_Choose.f (k : Nat) (l0 : List ByteArray) (l1 : List S65) (a1 a2 : Int) : Option (List ByteArray × List S65 × Int) := (apparatus_Valid.f k l0 l1).bind fun e => if e = 0 then (if 0 ≤ a1 ∧ a1 < (l1.length : Int) ∧ 0 ≤ a2 ∧ a2 < ((rd_T65 l1 a1).f1.length : Int) then ((slices_Clone_string_string.f l0).bind fun wl => (apparatus_Choose.c0 k l1 0 []).bind fun rows => if a1 < (rows.length : Int) ∧ a2 < ((rd_T65 rows a1).f1.length : Int) ∧ l0.length ≤ 62 then ((apparatus_Choose.x0 k (rd_T65 rows a1).f1 0 (wrap64 (shl .i64 1 (l0.length : Int) - 1))).bind fun x => some (wl, rows.set a1.toNat ⟨(rd_T67 (rd_T65 rows a1).f1 a2).f0, (rd_T65 rows a1).f1.set a2.toNat ⟨(rd_T65 rows a1).f0, x⟩⟩, 0)) else none) else some ([], [], 6)) else some ([], [], e)
theorem apparatus_Choose.mono_c : ∀ k y0 y1 y2, LeO (apparatus_Choose.c0 k y0 y1 y2) (apparatus_Choose.c0 (k + 1) y0 y1 y2)
 | 0 => fun _ _ _ r h => by simp [apparatus_Choose.c0] at h
 | k + 1 => by
  have ih := apparatus_Choose.mono_c k
  intro y0 y1 y2
  rw [apparatus_Choose.c0, apparatus_Choose.c0]
  exact LeO.ite (LeO.ite (LeO.bind (LeO.refl _) fun _ => ih _ _ _) (LeO.refl _)) (LeO.refl _)
theorem apparatus_Choose.mono_x : ∀ k y0 y1 y2, LeO (apparatus_Choose.x0 k y0 y1 y2) (apparatus_Choose.x0 (k + 1) y0 y1 y2)
 | 0 => fun _ _ _ r h => by simp [apparatus_Choose.x0] at h
 | k + 1 => by
  have ih := apparatus_Choose.mono_x k
  intro y0 y1 y2
  rw [apparatus_Choose.x0, apparatus_Choose.x0]
  exact LeO.ite (LeO.ite (ih _ _ _) (LeO.refl _)) (LeO.refl _)
theorem apparatus_Choose.mono : ∀ a0 a1 a2 a3 k, LeO (apparatus_Choose.f k a0 a1 a2 a3) (apparatus_Choose.f (k + 1) a0 a1 a2 a3) := by
 intro a0 a1 a2 a3 k
 unfold apparatus_Choose.f
 exact LeO.bind (apparatus_Valid.mono _ _ _) fun _ => LeO.ite (LeO.ite (LeO.bind (LeO.refl _) fun _ => LeO.bind (apparatus_Choose.mono_c _ _ _ _) fun _ => LeO.ite (LeO.bind (apparatus_Choose.mono_x _ _ _ _) fun _ => LeO.refl _) (LeO.refl _)) (LeO.refl _)) (LeO.refl _)
set_option maxHeartbeats 4000000 in
set_option maxRecDepth 100000 in
theorem apparatus_Choose.calls (k : Nat) (A0_0 : Option Addr) (c0_0 : Nat) (l0_0 : List ByteArray) (A0_1 : Option Addr) (c0_1 : Nat) (l0_1 : List (S65)) (a1 a2 : Int) (r1 : List ByteArray) (r2 : List S65) (r3 : Int) (w : World) (hr0_0 : Kd.C Kd.string w A0_0 l0_0.length l0_0) (hc0_0 : l0_0.length ≤ c0_0) (hr0_1 : Kd.C k65 w A0_1 l0_1.length l0_1) (hc0_1 : l0_1.length ≤ c0_1) (h : apparatus_Choose.f k l0_0 l0_1 a1 a2 = some (r1, r2, r3)) :
  Calls Try.prog 27 #[.agg #[.slice A0_0 l0_0.length c0_0, .slice A0_1 l0_1.length c0_1], .int .i64 a1, .int .i64 a2] w fun e w' => ∃ v0_ v1_ : Value, e = .returned (.tuple #[.agg #[v0_, v1_], .int .i64 r3]) ∧ Kd.R Kd.string 9 w' w.heap.size (fun _ => True) v0_ r1 ∧ Kd.S k65 65 w' w.heap.size (fun _ => True) v1_ r2 ∧ Below w.heap.size w w' := by
 have hu42 := Try.underlying42
 unfold apparatus_Choose.f at h
 obtain ⟨e0, he, h1⟩ := Option.bind_eq_some_iff.1 h
 have HV := Lib.hid he; have HR0 := Lib.hid hr0_0; have HC0 := Lib.hid hc0_0; have HR1 := Lib.hid hr0_1; have HC1 := Lib.hid hc0_1; have H1 := Lib.hid h1
 clear h he hr0_0 hc0_0 hr0_1 hc0_1 h1
 go_enter Try.func27, Try.ntmps27
 go_wp2_with (first | ((with_reducible refine gate_dst (N := 3) rfl ?_); (try (refine gate_guard (by rfl) ?_; dsimp only)); refine bX 3 #[.slice A0_0 l0_0.length c0_0, .slice A0_1 l0_1.length c0_1] 42 ?_; intro b3 hb3 w1 hbox hbb; have Q1 := Lib.hid hbox; have B1 := Lib.hid hbb; have N3 := Lib.hid (show w.heap.size ≤ b3 from Nat.le_of_eq hb3.symm); clear hb3 hbox hbb) | ((with_reducible refine gate_dst (N := 6) rfl ?_); (try (refine gate_guard (by rfl) ?_; dsimp only)); refine bX 6 #[.slice none 0 0, .slice none 0 0] 42 ?_; intro b6 hb6 w2 hbox hbb; have P2 := Lib.hid hbox; have B2 := Lib.hid (B1.out.trans (hbb.mono B1.out.size)); have Q2 := Lib.hid (blk_below Q1.out hbb); have N6 := Lib.hid (show w.heap.size ≤ b6 from by have := B1.out.size; omega); have D6 := Lib.hid (show b3 < b6 from by have := blk_lt Q1.out; omega); clear hb6 hbox hbb; have hcx0 := (blk_cell Q2.out 0).trans (show _ = some (Value.slice A0_0 l0_0.length c0_0) from rfl); have hcx1 := (blk_cell Q2.out 1).trans (show _ = some (Value.slice A0_1 l0_1.length c0_1) from rfl)))
 refine (apparatus_Valid.calls k A0_0 c0_0 l0_0 A0_1 c0_1 l0_1 e0 _ (Kd.C_below HR0.out B2.out) HC0.out (Kd.C_below HR1.out B2.out) HC1.out HV.out).mono ?_
 rintro e w3 ⟨rfl, hb⟩
 have B3 := Lib.hid (B2.out.trans (hb.mono B2.out.size))
 have Q3 := Lib.hid (blk_below Q2.out hb)
 have P3 := Lib.hid (blk_below P2.out hb)
 clear hb hcx0 hcx1 Q1 B1 Q2 P2 B2
 have h1 := H1.out
 clear H1
 by_cases c0' : e0 = 0
 ·subst c0'
  rw [if_pos rfl] at h1
  have hcx0 := (blk_cell Q3.out 0).trans (show _ = some (Value.slice A0_0 l0_0.length c0_0) from rfl)
  have hcx1 := (blk_cell Q3.out 1).trans (show _ = some (Value.slice A0_1 l0_1.length c0_1) from rfl)
  have hcy0 := (blk_cell P3.out 0).trans (show _ = some (Value.slice none 0 0) from rfl)
  have hcy1 := (blk_cell P3.out 1).trans (show _ = some (Value.slice none 0 0) from rfl)
  have hfy0 := blk_frozen P3.out 0
  have hfy1 := blk_frozen P3.out 1
  have FAIL : ¬ (0 ≤ a1 ∧ a1 < (l0_1.length : Int) ∧ 0 ≤ a2 ∧ a2 < ((rd_T65 l0_1 a1).f1.length : Int)) → r1 = [] ∧ r2 = [] ∧ r3 = 6 := by
   intro hn
   rw [if_neg hn] at h1
   obtain ⟨rfl, h2⟩ := Prod.mk.inj (Option.some.inj h1)
   obtain ⟨rfl, rfl⟩ := Prod.mk.inj h2
   exact ⟨rfl, rfl, rfl⟩
  have HF := Lib.hid FAIL; have H1 := Lib.hid h1
  clear FAIL h1
  by_cases d1 : 0 ≤ a1
  ·have e1 : decide (a1 < 0) = false := decide_eq_false (by omega)
   by_cases d2 : a1 < (l0_1.length : Int)
   ·have e2 : decide ((l0_1.length : Int) ≤ a1) = false := decide_eq_false (by omega)
    by_cases d3 : 0 ≤ a2
    ·have e3 : decide (a2 < 0) = false := decide_eq_false (by omega)
     obtain ⟨ad, Ar, cr, rfl, _, hx, hlr, hCr⟩ := at_T65 (Kd.C_below HR1.out B3.out) a1 d1 d2
     have q1 := eq_true d1
     have q2 := eq_true d2
     by_cases d4 : a2 < ((rd_T65 l0_1 a1).f1.length : Int)
     ·have e4 : decide (((rd_T65 l0_1 a1).f1.length : Int) ≤ a2) = false := decide_eq_false (by omega)
      have h1 := H1.out
      rw [if_pos ⟨d1, d2, d3, d4⟩] at h1
      obtain ⟨wl, hw, h2⟩ := Option.bind_eq_some_iff.1 h1
      obtain ⟨rows, hrows, h3⟩ := Option.bind_eq_some_iff.1 h2
      have HW := Lib.hid hw; have HRW := Lib.hid hrows; have H3 := Lib.hid h3; have D4 := Lib.hid (And.intro d1 (And.intro d2 (And.intro d3 d4)))
      clear h1 h2 h3 hw hrows H1 HF hlr hCr d1 d2 d3 d4
      go_wp2_with (fail)
      refine (slices_Clone_string_string.calls A0_0 c0_0 l0_0 wl _ (Kd.C_below HR0.out B3.out) HC0.out HW.out).mono ?_
      rintro e w4 ⟨v4, rfl, hr4, hb⟩
      have B4 := Lib.hid (B3.out.trans (hb.mono B3.out.size))
      have Q4 := Lib.hid (blk_below Q3.out hb)
      have P4 := Lib.hid (blk_below P3.out hb)
      obtain ⟨A4, c4, rfl⟩ := Kd.R_slice hr4
      have R4 := Lib.hid (Kd.R_lower (Kd.R_mono (Kd.R_bound hr4) (ok' := fun q => b6 < q) (fun q hq => Nat.lt_of_lt_of_le (blk_lt P3.out) hq.2.1)) B3.out.size)
      clear hb hr4 hcx0 hcx1 hcy0 hcy1 hfy0 hfy1 hx q1 q2 Q3 P3 B3
      go_wp2_with (first | ((with_reducible refine gate_dst (N := 9) rfl ?_); (try (refine gate_guard (by rfl) ?_; dsimp only)); refine bX 9 #[.slice none 0 0, .slice none 0 0] 42 ?_; intro b9 hb9 w8 hbox hbb; have T8 := Lib.hid hbox; have N9 := Lib.hid (show b9 = w4.heap.size from hb9); have H8 := Lib.hid hbb; clear hb9 hbox hbb; have hct0 := (blk_cell T8.out 0).trans (show _ = some (Value.slice none 0 0) from rfl); have hct1 := (blk_cell T8.out 1).trans (show _ = some (Value.slice none 0 0) from rfl); have hft0 := blk_frozen T8.out 0; have hft1 := blk_frozen T8.out 1; have Z8 := Lib.hid (below_set (below_set H8.out (Nat.le_of_eq N9.out.symm) (j := 0) (v := .slice A4 wl.length c4)) (Nat.le_of_eq N9.out.symm) (j := 1) (v := .slice none 0 0)); have hcx1 := (blk_cell (blk_below Q4.out Z8.out) 1).trans (show _ = some (Value.slice (some ad) l0_1.length c0_1) from rfl)))
      have T9 := Lib.hid (show ((w8.setCell ⟨b9, 0, none⟩ (.slice A4 wl.length c4)).setCell ⟨b9, 1, none⟩ (.slice none 0 0)).heap[b9]? = some (.cells #[.slice A4 wl.length c4, .slice none 0 0] 42 (0, 0)) from blk_put (cs := #[.slice A4 wl.length c4, .slice none 0 0]) (blk_put (cs := #[.slice none 0 0, .slice none 0 0]) T8.out 0 (.slice A4 wl.length c4) rfl) 1 (.slice none 0 0) rfl)
      clear hct0 hct1 hft0 hft1 hcx1 T8 H8
      generalize ((w8.setCell ⟨b9, 0, none⟩ (.slice A4 wl.length c4)).setCell ⟨b9, 1, none⟩ (.slice none 0 0)) = w9 at T9 Z8 ⊢
      go_loopg [55] k (fun kq v55 wr => ∃ (i : Int) (acc : List S65) (vR : Value), v55 = .int .i64 i ∧ Hid (apparatus_Choose.c0 kq l0_1 i acc = some rows) ∧ Hid (kq ≤ k) ∧ Hid (Below w4.heap.size w4 wr) ∧ Hid (wr.heap[b9]? = some (.cells #[.slice A4 wl.length c4, vR] 42 (0, 0))) ∧ Hid (Kd.S k65 65 wr w4.heap.size (fun q => b9 < q) vR acc))
      case atStart => exact ⟨0, [], _, rfl, HRW, Lib.hid (Nat.le_refl _), Z8, T9, Lib.hid (Kd.S_nil _ _ _ _ _)⟩
      case round =>
       clear HRW Z8 T9
       obtain ⟨i, acc, vR, rfl, HA, HK, HB, HT, HS⟩ := hrel
       have BW := Lib.hid (B4.out.trans (HB.out.mono B4.out.size))
       obtain ⟨AR, cR, rfl⟩ := Kd.S_slice HS.out
       cases gk with
       | zero => exact absurd HA.out (by simp [apparatus_Choose.c0])
       | succ k1 =>
        have H := HA.out
        clear HA
        rw [apparatus_Choose.c0] at H
        by_cases f1 : i < (l0_1.length : Int)
        ·rw [if_pos f1] at H
         by_cases f2 : 0 ≤ i ∧ acc.length ≤ 1000000
         ·rw [if_pos f2] at H
          obtain ⟨vs, hv, H'⟩ := Option.bind_eq_some_iff.1 H
          obtain ⟨ad2, Av, cv, ead, hx0, hx1, hlv, hCv⟩ := at_T65 (Kd.C_below HR1.out BW.out) i f2.1 f1
          injection ead with ead
          subst ead
          obtain ⟨rw_, hrw⟩ : ∃ x, rd_T65 l0_1 i = x := ⟨_, rfl⟩
          rw [hrw] at hx0 hx1 hlv hCv hv H'
          have HVV := Lib.hid hv; have HR := Lib.hid H'; have HF2 := Lib.hid f2; have HLV := Lib.hid hlv; have HCV := Lib.hid hCv
          have b1 : decide (i < (l0_1.length : Int)) = true := decide_eq_true f1
          have q1 := eq_true f1
          have q2 := eq_true f2.1
          clear H H' hv f1 f2 hrw hlv hCv
          obtain ⟨wo, rfl⟩ : ∃ x, x = wr := ⟨_, rfl⟩
          go_wp2_with (first | ((with_reducible refine gate_dst (N := 11) rfl ?_); (try (refine gate_guard (by rfl) ?_; dsimp only)); refine bX 11 #[.string ⟨#[]⟩, .slice none 0 0] 65 ?_; intro b11 hb11 w10 hbox hbb; have V10 := Lib.hid hbox; have N11 := Lib.hid (show b11 = wo.heap.size from hb11); have H10 := Lib.hid hbb; clear hb11 hbox hbb; have hcv0 := (blk_cell V10.out 0).trans (show _ = some (Value.string ⟨#[]⟩) from rfl); have hcv1 := (blk_cell V10.out 1).trans (show _ = some (Value.slice none 0 0) from rfl); have hfv0 := blk_frozen V10.out 0; have hfv1 := blk_frozen V10.out 1; have Z10 := Lib.hid (below_set (below_set H10.out (Nat.le_of_eq N11.out.symm) (j := 0) (v := .string rw_.f0)) (Nat.le_of_eq N11.out.symm) (j := 1) (v := .slice Av rw_.f1.length cv))))
          have V11 := Lib.hid (show ((w10.setCell ⟨b11, 0, none⟩ (.string rw_.f0)).setCell ⟨b11, 1, none⟩ (.slice Av rw_.f1.length cv)).heap[b11]? = some (.cells #[.string rw_.f0, .slice Av rw_.f1.length cv] 65 (0, 0)) from blk_put (cs := #[.string rw_.f0, .slice none 0 0]) (blk_put (cs := #[.string ⟨#[]⟩, .slice none 0 0]) V10.out 0 (.string rw_.f0) rfl) 1 (.slice Av rw_.f1.length cv) rfl)
          clear hcv0 hcv1 hfv0 hfv1 V10 H10 hx0 hx1
          generalize ((w10.setCell ⟨b11, 0, none⟩ (.string rw_.f0)).setCell ⟨b11, 1, none⟩ (.slice Av rw_.f1.length cv)) = w11 at V11 Z10 ⊢
          have T11 := Lib.hid (blk_below HT.out Z10.out)
          refine start_ (n := 12) (S := fun w' => w'.cell? ⟨b9, 1, none⟩ = some (.slice AR acc.length cR) ∧ w'.cell? ⟨b11, 0, none⟩ = some (.string rw_.f0) ∧ w'.cell? ⟨b11, 1, none⟩ = some (.slice Av rw_.f1.length cv)) (ds := [11]) #[false, false, false, false, false, false, false, false, false, false, false, false] (by kernel_rfl) rfl rfl ⟨(blk_cell T11.out 1).trans rfl, (blk_cell V11.out 0).trans rfl, (blk_cell V11.out 1).trans rfl⟩ (fun hHeld => ?_)
          have T12 := Lib.hid (blk_drew T11.out); have V12 := Lib.hid (blk_drew V11.out); have Z12 := Lib.hid (below_drew1 Z10.out)
          clear T11 V11 Z10
          generalize w11.drew = w12 at T12 V12 Z12 hHeld ⊢
          refine ph_ 0 (some 59) ?_
          refine th_ 1 (some 60) hHeld ?_
          refine ph_ 2 (some 61) ?_
          refine th_ 3 (some 62) hHeld ?_
          refine ph_ 4 (some 63) ?_
          refine th_ 5 (some 64) hHeld ?_
          refine one_ (i := 6) (N := (some 65)) #[true, true, true, true, true, true, true, false, false, false, false, false] rfl rfl (by kernel_rfl) (by decide) (fun K hK => ?_)
          refine goes_ Try.func56 (by kernel_rfl) rfl #[.slice Av rw_.f1.length cv] (by rfl) rfl rfl (by (try simp only [List.map_toArray, List.map_cons, List.map_nil]); first | done | rfl) ?_
          refine (api_Variant_56.calls Av cv rw_.f1 vs _ (Kd.C_below HCV.out Z12.out) HLV.out HVV.out).mono ?_
          rintro e w13 ⟨v13, rfl, hr13, hb⟩
          refine ⟨_, rfl, ?_⟩
          have T13 := Lib.hid (blk_below T12.out hb); have V13 := Lib.hid (blk_below V12.out hb); have Z13 := Lib.hid (Z12.out.trans (hb.mono Z12.out.size))
          obtain ⟨A13, c13, rfl⟩ := Kd.R_slice hr13
          have L12 := Lib.hid (show wo.heap.size ≤ w12.heap.size from Z12.out.size)
          have L13 := Lib.hid (show w12.heap.size ≤ w13.heap.size from hb.size)
          have R13 := Lib.hid hr13
          refine hK.out _ _ ⟨(blk_cell T13.out 1).trans rfl, (blk_cell V13.out 0).trans rfl, (blk_cell V13.out 1).trans rfl⟩ (fun hHeld => ?_)
          clear hK K hb hr13 T12 V12 Z12
          refine norm_ (a' := ?_) ?_ ?_
          rotate_left
          ·show Act.put _ (some 65) _ = _
           simp only [Act.put, List.setIfInBounds_toArray, List.set_cons_zero, List.set_cons_succ, i64_w, i32_w]
           rfl
          refine ph_ 7 (some 66) ?_
          refine one_ (i := 8) (N := (some 67)) #[true, true, true, true, true, true, true, true, true, false, false, false] rfl rfl (by kernel_rfl) (by decide) (fun K hK => ?_)
          refine value_ (w1 := ?_) (v := ?_) (by rfl) rfl ?_ ?_
          rotate_left 2
          ·go_simp
           constructor
           ·rfl
           ·rfl
          refine hK.out _ _ ⟨(World.cell?_alloc_lt _ _ _ (World.block_lt_of_cell? _ _ hHeld.1)).trans hHeld.1, (World.cell?_alloc_lt _ _ _ (World.block_lt_of_cell? _ _ hHeld.2.1)).trans hHeld.2.1, (World.cell?_alloc_lt _ _ _ (World.block_lt_of_cell? _ _ hHeld.2.2)).trans hHeld.2.2⟩ (fun hHeld => ?_)
          clear hK K
          refine norm_ (a' := ?_) ?_ ?_
          rotate_left
          ·show Act.put _ (some 67) _ = _
           simp only [Act.put, List.setIfInBounds_toArray, List.set_cons_zero, List.set_cons_succ, i64_w, i32_w]
           rfl
          have HB13 := Lib.hid (HB.out.trans (Z13.out.mono HB.out.size))
          have OWN := Lib.hid (show ∀ q, (Value.slice AR acc.length cR).ownBlock = some q → b9 < q ∧ q < wo.heap.size from fun q hq => by have h := (Kd.S_R (Kd.S_bound HS.out)).1 q hq; exact ⟨h.1, h.2.2.1⟩)
          have SI := Lib.hid (Kd.S_below (Kd.S_mono (Kd.S_bound HS.out) (ok' := fun q => b9 < q ∧ ¬ w12.heap.size ≤ q) (fun q hq => ⟨hq.1, by have := hq.2.2.1; have := L12.out; omega⟩)) Z13.out)
          have LB := Lib.hid (show b9 < wo.heap.size from blk_lt HT.out)
          refine one_ (i := 9) (N := (some 68)) #[true, true, true, true, true, true, true, true, true, true, false, false] rfl rfl (by kernel_rfl) (by decide) (fun K hK => ?_)
          refine Kd.S_append_step k65 (w0 := w4) w4.heap.size (by rfl) (.tmp 60) (.tmp 67) 40 65 (.agg #[.string ⟨#[]⟩, .slice none 0 0]) 40 rfl Try.underlying40 info65 rfl (by decide) (by omega) (.slice AR acc.length cR) acc (⟨rw_.f0, vs⟩ : S65) [.string rw_.f0, .slice A13 vs.length c13] (fun q => b9 < q) (fun q => w12.heap.size ≤ q) rfl rfl ?aP ?aK ?aF ?aO ?aB ?aS ?aL ?_
          (case aP => exact k65_mkM _ _ _ (⟨rw_.f0, vs⟩ : S65) (Kd.R_lower (Kd.R_mono (Kd.R_bound R13.out) (fun q hq => hq.2.1)) (by have := HB.out.size; have := L12.out; omega)))
          (case aK => exact fun q hq => ⟨by have := LB.out; have := L12.out; omega, fun e => by have := (OWN.out q e.symm).2; have := L12.out; omega⟩)
          (case aF => exact fun q hq => by have := LB.out; have := L12.out; have := L13.out; omega)
          (case aO => exact SI.out)
          (case aB => exact HB13.out)
          (case aS => exact HB13.out.size)
          (case aL => have := HF2.out.2; omega)
          intro v1 w14 ho hb hg hat
          obtain ⟨A14, c14, rfl⟩ := Kd.S_slice ho
          rw [List.length_append, List.length_singleton] at ho hat ⊢
          have T14 := Lib.hid (blk_grown T13.out hg (fun e => by have := (OWN.out b9 e.symm).1; omega))
          have V14 := Lib.hid (blk_grown V13.out hg (fun e => by have := (OWN.out b11 e.symm).2; have := N11.out; omega))
          have S14 := Lib.hid ho; have B14 := Lib.hid hb
          clear ho hb hg hat
          refine hK.out _ _ ⟨(blk_cell T14.out 1).trans rfl, (blk_cell V14.out 0).trans rfl, (blk_cell V14.out 1).trans rfl⟩ (fun hHeld => ?_)
          clear hK K
          have hct1 := (blk_cell T14.out 1).trans (show _ = some (Value.slice AR acc.length cR) from rfl)
          have hft1 := blk_frozen T14.out 1
          refine norm_ (a' := ?_) ?_ ?_
          rotate_left
          ·show Act.put _ (some 68) _ = _
           simp only [Act.put, List.setIfInBounds_toArray, List.set_cons_zero, List.set_cons_succ, i64_w, i32_w]
           rfl
          refine ph_ 10 (some 69) ?_
          refine last_ (i := 11) (N := none) #[true, true, true, true, true, true, true, true, true, true, true, true] rfl rfl (by kernel_rfl) (by decide) (fun K hK => ?_)
          refine skip_ (w1 := ?_) (by rfl) rfl ?_ ?_
          rotate_left
          ·go_simp
           rfl
          refine hK.out _ _ ?_
          clear hK K
          refine done_ (by kernel_rfl) ?_
          have T15 := Lib.hid (show (w14.setCell ⟨b9, 1, none⟩ (.slice A14 (acc.length + 1) c14)).heap[b9]? = some (.cells #[.slice A4 wl.length c4, .slice A14 (acc.length + 1) c14] 42 (0, 0)) from blk_put (cs := #[.slice A4 wl.length c4, .slice AR acc.length cR]) T14.out 1 (.slice A14 (acc.length + 1) c14) rfl)
          have S15 := Lib.hid (Kd.S_far S14.out (p := ⟨b9, 1, none⟩) (fun q hq => Nat.ne_of_gt hq) (.slice A14 (acc.length + 1) c14))
          have B15 := Lib.hid (below_set B14.out (Nat.le_of_eq N9.out.symm) (j := 1) (v := .slice A14 (acc.length + 1) c14))
          clear hct1 hft1
          go_wp2_with (fail)
          go_roundg k1
          case measure => have := HK.out; omega
          case rel => exact ⟨wrap64 (i + 1), acc ++ [⟨rw_.f0, vs⟩], _, rfl, HR, Lib.hid (by have := HK.out; omega), B15, T15, S15⟩
         ·rw [if_neg f2] at H; cases H
        ·rw [if_neg f1] at H
         obtain rfl := Option.some.inj H
         have b1 : decide (i < (l0_1.length : Int)) = false := decide_eq_false f1
         clear H f1
         have h3 := H3.out
         by_cases g1 : a1 < (acc.length : Int) ∧ a2 < ((rd_T65 acc a1).f1.length : Int) ∧ l0_0.length ≤ 62
         ·rw [if_pos g1] at h3
          obtain ⟨xf, hxf, h4⟩ := Option.bind_eq_some_iff.1 h3
          obtain ⟨rfl, h5⟩ := Prod.mk.inj (Option.some.inj h4)
          obtain ⟨rfl, rfl⟩ := Prod.mk.inj h5
          have HX := Lib.hid hxf; have G1 := Lib.hid g1
          clear h3 h4 h5 hxf H3
          obtain ⟨ws, rfl⟩ : ∃ x, x = wr := ⟨_, rfl⟩
          have d1 := D4.out.1
          have d3 := D4.out.2.2.1
          have QS := Lib.hid (blk_below Q4.out HB.out)
          have PS := Lib.hid (blk_below P4.out HB.out)
          obtain ⟨gR, cg, eg, hg1, hg2, cl, hg3⟩ := Kd.S_form HS.out (by have := g1.1; omega)
          injection eg with e1' e2' e3'
          subst e1'; subst e3'; clear e2'
          obtain ⟨oki, ce, hcl, hM, hcc, hfr, hoki, hH⟩ := Kd.S_elem HS.out z65 a1 d1 g1.1
          obtain ⟨ro, hro⟩ : ∃ ro, rd_T65 acc a1 = ro := ⟨_, rfl⟩
          have hM' : k65.M ws w4.heap.size oki (rd_T65 acc a1) ce := hM
          rw [hro] at hM' G1 HX
          obtain ⟨vV, rfl, hR⟩ := k65_openM hM'
          obtain ⟨AV, cV, rfl⟩ := Kd.R_slice hR
          have hsz : k65.sz = 2 := rfl
          have hy0 := hcc 0 _ rfl
          have hy1 := hcc 1 _ rfl
          rw [hsz] at hy0 hy1
          rw [Nat.add_zero] at hy0
          have GB := Lib.hid hg1; have GT := Lib.hid hg2; have GC := Lib.hid hg3; have HRK := Lib.hid hR; have HH := Lib.hid hH; have HOI := Lib.hid hoki; have HFR := Lib.hid hfr; have HRO := Lib.hid hro
          have hct1 := (blk_cell HT.out 1).trans (show _ = some (Value.slice (some ⟨gR, 0, none⟩) acc.length cR) from rfl)
          have hcb0 := (blk_cell QS.out 0).trans (show _ = some (Value.slice A0_0 l0_0.length c0_0) from rfl)
          have m1 := eq_true d1
          have m2 := eq_true g1.1
          obtain ⟨sh, hsh⟩ : ∃ sh : Int, shl .i64 1 (l0_0.length : Int) = sh := ⟨_, rfl⟩
          have n0 : (0 : Int) ≤ (l0_0.length : Int) := by omega
          have n1 : (l0_0.length : Int) ≤ 62 := by have := g1.2.2; omega
          have hshz := shl_small hsh (by show (l0_0.length : Int) ≤ 64; omega)
          have HSH := Lib.hid (show shl .i64 1 (l0_0.length : Int) = wrap64 (2 ^ (l0_0.length : Int).toNat) by have h := hshz; rw [Int.one_mul, i64_w] at h; rw [hsh, ← h])
          have HX2 := Lib.hid (show apparatus_Choose.x0 k ro.f1 0 (wrap64 (wrap64 (2 ^ l0_0.length) - 1)) = some xf from by have h := HX.out; rw [HSH.out, Int.toNat_natCast] at h; exact h)
          have RD := Lib.hid (Kd.R_reads' hR).2.2
          clear hsh hshz hM hM' hcc hfr hoki hH hR hcl hg1 hg2 hg3 g1 hro HX
          go_wp2_with (fail)
          clear hy0 hy1 hct1 hcb0
          go_loopg [13, 85] k (fun kq v13 v85 wr => ∃ (x i2 : Int), v13 = .int .i64 x ∧ v85 = .int .i64 i2 ∧ Hid (apparatus_Choose.x0 kq ro.f1 i2 x = some xf) ∧ Hid (kq ≤ k) ∧ Hid (Below ws.heap.size ws wr))
          case atStart => exact ⟨_, 0, rfl, rfl, HX2, Lib.hid (Nat.le_refl _), Lib.hid (Below.refl _ _)⟩
          case round =>
           clear HX2
           obtain ⟨x, i2, rfl, rfl, HA, HK2, HB2⟩ := hrel
           cases gk with
           | zero => exact absurd HA.out (by simp [apparatus_Choose.x0])
           | succ k2 =>
            have H := HA.out
            clear HA
            rw [apparatus_Choose.x0] at H
            by_cases f1 : i2 < (ro.f1.length : Int)
            ·rw [if_pos f1] at H
             by_cases f2 : 0 ≤ i2
             ·rw [if_pos f2] at H
              have HE := Lib.hid H
              obtain ⟨av, rfl, hz0, hz1⟩ := at_T67 (Kd.C_below RD.out HB2.out) i2 f2 f1
              have b1' : decide (i2 < (ro.f1.length : Int)) = true := decide_eq_true f1
              have j1 := eq_true f1
              have j2 := eq_true f2
              clear H f1 f2
              obtain ⟨wt, rfl⟩ : ∃ x, x = wr := ⟨_, rfl⟩
              go_wp2_with (first | ((with_reducible refine gate_dst (N := 15) rfl ?_); (try (refine gate_guard (by rfl) ?_; dsimp only)); refine bX 15 #[.string ⟨#[]⟩, .int .i64 0] 67 ?_; intro b15 hb15 w10 hbox hbb; have V10 := Lib.hid hbox; have N15 := Lib.hid (show b15 = wt.heap.size from hb15); have H10 := Lib.hid hbb; clear hb15 hbox hbb; have hcv0 := (blk_cell V10.out 0).trans (show _ = some (Value.string ⟨#[]⟩) from rfl); have hcv1 := (blk_cell V10.out 1).trans (show _ = some (Value.int .i64 0) from rfl); have hfv0 := blk_frozen V10.out 0; have hfv1 := blk_frozen V10.out 1; have Z10 := Lib.hid (below_set (below_set H10.out (Nat.le_of_eq N15.out.symm) (j := 0) (v := .string (rd_T67 ro.f1 i2).f0)) (Nat.le_of_eq N15.out.symm) (j := 1) (v := .int .i64 (rd_T67 ro.f1 i2).f1)); have V11 := Lib.hid (show ((w10.setCell ⟨b15, 0, none⟩ (.string (rd_T67 ro.f1 i2).f0)).setCell ⟨b15, 1, none⟩ (.int .i64 (rd_T67 ro.f1 i2).f1)).heap[b15]? = some (.cells #[.string (rd_T67 ro.f1 i2).f0, .int .i64 (rd_T67 ro.f1 i2).f1] 67 (0, 0)) from blk_put (cs := #[.string (rd_T67 ro.f1 i2).f0, .int .i64 0]) (blk_put (cs := #[.string ⟨#[]⟩, .int .i64 0]) V10.out 0 (.string (rd_T67 ro.f1 i2).f0) rfl) 1 (.int .i64 (rd_T67 ro.f1 i2).f1) rfl); have hcw1 := (blk_cell V11.out 1).trans (show _ = some (Value.int .i64 (rd_T67 ro.f1 i2).f1) from rfl)))
              go_roundg k2
              case measure => have := HK2.out; omega
              case rel => exact ⟨_, wrap64 (i2 + 1), rfl, rfl, HE, Lib.hid (by have := HK2.out; omega), Lib.hid (HB2.out.trans (Z10.out.mono HB2.out.size))⟩
             ·rw [if_neg f2] at H; cases H
            ·rw [if_neg f1] at H
             obtain rfl := Option.some.inj H
             have b1' : decide (i2 < (ro.f1.length : Int)) = false := decide_eq_false f1
             clear H f1
             obtain ⟨gV, cgV, egV, hv1, hv2, clV, hv3⟩ := Kd.R_form HRK.out (by have := G1.out.2.1; omega)
             injection egV with e1' e2' e3'
             subst e1'; subst e3'; clear e2'
             have d1 := D4.out.1
             have d3 := D4.out.2.2.1
             have hAt := Kd.H_at HH.out d1 G1.out.1
             rw [show k65.sz = 2 from rfl] at hAt
             have hy0' := hAt.1 0 _ rfl
             rw [Nat.add_zero] at hy0'
             have hy1' := hAt.1 1 _ rfl
             have hy0 := (HB2.out.cell (World.block_lt_of_cell? ws _ hy0')).trans hy0'
             have hy1 := (HB2.out.cell (World.block_lt_of_cell? ws _ hy1')).trans hy1'
             obtain ⟨ce2, hcl2, hM2, hcc2, hfr2⟩ := Kd.R_elem HRK.out z67 a2 d3 G1.out.2.1
             obtain ⟨vo, hvo⟩ : ∃ vo, rd_T67 ro.f1 a2 = vo := ⟨_, rfl⟩
             have hM3 : k67.M ws w4.heap.size (fun q => oki q ∧ some q ≠ (Value.slice (some ⟨gV, 0, none⟩) ro.f1.length cV).ownBlock) (rd_T67 ro.f1 a2) ce2 := hM2
             rw [hvo] at hM3
             obtain rfl := k67_openM hM3
             rw [show k67.sz = 2 from rfl] at hcc2 hfr2
             have hz0' := hcc2 0 _ rfl
             rw [Nat.add_zero] at hz0'
             have hz0 := (HB2.out.cell (World.block_lt_of_cell? ws _ hz0')).trans hz0'
             have NE := Lib.hid (show gV ≠ gR from (HOI.out gV (HRK.out.1 gV rfl)).2)
             have hz1' := hcc2 1 _ rfl
             have hz1 := (HB2.out.cell (World.block_lt_of_cell? ws _ hz1')).trans hz1'
             have hfR := blk_frozen (blk_below GC.out HB2.out) (a1.toNat * 2)
             have hfV0 := blk_frozen (blk_below hv3 HB2.out) (a2.toNat * 2)
             have hfV1 := blk_frozen (blk_below hv3 HB2.out) (a2.toNat * 2 + 1)
             have m1 := eq_true d1
             have m2 := eq_true d3
             have m3 := eq_true G1.out.2.1
             go_wp2_with (fail)
             refine start_ (n := 21) (S := fun w' => w'.cell? ⟨gV, a2.toNat * 2, none⟩ = some (.string vo.f0) ∧ w'.cell? ⟨gR, a1.toNat * 2, none⟩ = some (.string ro.f0)) (ds := [14, 17, 20]) #[false, false, false, false, false, false, false, false, false, false, false, false, false, false, false, false, false, false, false, false, false] (by kernel_rfl) rfl rfl ⟨hz0, hy0⟩ (fun hHeld => ?_)
             refine ph_ 0 (some 100) ?_
             refine ph_ 1 (some 101) ?_
             refine ph_ 2 (some 102) ?_
             refine ph_ 3 (some 103) ?_
             refine ph_ 4 (some 104) ?_
             refine ph_ 5 (some 105) ?_
             refine th_ 6 (some 106) hHeld ?_
             refine ph_ 7 (some 107) ?_
             refine ph_ 8 (some 108) ?_
             refine ph_ 9 (some 109) ?_
             refine th_ 10 (some 110) hHeld ?_
             refine ph_ 11 (some 111) ?_
             refine ph_ 12 (some 112) ?_
             refine ph_ 13 (some 113) ?_
             refine last_ (i := 14) (N := none) #[true, true, true, true, true, true, true, true, true, true, true, true, true, true, true, false, false, false, false, false, false] rfl rfl (by kernel_rfl) (by decide) (fun K hK => ?_)
             refine skip_ (w1 := ?_) (by rfl) rfl ?_ ?_
             rotate_left
             ·go_simp
              rfl
             refine hK.out _ _ ?_
             clear hK K
             have hw0 : ((wr.setCell ⟨gR, a1.toNat * 2, none⟩ (.string vo.f0)).drew).cell? ⟨gV, a2.toNat * 2, none⟩ = some (.string vo.f0) := (World.cell?_of_block (w := wr) (Below.heap_setCell wr ⟨gR, a1.toNat * 2, none⟩ _ gV NE.out)).trans hz0
             have hw1 : ((wr.setCell ⟨gR, a1.toNat * 2, none⟩ (.string vo.f0)).drew).cell? ⟨gV, a2.toNat * 2 + 1, none⟩ = some (.int .i64 vo.f1) := (World.cell?_of_block (w := wr) (Below.heap_setCell wr ⟨gR, a1.toNat * 2, none⟩ _ gV NE.out)).trans hz1
             refine ph_ 15 (some 114) ?_
             refine ph_ 16 (some 115) ?_
             refine last_ (i := 17) (N := none) #[true, true, true, true, true, true, true, true, true, true, true, true, true, true, true, true, true, true, false, false, false] rfl rfl (by kernel_rfl) (by decide) (fun K hK => ?_)
             refine skip_ (w1 := ?_) (by rfl) rfl ?_ ?_
             rotate_left
             ·go_simp
              rfl
             refine hK.out _ _ ?_
             clear hK K
             refine ph_ 18 (some 116) ?_
             refine ph_ 19 (some 117) ?_
             refine last_ (i := 20) (N := none) #[true, true, true, true, true, true, true, true, true, true, true, true, true, true, true, true, true, true, true, true, true] rfl rfl (by kernel_rfl) (by decide) (fun K hK => ?_)
             refine skip_ (w1 := ?_) (by rfl) rfl ?_ ?_
             rotate_left
             ·go_simp
              rfl
             refine hK.out _ _ ?_
             clear hK K
             refine done_ (by kernel_rfl) ?_
             have HBf := Lib.hid (HB.out.trans (HB2.out.mono HB.out.size))
             have sS := Kd.S_below HS.out HB2.out
             -- the text of the row first
             obtain ⟨ok1, c1_, hc1l, hM1, hcc1, hfr1, hok1, hH1⟩ := Kd.S_elem (Kd.S_mono sS (ok' := fun q => b9 < q) (fun _ h => h)) z65 a1 d1 G1.out.1
             have hM1' : k65.M wr w4.heap.size ok1 (rd_T65 acc a1) c1_ := hM1
             rw [HRO.out] at hM1'
             obtain ⟨v1_, rfl, hR1⟩ := k65_openM hM1'
             have e1_ : v1_ = .slice (some ⟨gV, 0, none⟩) ro.f1.length cV := by
              have h := hcc1 1 _ rfl
              rw [show k65.sz = 2 from rfl] at h
              exact Option.some.inj (h.symm.trans hy1)
             subst e1_
             have P1 := Kd.S_seg0 hH1 d1 G1.out.1 (seg := [.string vo.f0]) (j := 0) (by show 0 + 1 ≤ 2; omega) (x' := (⟨vo.f0, ro.f1⟩ : S65)) (okp := ok1) (k65_mkM wr w4.heap.size ok1 (⟨vo.f0, ro.f1⟩ : S65) hR1) (fun _ h => h)
             have S1 := P1.1
             rw [show k65.sz = 2 from rfl, Nat.add_zero] at S1
             have S1' : Kd.S k65 65 (wr.setCell ⟨gR, a1.toNat * 2, none⟩ (.string vo.f0)) w4.heap.size (fun q => b9 < q) (.slice (some ⟨gR, 0, none⟩) acc.length cR) (acc.set a1.toNat ⟨vo.f0, ro.f1⟩) := S1
             obtain ⟨ok2, c2_, hc2l, hM2_, hcc2_, hok2, hback⟩ := Kd.S_borrow S1' z65 a1 d1 G1.out.1
             have eg_ : (acc.set a1.toNat (⟨vo.f0, ro.f1⟩ : S65)).getD a1.toNat z65 = ⟨vo.f0, ro.f1⟩ := by
              have hl : a1.toNat < acc.length := by have := G1.out.1; omega
              simp [List.getD_eq_getElem?_getD, List.getElem?_set, hl]
             rw [eg_] at hM2_
             obtain ⟨v2_, rfl, hR2⟩ := k65_openM hM2_
             have e2_ : v2_ = .slice (some ⟨gV, 0, none⟩) ro.f1.length cV := by
              have h := hcc2_ 1 _ rfl
              rw [show k65.sz = 2 from rfl] at h
              have h2 : (wr.setCell ⟨gR, a1.toNat * 2, none⟩ (.string vo.f0)).cell? ⟨gR, a1.toNat * 2 + 1, none⟩ = some (.slice (some ⟨gV, 0, none⟩) ro.f1.length cV) := by
               rw [World.cell?_setCell_other (h := by simp)]
               exact hy1
              have h3 : (wr.setCell ⟨gR, a1.toNat * 2, none⟩ (.string vo.f0)).cell? ⟨gR, a1.toNat * 2 + 1, none⟩ = some v2_ := by simpa [Addr.add] using h
              exact Option.some.inj (h3.symm.trans h2)
             subst e2_
             obtain ⟨ce3, hcl3, hM4, hcc3, _⟩ := Kd.R_elem hR2 z67 a2 d3 G1.out.2.1
             have P3 := Kd.R_seg hR2 a2 d3 G1.out.2.1 (seg := [.string ro.f0, .int .i64 x]) (j := 0) hcl3 hcc3 (Nat.le_refl 2) (x' := (⟨ro.f0, x⟩ : S67)) (by
              have hce : ce3.drop (0 + [Value.string ro.f0, Value.int .i64 x].length) = [] := List.drop_of_length_le (by rw [hcl3]; exact Nat.le_refl 2)
              rw [hce]
              exact k67_mkM _ w4.heap.size (fun _ => False) (⟨ro.f0, x⟩ : S67)) (fun _ hk => False.elim hk)
             rw [show k67.sz = 2 from rfl, Nat.add_zero] at P3
             have S3 := hback (row := some gV) (x' := (⟨vo.f0, ro.f1.set a2.toNat ⟨ro.f0, x⟩⟩ : S65)) P3.2 (fun q hq => by injection hq with hq; subst hq; exact hR2.1 gV rfl) (k65_mkM _ _ _ (⟨vo.f0, ro.f1.set a2.toNat ⟨ro.f0, x⟩⟩ : S65) P3.1)
             have nR : b9 ≠ gR := Nat.ne_of_lt ((Kd.S_R HS.out).1 gR rfl)
             have nV : b9 ≠ gV := Nat.ne_of_lt (HOI.out gV (HRK.out.1 gV rfl)).1
             have TF := Lib.hid (blk_drew (blk_far (blk_far (blk_far (blk_below HT.out HB2.out) (p := ⟨gR, a1.toNat * 2, none⟩) nR (.string vo.f0)) (p := ⟨gV, a2.toNat * 2, none⟩) nV (.string ro.f0)) (p := ⟨gV, a2.toNat * 2 + 1, none⟩) nV (.int .i64 x)))
             have S3' : Kd.S k65 65 ((((wr.setCell { block := gR, off := a1.toNat * 2 } (Value.string vo.f0)).setCell { block := gV, off := a2.toNat * 2 } (Value.string ro.f0)).setCell { block := gV, off := a2.toNat * 2 + 1 } (Value.int IntKind.i64 x))) w4.heap.size (fun q => b9 < q) (.slice (some ⟨gR, 0, none⟩) acc.length cR) ((acc.set a1.toNat ⟨vo.f0, ro.f1⟩).set a1.toNat (⟨vo.f0, ro.f1.set a2.toNat ⟨ro.f0, x⟩⟩ : S65)) := S3
             rw [List.set_set] at S3'
             have SF := Lib.hid (Kd.S_drew S3')
             have gRb := (Kd.S_R (Kd.S_bound HS.out)).1 gR rfl
             have gVb := (Kd.R_bound HRK.out).1 gV rfl
             have l6 := blk_lt P4.out
             have M6R : b6 ≠ gR := by have := gRb.1; have := N9.out; omega
             have M6V : b6 ≠ gV := by have := gVb.2.1; omega
             have PF := Lib.hid (blk_drew (blk_far (blk_far (blk_far (blk_below PS.out HB2.out) (p := ⟨gR, a1.toNat * 2, none⟩) M6R (.string vo.f0)) (p := ⟨gV, a2.toNat * 2, none⟩) M6V (.string ro.f0)) (p := ⟨gV, a2.toNat * 2 + 1, none⟩) M6V (.int .i64 x)))
             have sz4 := B4.out.size
             have BF := Lib.hid (below_drew1 (below_set (below_set (below_set (B4.out.trans (HBf.out.mono sz4)) (show w.heap.size ≤ gR by have := gRb.2.1; omega) (j := a1.toNat * 2) (v := .string vo.f0)) (show w.heap.size ≤ gV by have := gVb.2.1; omega) (j := a2.toNat * 2) (v := .string ro.f0)) (show w.heap.size ≤ gV by have := gVb.2.1; omega) (j := a2.toNat * 2 + 1) (v := .int .i64 x)))
             have R40 : Kd.R Kd.string 9 w4 w.heap.size (fun q => b6 < q ∧ q < w4.heap.size) (.slice A4 wl.length c4) wl := Kd.R_mono (Kd.R_bound R4.out) (fun q hq => ⟨hq.1, hq.2.2.1⟩)
             have RF := Lib.hid (Kd.R_drew (Kd.R_far (Kd.R_far (Kd.R_far (Kd.R_below R40 HBf.out) (p := ⟨gR, a1.toNat * 2, none⟩) (fun q hq => by have := hq.2; have := gRb.2.1; show q ≠ gR; omega) (.string vo.f0)) (p := ⟨gV, a2.toNat * 2, none⟩) (fun q hq => by have := hq.2; have := gVb.2.1; show q ≠ gV; omega) (.string ro.f0)) (p := ⟨gV, a2.toNat * 2 + 1, none⟩) (fun q hq => by have := hq.2; have := gVb.2.1; show q ≠ gV; omega) (.int .i64 x)))
             clear hw0 hw1 hy0 hy1 hz0 hz1 hz0' hz1' hy0' hy1' hAt hcc2 hfr2 hfR hfV0 hfV1 hH1 hM1 hM1' hcc1 hR1 P1 S1 S1' hM2_ hcc2_ hback hR2 hM4 hcc3 P3 S3 S3' R40 hHeld sS
             generalize (((wr.setCell { block := gR, off := a1.toNat * 2 } (Value.string vo.f0)).setCell { block := gV, off := a2.toNat * 2 } (Value.string ro.f0)).setCell { block := gV, off := a2.toNat * 2 + 1 } (Value.int IntKind.i64 x)).drew = wf at TF SF PF BF RF ⊢
             have hct0 := (blk_cell TF.out 0).trans (show _ = some (Value.slice A4 wl.length c4) from rfl)
             have hct1 := (blk_cell TF.out 1).trans (show _ = some (Value.slice (some ⟨gR, 0, none⟩) acc.length cR) from rfl)
             have hcy0 := (blk_cell PF.out 0).trans (show _ = some (Value.slice none 0 0) from rfl)
             have hcy1 := (blk_cell PF.out 1).trans (show _ = some (Value.slice none 0 0) from rfl)
             have hfy0 := blk_frozen PF.out 0
             have hfy1 := blk_frozen PF.out 1
             go_wp2_with (fail)
             refine bodyPost_ret (results_ct rfl _ _ b6 42 #[.slice A4 wl.length c4, .slice (some ⟨gR, 0, none⟩) acc.length cR] (0, 0) _ rfl (blk_put (cs := #[.slice A4 wl.length c4, .slice none 0 0]) (blk_put (cs := #[.slice none 0 0, .slice none 0 0]) PF.out 0 _ rfl) 1 _ rfl) Try.underlying42 rfl (by kernel_rfl)) rfl ?_
             refine ⟨_, _, rfl, ?_, ?_, below_set (below_set BF.out N6.out) N6.out⟩
             ·exact Kd.R_mono (Kd.R_far (Kd.R_far RF.out (p := ⟨b6, 0, none⟩) (fun q hq => Nat.ne_of_gt hq.1) _) (p := ⟨b6, 1, none⟩) (fun q hq => Nat.ne_of_gt hq.1) _) (fun _ _ => trivial)
             ·have n9 := N9.out
              rw [HRO.out, hvo]
              exact Kd.S_lower (Kd.S_mono (Kd.S_far (Kd.S_far SF.out (p := ⟨b6, 0, none⟩) (fun q hq => by show q ≠ b6; omega) _) (p := ⟨b6, 1, none⟩) (fun q hq => by show q ≠ b6; omega) _) (fun _ _ => trivial)) B4.out.size
         ·rw [if_neg g1] at h3; cases h3
     ·have e4 : decide (((rd_T65 l0_1 a1).f1.length : Int) ≤ a2) = true := decide_eq_true (by omega)
      obtain ⟨rfl, rfl, rfl⟩ := HF.out (fun h => d4 h.2.2.2)
      clear H1 HF d1 d2 d3 d4 hlr hCr
      go_wp2_with (fail)
      refine bodyPost_ret (results_ct rfl _ _ b6 42 #[.slice none 0 0, .slice none 0 0] (0, 0) _ rfl (blk_put (cs := #[.slice none 0 0, .slice none 0 0]) (blk_put (cs := #[.slice none 0 0, .slice none 0 0]) P3.out 0 _ rfl) 1 _ rfl) Try.underlying42 rfl (by kernel_rfl)) rfl ?_
      exact ⟨_, _, rfl, Kd.R_nil _ _ _ _ _, Kd.S_nil _ _ _ _ _, below_set (below_set B3.out N6.out) N6.out⟩
    ·have e3 : decide (a2 < 0) = true := decide_eq_true (by omega)
     obtain ⟨rfl, rfl, rfl⟩ := HF.out (fun h => d3 h.2.2.1)
     clear H1 HF d1 d2 d3
     go_wp2_with (fail)
     refine bodyPost_ret (results_ct rfl _ _ b6 42 #[.slice none 0 0, .slice none 0 0] (0, 0) _ rfl (blk_put (cs := #[.slice none 0 0, .slice none 0 0]) (blk_put (cs := #[.slice none 0 0, .slice none 0 0]) P3.out 0 _ rfl) 1 _ rfl) Try.underlying42 rfl (by kernel_rfl)) rfl ?_
     exact ⟨_, _, rfl, Kd.R_nil _ _ _ _ _, Kd.S_nil _ _ _ _ _, below_set (below_set B3.out N6.out) N6.out⟩
   ·have e2 : decide ((l0_1.length : Int) ≤ a1) = true := decide_eq_true (by omega)
    obtain ⟨rfl, rfl, rfl⟩ := HF.out (fun h => d2 h.2.1)
    clear H1 HF d1 d2
    go_wp2_with (fail)
    refine bodyPost_ret (results_ct rfl _ _ b6 42 #[.slice none 0 0, .slice none 0 0] (0, 0) _ rfl (blk_put (cs := #[.slice none 0 0, .slice none 0 0]) (blk_put (cs := #[.slice none 0 0, .slice none 0 0]) P3.out 0 _ rfl) 1 _ rfl) Try.underlying42 rfl (by kernel_rfl)) rfl ?_
    exact ⟨_, _, rfl, Kd.R_nil _ _ _ _ _, Kd.S_nil _ _ _ _ _, below_set (below_set B3.out N6.out) N6.out⟩
  ·have e1 : decide (a1 < 0) = true := decide_eq_true (by omega)
   obtain ⟨rfl, rfl, rfl⟩ := HF.out (fun h => d1 h.1)
   clear H1 HF d1
   go_wp2_with (fail)
   refine bodyPost_ret (results_ct rfl _ _ b6 42 #[.slice none 0 0, .slice none 0 0] (0, 0) _ rfl (blk_put (cs := #[.slice none 0 0, .slice none 0 0]) (blk_put (cs := #[.slice none 0 0, .slice none 0 0]) P3.out 0 _ rfl) 1 _ rfl) Try.underlying42 rfl (by kernel_rfl)) rfl ?_
   exact ⟨_, _, rfl, Kd.R_nil _ _ _ _ _, Kd.S_nil _ _ _ _ _, below_set (below_set B3.out N6.out) N6.out⟩
 ·rw [if_neg c0'] at h1
  obtain ⟨rfl, h2⟩ := Prod.mk.inj (Option.some.inj h1)
  obtain ⟨rfl, rfl⟩ := Prod.mk.inj h2
  have b2 : (e0 != 0) = true := by simpa using c0'
  have b3 : (e0 == 0) = false := by simpa using c0'
  have hcy0 := (blk_cell P3.out 0).trans (show _ = some (Value.slice none 0 0) from rfl)
  have hcy1 := (blk_cell P3.out 1).trans (show _ = some (Value.slice none 0 0) from rfl)
  have hfy0 := blk_frozen P3.out 0
  have hfy1 := blk_frozen P3.out 1
  clear h1 h2 c0'
  go_wp2_with (fail)
  refine bodyPost_ret (results_ct rfl _ _ b6 42 #[.slice none 0 0, .slice none 0 0] (0, 0) _ rfl (blk_put (cs := #[.slice none 0 0, .slice none 0 0]) (blk_put (cs := #[.slice none 0 0, .slice none 0 0]) P3.out 0 _ rfl) 1 _ rfl) Try.underlying42 rfl (by kernel_rfl)) rfl ?_
  exact ⟨_, _, rfl, Kd.R_nil _ _ _ _ _, Kd.S_nil _ _ _ _ _, below_set (below_set B3.out N6.out) N6.out⟩

/-! ### slices_Equal_string_string: function 35 -/
def slices_Equal_string_string.l0 : Nat → List ByteArray → List ByteArray → Int → Int → Option (Bool)
 | 0, _, _, _, _ => none
 | k + 1, x0, x1, x12, x13 => if x13 < x12 then (if 0 ≤ x13 then (if x13 < (x0.length : Int) then (if x13 < (x1.length : Int) then (if (rdOf ByteArray.empty x0 x13).toList = (rdOf ByteArray.empty x1 x13).toList then (slices_Equal_string_string.l0 k x0 x1 x12 (wrap64 (x13 + 1))) else (some false)) else (none)) else (none)) else (none)) else (some true)
def slices_Equal_string_string.f (k : Nat) (l0 : List ByteArray) (l1 : List ByteArray) : Option (Bool) := if (l0.length : Int) = (l1.length : Int) then (slices_Equal_string_string.l0 k l0 l1 (l0.length : Int) 0) else (some false)
theorem slices_Equal_string_string.mono_l : ∀ k, (∀ y0 y1 y2 y3, LeO (slices_Equal_string_string.l0 k y0 y1 y2 y3) (slices_Equal_string_string.l0 (k + 1) y0 y1 y2 y3))
 | 0 => fun _ _ _ _ r h => by simp [slices_Equal_string_string.l0] at h
 | k + 1 => by
  have ih0 := slices_Equal_string_string.mono_l k
  ·intro y0 y1 y2 y3
   unfold slices_Equal_string_string.l0
   repeat' first
   | (with_reducible exact ih0 _ _ _ _)
   | (with_reducible exact LeO.refl _)
   | (with_reducible exact LeO.none _)
   | (with_reducible refine LeO.ite ?_ ?_)
   | (with_reducible refine LeO.bind ?_ (fun _ => ?_))
   | exact ih0 _ _ _ _
   | exact LeO.none _
   | refine LeO.ite ?_ ?_
   | refine LeO.bind ?_ (fun _ => ?_)
theorem slices_Equal_string_string.mono : ∀ a0 a1 k, LeO (slices_Equal_string_string.f k a0 a1) (slices_Equal_string_string.f (k + 1) a0 a1) := by
 intro a0 a1 k
 have ih0 := slices_Equal_string_string.mono_l k
 unfold slices_Equal_string_string.f
 repeat' first
   | (with_reducible exact ih0 _ _ _ _)
   | (with_reducible exact LeO.refl _)
   | (with_reducible exact LeO.none _)
   | (with_reducible refine LeO.ite ?_ ?_)
   | (with_reducible refine LeO.bind ?_ (fun _ => ?_))
   | exact ih0 _ _ _ _
   | exact LeO.none _
   | refine LeO.ite ?_ ?_
   | refine LeO.bind ?_ (fun _ => ?_)
set_option maxHeartbeats 8000000 in
set_option maxRecDepth 100000 in
theorem slices_Equal_string_string.calls (k : Nat) (A0 : Option Addr) (c0 : Nat) (l0 : List ByteArray) (A1 : Option Addr) (c1 : Nat) (l1 : List ByteArray) (r : Bool) (w : World) (hr0 : Kd.C Kd.string w A0 l0.length l0) (hc0 : l0.length ≤ c0) (hr1 : Kd.C Kd.string w A1 l1.length l1) (hc1 : l1.length ≤ c1) (h : slices_Equal_string_string.f k l0 l1 = some r) :
  Calls Try.prog 35 #[.slice A0 l0.length c0, .slice A1 l1.length c1] w fun e w' => e = .returned (.bool r) ∧ Drawn0 w w' := by
 have HR0 := Aside0.mk hr0
 have HC0 := Aside0.mk hc0
 clear hr0 hc0
 have HR1 := Aside0.mk hr1
 have HC1 := Aside0.mk hc1
 clear hr1 hc1
 have H : (if (l0.length : Int) = (l1.length : Int) then (slices_Equal_string_string.l0 k l0 l1 (l0.length : Int) 0) else (some false)) = some r := h
 clear h
 by_cases c3 : (l0.length : Int) = (l1.length : Int)
 ·rw [if_pos c3] at H
  have c3b0 : ((l0.length : Int) == (l1.length : Int)) = true := beq_iff_eq.mpr c3
  have c3b1 : ((l0.length : Int) != (l1.length : Int)) = false := bne_eq_false_iff_eq.mpr c3
  have c3b2 : (l0.length == l1.length) = true := by first | simpa using c3 | (simp at c3 ⊢; omega)
  clear c3
  have H' := Aside0.mk H
  clear H
  go_enter Try.func35, Try.ntmps35
  go_wp2
  repeat (go_quiet (fail); try go_wp2)
  go_loopg [13] k (fun kq v13 w' => ∃ (x13_1 : Int), v13 = .int .i64 x13_1 ∧ Aside0 (slices_Equal_string_string.l0 kq l0 l1 (l0.length : Int) x13_1 = some r) ∧ Aside0 (kq ≤ k) ∧ Drawn0 w w')
  case atStart => exact ⟨(0), eV, H', ⟨Nat.le_refl _⟩, dR⟩
  case round =>
   clear H'
   (try clear c1); (try clear p2); (try clear c3); (try clear c3b0); (try clear c3b1); (try clear c3b2)
   obtain ⟨x13_1, rfl, HA, HK1, ⟨m1, rfl⟩⟩ := hrel
   cases gk with
   | zero => exact absurd HA.out (by simp [slices_Equal_string_string.l0])
   | succ k1 =>
    have H := HA.out
    clear HA
    simp only [slices_Equal_string_string.l0] at H
    by_cases c4 : x13_1 < (l0.length : Int)
    ·rw [if_pos c4] at H
     have c4b0 : decide (x13_1 < (l0.length : Int)) = true := decide_eq_true c4
     clear c4
     by_cases c5 : 0 ≤ x13_1
     ·rw [if_pos c5] at H
      have c5b0 : decide (0 ≤ x13_1) = true := decide_eq_true c5
      clear c5
      by_cases c6 : x13_1 < (l0.length : Int)
      ·rw [if_pos c6] at H
       have c6b0 : decide (x13_1 < (l0.length : Int)) = true := decide_eq_true c6
       clear c6
       by_cases c7 : x13_1 < (l1.length : Int)
       ·rw [if_pos c7] at H
        have c7b0 : decide (x13_1 < (l1.length : Int)) = true := decide_eq_true c7
        clear c7
        by_cases c8 : (rdOf ByteArray.empty l0 x13_1).toList = (rdOf ByteArray.empty l1 x13_1).toList
        ·rw [if_pos c8] at H
         have c8b0 : ((rdOf ByteArray.empty l0 x13_1).toList == (rdOf ByteArray.empty l1 x13_1).toList) = true := beq_iff_eq.mpr c8
         have c8b1 : ((rdOf ByteArray.empty l0 x13_1).toList != (rdOf ByteArray.empty l1 x13_1).toList) = false := bne_eq_false_iff_eq.mpr c8
         clear c8
         have H' := Aside0.mk H
         clear H
         have p178 := oD (0 ≤ (x13_1 : Int))
         have q178 := oD (x13_1 < (l0.length : Int))
         obtain ⟨ad178, e178, hx178_0⟩ := Kd.at_string HR0.out x13_1 p178 q178
         cases e178
         replace p178 := eq_true p178
         replace q178 := eq_true q178
         have p179 := oD (0 ≤ (x13_1 : Int))
         have q179 := oD (x13_1 < (l1.length : Int))
         obtain ⟨ad179, e179, hx179_0⟩ := Kd.at_string HR1.out x13_1 p179 q179
         cases e179
         replace p179 := eq_true p179
         replace q179 := eq_true q179
         go_wp2
         repeat (go_quiet (fail); try go_wp2)
         go_roundg k1
         case measure => have := HK1.out; omega
         case rel => exact ⟨(wrap64 (x13_1 + 1)), eV, H', ⟨by have := HK1.out; omega⟩, dR⟩
        ·rw [if_neg c8] at H
         have c8b0 : ((rdOf ByteArray.empty l0 x13_1).toList == (rdOf ByteArray.empty l1 x13_1).toList) = false := beq_eq_false_iff_ne.mpr c8
         have c8b1 : ((rdOf ByteArray.empty l0 x13_1).toList != (rdOf ByteArray.empty l1 x13_1).toList) = true := bne_iff_ne.mpr c8
         obtain rfl := Option.some.inj H
         have p178 := oD (0 ≤ (x13_1 : Int))
         have q178 := oD (x13_1 < (l0.length : Int))
         obtain ⟨ad178, e178, hx178_0⟩ := Kd.at_string HR0.out x13_1 p178 q178
         cases e178
         replace p178 := eq_true p178
         replace q178 := eq_true q178
         have p179 := oD (0 ≤ (x13_1 : Int))
         have q179 := oD (x13_1 < (l1.length : Int))
         obtain ⟨ad179, e179, hx179_0⟩ := Kd.at_string HR1.out x13_1 p179 q179
         cases e179
         replace p179 := eq_true p179
         replace q179 := eq_true q179
         go_wp2
         repeat (go_quiet (fail); try go_wp2)
         go_ret
         exact ⟨eV, dR⟩
       ·rw [if_neg c7] at H
        exact absurd H (by simp)
      ·rw [if_neg c6] at H
       exact absurd H (by simp)
     ·rw [if_neg c5] at H
      exact absurd H (by simp)
    ·rw [if_neg c4] at H
     have c4b0 : decide (x13_1 < (l0.length : Int)) = false := decide_eq_false c4
     clear c4
     obtain rfl := Option.some.inj H
     go_wp2
     repeat (go_quiet (fail); try go_wp2)
     go_ret
     exact ⟨eV, dR⟩
 ·rw [if_neg c3] at H
  have c3b0 : ((l0.length : Int) == (l1.length : Int)) = false := beq_eq_false_iff_ne.mpr c3
  have c3b1 : ((l0.length : Int) != (l1.length : Int)) = true := bne_iff_ne.mpr c3
  have c3b2 : (l0.length == l1.length) = false := by first | simpa using c3 | (simp at c3 ⊢; omega)
  obtain rfl := Option.some.inj H
  go_enter Try.func35, Try.ntmps35
  go_wp2
  repeat (go_quiet (fail); try go_wp2)
  go_ret
  exact ⟨eV, dR⟩

end Go.Proofs.Ytmjigfoldeekmaa.X
