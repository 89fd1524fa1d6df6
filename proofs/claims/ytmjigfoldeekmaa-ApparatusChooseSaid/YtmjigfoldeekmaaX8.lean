-- and more
-- shortened
-- thinned
-- halved indents
-- printed by this session's xprint.py: out of the translation, by the kit's print with additions; Lean checks it
import Derived.Test.YtmjigfoldeekmaaXE
import Derived.Test.YtmjigfoldeekmaaWN
import Derived.Test.YtmjigfoldeekmaaWShare
import Derived.Test.YtmjigfoldeekmaaWRepsOne
import Derived.Test.YtmjigfoldeekmaaX0
import Derived.Test.YtmjigfoldeekmaaX3
import Derived.Test.YtmjigfoldeekmaaX6
import Derived.Test.YtmjigfoldeekmaaXA
namespace Go.Proofs.Ytmjigfoldeekmaa.X
open Go.RowKit Go.Proofs.YtmjigfoldeekmaaW.PrintWords Go.Proofs.YtmjigfoldeekmaaW.PrintLast Go.Proofs.YtmjigfoldeekmaaW.PrintMore
attribute [local go_sem] max2_int min2_int max_two min_two max_three min_three max_four min_four isSome_setCell binOp_gtr_str binOp_leq_str binOp_geq_str   -- for this text's walks alone
set_option linter.unusedVariables false
set_option linter.unusedSimpArgs false

/-! ### apparatus_row: function 69 -/
-- row's closure 'same' at a box, slices.IndexFunc and ContainsFunc at it, and row
theorem apparatus_row.same (t v0 : ByteArray) (y v1 : Int) (b : Nat) (w : World) (hb : w.heap[b]? = some (.cells #[.string v0, .int .i64 v1] 67 (0, 0))) :
  Calls Try.prog 74 #[.agg #[.string t, .int .i64 y], .pointer (some ⟨b, 0, none⟩)] w fun e w' => e = .returned (.bool (t.toList == v0.toList)) ∧ Below w.heap.size w w' := by
 have hu67 := Try.underlying67
 have HB := Lib.hid hb
 clear hb
 go_enter Try.func74, Try.ntmps74
 go_wp2_with (first | ((with_reducible refine gate_dst (N := 2) rfl ?_); refine bX 2 #[.string t, .int .i64 y] 67 ?_; intro b2 hb2 w1 hbox hbb; have Q1 := Lib.hid hbox; have B1 := Lib.hid hbb; have Q2 := Lib.hid (blk_below HB.out hbb); clear hb2 hbox hbb; have hc0 := (blk_cell Q1.out 0).trans (show _ = some (Value.string t) from rfl); have hc1 := (blk_cell Q2.out 0).trans (show _ = some (Value.string v0) from rfl)))
 go_ret
 exact ⟨rfl, B1.out⟩
def apparatus_row.i0 : Nat → List S67 → ByteArray → Int → Option Int
 | 0, _, _, _ => none
 | k + 1, l, t, i => if i < (l.length : Int) then (if 0 ≤ i then (if (rd_T67 l i).f0.toList = t.toList then some i else apparatus_row.i0 k l t (wrap64 (i + 1))) else none) else some (-1)
theorem apparatus_row.index (k : Nat) (A : Option Addr) (cap : Nat) (l : List S67) (v0 : ByteArray) (v1 : Int) (b : Nat) (r : Int) (w0 w : World) (hr : Kd.C k67 w0 A l.length l) (hb0 : Below w0.heap.size w0 w) (hb : w.heap[b]? = some (.cells #[.string v0, .int .i64 v1] 67 (0, 0)))
  (h : apparatus_row.i0 k l v0 0 = some r) :
  Calls Try.prog 80 #[.slice A l.length cap, .func (.func 74) #[] #[.pointer (some ⟨b, 0, none⟩)]] w fun e w' => e = .returned (.int .i64 r) ∧ Below w.heap.size w w' := by
 have hu67 := Try.underlying67
 have HR := Lib.hid hr; have HH := Lib.hid h; have HB := Lib.hid hb; have H0 := Lib.hid hb0
 clear hr h hb hb0
 have HD := Lib.hid (Below.refl w.heap.size w)
 go_enter Try.func80, Try.ntmps80
 go_wp2_with (fail)
 go_loopg [8] k (fun kq v8 wr => ∃ (i : Int), v8 = .int .i64 i ∧ Hid (apparatus_row.i0 kq l v0 i = some r) ∧ Hid (kq ≤ k) ∧ Hid (Below w.heap.size w wr))
 case atStart => exact ⟨0, rfl, HH, Lib.hid (Nat.le_refl _), HD⟩
 case round =>
  clear HH HD
  obtain ⟨i, rfl, HA, HK, HD⟩ := hrel
  cases gk with
  | zero => exact absurd HA.out (by simp [apparatus_row.i0])
  | succ k1 =>
   have H := HA.out
   clear HA
   rw [apparatus_row.i0] at H
   by_cases c1 : i < (l.length : Int)
   ·rw [if_pos c1] at H
    by_cases c2 : 0 ≤ i
    ·rw [if_pos c2] at H
     have HE := Lib.hid H
     have b1 : decide (i < (l.length : Int)) = true := decide_eq_true c1
     have B0 := Lib.hid (H0.out.trans (HD.out.mono H0.out.size))
     obtain ⟨ad, rfl, hx0, hx1⟩ := at_T67 (Kd.C_below HR.out B0.out) i c2 c1
     have g6 : wr.heap[b]? = some (.cells #[.string v0, .int .i64 v1] 67 (0, 0)) := blk_below HB.out HD.out
     have HO := Lib.hid (apparatus_row.same (rd_T67 l i).f0 v0 (rd_T67 l i).f1 v1 b wr g6)
     have q1 := eq_true c1
     have q2 := eq_true c2
     clear H g6 c1 c2
     go_wp2_with (fail)
     refine (HO.out).mono ?_
     rintro e w2 ⟨rfl, hd⟩
     have D2 := Lib.hid (HD.out.trans (hd.mono HD.out.size))
     clear hd HO hx0 hx1 HD
     by_cases c4 : (rd_T67 l i).f0.toList = v0.toList
     ·have h5 := HE.out
      rw [if_pos c4] at h5
      obtain rfl := Option.some.inj h5
      clear h5 HE
      rw [beq_iff_eq.2 c4]
      go_wp2_with (fail)
      go_ret
      exact ⟨rfl, D2.out⟩
     ·have h5 := HE.out
      rw [if_neg c4] at h5
      have H5 := Lib.hid h5
      rw [beq_eq_false_iff_ne.2 c4]
      clear h5 HE c4
      go_wp2_with (fail)
      go_roundg k1
      case measure => have := HK.out; omega
      case rel => exact ⟨wrap64 (i + 1), rfl, H5, Lib.hid (by have := HK.out; omega), D2⟩
    ·rw [if_neg c2] at H; cases H
   ·rw [if_neg c1] at H
    obtain rfl := Option.some.inj H
    have b1 : decide (i < (l.length : Int)) = false := decide_eq_false c1
    clear H c1
    go_wp2_with (fail)
    go_ret
    exact ⟨rfl, HD.out⟩
theorem apparatus_row.contains (k : Nat) (A : Option Addr) (cap : Nat) (l : List S67) (v0 : ByteArray) (v1 : Int) (b : Nat) (r : Int) (w0 w : World) (hr : Kd.C k67 w0 A l.length l) (hb0 : Below w0.heap.size w0 w) (hb : w.heap[b]? = some (.cells #[.string v0, .int .i64 v1] 67 (0, 0)))
  (h : apparatus_row.i0 k l v0 0 = some r) :
  Calls Try.prog 75 #[.slice A l.length cap, .func (.func 74) #[] #[.pointer (some ⟨b, 0, none⟩)]] w fun e w' => e = .returned (.bool (decide (r ≥ 0))) ∧ Below w.heap.size w w' := by
 have HC := Lib.hid (apparatus_row.index k A cap l v0 v1 b r w0 w hr hb0 hb h)
 clear hr h hb hb0
 go_enter Try.func75, Try.ntmps75
 go_wp2_with (fail)
 refine (HC.out).mono ?_
 rintro e w2 ⟨rfl, hd⟩
 have D2 := Lib.hid hd
 clear hd HC
 go_wp2_with (fail)
 go_ret
 exact ⟨rfl, D2.out⟩
def apparatus_row.l0 : Nat → ByteArray → List S67 → Int → Int → Int → Option Int
 | 0, _, _, _, _, _ => none
 | k + 1, t, l, n, taken, i => if i < (l.length : Int) then (if 0 ≤ i then ((text_Valid.f k (rd_T67 l i).f0).bind fun e => if e = 0 then (if (rd_T67 l i).f0.toList = t.toList then some 5 else ((apparatus_row.i0 k (l.take i.toNat) (rd_T67 l i).f0 0).bind fun r => if r ≥ 0 then some 5 else (if (rd_T67 l i).f1 < 0 then some 6 else (if (rd_T67 l i).f1 / 2 ^ n.toNat = 0 then (if Go.bits .and .i64 (rd_T67 l i).f1 taken = 0 then apparatus_row.l0 k t l n (Go.bits .or .i64 taken (rd_T67 l i).f1) (wrap64 (i + 1)) else some 12) else some 6)))) else some e) else none) else some 0
def apparatus_row.f (k : Nat) (a0_0 : ByteArray) (l0_1 : List S67) (a1 : Int) : Option Int := (text_Valid.f k a0_0).bind fun e => if e = 0 then (if (l0_1.length : Int) > 8 then some 3 else (if 0 ≤ a1 ∧ a1 ≤ 62 then apparatus_row.l0 k a0_0 l0_1 a1 0 0 else none)) else some e
theorem apparatus_row.mono_i : ∀ k y0 y1 y2, LeO (apparatus_row.i0 k y0 y1 y2) (apparatus_row.i0 (k + 1) y0 y1 y2)
 | 0 => fun _ _ _ r h => by simp [apparatus_row.i0] at h
 | k + 1 => by
  have ih := apparatus_row.mono_i k
  intro y0 y1 y2
  rw [apparatus_row.i0, apparatus_row.i0]
  exact LeO.ite (LeO.ite (LeO.ite (LeO.refl _) (ih _ _ _)) (LeO.refl _)) (LeO.refl _)
theorem apparatus_row.mono_l : ∀ k y0 y1 y2 y3 y4, LeO (apparatus_row.l0 k y0 y1 y2 y3 y4) (apparatus_row.l0 (k + 1) y0 y1 y2 y3 y4)
 | 0 => fun _ _ _ _ _ r h => by simp [apparatus_row.l0] at h
 | k + 1 => by
  have ih := apparatus_row.mono_l k
  intro y0 y1 y2 y3 y4
  rw [apparatus_row.l0, apparatus_row.l0]
  exact LeO.ite (LeO.ite (LeO.bind (text_Valid.mono _ _) fun _ => LeO.ite (LeO.ite (LeO.refl _) (LeO.bind (apparatus_row.mono_i _ _ _ _) fun _ => LeO.ite (LeO.refl _) (LeO.ite (LeO.refl _) (LeO.ite (LeO.ite (ih _ _ _ _ _) (LeO.refl _)) (LeO.refl _))))) (LeO.refl _)) (LeO.refl _)) (LeO.refl _)
theorem apparatus_row.mono : ∀ a0 a1 a2 k, LeO (apparatus_row.f k a0 a1 a2) (apparatus_row.f (k + 1) a0 a1 a2) := by
 intro a0 a1 a2 k
 unfold apparatus_row.f
 exact LeO.bind (text_Valid.mono _ _) fun _ => LeO.ite (LeO.ite (LeO.refl _) (LeO.ite (apparatus_row.mono_l _ _ _ _ _ _) (LeO.refl _))) (LeO.refl _)
set_option maxHeartbeats 4000000 in
set_option maxRecDepth 100000 in
theorem apparatus_row.calls (k : Nat) (a0_0 : ByteArray) (A0_1 : Option Addr) (c0_1 : Nat) (l0_1 : List S67) (a1 : Int) (r : Int) (w : World) (hr0_1 : Kd.C k67 w A0_1 l0_1.length l0_1) (hc0_1 : l0_1.length ≤ c0_1) (h : apparatus_row.f k a0_0 l0_1 a1 = some r) :
  Calls Try.prog 69 #[.agg #[.string a0_0, .slice A0_1 l0_1.length c0_1], .int .i64 a1] w fun e w' => e = .returned (.int .i64 r) ∧ Below w.heap.size w w' := by
 have hu65 := Try.underlying65
 have hu67 := Try.underlying67
 unfold apparatus_row.f at h
 obtain ⟨e0, he, h1⟩ := Option.bind_eq_some_iff.1 h
 clear h
 have HV := Lib.hid he; have HR := Lib.hid hr0_1; have HC := Lib.hid hc0_1; have H1 := Lib.hid h1
 clear he hr0_1 hc0_1 h1
 go_enter Try.func69, Try.ntmps69
 go_wp2_with (first | ((with_reducible refine gate_dst (N := 2) rfl ?_); refine bX 2 #[.string a0_0, .slice A0_1 l0_1.length c0_1] 65 ?_; intro b2 hb2 w1 hbox hbb; have Q1 := Lib.hid hbox; have B1 := Lib.hid hbb; clear hb2 hbox hbb; have hc0 := (blk_cell Q1.out 0).trans (show _ = some (Value.string a0_0) from rfl)))
 refine (text_Valid.calls k a0_0 e0 _ HV.out).mono ?_
 rintro e w2 ⟨rfl, hb⟩
 have B2 := Lib.hid (B1.out.trans (hb.mono B1.out.size))
 have Q2 := Lib.hid (blk_below Q1.out hb)
 clear hb hc0 Q1 B1
 have h1 := H1.out
 clear H1
 by_cases c0 : e0 = 0
 ·subst c0
  rw [if_pos rfl] at h1
  have hc1 := (blk_cell Q2.out 1).trans (show _ = some (Value.slice A0_1 l0_1.length c0_1) from rfl)
  by_cases c1 : (l0_1.length : Int) > 8
  ·rw [if_pos c1] at h1
   obtain rfl := Option.some.inj h1
   have b1 : decide (8 < (l0_1.length : Int)) = true := decide_eq_true c1
   have b1' : decide (8 < l0_1.length) = true := decide_eq_true (by omega)
   clear h1 c1
   go_wp2_with (fail)
   go_ret
   exact ⟨rfl, B2.out⟩
  ·rw [if_neg c1] at h1
   have b1 : decide (8 < (l0_1.length : Int)) = false := decide_eq_false c1
   have b1' : decide (8 < l0_1.length) = false := decide_eq_false (by omega)
   by_cases c2 : 0 ≤ a1 ∧ a1 ≤ 62
   ·rw [if_pos c2] at h1
    have HL := Lib.hid h1; have C2 := Lib.hid c2; have C1 := Lib.hid c1
    clear h1 c1 c2
    go_wp2_with (fail)
    go_loopg [6, 24] k (fun kq v6 v24 wr => ∃ (taken i : Int), v6 = .int .i64 taken ∧ v24 = .int .i64 i ∧ Hid (apparatus_row.l0 kq a0_0 l0_1 a1 taken i = some r) ∧ Hid (kq ≤ k) ∧ Hid (wr.heap[b2]? = some (.cells #[.string a0_0, .slice A0_1 l0_1.length c0_1] 65 (0, 0))) ∧ Hid (Below w.heap.size w wr))
    case atStart => exact ⟨0, 0, rfl, rfl, HL, Lib.hid (Nat.le_refl _), Q2, B2⟩
    case round =>
     clear HL Q2 B2 hc1
     obtain ⟨taken, i, rfl, rfl, HA, HK, QR, BR⟩ := hrel
     cases gk with
     | zero => exact absurd HA.out (by simp [apparatus_row.l0])
     | succ k1 =>
      have H := HA.out
      clear HA
      rw [apparatus_row.l0] at H
      by_cases c3 : i < (l0_1.length : Int)
      ·rw [if_pos c3] at H
       have b3 : decide (i < (l0_1.length : Int)) = true := decide_eq_true c3
       by_cases c4 : 0 ≤ i
       ·rw [if_pos c4] at H
        obtain ⟨e1, he1, H2⟩ := Option.bind_eq_some_iff.1 H
        have HV1 := Lib.hid he1; have HT := Lib.hid H2; have C3 := Lib.hid c3; have C4 := Lib.hid c4
        obtain ⟨ad, rfl, hx0, hx1⟩ := at_T67 (Kd.C_below HR.out BR.out) i c4 c3
        have q1 := eq_true c3
        have q2 := eq_true c4
        clear H H2 he1 c3 c4
        generalize hs : (rd_T67 l0_1 i).f0 = s at hx0 hx1 HV1 HT
        generalize hy : (rd_T67 l0_1 i).f1 = y at hx0 hx1 HT
        clear hs hy
        go_wp2_with (first | ((with_reducible refine gate_dst (N := 8) rfl ?_); refine bX 8 #[.string ⟨#[]⟩, .int .i64 0] 67 ?_; intro b8 hb8 w3 hbox hbb; have Q8 := Lib.hid hbox; have Q3 := Lib.hid (blk_below QR.out hbb); have B3 := Lib.hid (BR.out.trans (hbb.mono BR.out.size)); have N8 := Lib.hid (show w.heap.size ≤ b8 ∧ b2 < b8 from ⟨by have := BR.out.size; omega, by have := blk_lt QR.out; omega⟩); clear hb8 hbox hbb; have hcz0 := (blk_cell Q8.out 0).trans (show _ = some (Value.string ⟨#[]⟩) from rfl); have hcz1 := (blk_cell Q8.out 1).trans (show _ = some (Value.int .i64 0) from rfl); have hfz0 := blk_frozen Q8.out 0; have hfz1 := blk_frozen Q8.out 1))
        refine (text_Valid.calls k1 s e1 _ HV1.out).mono ?_
        rintro e w4 ⟨rfl, hb⟩
        have Q9 := Lib.hid (blk_below (g := b8) (o := .cells #[.string s, .int .i64 y] 67 (0, 0)) (blk_put (cs := #[.string s, .int .i64 0]) (blk_put (cs := #[.string ⟨#[]⟩, .int .i64 0]) Q8.out 0 (.string s) rfl) 1 (.int .i64 y) rfl) hb)
        have Q4 := Lib.hid (blk_below (blk_far (blk_far Q3.out (p := ⟨b8, 0, none⟩) (Nat.ne_of_lt N8.out.2) (.string s)) (p := ⟨b8, 1, none⟩) (Nat.ne_of_lt N8.out.2) (.int .i64 y)) hb)
        have B4' := below_set (below_set B3.out N8.out.1 (j := 0) (v := .string s)) N8.out.1 (j := 1) (v := .int .i64 y)
        have B4 := Lib.hid (B4'.trans (hb.mono B4'.size))
        clear hb B4' Q8 Q3 B3 hcz0 hcz1 hfz0 hfz1 hx0 hx1 QR BR HV1
        have hT := HT.out
        clear HT
        by_cases c5 : e1 = 0
        ·subst c5
         rw [if_pos rfl] at hT
         have hd0 := (blk_cell Q9.out 0).trans (show _ = some (Value.string s) from rfl)
         have hd1 := (blk_cell Q9.out 1).trans (show _ = some (Value.int .i64 y) from rfl)
         have hr0 := (blk_cell Q4.out 0).trans (show _ = some (Value.string a0_0) from rfl)
         have hr1 := (blk_cell Q4.out 1).trans (show _ = some (Value.slice (some ad) l0_1.length c0_1) from rfl)
         by_cases c6 : s.toList = a0_0.toList
         ·rw [if_pos c6] at hT
          obtain rfl := Option.some.inj hT
          have b6 : (s.toList == a0_0.toList) = true := beq_iff_eq.2 c6
          clear hT c6
          go_wp2_with (fail)
          go_ret
          exact ⟨rfl, B4.out⟩
         ·rw [if_neg c6] at hT
          have b6 : (s.toList == a0_0.toList) = false := beq_eq_false_iff_ne.2 c6
          obtain ⟨q, hq, hT2⟩ := Option.bind_eq_some_iff.1 hT
          have HT2 := Lib.hid hT2; have HQ := Lib.hid hq
          clear hT c6 hT2 hq
          obtain ⟨i9, hi9, _, hs9, _⟩ := info_parts info67
          have hlk : (l0_1.take i.toNat).length = i.toNat := by rw [List.length_take]; have := C3.out; have := C4.out; omega
          have hcut := cut_to (P := Try.prog) 63 67 .i64 Try.underlying63 hi9 (some ad) l0_1.length c0_1 i C4.out (Int.le_of_lt C3.out) HC.out
          rw [← hlk] at hcut
          have WK := Lib.hid (Kd.C_take HR.out (m := i.toNat) (by have := C3.out; have := C4.out; omega))
          clear hlk hi9 hs9
          generalize l0_1.take i.toNat = lk at hcut WK HQ
          go_wp2_with (fail)
          refine (apparatus_row.contains k1 (some ad) c0_1 lk s y b8 q w _ WK.out B4.out Q9.out HQ.out).mono ?_
          rintro e w5 ⟨rfl, hb⟩
          have Q9' := Lib.hid (blk_below Q9.out hb)
          have Q5 := Lib.hid (blk_below Q4.out hb)
          have B5 := Lib.hid (B4.out.trans (hb.mono B4.out.size))
          clear hb hcut Q9 Q4 B4 hd0 hd1 hr0 hr1 WK HQ
          have hT := HT2.out
          clear HT2
          have hd1 := (blk_cell Q9'.out 1).trans (show _ = some (Value.int .i64 y) from rfl)
          by_cases c7 : q ≥ 0
          ·rw [if_pos c7] at hT
           obtain rfl := Option.some.inj hT
           rw [decide_eq_true c7]
           clear hT c7
           go_wp2_with (fail)
           go_ret
           exact ⟨rfl, B5.out⟩
          ·rw [if_neg c7] at hT
           rw [decide_eq_false c7]
           clear c7
           by_cases c8 : y < 0
           ·rw [if_pos c8] at hT
            obtain rfl := Option.some.inj hT
            have b8' : decide (y < 0) = true := decide_eq_true c8
            clear hT c8
            go_wp2_with (fail)
            go_ret
            exact ⟨rfl, B5.out⟩
           ·rw [if_neg c8] at hT
            have b8' : decide (y < 0) = false := decide_eq_false c8
            have HT3 := Lib.hid hT
            clear hT c8
            have n0 : 0 ≤ a1 := C2.out.1
            have n1 : a1 ≤ 62 := C2.out.2
            by_cases c9 : y / 2 ^ a1.toNat = 0
            ·have hT := HT3.out
             rw [if_pos c9] at hT
             have HT4 := Lib.hid hT
             have b9 : (y / 2 ^ a1.toNat == 0) = true := beq_iff_eq.2 c9
             have b9' : (y / 2 ^ a1.toNat != 0) = false := bne_eq_false_iff_eq.2 c9
             clear hT HT3 c9
             by_cases c10 : Go.bits .and .i64 y taken = 0
             ·have hT := HT4.out
              rw [if_pos c10] at hT
              have HT5 := Lib.hid hT
              have b10 : (Go.bits .and .i64 y taken == 0) = true := beq_iff_eq.2 c10
              have b10' : (Go.bits .and .i64 y taken != 0) = false := bne_eq_false_iff_eq.2 c10
              clear hT HT4 c10
              go_wp2_with (fail)
              go_roundg k1
              case measure => have := HK.out; omega
              case rel => exact ⟨Go.bits .or .i64 taken y, wrap64 (i + 1), rfl, rfl, HT5, Lib.hid (by have := HK.out; omega), Q5, B5⟩
             ·have hT := HT4.out
              rw [if_neg c10] at hT
              obtain rfl := Option.some.inj hT
              have b10 : (Go.bits .and .i64 y taken == 0) = false := beq_eq_false_iff_ne.2 c10
              have b10' : (Go.bits .and .i64 y taken != 0) = true := bne_iff_ne.2 c10
              clear hT HT4 c10
              go_wp2_with (fail)
              go_ret
              exact ⟨rfl, B5.out⟩
            ·have hT := HT3.out
             rw [if_neg c9] at hT
             obtain rfl := Option.some.inj hT
             have b9 : (y / 2 ^ a1.toNat == 0) = false := beq_eq_false_iff_ne.2 c9
             have b9' : (y / 2 ^ a1.toNat != 0) = true := bne_iff_ne.2 c9
             clear hT HT3 c9
             go_wp2_with (fail)
             go_ret
             exact ⟨rfl, B5.out⟩
        ·rw [if_neg c5] at hT
         obtain rfl := Option.some.inj hT
         have b5 : (e1 != 0) = true := by simpa using c5
         have b5' : (e1 == 0) = false := by simpa using c5
         clear hT c5
         go_wp2_with (fail)
         go_ret
         exact ⟨rfl, B4.out⟩
       ·rw [if_neg c4] at H; cases H
      ·rw [if_neg c3] at H
       obtain rfl := Option.some.inj H
       have b3 : decide (i < (l0_1.length : Int)) = false := decide_eq_false c3
       clear H c3
       go_wp2_with (fail)
       go_ret
       exact ⟨rfl, BR.out⟩
   ·rw [if_neg c2] at h1; cases h1
 ·rw [if_neg c0] at h1
  obtain rfl := Option.some.inj h1
  have b2 : (e0 != 0) = true := by simpa using c0
  have b3 : (e0 == 0) = false := by simpa using c0
  clear h1 c0
  go_wp2_with (fail)
  go_ret
  exact ⟨rfl, B2.out⟩

/-! ### apparatus_Valid: function 52 -/
def apparatus_Valid.l0 : Nat → List (S65) → Int → Int → List ByteArray → List (S65) → Option (Int)
 | 0, _, _, _, _, _ => none
 | k + 1, x18, x19, x20, x160000, x160001 => if x20 < x19 then (if 0 ≤ x20 then (if x20 < (x18.length : Int) then ((apparatus_row.f k ((rd_T65 x18 x20).f0) ((rd_T65 x18 x20).f1) (x160000.length : Int)).bind fun t163 => (if t163 = 0 then (apparatus_Valid.l0 k x18 x19 (wrap64 (x20 + 1)) x160000 x160001) else (some t163))) else (none)) else (none)) else (some 0)
def apparatus_Valid.f (k : Nat) (l0_0 : List ByteArray) (l0_1 : List (S65)) : Option (Int) := (apparatus_names.f k l0_0).bind fun t160 => (if t160 = 0 then (if (l0_1.length : Int) > 200 then (some 3) else (apparatus_Valid.l0 k l0_1 (l0_1.length : Int) 0 l0_0 l0_1)) else (some t160))
theorem apparatus_Valid.mono_l : ∀ k, (∀ y0 y1 y2 y3 y4, LeO (apparatus_Valid.l0 k y0 y1 y2 y3 y4) (apparatus_Valid.l0 (k + 1) y0 y1 y2 y3 y4))
 | 0 => fun _ _ _ _ _ r h => by simp [apparatus_Valid.l0] at h
 | k + 1 => by
  have ih0 := apparatus_Valid.mono_l k
  ·intro y0 y1 y2 y3 y4
   unfold apparatus_Valid.l0
   repeat' first
   | (with_reducible exact ih0 _ _ _ _ _)
   | (with_reducible exact apparatus_names.mono _ _)
   | (with_reducible exact apparatus_row.mono _ _ _ _)
   | (with_reducible exact LeO.refl _)
   | (with_reducible exact LeO.none _)
   | (with_reducible refine LeO.ite ?_ ?_)
   | (with_reducible refine LeO.bind ?_ (fun _ => ?_))
   | exact ih0 _ _ _ _ _
   | exact apparatus_names.mono _ _
   | exact apparatus_row.mono _ _ _ _
   | exact LeO.none _
   | refine LeO.ite ?_ ?_
   | refine LeO.bind ?_ (fun _ => ?_)
theorem apparatus_Valid.mono : ∀ a0 a1 k, LeO (apparatus_Valid.f k a0 a1) (apparatus_Valid.f (k + 1) a0 a1) := by
 intro a0 a1 k
 have ih0 := apparatus_Valid.mono_l k
 unfold apparatus_Valid.f
 repeat' first
   | (with_reducible exact ih0 _ _ _ _ _)
   | (with_reducible exact apparatus_names.mono _ _)
   | (with_reducible exact apparatus_row.mono _ _ _ _)
   | (with_reducible exact LeO.refl _)
   | (with_reducible exact LeO.none _)
   | (with_reducible refine LeO.ite ?_ ?_)
   | (with_reducible refine LeO.bind ?_ (fun _ => ?_))
   | exact ih0 _ _ _ _ _
   | exact apparatus_names.mono _ _
   | exact apparatus_row.mono _ _ _ _
   | exact LeO.none _
   | refine LeO.ite ?_ ?_
   | refine LeO.bind ?_ (fun _ => ?_)
set_option maxHeartbeats 8000000 in
set_option maxRecDepth 100000 in
theorem apparatus_Valid.calls (k : Nat) (A0_0 : Option Addr) (c0_0 : Nat) (l0_0 : List ByteArray) (A0_1 : Option Addr) (c0_1 : Nat) (l0_1 : List (S65)) (r : Int) (w : World) (hr0_0 : Kd.C Kd.string w A0_0 l0_0.length l0_0) (hc0_0 : l0_0.length ≤ c0_0) (hr0_1 : Kd.C k65 w A0_1 l0_1.length l0_1) (hc0_1 : l0_1.length ≤ c0_1) (h : apparatus_Valid.f k l0_0 l0_1 = some r) :
  Calls Try.prog 52 #[.agg #[.slice A0_0 l0_0.length c0_0, .slice A0_1 l0_1.length c0_1]] w fun e w' => e = .returned (.int .i64 r) ∧ Below w.heap.size w w' := by
 have hu42 := Try.underlying42
 have hu65 := Try.underlying65
 have HR0_0 := Aside0.mk hr0_0
 have HC0_0 := Aside0.mk hc0_0
 clear hr0_0 hc0_0
 have HR0_1 := Aside0.mk hr0_1
 have HC0_1 := Aside0.mk hc0_1
 clear hr0_1 hc0_1
 have HB := Aside0.mk (Below.refl w.heap.size w)
 have H : ((apparatus_names.f k l0_0).bind fun t160 => (if t160 = 0 then (if (l0_1.length : Int) > 200 then (some 3) else (apparatus_Valid.l0 k l0_1 (l0_1.length : Int) 0 l0_0 l0_1)) else (some t160))) = some r := h
 clear h
 replace H := Option.bind_eq_some_iff.mp H
 obtain ⟨t160, A20, H⟩ := H
 try dsimp only at H
 have A2 := Aside0.mk A20
 clear A20
 by_cases c3 : t160 = 0
 ·rw [if_pos c3] at H
  have c3b0 : (t160 == 0) = true := beq_iff_eq.mpr c3
  have c3b1 : (t160 != 0) = false := bne_eq_false_iff_eq.mpr c3
  clear c3
  by_cases c4 : (l0_1.length : Int) > 200
  ·rw [if_pos c4] at H
   have c4b0 : decide (200 < (l0_1.length : Int)) = true := decide_eq_true c4
   have c4b1 : decide (200 < l0_1.length) = true := decide_eq_true (by omega)
   clear c4
   obtain rfl := Option.some.inj H
   go_enter Try.func52, Try.ntmps52
   go_wp2_with (first | ((with_reducible refine gate_dst (N := 1) rfl ?_); refine bX 1 #[.slice A0_0 l0_0.length c0_0, .slice A0_1 l0_1.length c0_1] 42 ?_; intro gb159 hg w5 hbox hb; have n0_ := jL HB hb; have n1_ := Aside0.mk (hbox); have n2_ := Aside0.mk ((by rw [hg]; exact (below_size (iL HB)) : w.heap.size ≤ gb159)); have n3_ := Aside0.mk ((by rw [hg]; exact (below_size (iL HB)) : w.heap.size ≤ gb159)); clear HB; have HB := n0_; have BK159 := n1_; have GW159 := n2_; have GE159 := n3_; clear n0_ n1_ n2_ n3_; clear hb hbox hg; have hcz6_0 := cZ BK159 0 (.slice A0_0 l0_0.length c0_0); have hcz6_1 := cZ BK159 1 (.slice A0_1 l0_1.length c0_1); have hfz6_0 := blk_frozen BK159.out 0; have hfz6_1 := blk_frozen BK159.out 1) | ((with_reducible refine gate_callee (f := 42) rfl ?_); refine gL_ (some 9) Try.func42 #[.slice A0_0 l0_0.length c0_0] ?_; (with_reducible refine (apparatus_names.calls k _ _ l0_0 t160 _ ?side1 ?side2 A2.out).mono ?_); (case side1 => exact iC HR0_0 HB); (case side2 => exact HC0_0.out); rintro e w' ⟨rfl, ⟨nd, rfl⟩⟩; refine ⟨_, rfl, ?_⟩))
   go_ret
   exact ⟨eV, by repeat (first | (with_reducible first | exact HB.out | apply below_alloc | apply pw_below_drewN | apply below_drew1 | refine below_set ?_ GE159.out) | exact HB.out)⟩
  ·rw [if_neg c4] at H
   have c4b0 : decide (200 < (l0_1.length : Int)) = false := decide_eq_false c4
   have c4b1 : decide (200 < l0_1.length) = false := decide_eq_false (by omega)
   clear c4
   have H' := Aside0.mk H
   clear H
   go_enter Try.func52, Try.ntmps52
   go_wp2_with (first | ((with_reducible refine gate_dst (N := 1) rfl ?_); refine bX 1 #[.slice A0_0 l0_0.length c0_0, .slice A0_1 l0_1.length c0_1] 42 ?_; intro gb159 hg w7 hbox hb; have n0_ := jL HB hb; have n1_ := Aside0.mk (hbox); have n2_ := Aside0.mk ((by rw [hg]; exact (below_size (iL HB)) : w.heap.size ≤ gb159)); have n3_ := Aside0.mk ((by rw [hg]; exact (below_size (iL HB)) : w.heap.size ≤ gb159)); clear HB; have HB := n0_; have BK159 := n1_; have GW159 := n2_; have GE159 := n3_; clear n0_ n1_ n2_ n3_; clear hb hbox hg; have hcz8_0 := cZ BK159 0 (.slice A0_0 l0_0.length c0_0); have hcz8_1 := cZ BK159 1 (.slice A0_1 l0_1.length c0_1); have hfz8_0 := blk_frozen BK159.out 0; have hfz8_1 := blk_frozen BK159.out 1) | ((with_reducible refine gate_callee (f := 42) rfl ?_); refine gL_ (some 9) Try.func42 #[.slice A0_0 l0_0.length c0_0] ?_; (with_reducible refine (apparatus_names.calls k _ _ l0_0 t160 _ ?side1 ?side2 A2.out).mono ?_); (case side1 => exact iC HR0_0 HB); (case side2 => exact HC0_0.out); rintro e w' ⟨rfl, ⟨nd, rfl⟩⟩; refine ⟨_, rfl, ?_⟩))
   go_loopg [20] k (fun kq v20 w' => ∃ (x20_1 : Int), v20 = .int .i64 x20_1 ∧ Aside0 (apparatus_Valid.l0 kq l0_1 (l0_1.length : Int) x20_1 l0_0 l0_1 = some r) ∧ Aside0 (kq ≤ k) ∧ Aside0 (w'.heap[gb159]? = some (.cells #[(.slice A0_0 l0_0.length c0_0), (.slice A0_1 l0_1.length c0_1)] 42 (0, 0))) ∧ Aside0 (Below w.heap.size w w'))
   case atStart => exact ⟨(0), eV, H', ⟨Nat.le_refl _⟩, ⟨by (with_reducible repeat (first | apply blk_drewN | apply blk_drew | apply blk_alloc)); exact BK159.out⟩, ⟨by repeat (first | (with_reducible first | exact HB.out | apply below_alloc | apply pw_below_drewN | apply below_drew1 | refine below_set ?_ GE159.out) | exact HB.out)⟩⟩
   case round =>
    clear H'
    (try clear p2); (try clear c3); (try clear c3b0); (try clear c3b1); (try clear c4); (try clear c4b0); (try clear c4b1); (try clear c5); (try clear hcz6_0); (try clear hcz6_1); (try clear hcz8_0); (try clear hcz8_1); (try clear hfz6_0); (try clear hfz6_1); (try clear hfz8_0); (try clear hfz8_1)
    obtain ⟨x20_1, rfl, HA, HK1, BK159, HB⟩ := hrel
    cases gk with
    | zero => exact absurd HA.out (by simp [apparatus_Valid.l0])
    | succ k1 =>
     have H := HA.out
     clear HA
     simp only [apparatus_Valid.l0] at H
     by_cases c9 : x20_1 < (l0_1.length : Int)
     ·rw [if_pos c9] at H
      have c9b0 : decide (x20_1 < (l0_1.length : Int)) = true := decide_eq_true c9
      clear c9
      by_cases c10 : 0 ≤ x20_1
      ·rw [if_pos c10] at H
       have c10b0 : decide (0 ≤ x20_1) = true := decide_eq_true c10
       clear c10
       by_cases c11 : x20_1 < (l0_1.length : Int)
       ·rw [if_pos c11] at H
        have c11b0 : decide (x20_1 < (l0_1.length : Int)) = true := decide_eq_true c11
        clear c11
        replace H := Option.bind_eq_some_iff.mp H
        obtain ⟨t163, A120, H⟩ := H
        try dsimp only at H
        have A12 := Aside0.mk A120
        clear A120
        by_cases c13 : t163 = 0
        ·rw [if_pos c13] at H
         have c13b0 : (t163 == 0) = true := beq_iff_eq.mpr c13
         have c13b1 : (t163 != 0) = false := bne_eq_false_iff_eq.mpr c13
         clear c13
         have H' := Aside0.mk H
         clear H
         have p161 := oD (0 ≤ (x20_1 : Int))
         have q161 := oD (x20_1 < (l0_1.length : Int))
         obtain ⟨ad161, A161_1, c161_1, e161, hx161_0, hx161_1, hl161_1, hi161_1⟩ := at_T65 HR0_1.out x20_1 p161 q161
         cases e161
         replace hx161_0 := (HB.out.cell (World.block_lt_of_cell? w _ hx161_0)).trans hx161_0
         replace hx161_1 := (HB.out.cell (World.block_lt_of_cell? w _ hx161_1)).trans hx161_1
         have HR161_1 := Aside0.mk hi161_1
         have HC161_1 := Aside0.mk hl161_1
         clear hi161_1 hl161_1
         replace p161 := eq_true p161
         replace q161 := eq_true q161
         go_wp2_with (first | ((with_reducible refine gate_dst (N := 5) rfl ?_); refine bX 5 #[.string (⟨#[]⟩ : ByteArray), .slice none 0 0] 65 ?_; intro gb162 hg w14 hbox hb; have n0_ := jB BK159 hb; have n1_ := jL HB hb; have n2_ := Aside0.mk (hbox); have n3_ := Aside0.mk ((by rw [hg]; exact (below_size (iL HB)) : w.heap.size ≤ gb162)); have n4_ := Aside0.mk ((by rw [hg]; exact (below_size (iL HB)) : w.heap.size ≤ gb162)); have n5_ := Aside0.mk ((by rw [hg]; exact Nat.ne_of_lt (blk_lt (g := gb159) (o := .cells #[.slice A0_0 l0_0.length c0_0, .slice (some ad161) l0_1.length c0_1] 42 (0, 0)) (iB BK159)) : gb159 ≠ gb162)); have n6_ := Aside0.mk ((by rw [hg]; exact Nat.ne_of_gt (blk_lt (g := gb159) (o := .cells #[.slice A0_0 l0_0.length c0_0, .slice (some ad161) l0_1.length c0_1] 42 (0, 0)) (iB BK159)) : gb162 ≠ gb159)); clear BK159; clear HB; have BK159 := n0_; have HB := n1_; have BK162 := n2_; have GW162 := n3_; have GE162 := n4_; have NB159_162 := n5_; have NB162_159 := n6_; clear n0_ n1_ n2_ n3_ n4_ n5_ n6_; clear hb hbox hg; have hnb15 := NB162_159.out; have hnc15 := NB159_162.out; have hcz16_0 := cZ BK162 0 (.string (⟨#[]⟩ : ByteArray)); have hcz16_1 := cZ BK162 1 (.slice none 0 0); have hfz16_0 := blk_frozen BK162.out 0; have hfz16_1 := blk_frozen BK162.out 1; have hcz17_0 := cZ BK159 0 (.slice A0_0 l0_0.length c0_0); have hcz17_1 := cZ BK159 1 (.slice (some ad161) l0_1.length c0_1); have hfz17_0 := blk_frozen BK159.out 0; have hfz17_1 := blk_frozen BK159.out 1) | ((with_reducible refine gate_callee (f := 69) rfl ?_); refine gL_ (some 28) Try.func69 #[.agg #[.string ((rd_T65 l0_1 x20_1).f0), .slice A161_1 ((rd_T65 l0_1 x20_1).f1).length c161_1], .int .i64 (l0_0.length : Int)] ?_; (with_reducible refine (apparatus_row.calls k1 ((rd_T65 l0_1 x20_1).f0) _ _ ((rd_T65 l0_1 x20_1).f1) (l0_0.length : Int) t163 _ ?side1 ?side2 A12.out).mono ?_); (case side1 => exact Kd.C_below HR161_1.out (iL HB)); (case side2 => exact HC161_1.out); rintro e w18 ⟨rfl, hb⟩; refine ⟨_, rfl, ?_⟩; have n0_ := Aside0.mk (blk_below (g := gb159) (o := .cells #[.slice A0_0 l0_0.length c0_0, .slice (some ad161) l0_1.length c0_1] 42 (0, 0)) (by (with_reducible repeat (first | apply blk_drewN | apply blk_drew | apply blk_alloc)); refine blk_far ?_ NB159_162.out _; (with_reducible repeat (first | apply blk_drewN | apply blk_drew | apply blk_alloc)); refine blk_far ?_ NB159_162.out _; (with_reducible repeat (first | apply blk_drewN | apply blk_drew | apply blk_alloc)); exact BK159.out) hb); have n1_ := Aside0.mk (blk_below (g := gb162) (o := .cells #[.string ((rd_T65 l0_1 x20_1).f0), .slice A161_1 ((rd_T65 l0_1 x20_1).f1).length c161_1] 65 (0, 0)) (by (with_reducible repeat (first | apply blk_drewN | apply blk_drew | apply blk_alloc)); refine blk_put (cs := #[.string ((rd_T65 l0_1 x20_1).f0), .slice none 0 0]) ?_ 1 _ rfl; (with_reducible repeat (first | apply blk_drewN | apply blk_drew | apply blk_alloc)); refine blk_put (cs := #[.string (⟨#[]⟩ : ByteArray), .slice none 0 0]) ?_ 0 _ rfl; (with_reducible repeat (first | apply blk_drewN | apply blk_drew | apply blk_alloc)); exact BK162.out) hb); have n2_ := jL HB hb; clear BK159; clear BK162; clear HB; have BK159 := n0_; have BK162 := n1_; have HB := n2_; clear n0_ n1_ n2_; (try clear hb)))
         go_roundg k1
         case measure => have := HK1.out; omega
         case rel => exact ⟨(wrap64 (x20_1 + 1)), eV, H', ⟨by have := HK1.out; omega⟩, ⟨by (with_reducible repeat (first | apply blk_drewN | apply blk_drew | apply blk_alloc)); exact BK159.out⟩, ⟨by repeat (first | (with_reducible first | exact HB.out | apply below_alloc | apply pw_below_drewN | apply below_drew1 | refine below_set ?_ GE159.out | refine below_set ?_ GE162.out) | exact HB.out)⟩⟩
        ·rw [if_neg c13] at H
         have c13b0 : (t163 == 0) = false := beq_eq_false_iff_ne.mpr c13
         have c13b1 : (t163 != 0) = true := bne_iff_ne.mpr c13
         obtain rfl := Option.some.inj H
         have p161 := oD (0 ≤ (x20_1 : Int))
         have q161 := oD (x20_1 < (l0_1.length : Int))
         obtain ⟨ad161, A161_1, c161_1, e161, hx161_0, hx161_1, hl161_1, hi161_1⟩ := at_T65 HR0_1.out x20_1 p161 q161
         cases e161
         replace hx161_0 := (HB.out.cell (World.block_lt_of_cell? w _ hx161_0)).trans hx161_0
         replace hx161_1 := (HB.out.cell (World.block_lt_of_cell? w _ hx161_1)).trans hx161_1
         have HR161_1 := Aside0.mk hi161_1
         have HC161_1 := Aside0.mk hl161_1
         clear hi161_1 hl161_1
         replace p161 := eq_true p161
         replace q161 := eq_true q161
         go_wp2_with (first | ((with_reducible refine gate_dst (N := 5) rfl ?_); refine bX 5 #[.string (⟨#[]⟩ : ByteArray), .slice none 0 0] 65 ?_; intro gb162 hg w19 hbox hb; have n0_ := jB BK159 hb; have n1_ := jL HB hb; have n2_ := Aside0.mk (hbox); have n3_ := Aside0.mk ((by rw [hg]; exact (below_size (iL HB)) : w.heap.size ≤ gb162)); have n4_ := Aside0.mk ((by rw [hg]; exact (below_size (iL HB)) : w.heap.size ≤ gb162)); have n5_ := Aside0.mk ((by rw [hg]; exact Nat.ne_of_lt (blk_lt (g := gb159) (o := .cells #[.slice A0_0 l0_0.length c0_0, .slice (some ad161) l0_1.length c0_1] 42 (0, 0)) (iB BK159)) : gb159 ≠ gb162)); have n6_ := Aside0.mk ((by rw [hg]; exact Nat.ne_of_gt (blk_lt (g := gb159) (o := .cells #[.slice A0_0 l0_0.length c0_0, .slice (some ad161) l0_1.length c0_1] 42 (0, 0)) (iB BK159)) : gb162 ≠ gb159)); clear BK159; clear HB; have BK159 := n0_; have HB := n1_; have BK162 := n2_; have GW162 := n3_; have GE162 := n4_; have NB159_162 := n5_; have NB162_159 := n6_; clear n0_ n1_ n2_ n3_ n4_ n5_ n6_; clear hb hbox hg; have hnb20 := NB162_159.out; have hnc20 := NB159_162.out; have hcz21_0 := cZ BK162 0 (.string (⟨#[]⟩ : ByteArray)); have hcz21_1 := cZ BK162 1 (.slice none 0 0); have hfz21_0 := blk_frozen BK162.out 0; have hfz21_1 := blk_frozen BK162.out 1; have hcz22_0 := cZ BK159 0 (.slice A0_0 l0_0.length c0_0); have hcz22_1 := cZ BK159 1 (.slice (some ad161) l0_1.length c0_1); have hfz22_0 := blk_frozen BK159.out 0; have hfz22_1 := blk_frozen BK159.out 1) | ((with_reducible refine gate_callee (f := 69) rfl ?_); refine gL_ (some 28) Try.func69 #[.agg #[.string ((rd_T65 l0_1 x20_1).f0), .slice A161_1 ((rd_T65 l0_1 x20_1).f1).length c161_1], .int .i64 (l0_0.length : Int)] ?_; (with_reducible refine (apparatus_row.calls k1 ((rd_T65 l0_1 x20_1).f0) _ _ ((rd_T65 l0_1 x20_1).f1) (l0_0.length : Int) t163 _ ?side1 ?side2 A12.out).mono ?_); (case side1 => exact Kd.C_below HR161_1.out (iL HB)); (case side2 => exact HC161_1.out); rintro e w23 ⟨rfl, hb⟩; refine ⟨_, rfl, ?_⟩; have n0_ := Aside0.mk (blk_below (g := gb159) (o := .cells #[.slice A0_0 l0_0.length c0_0, .slice (some ad161) l0_1.length c0_1] 42 (0, 0)) (by (with_reducible repeat (first | apply blk_drewN | apply blk_drew | apply blk_alloc)); refine blk_far ?_ NB159_162.out _; (with_reducible repeat (first | apply blk_drewN | apply blk_drew | apply blk_alloc)); refine blk_far ?_ NB159_162.out _; (with_reducible repeat (first | apply blk_drewN | apply blk_drew | apply blk_alloc)); exact BK159.out) hb); have n1_ := Aside0.mk (blk_below (g := gb162) (o := .cells #[.string ((rd_T65 l0_1 x20_1).f0), .slice A161_1 ((rd_T65 l0_1 x20_1).f1).length c161_1] 65 (0, 0)) (by (with_reducible repeat (first | apply blk_drewN | apply blk_drew | apply blk_alloc)); refine blk_put (cs := #[.string ((rd_T65 l0_1 x20_1).f0), .slice none 0 0]) ?_ 1 _ rfl; (with_reducible repeat (first | apply blk_drewN | apply blk_drew | apply blk_alloc)); refine blk_put (cs := #[.string (⟨#[]⟩ : ByteArray), .slice none 0 0]) ?_ 0 _ rfl; (with_reducible repeat (first | apply blk_drewN | apply blk_drew | apply blk_alloc)); exact BK162.out) hb); have n2_ := jL HB hb; clear BK159; clear BK162; clear HB; have BK159 := n0_; have BK162 := n1_; have HB := n2_; clear n0_ n1_ n2_; (try clear hb)))
         go_ret
         exact ⟨eV, by repeat (first | (with_reducible first | exact HB.out | apply below_alloc | apply pw_below_drewN | apply below_drew1 | refine below_set ?_ GE159.out | refine below_set ?_ GE162.out) | exact HB.out)⟩
       ·rw [if_neg c11] at H
        exact absurd H (by simp)
      ·rw [if_neg c10] at H
       exact absurd H (by simp)
     ·rw [if_neg c9] at H
      have c9b0 : decide (x20_1 < (l0_1.length : Int)) = false := decide_eq_false c9
      clear c9
      obtain rfl := Option.some.inj H
      go_wp2
      go_ret
      exact ⟨eV, by repeat (first | (with_reducible first | exact HB.out | apply below_alloc | apply pw_below_drewN | apply below_drew1 | refine below_set ?_ GE159.out) | exact HB.out)⟩
 ·rw [if_neg c3] at H
  have c3b0 : (t160 == 0) = false := beq_eq_false_iff_ne.mpr c3
  have c3b1 : (t160 != 0) = true := bne_iff_ne.mpr c3
  obtain rfl := Option.some.inj H
  go_enter Try.func52, Try.ntmps52
  go_wp2_with (first | ((with_reducible refine gate_dst (N := 1) rfl ?_); refine bX 1 #[.slice A0_0 l0_0.length c0_0, .slice A0_1 l0_1.length c0_1] 42 ?_; intro gb159 hg w24 hbox hb; have n0_ := jL HB hb; have n1_ := Aside0.mk (hbox); have n2_ := Aside0.mk ((by rw [hg]; exact (below_size (iL HB)) : w.heap.size ≤ gb159)); have n3_ := Aside0.mk ((by rw [hg]; exact (below_size (iL HB)) : w.heap.size ≤ gb159)); clear HB; have HB := n0_; have BK159 := n1_; have GW159 := n2_; have GE159 := n3_; clear n0_ n1_ n2_ n3_; clear hb hbox hg; have hcz25_0 := cZ BK159 0 (.slice A0_0 l0_0.length c0_0); have hcz25_1 := cZ BK159 1 (.slice A0_1 l0_1.length c0_1); have hfz25_0 := blk_frozen BK159.out 0; have hfz25_1 := blk_frozen BK159.out 1) | ((with_reducible refine gate_callee (f := 42) rfl ?_); refine gL_ (some 9) Try.func42 #[.slice A0_0 l0_0.length c0_0] ?_; (with_reducible refine (apparatus_names.calls k _ _ l0_0 t160 _ ?side1 ?side2 A2.out).mono ?_); (case side1 => exact iC HR0_0 HB); (case side2 => exact HC0_0.out); rintro e w' ⟨rfl, ⟨nd, rfl⟩⟩; refine ⟨_, rfl, ?_⟩))
  go_ret
  exact ⟨eV, by repeat (first | (with_reducible first | exact HB.out | apply below_alloc | apply pw_below_drewN | apply below_drew1 | refine below_set ?_ GE159.out) | exact HB.out)⟩

/-! ### apparatus_has: function 51 -/
def apparatus_has.l0 : Nat → Int → List (S67) → Int → Int → ByteArray → List (S67) → Option (ByteArray)
 | 0, _, _, _, _, _, _ => none
 | k + 1, x1, x8, x9, x10, x165000, x165001 => if x10 < x9 then (if 0 ≤ x10 then (if x10 < (x8.length : Int) then (if 0 ≤ x1 then (if (Go.bits .and .i64 (shr .i64 ((rd_T67 x8 x10).f1) x1) 1) = 1 then (some ((rd_T67 x8 x10).f0)) else (apparatus_has.l0 k x1 x8 x9 (wrap64 (x10 + 1)) x165000 x165001)) else (none)) else (none)) else (none)) else (some x165000)
def apparatus_has.f (k : Nat) (a0_0 : ByteArray) (l0_1 : List (S67)) (a1 : Int) : Option (ByteArray) := apparatus_has.l0 k a1 l0_1 (l0_1.length : Int) 0 a0_0 l0_1
theorem apparatus_has.mono_l : ∀ k, (∀ y0 y1 y2 y3 y4 y5, LeO (apparatus_has.l0 k y0 y1 y2 y3 y4 y5) (apparatus_has.l0 (k + 1) y0 y1 y2 y3 y4 y5))
 | 0 => fun _ _ _ _ _ _ r h => by simp [apparatus_has.l0] at h
 | k + 1 => by
  have ih0 := apparatus_has.mono_l k
  ·intro y0 y1 y2 y3 y4 y5
   unfold apparatus_has.l0
   repeat' first
   | (with_reducible exact ih0 _ _ _ _ _ _)
   | (with_reducible exact LeO.refl _)
   | (with_reducible exact LeO.none _)
   | (with_reducible refine LeO.ite ?_ ?_)
   | (with_reducible refine LeO.bind ?_ (fun _ => ?_))
   | exact ih0 _ _ _ _ _ _
   | exact LeO.none _
   | refine LeO.ite ?_ ?_
   | refine LeO.bind ?_ (fun _ => ?_)
theorem apparatus_has.mono : ∀ a0 a1 a2 k, LeO (apparatus_has.f k a0 a1 a2) (apparatus_has.f (k + 1) a0 a1 a2) := by
 intro a0 a1 a2 k
 have ih0 := apparatus_has.mono_l k
 unfold apparatus_has.f
 repeat' first
   | (with_reducible exact ih0 _ _ _ _ _ _)
   | (with_reducible exact LeO.refl _)
   | (with_reducible exact LeO.none _)
   | (with_reducible refine LeO.ite ?_ ?_)
   | (with_reducible refine LeO.bind ?_ (fun _ => ?_))
   | exact ih0 _ _ _ _ _ _
   | exact LeO.none _
   | refine LeO.ite ?_ ?_
   | refine LeO.bind ?_ (fun _ => ?_)
set_option maxHeartbeats 8000000 in
set_option maxRecDepth 100000 in
theorem apparatus_has.calls (k : Nat) (a0_0 : ByteArray) (A0_1 : Option Addr) (c0_1 : Nat) (l0_1 : List (S67)) (a1 : Int) (r : ByteArray) (w : World) (hr0_1 : Kd.C k67 w A0_1 l0_1.length l0_1) (hc0_1 : l0_1.length ≤ c0_1) (h : apparatus_has.f k a0_0 l0_1 a1 = some r) :
  Calls Try.prog 51 #[.agg #[.string a0_0, .slice A0_1 l0_1.length c0_1], .int .i64 a1] w fun e w' => e = .returned (.string r) ∧ Below w.heap.size w w' := by
 have hu65 := Try.underlying65
 have hu67 := Try.underlying67
 have HR0_1 := Aside0.mk hr0_1
 have HC0_1 := Aside0.mk hc0_1
 clear hr0_1 hc0_1
 have HB := Aside0.mk (Below.refl w.heap.size w)
 have H : (apparatus_has.l0 k a1 l0_1 (l0_1.length : Int) 0 a0_0 l0_1) = some r := h
 clear h
 have H' := Aside0.mk H
 clear H
 go_enter Try.func51, Try.ntmps51
 go_wp2_with (first | ((with_reducible refine gate_dst (N := 2) rfl ?_); refine bX 2 #[.string a0_0, .slice A0_1 l0_1.length c0_1] 65 ?_; intro gb164 hg w3 hbox hb; have n0_ := jL HB hb; have n1_ := Aside0.mk (hbox); have n2_ := Aside0.mk ((by rw [hg]; exact (below_size (iL HB)) : w.heap.size ≤ gb164)); have n3_ := Aside0.mk ((by rw [hg]; exact (below_size (iL HB)) : w.heap.size ≤ gb164)); clear HB; have HB := n0_; have BK164 := n1_; have GW164 := n2_; have GE164 := n3_; clear n0_ n1_ n2_ n3_; clear hb hbox hg; have hcz4_0 := cZ BK164 0 (.string a0_0); have hcz4_1 := cZ BK164 1 (.slice A0_1 l0_1.length c0_1); have hfz4_0 := blk_frozen BK164.out 0; have hfz4_1 := blk_frozen BK164.out 1))
 go_loopg [10] k (fun kq v10 w' => ∃ (x10_1 : Int), v10 = .int .i64 x10_1 ∧ Aside0 (apparatus_has.l0 kq a1 l0_1 (l0_1.length : Int) x10_1 a0_0 l0_1 = some r) ∧ Aside0 (kq ≤ k) ∧ Aside0 (w'.heap[gb164]? = some (.cells #[.string a0_0, (.slice A0_1 l0_1.length c0_1)] 65 (0, 0))) ∧ Aside0 (Below w.heap.size w w'))
 case atStart => exact ⟨(0), eV, H', ⟨Nat.le_refl _⟩, ⟨by (with_reducible repeat (first | apply blk_drewN | apply blk_drew | apply blk_alloc)); exact BK164.out⟩, ⟨by repeat (first | (with_reducible first | exact HB.out | apply below_alloc | apply pw_below_drewN | apply below_drew1 | refine below_set ?_ GE164.out) | exact HB.out)⟩⟩
 case round =>
  clear H'
  (try clear p2); (try clear hcz4_0); (try clear hcz4_1); (try clear hfz4_0); (try clear hfz4_1)
  obtain ⟨x10_1, rfl, HA, HK1, BK164, HB⟩ := hrel
  cases gk with
  | zero => exact absurd HA.out (by simp [apparatus_has.l0])
  | succ k1 =>
   have H := HA.out
   clear HA
   simp only [apparatus_has.l0] at H
   by_cases c5 : x10_1 < (l0_1.length : Int)
   ·rw [if_pos c5] at H
    have c5b0 : decide (x10_1 < (l0_1.length : Int)) = true := decide_eq_true c5
    clear c5
    by_cases c6 : 0 ≤ x10_1
    ·rw [if_pos c6] at H
     have c6b0 : decide (0 ≤ x10_1) = true := decide_eq_true c6
     clear c6
     by_cases c7 : x10_1 < (l0_1.length : Int)
     ·rw [if_pos c7] at H
      have c7b0 : decide (x10_1 < (l0_1.length : Int)) = true := decide_eq_true c7
      clear c7
      by_cases c8 : 0 ≤ a1
      ·rw [if_pos c8] at H
       have c8b0 := eq_true c8
       have c8b1 : decide (0 ≤ a1) = true := decide_eq_true c8
       clear c8
       obtain ⟨ji9, hji9⟩ : ∃ j_ : Int, (shr .i64 ((rd_T67 l0_1 x10_1).f1) a1) = j_ := ⟨_, rfl⟩
       replace H : (if (Go.bits .and .i64 (ji9) 1) = 1 then (some ((rd_T67 l0_1 x10_1).f0)) else (apparatus_has.l0 k1 a1 l0_1 (l0_1.length : Int) (wrap64 (x10_1 + 1)) a0_0 l0_1)) = some r := by first | (rw [hji9] at H; exact H) | (simp only [hji9] at H ⊢; exact H)
       have hji9_ : (((rd_T67 l0_1 x10_1).f1) / 2 ^ min a1.toNat 64) = ji9 := hji9
       have hji9z : a1 ≤ 64 → (((rd_T67 l0_1 x10_1).f1) / 2 ^ a1.toNat) = ji9 := shr_small hji9
       by_cases c10 : (Go.bits .and .i64 (ji9) 1) = 1
       ·rw [if_pos c10] at H
        have c10b0 : ((Go.bits .and .i64 (ji9) 1) == 1) = true := beq_iff_eq.mpr c10
        have c10b1 : ((Go.bits .and .i64 (ji9) 1) != 1) = false := bne_eq_false_iff_eq.mpr c10
        clear c10
        obtain rfl := Option.some.inj H
        have p165 := oD (0 ≤ (x10_1 : Int))
        have q165 := oD (x10_1 < (l0_1.length : Int))
        obtain ⟨ad165, e165, hx165_0, hx165_1⟩ := at_T67 HR0_1.out x10_1 p165 q165
        cases e165
        replace hx165_0 := (HB.out.cell (World.block_lt_of_cell? w _ hx165_0)).trans hx165_0
        replace hx165_1 := (HB.out.cell (World.block_lt_of_cell? w _ hx165_1)).trans hx165_1
        replace p165 := eq_true p165
        replace q165 := eq_true q165
        go_wp2_with (first | ((with_reducible refine gate_dst (N := 6) rfl ?_); refine bX 6 #[.string (⟨#[]⟩ : ByteArray), .int .i64 0] 67 ?_; intro gb166 hg w11 hbox hb; have n0_ := jB BK164 hb; have n1_ := jL HB hb; have n2_ := Aside0.mk (hbox); have n3_ := Aside0.mk ((by rw [hg]; exact (below_size (iL HB)) : w.heap.size ≤ gb166)); have n4_ := Aside0.mk ((by rw [hg]; exact (below_size (iL HB)) : w.heap.size ≤ gb166)); have n5_ := Aside0.mk ((by rw [hg]; exact Nat.ne_of_lt (blk_lt (g := gb164) (o := .cells #[.string a0_0, .slice (some ad165) l0_1.length c0_1] 65 (0, 0)) (iB BK164)) : gb164 ≠ gb166)); have n6_ := Aside0.mk ((by rw [hg]; exact Nat.ne_of_gt (blk_lt (g := gb164) (o := .cells #[.string a0_0, .slice (some ad165) l0_1.length c0_1] 65 (0, 0)) (iB BK164)) : gb166 ≠ gb164)); clear BK164; clear HB; have BK164 := n0_; have HB := n1_; have BK166 := n2_; have GW166 := n3_; have GE166 := n4_; have NB164_166 := n5_; have NB166_164 := n6_; clear n0_ n1_ n2_ n3_ n4_ n5_ n6_; clear hb hbox hg; have hnb12 := NB166_164.out; have hnc12 := NB164_166.out; have hcz13_0 := cZ BK166 0 (.string (⟨#[]⟩ : ByteArray)); have hcz13_1 := cZ BK166 1 (.int .i64 0); have hfz13_0 := blk_frozen BK166.out 0; have hfz13_1 := blk_frozen BK166.out 1))
        go_ret
        exact ⟨by first | rfl | (simp [errW_none, errW_some] <;> rfl) | (simp only [← hji9]; first | rfl | (simp [errW_none, errW_some] <;> rfl)) | (simp [*, errW_none, errW_some] <;> rfl), by repeat (first | (with_reducible first | exact HB.out | apply below_alloc | apply pw_below_drewN | apply below_drew1 | refine below_set ?_ GE164.out | refine below_set ?_ GE166.out) | exact HB.out)⟩
       ·rw [if_neg c10] at H
        have c10b0 : ((Go.bits .and .i64 (ji9) 1) == 1) = false := beq_eq_false_iff_ne.mpr c10
        have c10b1 : ((Go.bits .and .i64 (ji9) 1) != 1) = true := bne_iff_ne.mpr c10
        have H' := Aside0.mk H
        clear H
        have p165 := oD (0 ≤ (x10_1 : Int))
        have q165 := oD (x10_1 < (l0_1.length : Int))
        obtain ⟨ad165, e165, hx165_0, hx165_1⟩ := at_T67 HR0_1.out x10_1 p165 q165
        cases e165
        replace hx165_0 := (HB.out.cell (World.block_lt_of_cell? w _ hx165_0)).trans hx165_0
        replace hx165_1 := (HB.out.cell (World.block_lt_of_cell? w _ hx165_1)).trans hx165_1
        replace p165 := eq_true p165
        replace q165 := eq_true q165
        go_wp2_with (first | ((with_reducible refine gate_dst (N := 6) rfl ?_); refine bX 6 #[.string (⟨#[]⟩ : ByteArray), .int .i64 0] 67 ?_; intro gb166 hg w14 hbox hb; have n0_ := jB BK164 hb; have n1_ := jL HB hb; have n2_ := Aside0.mk (hbox); have n3_ := Aside0.mk ((by rw [hg]; exact (below_size (iL HB)) : w.heap.size ≤ gb166)); have n4_ := Aside0.mk ((by rw [hg]; exact (below_size (iL HB)) : w.heap.size ≤ gb166)); have n5_ := Aside0.mk ((by rw [hg]; exact Nat.ne_of_lt (blk_lt (g := gb164) (o := .cells #[.string a0_0, .slice (some ad165) l0_1.length c0_1] 65 (0, 0)) (iB BK164)) : gb164 ≠ gb166)); have n6_ := Aside0.mk ((by rw [hg]; exact Nat.ne_of_gt (blk_lt (g := gb164) (o := .cells #[.string a0_0, .slice (some ad165) l0_1.length c0_1] 65 (0, 0)) (iB BK164)) : gb166 ≠ gb164)); clear BK164; clear HB; have BK164 := n0_; have HB := n1_; have BK166 := n2_; have GW166 := n3_; have GE166 := n4_; have NB164_166 := n5_; have NB166_164 := n6_; clear n0_ n1_ n2_ n3_ n4_ n5_ n6_; clear hb hbox hg; have hnb15 := NB166_164.out; have hnc15 := NB164_166.out; have hcz16_0 := cZ BK166 0 (.string (⟨#[]⟩ : ByteArray)); have hcz16_1 := cZ BK166 1 (.int .i64 0); have hfz16_0 := blk_frozen BK166.out 0; have hfz16_1 := blk_frozen BK166.out 1))
        go_roundg k1
        case measure => have := HK1.out; omega
        case rel => exact ⟨(wrap64 (x10_1 + 1)), eV, H', ⟨by have := HK1.out; omega⟩, ⟨by (with_reducible repeat (first | apply blk_drewN | apply blk_drew | apply blk_alloc)); refine blk_far ?_ NB164_166.out _; (with_reducible repeat (first | apply blk_drewN | apply blk_drew | apply blk_alloc)); refine blk_far ?_ NB164_166.out _; (with_reducible repeat (first | apply blk_drewN | apply blk_drew | apply blk_alloc)); exact BK164.out⟩, ⟨by repeat (first | (with_reducible first | exact HB.out | apply below_alloc | apply pw_below_drewN | apply below_drew1 | refine below_set ?_ GE164.out | refine below_set ?_ GE166.out) | exact HB.out)⟩⟩
      ·rw [if_neg c8] at H
       exact absurd H (by simp)
     ·rw [if_neg c7] at H
      exact absurd H (by simp)
    ·rw [if_neg c6] at H
     exact absurd H (by simp)
   ·rw [if_neg c5] at H
    have c5b0 : decide (x10_1 < (l0_1.length : Int)) = false := decide_eq_false c5
    clear c5
    obtain rfl := Option.some.inj H
    have hcz17_0 := cZ BK164 0 (.string a0_0)
    have hcz17_1 := cZ BK164 1 (.slice A0_1 l0_1.length c0_1)
    have hfz17_0 := blk_frozen BK164.out 0
    have hfz17_1 := blk_frozen BK164.out 1
    go_wp2
    go_ret
    exact ⟨eV, by repeat (first | (with_reducible first | exact HB.out | apply below_alloc | apply pw_below_drewN | apply below_drew1 | refine below_set ?_ GE164.out) | exact HB.out)⟩

end Go.Proofs.Ytmjigfoldeekmaa.X
