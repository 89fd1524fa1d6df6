-- and more
-- shortened
-- thinned
-- halved indents
-- printed by this session's xprint.py: out of the translation, by the kit's print with additions; Lean checks it
import Derived.Test.YtmjigfoldeekmaaXE
import Derived.Test.YtmjigfoldeekmaaWN
import Derived.Test.YtmjigfoldeekmaaWShare
import Derived.Test.YtmjigfoldeekmaaWRepsOne
import Derived.Test.YtmjigfoldeekmaaX0
import Derived.Test.YtmjigfoldeekmaaX14
import Derived.Test.YtmjigfoldeekmaaX17
import Derived.Test.YtmjigfoldeekmaaXA
namespace Go.Proofs.Ytmjigfoldeekmaa.X
open Go.RowKit Go.Proofs.YtmjigfoldeekmaaW.PrintWords Go.Proofs.YtmjigfoldeekmaaW.PrintLast Go.Proofs.YtmjigfoldeekmaaW.PrintMore
attribute [local go_sem] max2_int min2_int max_two min_two max_three min_three max_four min_four isSome_setCell binOp_gtr_str binOp_leq_str binOp_geq_str   -- for this text's walks alone
set_option linter.unusedVariables false
set_option linter.unusedSimpArgs false

/-! ### ancepsref57_has: function 61 -/
def ancepsref57_has.l0 : Nat → Int → Int → ByteArray → List (S67) → Option (ByteArray)
 | 0, _, _, _, _ => none
 | k + 1, x1, x5, x322000, x322001 => if x5 < (x322001.length : Int) then (if 0 ≤ x5 then (if 0 ≤ x1 then (if (Go.bits .and .i64 (shr .i64 ((rd_T67 x322001 x5).f1) x1) 1) = 1 then (some ((rd_T67 x322001 x5).f0)) else (ancepsref57_has.l0 k x1 (wrap64 (x5 + 1)) x322000 x322001)) else (none)) else (none)) else (some x322000)
def ancepsref57_has.f (k : Nat) (a0_0 : ByteArray) (l0_1 : List (S67)) (a1 : Int) : Option (ByteArray) := ancepsref57_has.l0 k a1 0 a0_0 l0_1
theorem ancepsref57_has.mono_l : ∀ k, (∀ y0 y1 y2 y3, LeO (ancepsref57_has.l0 k y0 y1 y2 y3) (ancepsref57_has.l0 (k + 1) y0 y1 y2 y3))
 | 0 => fun _ _ _ _ r h => by simp [ancepsref57_has.l0] at h
 | k + 1 => by
  have ih0 := ancepsref57_has.mono_l k
  ·intro y0 y1 y2 y3
   unfold ancepsref57_has.l0
   repeat' first
   | (with_reducible exact ih0 _ _ _ _)
   | (with_reducible exact LeO.refl _)
   | (with_reducible exact LeO.none _)
   | (with_reducible refine LeO.ite ?_ ?_)
   | (with_reducible refine LeO.bind ?_ (fun _ => ?_))
   | exact ih0 _ _ _ _
   | exact LeO.none _
   | refine LeO.ite ?_ ?_
   | refine LeO.bind ?_ (fun _ => ?_)
theorem ancepsref57_has.mono : ∀ a0 a1 a2 k, LeO (ancepsref57_has.f k a0 a1 a2) (ancepsref57_has.f (k + 1) a0 a1 a2) := by
 intro a0 a1 a2 k
 have ih0 := ancepsref57_has.mono_l k
 unfold ancepsref57_has.f
 repeat' first
   | (with_reducible exact ih0 _ _ _ _)
   | (with_reducible exact LeO.refl _)
   | (with_reducible exact LeO.none _)
   | (with_reducible refine LeO.ite ?_ ?_)
   | (with_reducible refine LeO.bind ?_ (fun _ => ?_))
   | exact ih0 _ _ _ _
   | exact LeO.none _
   | refine LeO.ite ?_ ?_
   | refine LeO.bind ?_ (fun _ => ?_)
set_option maxHeartbeats 8000000 in
set_option maxRecDepth 100000 in
theorem ancepsref57_has.calls (k : Nat) (a0_0 : ByteArray) (A0_1 : Option Addr) (c0_1 : Nat) (l0_1 : List (S67)) (a1 : Int) (r : ByteArray) (w : World) (hr0_1 : Kd.C k67 w A0_1 l0_1.length l0_1) (hc0_1 : l0_1.length ≤ c0_1) (h : ancepsref57_has.f k a0_0 l0_1 a1 = some r) :
  Calls Try.prog 61 #[.agg #[.string a0_0, .slice A0_1 l0_1.length c0_1], .int .i64 a1] w fun e w' => e = .returned (.string r) ∧ Below w.heap.size w w' := by
 have hu65 := Try.underlying65
 have HR0_1 := Aside0.mk hr0_1
 have HC0_1 := Aside0.mk hc0_1
 clear hr0_1 hc0_1
 have HB := Aside0.mk (Below.refl w.heap.size w)
 have H : (ancepsref57_has.l0 k a1 0 a0_0 l0_1) = some r := h
 clear h
 have H' := Aside0.mk H
 clear H
 go_enter Try.func61, Try.ntmps61
 go_wp2_with (first | ((with_reducible refine gate_dst (N := 2) rfl ?_); refine bX 2 #[.string a0_0, .slice A0_1 l0_1.length c0_1] 65 ?_; intro gb321 hg w3 hbox hb; have n0_ := jL HB hb; have n1_ := Aside0.mk (hbox); have n2_ := Aside0.mk ((by rw [hg]; exact (below_size (iL HB)) : w.heap.size ≤ gb321)); have n3_ := Aside0.mk ((by rw [hg]; exact (below_size (iL HB)) : w.heap.size ≤ gb321)); clear HB; have HB := n0_; have BK321 := n1_; have GW321 := n2_; have GE321 := n3_; clear n0_ n1_ n2_ n3_; clear hb hbox hg))
 go_loopg [5] k (fun kq v5 w' => ∃ (x5_1 : Int), v5 = .int .i64 x5_1 ∧ Aside0 (ancepsref57_has.l0 kq a1 x5_1 a0_0 l0_1 = some r) ∧ Aside0 (kq ≤ k) ∧ Aside0 (w'.heap[gb321]? = some (.cells #[.string a0_0, (.slice A0_1 l0_1.length c0_1)] 65 (0, 0))) ∧ Aside0 (Below w.heap.size w w'))
 case atStart => exact ⟨(0), eV, H', ⟨Nat.le_refl _⟩, ⟨iB BK321⟩, ⟨iL HB⟩⟩
 case round =>
  clear H'
  (try clear p2)
  obtain ⟨x5_1, rfl, HA, HK1, BK321, HB⟩ := hrel
  cases gk with
  | zero => exact absurd HA.out (by simp [ancepsref57_has.l0])
  | succ k1 =>
   have H := HA.out
   clear HA
   simp only [ancepsref57_has.l0] at H
   by_cases c4 : x5_1 < (l0_1.length : Int)
   ·rw [if_pos c4] at H
    have c4b0 : decide (x5_1 < (l0_1.length : Int)) = true := decide_eq_true c4
    clear c4
    by_cases c5 : 0 ≤ x5_1
    ·rw [if_pos c5] at H
     have c5b0 : decide (0 ≤ x5_1) = true := decide_eq_true c5
     clear c5
     by_cases c6 : 0 ≤ a1
     ·rw [if_pos c6] at H
      have c6b0 := eq_true c6
      have c6b1 : decide (0 ≤ a1) = true := decide_eq_true c6
      clear c6
      obtain ⟨ji7, hji7⟩ : ∃ j_ : Int, (shr .i64 ((rd_T67 l0_1 x5_1).f1) a1) = j_ := ⟨_, rfl⟩
      replace H : (if (Go.bits .and .i64 (ji7) 1) = 1 then (some ((rd_T67 l0_1 x5_1).f0)) else (ancepsref57_has.l0 k1 a1 (wrap64 (x5_1 + 1)) a0_0 l0_1)) = some r := by first | (rw [hji7] at H; exact H) | (simp only [hji7] at H ⊢; exact H)
      have hji7_ : (((rd_T67 l0_1 x5_1).f1) / 2 ^ min a1.toNat 64) = ji7 := hji7
      have hji7z : a1 ≤ 64 → (((rd_T67 l0_1 x5_1).f1) / 2 ^ a1.toNat) = ji7 := shr_small hji7
      by_cases c8 : (Go.bits .and .i64 (ji7) 1) = 1
      ·rw [if_pos c8] at H
       have c8b0 : ((Go.bits .and .i64 (ji7) 1) == 1) = true := beq_iff_eq.mpr c8
       have c8b1 : ((Go.bits .and .i64 (ji7) 1) != 1) = false := bne_eq_false_iff_eq.mpr c8
       clear c8
       obtain rfl := Option.some.inj H
       have hcz9_0 := cZ BK321 0 (.string a0_0)
       have hcz9_1 := cZ BK321 1 (.slice A0_1 l0_1.length c0_1)
       have hfz9_0 := blk_frozen BK321.out 0
       have hfz9_1 := blk_frozen BK321.out 1
       have p322 := oD (0 ≤ (x5_1 : Int))
       have q322 := oD (x5_1 < (l0_1.length : Int))
       obtain ⟨ad322, e322, hx322_0, hx322_1⟩ := at_T67 HR0_1.out x5_1 p322 q322
       cases e322
       replace hx322_0 := (HB.out.cell (World.block_lt_of_cell? w _ hx322_0)).trans hx322_0
       replace hx322_1 := (HB.out.cell (World.block_lt_of_cell? w _ hx322_1)).trans hx322_1
       replace p322 := eq_true p322
       replace q322 := eq_true q322
       have p323 := oD (0 ≤ (x5_1 : Int))
       have q323 := oD (x5_1 < (l0_1.length : Int))
       obtain ⟨ad323, e323, hx323_0, hx323_1⟩ := at_T67 HR0_1.out x5_1 p323 q323
       obtain rfl : ad322 = ad323 := (by injection e323)
       replace hx323_0 := (HB.out.cell (World.block_lt_of_cell? w _ hx323_0)).trans hx323_0
       replace hx323_1 := (HB.out.cell (World.block_lt_of_cell? w _ hx323_1)).trans hx323_1
       replace p323 := eq_true p323
       replace q323 := eq_true q323
       go_wp2
       go_ret
       exact ⟨by first | rfl | (simp [errW_none, errW_some] <;> rfl) | (simp only [← hji7]; first | rfl | (simp [errW_none, errW_some] <;> rfl)) | (simp [*, errW_none, errW_some] <;> rfl), iL HB⟩
      ·rw [if_neg c8] at H
       have c8b0 : ((Go.bits .and .i64 (ji7) 1) == 1) = false := beq_eq_false_iff_ne.mpr c8
       have c8b1 : ((Go.bits .and .i64 (ji7) 1) != 1) = true := bne_iff_ne.mpr c8
       have H' := Aside0.mk H
       clear H
       have hcz10_0 := cZ BK321 0 (.string a0_0)
       have hcz10_1 := cZ BK321 1 (.slice A0_1 l0_1.length c0_1)
       have hfz10_0 := blk_frozen BK321.out 0
       have hfz10_1 := blk_frozen BK321.out 1
       have p322 := oD (0 ≤ (x5_1 : Int))
       have q322 := oD (x5_1 < (l0_1.length : Int))
       obtain ⟨ad322, e322, hx322_0, hx322_1⟩ := at_T67 HR0_1.out x5_1 p322 q322
       cases e322
       replace hx322_0 := (HB.out.cell (World.block_lt_of_cell? w _ hx322_0)).trans hx322_0
       replace hx322_1 := (HB.out.cell (World.block_lt_of_cell? w _ hx322_1)).trans hx322_1
       replace p322 := eq_true p322
       replace q322 := eq_true q322
       go_wp2
       go_roundg k1
       case measure => have := HK1.out; omega
       case rel => exact ⟨(wrap64 (x5_1 + 1)), eV, H', ⟨by have := HK1.out; omega⟩, ⟨iB BK321⟩, ⟨iL HB⟩⟩
     ·rw [if_neg c6] at H
      exact absurd H (by simp)
    ·rw [if_neg c5] at H
     exact absurd H (by simp)
   ·rw [if_neg c4] at H
    have c4b0 : decide (x5_1 < (l0_1.length : Int)) = false := decide_eq_false c4
    clear c4
    obtain rfl := Option.some.inj H
    have hcz11_0 := cZ BK321 0 (.string a0_0)
    have hcz11_1 := cZ BK321 1 (.slice A0_1 l0_1.length c0_1)
    have hfz11_0 := blk_frozen BK321.out 0
    have hfz11_1 := blk_frozen BK321.out 1
    go_wp2
    go_ret
    exact ⟨eV, iL HB⟩

/-! ### ancepsref57_texts: function 60 -/
def ancepsref57_texts.l0 : Nat → Int → List ByteArray → Int → List ByteArray → List (S65) → Option (List ByteArray)
 | 0, _, _, _, _, _ => none
 | k + 1, x1, x5, x6, x325000, x325001 => if x6 < (x325001.length : Int) then (if 0 ≤ x6 then ((ancepsref57_has.f k ((rd_T65 x325001 x6).f0) ((rd_T65 x325001 x6).f1) x1).bind fun t326 => (if x5.length < 8796093022208 then (ancepsref57_texts.l0 k x1 (x5 ++ [t326]) (wrap64 (x6 + 1)) x325000 x325001) else (none))) else (none)) else (some x5)
def ancepsref57_texts.f (k : Nat) (l0_0 : List ByteArray) (l0_1 : List (S65)) (a1 : Int) : Option (List ByteArray) := ancepsref57_texts.l0 k a1 ([] : List ByteArray) 0 l0_0 l0_1
theorem ancepsref57_texts.mono_l : ∀ k, (∀ y0 y1 y2 y3 y4, LeO (ancepsref57_texts.l0 k y0 y1 y2 y3 y4) (ancepsref57_texts.l0 (k + 1) y0 y1 y2 y3 y4))
 | 0 => fun _ _ _ _ _ r h => by simp [ancepsref57_texts.l0] at h
 | k + 1 => by
  have ih0 := ancepsref57_texts.mono_l k
  ·intro y0 y1 y2 y3 y4
   unfold ancepsref57_texts.l0
   repeat' first
   | (with_reducible exact ih0 _ _ _ _ _)
   | (with_reducible exact ancepsref57_has.mono _ _ _ _)
   | (with_reducible exact LeO.refl _)
   | (with_reducible exact LeO.none _)
   | (with_reducible refine LeO.ite ?_ ?_)
   | (with_reducible refine LeO.bind ?_ (fun _ => ?_))
   | exact ih0 _ _ _ _ _
   | exact ancepsref57_has.mono _ _ _ _
   | exact LeO.none _
   | refine LeO.ite ?_ ?_
   | refine LeO.bind ?_ (fun _ => ?_)
theorem ancepsref57_texts.mono : ∀ a0 a1 a2 k, LeO (ancepsref57_texts.f k a0 a1 a2) (ancepsref57_texts.f (k + 1) a0 a1 a2) := by
 intro a0 a1 a2 k
 have ih0 := ancepsref57_texts.mono_l k
 unfold ancepsref57_texts.f
 repeat' first
   | (with_reducible exact ih0 _ _ _ _ _)
   | (with_reducible exact ancepsref57_has.mono _ _ _ _)
   | (with_reducible exact LeO.refl _)
   | (with_reducible exact LeO.none _)
   | (with_reducible refine LeO.ite ?_ ?_)
   | (with_reducible refine LeO.bind ?_ (fun _ => ?_))
   | exact ih0 _ _ _ _ _
   | exact ancepsref57_has.mono _ _ _ _
   | exact LeO.none _
   | refine LeO.ite ?_ ?_
   | refine LeO.bind ?_ (fun _ => ?_)
set_option maxHeartbeats 8000000 in
set_option maxRecDepth 100000 in
theorem ancepsref57_texts.calls (k : Nat) (A0_0 : Option Addr) (c0_0 : Nat) (l0_0 : List ByteArray) (A0_1 : Option Addr) (c0_1 : Nat) (l0_1 : List (S65)) (a1 : Int) (r : List ByteArray) (w : World) (hr0_0 : Kd.C Kd.string w A0_0 l0_0.length l0_0) (hc0_0 : l0_0.length ≤ c0_0) (hr0_1 : Kd.C k65 w A0_1 l0_1.length l0_1) (hc0_1 : l0_1.length ≤ c0_1) (h : ancepsref57_texts.f k l0_0 l0_1 a1 = some r) :
  Calls Try.prog 60 #[.agg #[.slice A0_0 l0_0.length c0_0, .slice A0_1 l0_1.length c0_1], .int .i64 a1] w fun e w' => ∃ v0_ : Value, e = .returned (v0_) ∧ Kd.R Kd.string 9 w' w.heap.size (fun _ => True) v0_ r ∧ Below w.heap.size w w' := by
 have hu42 := Try.underlying42
 have hu65 := Try.underlying65
 have HR0_0 := Aside0.mk hr0_0
 have HC0_0 := Aside0.mk hc0_0
 clear hr0_0 hc0_0
 have HR0_1 := Aside0.mk hr0_1
 have HC0_1 := Aside0.mk hc0_1
 clear hr0_1 hc0_1
 have HB := Aside0.mk (Below.refl w.heap.size w)
 have H : (ancepsref57_texts.l0 k a1 ([] : List ByteArray) 0 l0_0 l0_1) = some r := h
 clear h
 have H' := Aside0.mk H
 clear H
 go_enter Try.func60, Try.ntmps60
 go_wp2_with (first | ((with_reducible refine gate_dst (N := 2) rfl ?_); refine bX 2 #[.slice A0_0 l0_0.length c0_0, .slice A0_1 l0_1.length c0_1] 42 ?_; intro gb324 hg w3 hbox hb; have n0_ := jL HB hb; have n1_ := Aside0.mk (hbox); have n2_ := Aside0.mk ((by rw [hg]; exact (below_size (iL HB)) : w.heap.size ≤ gb324)); have n3_ := Aside0.mk ((by rw [hg]; exact (below_size (iL HB)) : w.heap.size ≤ gb324)); clear HB; have HB := n0_; have BK324 := n1_; have GW324 := n2_; have GE324 := n3_; clear n0_ n1_ n2_ n3_; clear hb hbox hg))
 go_loopg [5, 6] k (fun kq v5 v6 w' => ∃ (x5_1 : List ByteArray) (x6_1 : Int), v6 = .int .i64 x6_1 ∧ Aside0 (ancepsref57_texts.l0 kq a1 x5_1 x6_1 l0_0 l0_1 = some r) ∧ Aside0 (kq ≤ k) ∧ Aside0 (Kd.R Kd.string 9 w' w.heap.size (fun _ => True) v5 x5_1) ∧ Aside0 (w'.heap[gb324]? = some (.cells #[(.slice A0_0 l0_0.length c0_0), (.slice A0_1 l0_1.length c0_1)] 42 (0, 0))) ∧ Aside0 (Below w.heap.size w w'))
 case atStart => exact ⟨(([] : List ByteArray)), (0), eV, H', ⟨Nat.le_refl _⟩, ⟨by first | exact Kd.R_nil _ _ _ _ _ | exact Kd.N_nil _ _ _ _ _ | exact Kd.V_nil _ _ _ _ _ | exact Kd.Q_nil _ _ _ _ _ | exact Kd.S_nil _ _ _ _ _⟩, ⟨iB BK324⟩, ⟨iL HB⟩⟩
 case round =>
  clear H'
  (try clear p2)
  obtain ⟨x5_1, x6_1, rfl, HA, HK1, HO_5, BK324, HB⟩ := hrel
  cases gk with
  | zero => exact absurd HA.out (by simp [ancepsref57_texts.l0])
  | succ k1 =>
   have H := HA.out
   clear HA
   simp only [ancepsref57_texts.l0] at H
   by_cases c4 : x6_1 < (l0_1.length : Int)
   ·rw [if_pos c4] at H
    have c4b0 : decide (x6_1 < (l0_1.length : Int)) = true := decide_eq_true c4
    clear c4
    by_cases c5 : 0 ≤ x6_1
    ·rw [if_pos c5] at H
     have c5b0 : decide (0 ≤ x6_1) = true := decide_eq_true c5
     clear c5
     replace H := Option.bind_eq_some_iff.mp H
     obtain ⟨t326, A60, H⟩ := H
     try dsimp only at H
     have A6 := Aside0.mk A60
     clear A60
     by_cases c7 : x5_1.length < 8796093022208
     ·rw [if_pos c7] at H
      have LMc7 := Aside0.mk c7
      clear c7
      obtain ⟨y327, hy327⟩ : ∃ y_ : List ByteArray, y_ = (x5_1 ++ [t326]) := ⟨_, rfl⟩
      replace H : (ancepsref57_texts.l0 k1 a1 y327 (wrap64 (x6_1 + 1)) l0_0 l0_1) = some r := by first | (rw [hy327]; with_reducible exact H) | (have H2_ := (Option.bind_some _ _).symm.trans H; rw [hy327]; with_reducible exact H2_) | (have H2_ := (Option.bind_some _ _).symm.trans H; with_reducible exact H2_) | with_reducible exact H | (rw [hy327]; exact H) | exact H
      have Ny327 := Aside0.mk hy327
      clear hy327
      have H' := Aside0.mk H
      clear H
      have hcz8_0 := cZ BK324 0 (.slice A0_0 l0_0.length c0_0)
      have hcz8_1 := cZ BK324 1 (.slice A0_1 l0_1.length c0_1)
      have hfz8_0 := blk_frozen BK324.out 0
      have hfz8_1 := blk_frozen BK324.out 1
      have p325 := oD (0 ≤ (x6_1 : Int))
      have q325 := oD (x6_1 < (l0_1.length : Int))
      obtain ⟨ad325, A325_1, c325_1, e325, hx325_0, hx325_1, hl325_1, hi325_1⟩ := at_T65 HR0_1.out x6_1 p325 q325
      cases e325
      replace hx325_0 := (HB.out.cell (World.block_lt_of_cell? w _ hx325_0)).trans hx325_0
      replace hx325_1 := (HB.out.cell (World.block_lt_of_cell? w _ hx325_1)).trans hx325_1
      have HR325_1 := Aside0.mk hi325_1
      have HC325_1 := Aside0.mk hl325_1
      clear hi325_1 hl325_1
      replace p325 := eq_true p325
      replace q325 := eq_true q325
      go_wp2_with (first | ((with_reducible refine gate_callee (f := 61) rfl ?_); refine gL_ (some 21) Try.func61 #[.agg #[.string ((rd_T65 l0_1 x6_1).f0), .slice A325_1 ((rd_T65 l0_1 x6_1).f1).length c325_1], .int .i64 a1] ?_; (with_reducible refine (ancepsref57_has.calls k1 ((rd_T65 l0_1 x6_1).f0) _ _ ((rd_T65 l0_1 x6_1).f1) a1 t326 _ ?side1 ?side2 A6.out).mono ?_); (case side1 => exact iC HR325_1 HB); (case side2 => exact HC325_1.out); rintro e w9 ⟨rfl, hb⟩; refine ⟨_, rfl, ?_⟩; have n0_ := jR HO_5 hb; have n1_ := jB BK324 hb; have n2_ := jL HB hb; clear HO_5; clear BK324; clear HB; have HO_5 := n0_; have BK324 := n1_; have HB := n2_; clear n0_ n1_ n2_; (try clear hb)) | ((with_reducible refine gate_builtin (b := .append) (xs := #[.tmp 14, .tmp 22]) rfl ?_); at_builtin; refine Kd.R_append Kd.string (w0 := w) w.heap.size rfl (.tmp 14) (.tmp 22) 34 9 (.string ⟨#[]⟩) 16 rfl Try.underlying34 info9 rfl (by decide) (by omega) u5 x5_1 t326 [.string t326] (fun _ => True) (fun _ => False) rfl rfl ?aP (fun _ hk => hk.elim) ?aF ?aO ?aB ?aS ?aL ?_; (case aP => exact rfl); (case aB => exact (iL HB)); (case aF => exact (fun _ _ => trivial)); (case aO => exact (iR HO_5)); (case aS => exact (below_size (iL HB))); (case aL => have := LMc7.out; omega); intro v328 w10 ho hb hg hat; rw [← Ny327.out] at ho; have n0_ := Aside0.mk (blk_grown (g := gb324) (o := .cells #[.slice A0_0 l0_0.length c0_0, .slice (some ad325) l0_1.length c0_1] 42 (0, 0)) (iB BK324) hg (Kd.R_ne HO_5.out BK324.out (by decide))); have n1_ := Aside0.mk (hb); have n2_ := Aside0.mk (ho); clear BK324; clear HB; clear HO_5; have BK324 := n0_; have HB := n1_; have HO329 := n2_; clear n0_ n1_ n2_; clear ho hb hg hat))
      go_roundg k1
      case measure => have := HK1.out; omega
      case rel => exact ⟨(y327), (wrap64 (x6_1 + 1)), eV, H', ⟨by have := HK1.out; omega⟩, ⟨iR HO329⟩, ⟨iB BK324⟩, ⟨iL HB⟩⟩
     ·rw [if_neg c7] at H
      exact absurd H (by simp)
    ·rw [if_neg c5] at H
     exact absurd H (by simp)
   ·rw [if_neg c4] at H
    have c4b0 : decide (x6_1 < (l0_1.length : Int)) = false := decide_eq_false c4
    clear c4
    obtain rfl := Option.some.inj H
    have hcz11_0 := cZ BK324 0 (.slice A0_0 l0_0.length c0_0)
    have hcz11_1 := cZ BK324 1 (.slice A0_1 l0_1.length c0_1)
    have hfz11_0 := blk_frozen BK324.out 0
    have hfz11_1 := blk_frozen BK324.out 1
    go_wp2
    go_ret
    exact ⟨_, eV, by (with_reducible repeat (first | apply Kd.R_alloc | apply Kd.R_drewN | apply Kd.R_drew)); exact HO_5.out, iL HB⟩

/-! ### ancepsref57_Of: function 30 -/
def ancepsref57_Of.f (k : Nat) (l0_0 : List ByteArray) (l0_1 : List (S65)) (a1 : ByteArray) : Option (List ByteArray × Int) := (ancepsref57_Valid.f k l0_0 l0_1).bind fun t331 => (if t331 = 0 then ((ancepsref57_find.f k l0_0 a1).bind fun t332 => (if t332 < 0 then (some (([] : List ByteArray), 4)) else ((ancepsref57_texts.f k l0_0 l0_1 t332).bind fun t333 => (some (t333, 0))))) else (some (([] : List ByteArray), t331)))
theorem ancepsref57_Of.mono : ∀ a0 a1 a2 k, LeO (ancepsref57_Of.f k a0 a1 a2) (ancepsref57_Of.f (k + 1) a0 a1 a2) := by
 intro a0 a1 a2 k
 unfold ancepsref57_Of.f
 repeat' first
   | (with_reducible exact ancepsref57_Valid.mono _ _ _)
   | (with_reducible exact ancepsref57_find.mono _ _ _)
   | (with_reducible exact ancepsref57_texts.mono _ _ _ _)
   | (with_reducible exact LeO.refl _)
   | (with_reducible exact LeO.none _)
   | (with_reducible refine LeO.ite ?_ ?_)
   | (with_reducible refine LeO.bind ?_ (fun _ => ?_))
   | exact ancepsref57_Valid.mono _ _ _
   | exact ancepsref57_find.mono _ _ _
   | exact ancepsref57_texts.mono _ _ _ _
   | exact LeO.none _
   | refine LeO.ite ?_ ?_
   | refine LeO.bind ?_ (fun _ => ?_)
set_option maxHeartbeats 8000000 in
set_option maxRecDepth 100000 in
theorem ancepsref57_Of.calls (k : Nat) (A0_0 : Option Addr) (c0_0 : Nat) (l0_0 : List ByteArray) (A0_1 : Option Addr) (c0_1 : Nat) (l0_1 : List (S65)) (a1 : ByteArray) (r1 : List ByteArray) (r2 : Int) (w : World) (hr0_0 : Kd.C Kd.string w A0_0 l0_0.length l0_0) (hc0_0 : l0_0.length ≤ c0_0) (hr0_1 : Kd.C k65 w A0_1 l0_1.length l0_1) (hc0_1 : l0_1.length ≤ c0_1) (h : ancepsref57_Of.f k l0_0 l0_1 a1 = some (r1, r2)) :
  Calls Try.prog 30 #[.agg #[.slice A0_0 l0_0.length c0_0, .slice A0_1 l0_1.length c0_1], .string a1] w fun e w' => ∃ v0_ : Value, e = .returned (.tuple #[v0_, .int .i64 r2]) ∧ Kd.R Kd.string 9 w' w.heap.size (fun _ => True) v0_ r1 ∧ Below w.heap.size w w' := by
 have hu42 := Try.underlying42
 have HR0_0 := Aside0.mk hr0_0
 have HC0_0 := Aside0.mk hc0_0
 clear hr0_0 hc0_0
 have HR0_1 := Aside0.mk hr0_1
 have HC0_1 := Aside0.mk hc0_1
 clear hr0_1 hc0_1
 have HB := Aside0.mk (Below.refl w.heap.size w)
 have H : ((ancepsref57_Valid.f k l0_0 l0_1).bind fun t331 => (if t331 = 0 then ((ancepsref57_find.f k l0_0 a1).bind fun t332 => (if t332 < 0 then (some (([] : List ByteArray), 4)) else ((ancepsref57_texts.f k l0_0 l0_1 t332).bind fun t333 => (some (t333, 0))))) else (some (([] : List ByteArray), t331)))) = some (r1, r2) := h
 clear h
 replace H := Option.bind_eq_some_iff.mp H
 obtain ⟨t331, A30, H⟩ := H
 try dsimp only at H
 have A3 := Aside0.mk A30
 clear A30
 by_cases c4 : t331 = 0
 ·rw [if_pos c4] at H
  have c4b0 : (t331 == 0) = true := beq_iff_eq.mpr c4
  have c4b1 : (t331 != 0) = false := bne_eq_false_iff_eq.mpr c4
  clear c4
  replace H := Option.bind_eq_some_iff.mp H
  obtain ⟨t332, A50, H⟩ := H
  try dsimp only at H
  have A5 := Aside0.mk A50
  clear A50
  by_cases c6 : t332 < 0
  ·rw [if_pos c6] at H
   have c6b0 : decide (t332 < 0) = true := decide_eq_true c6
   clear c6
   simp only [Option.some.injEq, Prod.mk.injEq] at H
   obtain ⟨rfl, rfl⟩ := H
   go_enter Try.func30, Try.ntmps30
   go_wp2_with (first | ((with_reducible refine gate_dst (N := 2) rfl ?_); refine bX 2 #[.slice A0_0 l0_0.length c0_0, .slice A0_1 l0_1.length c0_1] 42 ?_; intro gb330 hg w7 hbox hb; have n0_ := jL HB hb; have n1_ := Aside0.mk (hbox); have n2_ := Aside0.mk ((by rw [hg]; exact (below_size (iL HB)) : w.heap.size ≤ gb330)); have n3_ := Aside0.mk ((by rw [hg]; exact (below_size (iL HB)) : w.heap.size ≤ gb330)); clear HB; have HB := n0_; have BK330 := n1_; have GW330 := n2_; have GE330 := n3_; clear n0_ n1_ n2_ n3_; clear hb hbox hg; have hcz8_0 := cZ BK330 0 (.slice A0_0 l0_0.length c0_0); have hcz8_1 := cZ BK330 1 (.slice A0_1 l0_1.length c0_1); have hfz8_0 := blk_frozen BK330.out 0; have hfz8_1 := blk_frozen BK330.out 1) | ((with_reducible refine gate_callee (f := 54) rfl ?_); refine gL_ (some 9) Try.func54 #[.agg #[.slice A0_0 l0_0.length c0_0, .slice A0_1 l0_1.length c0_1]] ?_; (with_reducible refine (ancepsref57_Valid.calls k _ _ l0_0 _ _ l0_1 t331 _ ?side1 ?side2 ?side3 ?side4 A3.out).mono ?_); (case side1 => exact iC HR0_0 HB); (case side2 => exact HC0_0.out); (case side3 => exact iC HR0_1 HB); (case side4 => exact HC0_1.out); rintro e w9 ⟨rfl, hb⟩; refine ⟨_, rfl, ?_⟩; have n0_ := jB BK330 hb; have n1_ := jL HB hb; clear BK330; clear HB; have BK330 := n0_; have HB := n1_; clear n0_ n1_; (try clear hb); have hcz10_0 := cZ BK330 0 (.slice A0_0 l0_0.length c0_0); have hcz10_1 := cZ BK330 1 (.slice A0_1 l0_1.length c0_1); have hfz10_0 := blk_frozen BK330.out 0; have hfz10_1 := blk_frozen BK330.out 1) | ((with_reducible refine gate_callee (f := 59) rfl ?_); refine gL_ (some 16) Try.func59 #[.slice A0_0 l0_0.length c0_0, .string a1] ?_; (with_reducible refine (ancepsref57_find.calls k _ _ l0_0 a1 t332 _ ?side1 ?side2 A5.out).mono ?_); (case side1 => exact iC HR0_0 HB); (case side2 => exact HC0_0.out); rintro e w' ⟨rfl, ⟨nd, rfl⟩⟩; refine ⟨_, rfl, ?_⟩))
   go_ret2
   exact ⟨_, eV, by first | exact Kd.R_nil _ _ _ _ _ | exact Kd.N_nil _ _ _ _ _ | exact Kd.V_nil _ _ _ _ _ | exact Kd.Q_nil _ _ _ _ _ | exact Kd.S_nil _ _ _ _ _, iL HB⟩
  ·rw [if_neg c6] at H
   have c6b0 : decide (t332 < 0) = false := decide_eq_false c6
   clear c6
   replace H := Option.bind_eq_some_iff.mp H
   obtain ⟨t333, A110, H⟩ := H
   replace H : (some (t333, 0)) = some (r1, r2) := H
   have A11 := Aside0.mk A110
   clear A110
   simp only [Option.some.injEq, Prod.mk.injEq] at H
   obtain ⟨rfl, rfl⟩ := H
   go_enter Try.func30, Try.ntmps30
   go_wp2_with (first | ((with_reducible refine gate_dst (N := 2) rfl ?_); refine bX 2 #[.slice A0_0 l0_0.length c0_0, .slice A0_1 l0_1.length c0_1] 42 ?_; intro gb330 hg w12 hbox hb; have n0_ := jL HB hb; have n1_ := Aside0.mk (hbox); have n2_ := Aside0.mk ((by rw [hg]; exact (below_size (iL HB)) : w.heap.size ≤ gb330)); have n3_ := Aside0.mk ((by rw [hg]; exact (below_size (iL HB)) : w.heap.size ≤ gb330)); clear HB; have HB := n0_; have BK330 := n1_; have GW330 := n2_; have GE330 := n3_; clear n0_ n1_ n2_ n3_; clear hb hbox hg; have hcz13_0 := cZ BK330 0 (.slice A0_0 l0_0.length c0_0); have hcz13_1 := cZ BK330 1 (.slice A0_1 l0_1.length c0_1); have hfz13_0 := blk_frozen BK330.out 0; have hfz13_1 := blk_frozen BK330.out 1) | ((with_reducible refine gate_callee (f := 54) rfl ?_); refine gL_ (some 9) Try.func54 #[.agg #[.slice A0_0 l0_0.length c0_0, .slice A0_1 l0_1.length c0_1]] ?_; (with_reducible refine (ancepsref57_Valid.calls k _ _ l0_0 _ _ l0_1 t331 _ ?side1 ?side2 ?side3 ?side4 A3.out).mono ?_); (case side1 => exact iC HR0_0 HB); (case side2 => exact HC0_0.out); (case side3 => exact iC HR0_1 HB); (case side4 => exact HC0_1.out); rintro e w14 ⟨rfl, hb⟩; refine ⟨_, rfl, ?_⟩; have n0_ := jB BK330 hb; have n1_ := jL HB hb; clear BK330; clear HB; have BK330 := n0_; have HB := n1_; clear n0_ n1_; (try clear hb); have hcz15_0 := cZ BK330 0 (.slice A0_0 l0_0.length c0_0); have hcz15_1 := cZ BK330 1 (.slice A0_1 l0_1.length c0_1); have hfz15_0 := blk_frozen BK330.out 0; have hfz15_1 := blk_frozen BK330.out 1) | ((with_reducible refine gate_callee (f := 59) rfl ?_); refine gL_ (some 16) Try.func59 #[.slice A0_0 l0_0.length c0_0, .string a1] ?_; (with_reducible refine (ancepsref57_find.calls k _ _ l0_0 a1 t332 _ ?side1 ?side2 A5.out).mono ?_); (case side1 => exact iC HR0_0 HB); (case side2 => exact HC0_0.out); rintro e w' ⟨rfl, ⟨nd, rfl⟩⟩; refine ⟨_, rfl, ?_⟩) | ((with_reducible refine gate_callee (f := 60) rfl ?_); refine gL_ (some 21) Try.func60 #[.agg #[.slice A0_0 l0_0.length c0_0, .slice A0_1 l0_1.length c0_1], .int .i64 t332] ?_; (with_reducible refine (ancepsref57_texts.calls k _ _ l0_0 _ _ l0_1 t332 t333 _ ?side1 ?side2 ?side3 ?side4 A11.out).mono ?_); (case side1 => repeat (first | exact (Kd.C_below HR0_0.out (iL HB)) | (with_reducible refine Kd.C_alloc ?_ _) | (with_reducible refine Kd.C_drewN ?_ _) | (with_reducible refine Kd.C_drew ?_))); (case side2 => exact HC0_0.out); (case side3 => repeat (first | exact (Kd.C_below HR0_1.out (iL HB)) | (with_reducible refine Kd.C_alloc ?_ _) | (with_reducible refine Kd.C_drewN ?_ _) | (with_reducible refine Kd.C_drew ?_))); (case side4 => exact HC0_1.out); rintro e w16 ⟨v334, rfl, ho0, hb⟩; refine ⟨_, rfl, ?_⟩; have n0_ := Aside0.mk (Kd.R_lower ho0 (below_size (iL HB))); have n1_ := jB BK330 hb; have n2_ := jL HB hb; clear BK330; clear HB; have HO335 := n0_; have BK330 := n1_; have HB := n2_; clear n0_ n1_ n2_; (try clear hb); (try clear ho0)))
   go_ret2
   exact ⟨_, eV, by (with_reducible repeat (first | apply Kd.R_alloc | apply Kd.R_drewN | apply Kd.R_drew)); exact HO335.out, iL HB⟩
 ·rw [if_neg c4] at H
  have c4b0 : (t331 == 0) = false := beq_eq_false_iff_ne.mpr c4
  have c4b1 : (t331 != 0) = true := bne_iff_ne.mpr c4
  simp only [Option.some.injEq, Prod.mk.injEq] at H
  obtain ⟨rfl, rfl⟩ := H
  go_enter Try.func30, Try.ntmps30
  go_wp2_with (first | ((with_reducible refine gate_dst (N := 2) rfl ?_); refine bX 2 #[.slice A0_0 l0_0.length c0_0, .slice A0_1 l0_1.length c0_1] 42 ?_; intro gb330 hg w17 hbox hb; have n0_ := jL HB hb; have n1_ := Aside0.mk (hbox); have n2_ := Aside0.mk ((by rw [hg]; exact (below_size (iL HB)) : w.heap.size ≤ gb330)); have n3_ := Aside0.mk ((by rw [hg]; exact (below_size (iL HB)) : w.heap.size ≤ gb330)); clear HB; have HB := n0_; have BK330 := n1_; have GW330 := n2_; have GE330 := n3_; clear n0_ n1_ n2_ n3_; clear hb hbox hg; have hcz18_0 := cZ BK330 0 (.slice A0_0 l0_0.length c0_0); have hcz18_1 := cZ BK330 1 (.slice A0_1 l0_1.length c0_1); have hfz18_0 := blk_frozen BK330.out 0; have hfz18_1 := blk_frozen BK330.out 1) | ((with_reducible refine gate_callee (f := 54) rfl ?_); refine gL_ (some 9) Try.func54 #[.agg #[.slice A0_0 l0_0.length c0_0, .slice A0_1 l0_1.length c0_1]] ?_; (with_reducible refine (ancepsref57_Valid.calls k _ _ l0_0 _ _ l0_1 t331 _ ?side1 ?side2 ?side3 ?side4 A3.out).mono ?_); (case side1 => exact iC HR0_0 HB); (case side2 => exact HC0_0.out); (case side3 => exact iC HR0_1 HB); (case side4 => exact HC0_1.out); rintro e w19 ⟨rfl, hb⟩; refine ⟨_, rfl, ?_⟩; have n0_ := jB BK330 hb; have n1_ := jL HB hb; clear BK330; clear HB; have BK330 := n0_; have HB := n1_; clear n0_ n1_; (try clear hb)))
  go_ret2
  exact ⟨_, eV, by first | exact Kd.R_nil _ _ _ _ _ | exact Kd.N_nil _ _ _ _ _ | exact Kd.V_nil _ _ _ _ _ | exact Kd.Q_nil _ _ _ _ _ | exact Kd.S_nil _ _ _ _ _, iL HB⟩

end Go.Proofs.Ytmjigfoldeekmaa.X
