-- and more
-- shortened
-- thinned
-- halved indents
-- printed by this session's xprint.py: out of the translation, by the kit's print with additions; Lean checks it
import Derived.Test.YtdaooagikacboaaXE
import Derived.Test.YtdaooagikacboaaWN
import Derived.Test.YtdaooagikacboaaWShare
import Derived.Test.YtdaooagikacboaaWRepsOne
import Derived.Test.YtdaooagikacboaaX0
import Derived.Test.YtdaooagikacboaaXA
namespace Go.Proofs.Ytdaooagikacboaa.X
open Go.RowKit Go.Proofs.YtdaooagikacboaaW.PrintWords Go.Proofs.YtdaooagikacboaaW.PrintLast Go.Proofs.YtdaooagikacboaaW.PrintMore
attribute [local go_sem] max2_int min2_int max_two min_two max_three min_three max_four min_four isSome_setCell binOp_gtr_str binOp_leq_str binOp_geq_str   -- for this text's walks alone
set_option linter.unusedVariables false
set_option linter.unusedSimpArgs false

/-! ### slices_Clone_int_int: function 20 -/
def slices_Clone_int_int.f (l0 : List Int) : Option (List Int) := (some (([] : List Int) : List Int)).bind fun y230 => (if y230.length + l0.length < 17592186044416 then (some (y230 ++ l0)) else (none))
set_option maxHeartbeats 8000000 in
set_option maxRecDepth 100000 in
theorem slices_Clone_int_int.calls (A0 : Option Addr) (c0 : Nat) (l0 : List Int) (r : List Int) (w : World) (hr0 : Kd.C (Kd.int .i64) w A0 l0.length l0) (hc0 : l0.length ≤ c0) (h : slices_Clone_int_int.f l0 = some r) :
  Calls Try.prog 20 #[.slice A0 l0.length c0] w fun e w' => ∃ v0_ : Value, e = .returned (v0_) ∧ Kd.R (Kd.int .i64) 3 w' w.heap.size (fun _ => True) v0_ r ∧ Below w.heap.size w w' := by
 cases A0 with
 | none =>
  have hl_ := Kd.C_none hr0
  subst hl_
  have hr_ : r = [] := by (have h_ := h; simp [slices_Clone_int_int.f] at h_; first | exact h_ | exact h_.symm | exact h_.2 | exact h_.2.symm)
  subst hr_
  have hn_ := fun (W : World) => Go.Lib.run_eql_slice_nil (P := Try.prog) W 44 3 none 0 c0 0 0 Try.underlying44
  clear hr0 hc0 h
  go_enter Try.func20, Try.ntmps20
  (try simp only [List.length_nil])
  go_wp2
  go_ret
  exact ⟨_, rfl, Kd.R_nil _ _ _ _ _, Below.refl _ _⟩
 | some a0_ =>
  have hn_ := fun (W : World) => Go.Lib.run_eql_slice_nil (P := Try.prog) W 44 3 (some a0_) l0.length c0 0 0 Try.underlying44
  have HR0 := Aside0.mk hr0
  have HC0 := Aside0.mk hc0
  clear hr0 hc0
  have HB := Aside0.mk (Below.refl w.heap.size w)
  have H : ((some (([] : List Int) : List Int)).bind fun y230 => (if y230.length + l0.length < 17592186044416 then (some (y230 ++ l0)) else (none))) = some r := h
  clear h
  obtain ⟨y230, hy230⟩ : ∃ y_ : List Int, y_ = (([] : List Int)) := ⟨_, rfl⟩
  replace H : (if y230.length + l0.length < 17592186044416 then (some (y230 ++ l0)) else (none)) = some r := by first | (rw [hy230]; with_reducible exact H) | (have H2_ := (Option.bind_some _ _).symm.trans H; rw [hy230]; with_reducible exact H2_) | (have H2_ := (Option.bind_some _ _).symm.trans H; with_reducible exact H2_) | with_reducible exact H | (rw [hy230]; exact H) | exact H
  have Ny230 := Aside0.mk hy230
  clear hy230
  by_cases c2 : y230.length + l0.length < 17592186044416
  ·rw [if_pos c2] at H
   have LMc2 := Aside0.mk c2
   clear c2
   obtain ⟨y233, hy233⟩ : ∃ y_ : List Int, y_ = (y230 ++ l0) := ⟨_, rfl⟩
   replace H : (some y233) = some r := by first | (rw [hy233]; with_reducible exact H) | (have H2_ := (Option.bind_some _ _).symm.trans H; rw [hy233]; with_reducible exact H2_) | (have H2_ := (Option.bind_some _ _).symm.trans H; with_reducible exact H2_) | with_reducible exact H | (rw [hy233]; exact H) | exact H
   have Ny233 := Aside0.mk hy233
   clear hy233
   obtain rfl := Option.some.inj H
   go_enter Try.func20, Try.ntmps20
   go_wp2_with (first | ((with_reducible refine gate_dst (N := 5) rfl ?_); refine Kd.R_lit (Kd.int .i64) _ 3 ?hg (N := 5) ?hd (xs := ([] : List Int)) (inner := []) (ok := fun _ => True) (okp := fun _ => True) ?hr ?hp (fun _ hk => hk) trivial (Below.refl _ _) (Nat.le_refl _) (by simp) ?_; (case hd | hg => rfl); (case hr => first | (go_simp; done) | (go_simp; rfl)); (case hp => exact (Reps.none _ _)); intro v231 w3 ho4 hb hg_ hnew_; clear hg_ hnew_; (first | rw [← Ny230.out] at ho4 | (simp only [Int.reduceToNat] at ho4; rw [← Ny230.out] at ho4)); have n0_ := Aside0.mk (Kd.R_lower ho4 (below_size (iL HB))); have n1_ := jL HB hb; clear HB; have HO232 := n0_; have HB := n1_; clear n0_ n1_; clear hb ho4) | ((with_reducible refine gate_builtin (b := .append) (xs := #[.tmp 5, .tmp 6]) rfl ?_); at_builtin; refine Kd.R_append_rows (Kd.int .i64) (w0 := w) w.heap.size rfl (.tmp 5) (.tmp 6) 44 3 (.int .i64 0) 8 rfl Try.underlying44 info3 rfl (by decide) (by omega) v231 y230 l0 _ _ _ (fun _ => True) (fun _ => False) rfl rfl ?aO ?aR (fun _ _ h => h) (fun _ h => h.elim) ?aF ?aB ?aS ?aL ?_; (case aR => exact iC HR0 HB); (case aB => exact (iL HB)); (case aF => exact (fun _ _ => trivial)); (case aO => exact (iR HO232)); (case aS => exact (below_size (iL HB))); (case aL => have := LMc2.out; omega); intro v234 w5 ho hb hg hat; rw [← Ny233.out] at ho; have n0_ := Aside0.mk (hb); have n1_ := Aside0.mk (ho); clear HB; clear HO232; have HB := n0_; have HO235 := n1_; clear n0_ n1_; clear ho hb hg hat))
   go_ret
   exact ⟨_, eV, by (with_reducible repeat (first | apply Kd.R_alloc | apply Kd.R_drewN | apply Kd.R_drew)); exact HO235.out, iL HB⟩
  ·rw [if_neg c2] at H
   exact absurd H (by simp)


/-! ### ancepsref01_Letter: function 42 -/
mutual
def ancepsref01_Letter.j0 : Nat → Int → Bool → Option (Bool)
 | 0, _, _ => none
 | k + 1, x0, x9 => if x9 = true then (some false) else (ancepsref01_Letter.l0 k x0 0)
def ancepsref01_Letter.l0 : Nat → Int → Int → Option (Bool)
 | 0, _, _ => none
 | k + 1, x0, x3 => if x3 < 15 then (if 0 ≤ x3 then (if (bt (⟨#[32, 46, 44, 59, 58, 33, 63, 34, 45, 91, 93, 60, 62, 123, 125]⟩ : ByteArray) x3) = x0 then (some false) else (ancepsref01_Letter.l0 k x0 (wrap64 (x3 + 1)))) else (none)) else (some true)
end
def ancepsref01_Letter.f (k : Nat) (a0 : Int) : Option (Bool) := if a0 < 32 then (ancepsref01_Letter.j0 k a0 true) else (ancepsref01_Letter.j0 k a0 (decide (a0 > 126)))
theorem ancepsref01_Letter.mono_l : ∀ k, (∀ y0 y1, LeO (ancepsref01_Letter.j0 k y0 y1) (ancepsref01_Letter.j0 (k + 1) y0 y1)) ∧ (∀ y0 y1, LeO (ancepsref01_Letter.l0 k y0 y1) (ancepsref01_Letter.l0 (k + 1) y0 y1))
 | 0 => ⟨fun _ _ r h => by simp [ancepsref01_Letter.j0] at h, fun _ _ r h => by simp [ancepsref01_Letter.l0] at h⟩
 | k + 1 => by
  obtain ⟨ih0, ih1⟩ := ancepsref01_Letter.mono_l k
  refine ⟨?_, ?_⟩
  ·intro y0 y1
   unfold ancepsref01_Letter.j0
   repeat' first
   | (with_reducible exact ih0 _ _)
   | (with_reducible exact ih1 _ _)
   | (with_reducible exact LeO.refl _)
   | (with_reducible exact LeO.none _)
   | (with_reducible refine LeO.ite ?_ ?_)
   | (with_reducible refine LeO.bind ?_ (fun _ => ?_))
   | exact ih0 _ _
   | exact ih1 _ _
   | exact LeO.none _
   | refine LeO.ite ?_ ?_
   | refine LeO.bind ?_ (fun _ => ?_)
  ·intro y0 y1
   unfold ancepsref01_Letter.l0
   repeat' first
   | (with_reducible exact ih0 _ _)
   | (with_reducible exact ih1 _ _)
   | (with_reducible exact LeO.refl _)
   | (with_reducible exact LeO.none _)
   | (with_reducible refine LeO.ite ?_ ?_)
   | (with_reducible refine LeO.bind ?_ (fun _ => ?_))
   | exact ih0 _ _
   | exact ih1 _ _
   | exact LeO.none _
   | refine LeO.ite ?_ ?_
   | refine LeO.bind ?_ (fun _ => ?_)
theorem ancepsref01_Letter.mono : ∀ a0 k, LeO (ancepsref01_Letter.f k a0) (ancepsref01_Letter.f (k + 1) a0) := by
 intro a0 k
 obtain ⟨ih0, ih1⟩ := ancepsref01_Letter.mono_l k
 unfold ancepsref01_Letter.f
 repeat' first
   | (with_reducible exact ih0 _ _)
   | (with_reducible exact ih1 _ _)
   | (with_reducible exact LeO.refl _)
   | (with_reducible exact LeO.none _)
   | (with_reducible refine LeO.ite ?_ ?_)
   | (with_reducible refine LeO.bind ?_ (fun _ => ?_))
   | exact ih0 _ _
   | exact ih1 _ _
   | exact LeO.none _
   | refine LeO.ite ?_ ?_
   | refine LeO.bind ?_ (fun _ => ?_)
set_option maxHeartbeats 8000000 in
set_option maxRecDepth 100000 in
theorem ancepsref01_Letter.calls (k : Nat) (a0 : Int) (r : Bool) (w : World) (h : ancepsref01_Letter.f k a0 = some r) :
  Calls Try.prog 42 #[.int .u8 a0] w fun e w' => e = .returned (.bool r) ∧ Drawn0 w w' := by
 have H : (if a0 < 32 then (ancepsref01_Letter.j0 k a0 true) else (ancepsref01_Letter.j0 k a0 (decide (a0 > 126)))) = some r := h
 clear h
 have HC2 := Aside0.mk H
 clear H
 go_enter Try.func42, Try.ntmps42
 go_upto_region 1 with (fail)
 go_cut [9] (fun v9 wc => ∃ (kq : Nat) (x9_1 : Bool), v9 = .bool x9_1 ∧ Aside0 (ancepsref01_Letter.j0 kq a0 x9_1 = some r) ∧ Aside0 (kq ≤ k) ∧ Drawn0 w wc)
 case first =>
  have H := HC2.out
  clear HC2
  by_cases c3 : a0 < 32
  ·rw [if_pos c3] at H
   have c3b0 : decide (a0 < 32) = true := decide_eq_true c3
   clear c3
   (first | rw [c3b0] | (simp only [i64_w, i32_w]; rw [c3b0]) | skip)
   have H' := Aside0.mk H
   clear H
   go_wp2
   go_meet
   case rel => exact ⟨_, (true), eV, H', ⟨by first | omega | exact Nat.le_refl _⟩, dR⟩
  ·rw [if_neg c3] at H
   have c3b0 : decide (a0 < 32) = false := decide_eq_false c3
   clear c3
   (first | rw [c3b0] | (simp only [i64_w, i32_w]; rw [c3b0]) | skip)
   have H' := Aside0.mk H
   clear H
   go_wp2
   go_meet
   case rel => exact ⟨_, (decide (a0 > 126)), eV, H', ⟨by first | omega | exact Nat.le_refl _⟩, dR⟩
 case rest =>
  clear HC2
  (try clear p2); (try clear c3); (try clear c3b0)
  obtain ⟨kq, x9_1, rfl, HA, HJ1, ⟨mc1, rfl⟩⟩ := hcut
  cases kq with
  | zero => exact absurd HA.out (by simp [ancepsref01_Letter.j0])
  | succ kj1 =>
   have H := HA.out
   clear HA
   simp only [ancepsref01_Letter.j0] at H
   by_cases c4 : x9_1 = true
   ·subst c4
    have H1 : (some false) = some r := by rw [if_pos rfl] at H; exact H
    clear H
    have H := H1
    clear H1
    obtain rfl := Option.some.inj H
    go_wp2
    go_ret
    exact ⟨eV, dR⟩
   ·replace c4 := Bool.eq_false_iff.mpr c4
    subst c4
    have H1 : (ancepsref01_Letter.l0 kj1 a0 0) = some r := by rw [if_neg (show ¬ (false = true) by decide)] at H; exact H
    clear H
    have H := H1
    clear H1
    have H' := Aside0.mk H
    clear H
    go_wp2
    go_loopg [3] kj1 (fun kq v3 w' => ∃ (x3_2 : Int), v3 = .int .i64 x3_2 ∧ Aside0 (ancepsref01_Letter.l0 kq a0 x3_2 = some r) ∧ Aside0 (kq ≤ kj1) ∧ Drawn0 w w')
    case atStart => exact ⟨(0), eV, H', ⟨Nat.le_refl _⟩, dR⟩
    case round =>
     clear H'
     (try clear c1); (try clear p2); (try clear c3); (try clear c3b0); (try clear c4); (try clear p2)
     obtain ⟨x3_2, rfl, HA, HK2, ⟨m2, rfl⟩⟩ := hrel
     cases gk with
     | zero => exact absurd HA.out (by simp [ancepsref01_Letter.l0])
     | succ k2 =>
      have H := HA.out
      clear HA
      simp only [ancepsref01_Letter.l0] at H
      by_cases c5 : x3_2 < 15
      ·rw [if_pos c5] at H
       have c5b0 : decide (x3_2 < 15) = true := decide_eq_true c5
       clear c5
       by_cases c6 : 0 ≤ x3_2
       ·rw [if_pos c6] at H
        have c6b0 : decide (0 ≤ x3_2) = true := decide_eq_true c6
        clear c6
        by_cases c8 : (bt (⟨#[32, 46, 44, 59, 58, 33, 63, 34, 45, 91, 93, 60, 62, 123, 125]⟩ : ByteArray) x3_2) = a0
        ·rw [if_pos c8] at H
         have c8b0 : ((bt (⟨#[32, 46, 44, 59, 58, 33, 63, 34, 45, 91, 93, 60, 62, 123, 125]⟩ : ByteArray) x3_2) == a0) = true := beq_iff_eq.mpr c8
         have c8b1 : ((bt (⟨#[32, 46, 44, 59, 58, 33, 63, 34, 45, 91, 93, 60, 62, 123, 125]⟩ : ByteArray) x3_2) != a0) = false := bne_eq_false_iff_eq.mpr c8
         clear c8
         obtain rfl := Option.some.inj H
         have p7 := oD (0 ≤ (x3_2 : Int))
         have q7 := oD (x3_2 < (15 : Int))
         have hx7 := bt_at (⟨#[32, 46, 44, 59, 58, 33, 63, 34, 45, 91, 93, 60, 62, 123, 125]⟩ : ByteArray) x3_2
         replace p7 := eq_true p7
         replace q7 := eq_true q7
         go_wp2
         go_ret
         exact ⟨eV, dR⟩
        ·rw [if_neg c8] at H
         have c8b0 : ((bt (⟨#[32, 46, 44, 59, 58, 33, 63, 34, 45, 91, 93, 60, 62, 123, 125]⟩ : ByteArray) x3_2) == a0) = false := beq_eq_false_iff_ne.mpr c8
         have c8b1 : ((bt (⟨#[32, 46, 44, 59, 58, 33, 63, 34, 45, 91, 93, 60, 62, 123, 125]⟩ : ByteArray) x3_2) != a0) = true := bne_iff_ne.mpr c8
         have H' := Aside0.mk H
         clear H
         have p7 := oD (0 ≤ (x3_2 : Int))
         have q7 := oD (x3_2 < (15 : Int))
         have hx7 := bt_at (⟨#[32, 46, 44, 59, 58, 33, 63, 34, 45, 91, 93, 60, 62, 123, 125]⟩ : ByteArray) x3_2
         replace p7 := eq_true p7
         replace q7 := eq_true q7
         go_wp2
         go_roundg k2
         case measure => have := HJ1.out; have := HK2.out; omega
         case rel => exact ⟨(wrap64 (x3_2 + 1)), eV, H', ⟨by have := HJ1.out; have := HK2.out; omega⟩, dR⟩
       ·rw [if_neg c6] at H
        exact absurd H (by simp)
      ·rw [if_neg c5] at H
       have c5b0 : decide (x3_2 < 15) = false := decide_eq_false c5
       clear c5
       obtain rfl := Option.some.inj H
       go_wp2
       go_ret
       exact ⟨eV, dR⟩

/-! ### ancepsref54_letter: function 58 -/
def ancepsref54_letter.f (k : Nat) (a0 : Int) : Option (Bool) := (ancepsref01_Letter.f k a0).bind fun t236 => (if t236 = true then (if a0 < 65 then (some true) else (some (decide (a0 > 90)))) else (some false))
theorem ancepsref54_letter.mono : ∀ a0 k, LeO (ancepsref54_letter.f k a0) (ancepsref54_letter.f (k + 1) a0) := by
 intro a0 k
 unfold ancepsref54_letter.f
 repeat' first
   | (with_reducible exact ancepsref01_Letter.mono _ _)
   | (with_reducible exact LeO.refl _)
   | (with_reducible exact LeO.none _)
   | (with_reducible refine LeO.ite ?_ ?_)
   | (with_reducible refine LeO.bind ?_ (fun _ => ?_))
   | exact ancepsref01_Letter.mono _ _
   | exact LeO.none _
   | refine LeO.ite ?_ ?_
   | refine LeO.bind ?_ (fun _ => ?_)
set_option maxHeartbeats 8000000 in
set_option maxRecDepth 100000 in
theorem ancepsref54_letter.calls (k : Nat) (a0 : Int) (r : Bool) (w : World) (h : ancepsref54_letter.f k a0 = some r) :
  Calls Try.prog 58 #[.int .u8 a0] w fun e w' => e = .returned (.bool r) ∧ Drawn0 w w' := by
 have H : ((ancepsref01_Letter.f k a0).bind fun t236 => (if t236 = true then (if a0 < 65 then (some true) else (some (decide (a0 > 90)))) else (some false))) = some r := h
 clear h
 replace H := Option.bind_eq_some_iff.mp H
 obtain ⟨t236, A20, H⟩ := H
 try dsimp only at H
 have A2 := Aside0.mk A20
 clear A20
 by_cases c3 : t236 = true
 ·subst c3
  have H1 : (if a0 < 65 then (some true) else (some (decide (a0 > 90)))) = some r := by rw [if_pos rfl] at H; exact H
  clear H
  have H := H1
  clear H1
  by_cases c4 : a0 < 65
  ·rw [if_pos c4] at H
   have c4b0 : decide (a0 < 65) = true := decide_eq_true c4
   clear c4
   obtain rfl := Option.some.inj H
   go_enter Try.func58, Try.ntmps58
   go_wp2_with (first | ((with_reducible refine gate_callee (f := 42) rfl ?_); refine gL_ (some 4) Try.func42 #[.int .u8 a0] ?_; (with_reducible refine (ancepsref01_Letter.calls k a0 true _ A2.out).mono ?_); rintro e w' ⟨rfl, ⟨nd, rfl⟩⟩; refine ⟨_, rfl, ?_⟩))
   go_ret
   exact ⟨eV, dR⟩
  ·rw [if_neg c4] at H
   have c4b0 : decide (a0 < 65) = false := decide_eq_false c4
   clear c4
   obtain rfl := Option.some.inj H
   go_enter Try.func58, Try.ntmps58
   go_wp2_with (first | ((with_reducible refine gate_callee (f := 42) rfl ?_); refine gL_ (some 4) Try.func42 #[.int .u8 a0] ?_; (with_reducible refine (ancepsref01_Letter.calls k a0 true _ A2.out).mono ?_); rintro e w' ⟨rfl, ⟨nd, rfl⟩⟩; refine ⟨_, rfl, ?_⟩))
   go_ret
   exact ⟨eV, dR⟩
 ·replace c3 := Bool.eq_false_iff.mpr c3
  subst c3
  have H1 : (some false) = some r := by rw [if_neg (show ¬ (false = true) by decide)] at H; exact H
  clear H
  have H := H1
  clear H1
  obtain rfl := Option.some.inj H
  go_enter Try.func58, Try.ntmps58
  go_wp2_with (first | ((with_reducible refine gate_callee (f := 42) rfl ?_); refine gL_ (some 4) Try.func42 #[.int .u8 a0] ?_; (with_reducible refine (ancepsref01_Letter.calls k a0 false _ A2.out).mono ?_); rintro e w' ⟨rfl, ⟨nd, rfl⟩⟩; refine ⟨_, rfl, ?_⟩))
  go_ret
  exact ⟨eV, dR⟩

/-! ### ancepsref54_Word: function 68 -/
def ancepsref54_Word.l0 : Nat → ByteArray → Int → Option (Int)
 | 0, _, _ => none
 | k + 1, x0, x3 => if x3 < (x0.size : Int) then (if 0 ≤ x3 then ((ancepsref54_letter.f k (bt x0 x3)).bind fun t237 => (if t237 = true then (ancepsref54_Word.l0 k x0 (wrap64 (x3 + 1))) else (some 2))) else (none)) else (some 0)
def ancepsref54_Word.f (k : Nat) (a0 : ByteArray) : Option (Int) := if a0.toList = ([] : List UInt8) then (some 7) else (if (a0.size : Int) > 16 then (some 3) else (ancepsref54_Word.l0 k a0 0))
theorem ancepsref54_Word.mono_l : ∀ k, (∀ y0 y1, LeO (ancepsref54_Word.l0 k y0 y1) (ancepsref54_Word.l0 (k + 1) y0 y1))
 | 0 => fun _ _ r h => by simp [ancepsref54_Word.l0] at h
 | k + 1 => by
  have ih0 := ancepsref54_Word.mono_l k
  ·intro y0 y1
   unfold ancepsref54_Word.l0
   repeat' first
   | (with_reducible exact ih0 _ _)
   | (with_reducible exact ancepsref54_letter.mono _ _)
   | (with_reducible exact LeO.refl _)
   | (with_reducible exact LeO.none _)
   | (with_reducible refine LeO.ite ?_ ?_)
   | (with_reducible refine LeO.bind ?_ (fun _ => ?_))
   | exact ih0 _ _
   | exact ancepsref54_letter.mono _ _
   | exact LeO.none _
   | refine LeO.ite ?_ ?_
   | refine LeO.bind ?_ (fun _ => ?_)
theorem ancepsref54_Word.mono : ∀ a0 k, LeO (ancepsref54_Word.f k a0) (ancepsref54_Word.f (k + 1) a0) := by
 intro a0 k
 have ih0 := ancepsref54_Word.mono_l k
 unfold ancepsref54_Word.f
 repeat' first
   | (with_reducible exact ih0 _ _)
   | (with_reducible exact ancepsref54_letter.mono _ _)
   | (with_reducible exact LeO.refl _)
   | (with_reducible exact LeO.none _)
   | (with_reducible refine LeO.ite ?_ ?_)
   | (with_reducible refine LeO.bind ?_ (fun _ => ?_))
   | exact ih0 _ _
   | exact ancepsref54_letter.mono _ _
   | exact LeO.none _
   | refine LeO.ite ?_ ?_
   | refine LeO.bind ?_ (fun _ => ?_)
set_option maxHeartbeats 8000000 in
set_option maxRecDepth 100000 in
theorem ancepsref54_Word.calls (k : Nat) (a0 : ByteArray) (r : Int) (w : World) (h : ancepsref54_Word.f k a0 = some r) :
  Calls Try.prog 68 #[.string a0] w fun e w' => e = .returned (.int .i64 r) ∧ Drawn0 w w' := by
 have H : (if a0.toList = ([] : List UInt8) then (some 7) else (if (a0.size : Int) > 16 then (some 3) else (ancepsref54_Word.l0 k a0 0))) = some r := h
 clear h
 by_cases c2 : a0.toList = ([] : List UInt8)
 ·rw [if_pos c2] at H
  have c2b0 : (a0.toList == ([] : List UInt8)) = true := beq_iff_eq.mpr c2
  have c2b1 : (a0.toList != ([] : List UInt8)) = false := bne_eq_false_iff_eq.mpr c2
  clear c2
  obtain rfl := Option.some.inj H
  go_enter Try.func68, Try.ntmps68
  go_wp2
  go_ret
  exact ⟨eV, dR⟩
 ·rw [if_neg c2] at H
  have c2b0 : (a0.toList == ([] : List UInt8)) = false := beq_eq_false_iff_ne.mpr c2
  have c2b1 : (a0.toList != ([] : List UInt8)) = true := bne_iff_ne.mpr c2
  by_cases c3 : (a0.size : Int) > 16
  ·rw [if_pos c3] at H
   have c3b0 : decide (16 < (a0.size : Int)) = true := decide_eq_true c3
   have c3b1 : decide (16 < a0.size) = true := decide_eq_true (by omega)
   clear c3
   obtain rfl := Option.some.inj H
   go_enter Try.func68, Try.ntmps68
   go_wp2
   go_ret
   exact ⟨eV, dR⟩
  ·rw [if_neg c3] at H
   have c3b0 : decide (16 < (a0.size : Int)) = false := decide_eq_false c3
   have c3b1 : decide (16 < a0.size) = false := decide_eq_false (by omega)
   clear c3
   have H' := Aside0.mk H
   clear H
   go_enter Try.func68, Try.ntmps68
   go_wp2
   go_loopg [3] k (fun kq v3 w' => ∃ (x3_1 : Int), v3 = .int .i64 x3_1 ∧ Aside0 (ancepsref54_Word.l0 kq a0 x3_1 = some r) ∧ Aside0 (kq ≤ k) ∧ Drawn0 w w')
   case atStart => exact ⟨(0), eV, H', ⟨Nat.le_refl _⟩, dR⟩
   case round =>
    clear H'
    (try clear c2); (try clear c2b0); (try clear c2b1); (try clear p2); (try clear c3); (try clear c3b0); (try clear c3b1)
    obtain ⟨x3_1, rfl, HA, HK1, ⟨m1, rfl⟩⟩ := hrel
    cases gk with
    | zero => exact absurd HA.out (by simp [ancepsref54_Word.l0])
    | succ k1 =>
     have H := HA.out
     clear HA
     simp only [ancepsref54_Word.l0] at H
     by_cases c4 : x3_1 < (a0.size : Int)
     ·rw [if_pos c4] at H
      have c4b0 : decide (x3_1 < (a0.size : Int)) = true := decide_eq_true c4
      clear c4
      by_cases c5 : 0 ≤ x3_1
      ·rw [if_pos c5] at H
       have c5b0 : decide (0 ≤ x3_1) = true := decide_eq_true c5
       clear c5
       replace H := Option.bind_eq_some_iff.mp H
       obtain ⟨t237, A70, H⟩ := H
       try dsimp only at H
       have A7 := Aside0.mk A70
       clear A70
       by_cases c8 : t237 = true
       ·subst c8
        have H1 : (ancepsref54_Word.l0 k1 a0 (wrap64 (x3_1 + 1))) = some r := by rw [if_pos rfl] at H; exact H
        clear H
        have H := H1
        clear H1
        have H' := Aside0.mk H
        clear H
        have p6 := oD (0 ≤ (x3_1 : Int))
        have q6 := oD (x3_1 < (a0.size : Int))
        have hx6 := bt_at a0 x3_1
        replace p6 := eq_true p6
        replace q6 := eq_true q6
        go_wp2_with (first | ((with_reducible refine gate_callee (f := 58) rfl ?_); refine gL_ (some 18) Try.func58 #[.int .u8 (bt a0 x3_1)] ?_; (with_reducible refine (ancepsref54_letter.calls k1 (bt a0 x3_1) true _ A7.out).mono ?_); rintro e w' ⟨rfl, ⟨nd, rfl⟩⟩; refine ⟨_, rfl, ?_⟩))
        go_roundg k1
        case measure => have := HK1.out; omega
        case rel => exact ⟨(wrap64 (x3_1 + 1)), eV, H', ⟨by have := HK1.out; omega⟩, dR⟩
       ·replace c8 := Bool.eq_false_iff.mpr c8
        subst c8
        have H1 : (some 2) = some r := by rw [if_neg (show ¬ (false = true) by decide)] at H; exact H
        clear H
        have H := H1
        clear H1
        obtain rfl := Option.some.inj H
        have p6 := oD (0 ≤ (x3_1 : Int))
        have q6 := oD (x3_1 < (a0.size : Int))
        have hx6 := bt_at a0 x3_1
        replace p6 := eq_true p6
        replace q6 := eq_true q6
        go_wp2_with (first | ((with_reducible refine gate_callee (f := 58) rfl ?_); refine gL_ (some 18) Try.func58 #[.int .u8 (bt a0 x3_1)] ?_; (with_reducible refine (ancepsref54_letter.calls k1 (bt a0 x3_1) false _ A7.out).mono ?_); rintro e w' ⟨rfl, ⟨nd, rfl⟩⟩; refine ⟨_, rfl, ?_⟩))
        go_ret
        exact ⟨eV, dR⟩
      ·rw [if_neg c5] at H
       exact absurd H (by simp)
     ·rw [if_neg c4] at H
      have c4b0 : decide (x3_1 < (a0.size : Int)) = false := decide_eq_false c4
      clear c4
      obtain rfl := Option.some.inj H
      go_wp2
      go_ret
      exact ⟨eV, dR⟩

/-! ### ancepsref54_check: function 51 -/
def ancepsref54_check.l0 : Nat → Int → List ByteArray → Option (Int × Int)
 | 0, _, _ => none
 | k + 1, x4, x239000 => if x4 < (x239000.length : Int) then (if 0 ≤ x4 then ((ancepsref54_Word.f k (rdOf ByteArray.empty x239000 x4)).bind fun t240 => (if t240 = 0 then (if x4 > 0 then (if 0 ≤ (wrap64 (x4 - 1)) then (if (wrap64 (x4 - 1)) < (x239000.length : Int) then (if ((Op.bytesLess ((rdOf ByteArray.empty x239000 (wrap64 (x4 - 1))).toList) ((rdOf ByteArray.empty x239000 x4).toList)) = true) then (ancepsref54_check.l0 k (wrap64 (x4 + 1)) x239000) else (some (x4, 18))) else (none)) else (none)) else (ancepsref54_check.l0 k (wrap64 (x4 + 1)) x239000)) else (some (x4, t240)))) else (none)) else (some ((-1), 0))
def ancepsref54_check.f (k : Nat) (l0_0 : List ByteArray) : Option (Int × Int) := if (l0_0.length : Int) > 400 then (some ((-1), 3)) else (ancepsref54_check.l0 k 0 l0_0)
theorem ancepsref54_check.mono_l : ∀ k, (∀ y0 y1, LeO (ancepsref54_check.l0 k y0 y1) (ancepsref54_check.l0 (k + 1) y0 y1))
 | 0 => fun _ _ r h => by simp [ancepsref54_check.l0] at h
 | k + 1 => by
  have ih0 := ancepsref54_check.mono_l k
  ·intro y0 y1
   unfold ancepsref54_check.l0
   repeat' first
   | (with_reducible exact ih0 _ _)
   | (with_reducible exact ancepsref54_Word.mono _ _)
   | (with_reducible exact LeO.refl _)
   | (with_reducible exact LeO.none _)
   | (with_reducible refine LeO.ite ?_ ?_)
   | (with_reducible refine LeO.bind ?_ (fun _ => ?_))
   | exact ih0 _ _
   | exact ancepsref54_Word.mono _ _
   | exact LeO.none _
   | refine LeO.ite ?_ ?_
   | refine LeO.bind ?_ (fun _ => ?_)
theorem ancepsref54_check.mono : ∀ a0 k, LeO (ancepsref54_check.f k a0) (ancepsref54_check.f (k + 1) a0) := by
 intro a0 k
 have ih0 := ancepsref54_check.mono_l k
 unfold ancepsref54_check.f
 repeat' first
   | (with_reducible exact ih0 _ _)
   | (with_reducible exact ancepsref54_Word.mono _ _)
   | (with_reducible exact LeO.refl _)
   | (with_reducible exact LeO.none _)
   | (with_reducible refine LeO.ite ?_ ?_)
   | (with_reducible refine LeO.bind ?_ (fun _ => ?_))
   | exact ih0 _ _
   | exact ancepsref54_Word.mono _ _
   | exact LeO.none _
   | refine LeO.ite ?_ ?_
   | refine LeO.bind ?_ (fun _ => ?_)
set_option maxHeartbeats 8000000 in
set_option maxRecDepth 100000 in
theorem ancepsref54_check.calls (k : Nat) (A0_0 : Option Addr) (c0_0 : Nat) (l0_0 : List ByteArray) (r1 : Int) (r2 : Int) (w : World) (hr0_0 : Kd.C Kd.string w A0_0 l0_0.length l0_0) (hc0_0 : l0_0.length ≤ c0_0) (h : ancepsref54_check.f k l0_0 = some (r1, r2)) :
  Calls Try.prog 51 #[.agg #[.slice A0_0 l0_0.length c0_0]] w fun e w' => e = .returned (.tuple #[.int .i64 r1, .int .i64 r2]) ∧ Below w.heap.size w w' := by
 have hu26 := Try.underlying26
 have HR0_0 := Aside0.mk hr0_0
 have HC0_0 := Aside0.mk hc0_0
 clear hr0_0 hc0_0
 have HB := Aside0.mk (Below.refl w.heap.size w)
 have H : (if (l0_0.length : Int) > 400 then (some ((-1), 3)) else (ancepsref54_check.l0 k 0 l0_0)) = some (r1, r2) := h
 clear h
 by_cases c2 : (l0_0.length : Int) > 400
 ·rw [if_pos c2] at H
  have c2b0 : decide (400 < (l0_0.length : Int)) = true := decide_eq_true c2
  have c2b1 : decide (400 < l0_0.length) = true := decide_eq_true (by omega)
  clear c2
  simp only [Option.some.injEq, Prod.mk.injEq] at H
  obtain ⟨rfl, rfl⟩ := H
  go_enter Try.func51, Try.ntmps51
  go_wp2_with (first | ((with_reducible refine gate_dst (N := 1) rfl ?_); refine bX 1 #[.slice A0_0 l0_0.length c0_0] 26 ?_; intro gb238 hg w3 hbox hb; have n0_ := jL HB hb; have n1_ := Aside0.mk (hbox); have n2_ := Aside0.mk ((by rw [hg]; exact (below_size (iL HB)) : w.heap.size ≤ gb238)); have n3_ := Aside0.mk ((by rw [hg]; exact (below_size (iL HB)) : w.heap.size ≤ gb238)); clear HB; have HB := n0_; have BK238 := n1_; have GW238 := n2_; have GE238 := n3_; clear n0_ n1_ n2_ n3_; clear hb hbox hg; have hcz4_0 := cZ BK238 0 (.slice A0_0 l0_0.length c0_0); have hfz4_0 := blk_frozen BK238.out 0))
  repeat (go_quiet (first | ((with_reducible refine gate_dst (N := 1) rfl ?_); refine bX 1 #[.slice A0_0 l0_0.length c0_0] 26 ?_; intro gb238 hg w3 hbox hb; have n0_ := jL HB hb; have n1_ := Aside0.mk (hbox); have n2_ := Aside0.mk ((by rw [hg]; exact (below_size (iL HB)) : w.heap.size ≤ gb238)); have n3_ := Aside0.mk ((by rw [hg]; exact (below_size (iL HB)) : w.heap.size ≤ gb238)); clear HB; have HB := n0_; have BK238 := n1_; have GW238 := n2_; have GE238 := n3_; clear n0_ n1_ n2_ n3_; clear hb hbox hg; have hcz4_0 := cZ BK238 0 (.slice A0_0 l0_0.length c0_0); have hfz4_0 := blk_frozen BK238.out 0)); try go_wp2_with (first | ((with_reducible refine gate_dst (N := 1) rfl ?_); refine bX 1 #[.slice A0_0 l0_0.length c0_0] 26 ?_; intro gb238 hg w3 hbox hb; have n0_ := jL HB hb; have n1_ := Aside0.mk (hbox); have n2_ := Aside0.mk ((by rw [hg]; exact (below_size (iL HB)) : w.heap.size ≤ gb238)); have n3_ := Aside0.mk ((by rw [hg]; exact (below_size (iL HB)) : w.heap.size ≤ gb238)); clear HB; have HB := n0_; have BK238 := n1_; have GW238 := n2_; have GE238 := n3_; clear n0_ n1_ n2_ n3_; clear hb hbox hg; have hcz4_0 := cZ BK238 0 (.slice A0_0 l0_0.length c0_0); have hfz4_0 := blk_frozen BK238.out 0)))
  go_ret2
  exact ⟨eV, iL HB⟩
 ·rw [if_neg c2] at H
  have c2b0 : decide (400 < (l0_0.length : Int)) = false := decide_eq_false c2
  have c2b1 : decide (400 < l0_0.length) = false := decide_eq_false (by omega)
  clear c2
  have H' := Aside0.mk H
  clear H
  go_enter Try.func51, Try.ntmps51
  go_wp2_with (first | ((with_reducible refine gate_dst (N := 1) rfl ?_); refine bX 1 #[.slice A0_0 l0_0.length c0_0] 26 ?_; intro gb238 hg w5 hbox hb; have n0_ := jL HB hb; have n1_ := Aside0.mk (hbox); have n2_ := Aside0.mk ((by rw [hg]; exact (below_size (iL HB)) : w.heap.size ≤ gb238)); have n3_ := Aside0.mk ((by rw [hg]; exact (below_size (iL HB)) : w.heap.size ≤ gb238)); clear HB; have HB := n0_; have BK238 := n1_; have GW238 := n2_; have GE238 := n3_; clear n0_ n1_ n2_ n3_; clear hb hbox hg; have hcz6_0 := cZ BK238 0 (.slice A0_0 l0_0.length c0_0); have hfz6_0 := blk_frozen BK238.out 0))
  repeat (go_quiet (first | ((with_reducible refine gate_dst (N := 1) rfl ?_); refine bX 1 #[.slice A0_0 l0_0.length c0_0] 26 ?_; intro gb238 hg w5 hbox hb; have n0_ := jL HB hb; have n1_ := Aside0.mk (hbox); have n2_ := Aside0.mk ((by rw [hg]; exact (below_size (iL HB)) : w.heap.size ≤ gb238)); have n3_ := Aside0.mk ((by rw [hg]; exact (below_size (iL HB)) : w.heap.size ≤ gb238)); clear HB; have HB := n0_; have BK238 := n1_; have GW238 := n2_; have GE238 := n3_; clear n0_ n1_ n2_ n3_; clear hb hbox hg; have hcz6_0 := cZ BK238 0 (.slice A0_0 l0_0.length c0_0); have hfz6_0 := blk_frozen BK238.out 0)); try go_wp2_with (first | ((with_reducible refine gate_dst (N := 1) rfl ?_); refine bX 1 #[.slice A0_0 l0_0.length c0_0] 26 ?_; intro gb238 hg w5 hbox hb; have n0_ := jL HB hb; have n1_ := Aside0.mk (hbox); have n2_ := Aside0.mk ((by rw [hg]; exact (below_size (iL HB)) : w.heap.size ≤ gb238)); have n3_ := Aside0.mk ((by rw [hg]; exact (below_size (iL HB)) : w.heap.size ≤ gb238)); clear HB; have HB := n0_; have BK238 := n1_; have GW238 := n2_; have GE238 := n3_; clear n0_ n1_ n2_ n3_; clear hb hbox hg; have hcz6_0 := cZ BK238 0 (.slice A0_0 l0_0.length c0_0); have hfz6_0 := blk_frozen BK238.out 0)))
  go_loopg [4] k (fun kq v4 w' => ∃ (x4_1 : Int), v4 = .int .i64 x4_1 ∧ Aside0 (ancepsref54_check.l0 kq x4_1 l0_0 = some (r1, r2)) ∧ Aside0 (kq ≤ k) ∧ Aside0 (w'.heap[gb238]? = some (.cells #[(.slice A0_0 l0_0.length c0_0)] 26 (0, 0))) ∧ Aside0 (Below w.heap.size w w'))
  case atStart => exact ⟨(0), eV, H', ⟨Nat.le_refl _⟩, ⟨iB BK238⟩, ⟨iL HB⟩⟩
  case round =>
   clear H'
   (try clear c2); (try clear c2b0); (try clear c2b1); (try clear p2); (try clear c5); (try clear hcz4_0); (try clear hcz6_0); (try clear hfz4_0); (try clear hfz6_0)
   obtain ⟨x4_1, rfl, HA, HK1, BK238, HB⟩ := hrel
   cases gk with
   | zero => exact absurd HA.out (by simp [ancepsref54_check.l0])
   | succ k1 =>
    have H := HA.out
    clear HA
    simp only [ancepsref54_check.l0] at H
    by_cases c7 : x4_1 < (l0_0.length : Int)
    ·rw [if_pos c7] at H
     have c7b0 : decide (x4_1 < (l0_0.length : Int)) = true := decide_eq_true c7
     clear c7
     by_cases c8 : 0 ≤ x4_1
     ·rw [if_pos c8] at H
      have c8b0 : decide (0 ≤ x4_1) = true := decide_eq_true c8
      clear c8
      replace H := Option.bind_eq_some_iff.mp H
      obtain ⟨t240, A90, H⟩ := H
      try dsimp only at H
      have A9 := Aside0.mk A90
      clear A90
      by_cases c10 : t240 = 0
      ·rw [if_pos c10] at H
       have c10b0 : (t240 == 0) = true := beq_iff_eq.mpr c10
       have c10b1 : (t240 != 0) = false := bne_eq_false_iff_eq.mpr c10
       clear c10
       by_cases c11 : x4_1 > 0
       ·rw [if_pos c11] at H
        have c11b0 : decide (0 < x4_1) = true := decide_eq_true c11
        clear c11
        obtain ⟨ji12, hji12⟩ : ∃ j_ : Int, (wrap64 (x4_1 - 1)) = j_ := ⟨_, rfl⟩
        replace H : (if 0 ≤ (ji12) then (if (ji12) < (l0_0.length : Int) then (if ((Op.bytesLess ((rdOf ByteArray.empty l0_0 (ji12)).toList) ((rdOf ByteArray.empty l0_0 x4_1).toList)) = true) then (ancepsref54_check.l0 k1 (wrap64 (x4_1 + 1)) l0_0) else (some (x4_1, 18))) else (none)) else (none)) = some (r1, r2) := by first | (rw [hji12] at H; exact H) | (simp only [hji12] at H ⊢; exact H)
        (try rw [hji12] at A9)
        have hji12w : (IntKind.i64.wrap (x4_1 - 1)) = ji12 := (i64_w _).trans hji12
        by_cases c13 : 0 ≤ (ji12)
        ·rw [if_pos c13] at H
         have c13b0 : decide (0 ≤ (ji12)) = true := decide_eq_true c13
         clear c13
         by_cases c14 : (ji12) < (l0_0.length : Int)
         ·rw [if_pos c14] at H
          have c14b0 : decide ((ji12) < (l0_0.length : Int)) = true := decide_eq_true c14
          clear c14
          by_cases c15 : ((Op.bytesLess ((rdOf ByteArray.empty l0_0 (ji12)).toList) ((rdOf ByteArray.empty l0_0 x4_1).toList)) = true)
          ·rw [if_pos c15] at H
           have c15b0 : (Op.bytesLess ((rdOf ByteArray.empty l0_0 (ji12)).toList) ((rdOf ByteArray.empty l0_0 x4_1).toList)) = true := c15
           clear c15
           have H' := Aside0.mk H
           clear H
           have hcz16_0 := cZ BK238 0 (.slice A0_0 l0_0.length c0_0)
           have hfz16_0 := blk_frozen BK238.out 0
           have p239 := oD (0 ≤ (x4_1 : Int))
           have q239 := oD (x4_1 < (l0_0.length : Int))
           obtain ⟨ad239, e239, hx239_0⟩ := Kd.at_string HR0_0.out x4_1 p239 q239
           cases e239
           replace hx239_0 := (HB.out.cell (World.block_lt_of_cell? w _ hx239_0)).trans hx239_0
           replace p239 := eq_true p239
           replace q239 := eq_true q239
           go_wp2_with (first | (go_at_call 68; (with_reducible refine (ancepsref54_Word.calls k1 (rdOf ByteArray.empty l0_0 x4_1) t240 _ A9.out).mono ?_); rintro e w' ⟨rfl, ⟨nd, rfl⟩⟩; (try first | exact ⟨rfl, _, World.drewN_drewN _ _ _⟩ | exact ⟨rfl, _, Eq.trans (World.drewN_drewN _ _ _) (congrArg (World.drewN _) (Nat.add_assoc _ _ _))⟩); have p241 := oD (0 ≤ (x4_1 : Int)); have q241 := oD (x4_1 < (l0_0.length : Int)); obtain ⟨ad241, e241, hx241_0⟩ := Kd.at_string HR0_0.out x4_1 p241 q241; obtain rfl : ad239 = ad241 := (by injection e241); replace hx241_0 := (HB.out.cell (World.block_lt_of_cell? w _ hx241_0)).trans hx241_0; replace p241 := eq_true p241; replace q241 := eq_true q241; have p242 := oD (0 ≤ ((ji12) : Int)); have q242 := oD ((ji12) < (l0_0.length : Int)); obtain ⟨ad242, e242, hx242_0⟩ := Kd.at_string HR0_0.out (ji12) p242 q242; obtain rfl : ad239 = ad242 := (by injection e242); replace hx242_0 := (HB.out.cell (World.block_lt_of_cell? w _ hx242_0)).trans hx242_0; replace p242 := eq_true p242; replace q242 := eq_true q242))
           repeat (go_quiet (first | (go_at_call 68; (with_reducible refine (ancepsref54_Word.calls k1 (rdOf ByteArray.empty l0_0 x4_1) t240 _ A9.out).mono ?_); (try clear A9); rintro e w' ⟨rfl, ⟨nd, rfl⟩⟩; (try first | exact ⟨rfl, _, World.drewN_drewN _ _ _⟩ | exact ⟨rfl, _, Eq.trans (World.drewN_drewN _ _ _) (congrArg (World.drewN _) (Nat.add_assoc _ _ _))⟩); have p241 := oD (0 ≤ (x4_1 : Int)); have q241 := oD (x4_1 < (l0_0.length : Int)); obtain ⟨ad241, e241, hx241_0⟩ := Kd.at_string HR0_0.out x4_1 p241 q241; obtain rfl : ad239 = ad241 := (by injection e241); replace hx241_0 := (HB.out.cell (World.block_lt_of_cell? w _ hx241_0)).trans hx241_0; replace p241 := eq_true p241; replace q241 := eq_true q241; have p242 := oD (0 ≤ ((ji12) : Int)); have q242 := oD ((ji12) < (l0_0.length : Int)); obtain ⟨ad242, e242, hx242_0⟩ := Kd.at_string HR0_0.out (ji12) p242 q242; obtain rfl : ad239 = ad242 := (by injection e242); replace hx242_0 := (HB.out.cell (World.block_lt_of_cell? w _ hx242_0)).trans hx242_0; replace p242 := eq_true p242; replace q242 := eq_true q242)); try go_wp2_with (first | (go_at_call 68; (with_reducible refine (ancepsref54_Word.calls k1 (rdOf ByteArray.empty l0_0 x4_1) t240 _ A9.out).mono ?_); (try clear A9); rintro e w' ⟨rfl, ⟨nd, rfl⟩⟩; (try first | exact ⟨rfl, _, World.drewN_drewN _ _ _⟩ | exact ⟨rfl, _, Eq.trans (World.drewN_drewN _ _ _) (congrArg (World.drewN _) (Nat.add_assoc _ _ _))⟩); have p241 := oD (0 ≤ (x4_1 : Int)); have q241 := oD (x4_1 < (l0_0.length : Int)); obtain ⟨ad241, e241, hx241_0⟩ := Kd.at_string HR0_0.out x4_1 p241 q241; obtain rfl : ad239 = ad241 := (by injection e241); replace hx241_0 := (HB.out.cell (World.block_lt_of_cell? w _ hx241_0)).trans hx241_0; replace p241 := eq_true p241; replace q241 := eq_true q241; have p242 := oD (0 ≤ ((ji12) : Int)); have q242 := oD ((ji12) < (l0_0.length : Int)); obtain ⟨ad242, e242, hx242_0⟩ := Kd.at_string HR0_0.out (ji12) p242 q242; obtain rfl : ad239 = ad242 := (by injection e242); replace hx242_0 := (HB.out.cell (World.block_lt_of_cell? w _ hx242_0)).trans hx242_0; replace p242 := eq_true p242; replace q242 := eq_true q242)))
           go_roundg k1
           case measure => have := HK1.out; omega
           case rel => exact ⟨(wrap64 (x4_1 + 1)), eV, H', ⟨by have := HK1.out; omega⟩, ⟨iB BK238⟩, ⟨iL HB⟩⟩
          ·rw [if_neg c15] at H
           have c15b0 : (Op.bytesLess ((rdOf ByteArray.empty l0_0 (ji12)).toList) ((rdOf ByteArray.empty l0_0 x4_1).toList)) = false := by simpa using c15
           clear c15
           simp only [Option.some.injEq, Prod.mk.injEq] at H
           obtain ⟨rfl, rfl⟩ := H
           have hcz17_0 := cZ BK238 0 (.slice A0_0 l0_0.length c0_0)
           have hfz17_0 := blk_frozen BK238.out 0
           have p239 := oD (0 ≤ (x4_1 : Int))
           have q239 := oD (x4_1 < (l0_0.length : Int))
           obtain ⟨ad239, e239, hx239_0⟩ := Kd.at_string HR0_0.out x4_1 p239 q239
           cases e239
           replace hx239_0 := (HB.out.cell (World.block_lt_of_cell? w _ hx239_0)).trans hx239_0
           replace p239 := eq_true p239
           replace q239 := eq_true q239
           go_wp2_with (first | (go_at_call 68; (with_reducible refine (ancepsref54_Word.calls k1 (rdOf ByteArray.empty l0_0 x4_1) t240 _ A9.out).mono ?_); rintro e w' ⟨rfl, ⟨nd, rfl⟩⟩; (try first | exact ⟨rfl, _, World.drewN_drewN _ _ _⟩ | exact ⟨rfl, _, Eq.trans (World.drewN_drewN _ _ _) (congrArg (World.drewN _) (Nat.add_assoc _ _ _))⟩); have p241 := oD (0 ≤ (x4_1 : Int)); have q241 := oD (x4_1 < (l0_0.length : Int)); obtain ⟨ad241, e241, hx241_0⟩ := Kd.at_string HR0_0.out x4_1 p241 q241; obtain rfl : ad239 = ad241 := (by injection e241); replace hx241_0 := (HB.out.cell (World.block_lt_of_cell? w _ hx241_0)).trans hx241_0; replace p241 := eq_true p241; replace q241 := eq_true q241; have p242 := oD (0 ≤ ((ji12) : Int)); have q242 := oD ((ji12) < (l0_0.length : Int)); obtain ⟨ad242, e242, hx242_0⟩ := Kd.at_string HR0_0.out (ji12) p242 q242; obtain rfl : ad239 = ad242 := (by injection e242); replace hx242_0 := (HB.out.cell (World.block_lt_of_cell? w _ hx242_0)).trans hx242_0; replace p242 := eq_true p242; replace q242 := eq_true q242))
           repeat (go_quiet (first | (go_at_call 68; (with_reducible refine (ancepsref54_Word.calls k1 (rdOf ByteArray.empty l0_0 x4_1) t240 _ A9.out).mono ?_); (try clear A9); rintro e w' ⟨rfl, ⟨nd, rfl⟩⟩; (try first | exact ⟨rfl, _, World.drewN_drewN _ _ _⟩ | exact ⟨rfl, _, Eq.trans (World.drewN_drewN _ _ _) (congrArg (World.drewN _) (Nat.add_assoc _ _ _))⟩); have p241 := oD (0 ≤ (x4_1 : Int)); have q241 := oD (x4_1 < (l0_0.length : Int)); obtain ⟨ad241, e241, hx241_0⟩ := Kd.at_string HR0_0.out x4_1 p241 q241; obtain rfl : ad239 = ad241 := (by injection e241); replace hx241_0 := (HB.out.cell (World.block_lt_of_cell? w _ hx241_0)).trans hx241_0; replace p241 := eq_true p241; replace q241 := eq_true q241; have p242 := oD (0 ≤ ((ji12) : Int)); have q242 := oD ((ji12) < (l0_0.length : Int)); obtain ⟨ad242, e242, hx242_0⟩ := Kd.at_string HR0_0.out (ji12) p242 q242; obtain rfl : ad239 = ad242 := (by injection e242); replace hx242_0 := (HB.out.cell (World.block_lt_of_cell? w _ hx242_0)).trans hx242_0; replace p242 := eq_true p242; replace q242 := eq_true q242)); try go_wp2_with (first | (go_at_call 68; (with_reducible refine (ancepsref54_Word.calls k1 (rdOf ByteArray.empty l0_0 x4_1) t240 _ A9.out).mono ?_); (try clear A9); rintro e w' ⟨rfl, ⟨nd, rfl⟩⟩; (try first | exact ⟨rfl, _, World.drewN_drewN _ _ _⟩ | exact ⟨rfl, _, Eq.trans (World.drewN_drewN _ _ _) (congrArg (World.drewN _) (Nat.add_assoc _ _ _))⟩); have p241 := oD (0 ≤ (x4_1 : Int)); have q241 := oD (x4_1 < (l0_0.length : Int)); obtain ⟨ad241, e241, hx241_0⟩ := Kd.at_string HR0_0.out x4_1 p241 q241; obtain rfl : ad239 = ad241 := (by injection e241); replace hx241_0 := (HB.out.cell (World.block_lt_of_cell? w _ hx241_0)).trans hx241_0; replace p241 := eq_true p241; replace q241 := eq_true q241; have p242 := oD (0 ≤ ((ji12) : Int)); have q242 := oD ((ji12) < (l0_0.length : Int)); obtain ⟨ad242, e242, hx242_0⟩ := Kd.at_string HR0_0.out (ji12) p242 q242; obtain rfl : ad239 = ad242 := (by injection e242); replace hx242_0 := (HB.out.cell (World.block_lt_of_cell? w _ hx242_0)).trans hx242_0; replace p242 := eq_true p242; replace q242 := eq_true q242)))
           go_ret2
           exact ⟨by first | rfl | (simp [errW_none, errW_some] <;> rfl) | (simp only [← hji12]; first | rfl | (simp [errW_none, errW_some] <;> rfl)) | (simp [*, errW_none, errW_some] <;> rfl), iL HB⟩
         ·rw [if_neg c14] at H
          exact absurd H (by simp)
        ·rw [if_neg c13] at H
         exact absurd H (by simp)
       ·rw [if_neg c11] at H
        have c11b0 : decide (0 < x4_1) = false := decide_eq_false c11
        clear c11
        have H' := Aside0.mk H
        clear H
        have hcz18_0 := cZ BK238 0 (.slice A0_0 l0_0.length c0_0)
        have hfz18_0 := blk_frozen BK238.out 0
        have p239 := oD (0 ≤ (x4_1 : Int))
        have q239 := oD (x4_1 < (l0_0.length : Int))
        obtain ⟨ad239, e239, hx239_0⟩ := Kd.at_string HR0_0.out x4_1 p239 q239
        cases e239
        replace hx239_0 := (HB.out.cell (World.block_lt_of_cell? w _ hx239_0)).trans hx239_0
        replace p239 := eq_true p239
        replace q239 := eq_true q239
        go_wp2_with (first | (go_at_call 68; (with_reducible refine (ancepsref54_Word.calls k1 (rdOf ByteArray.empty l0_0 x4_1) t240 _ A9.out).mono ?_); rintro e w' ⟨rfl, ⟨nd, rfl⟩⟩; (try first | exact ⟨rfl, _, World.drewN_drewN _ _ _⟩ | exact ⟨rfl, _, Eq.trans (World.drewN_drewN _ _ _) (congrArg (World.drewN _) (Nat.add_assoc _ _ _))⟩)))
        repeat (go_quiet (first | (go_at_call 68; (with_reducible refine (ancepsref54_Word.calls k1 (rdOf ByteArray.empty l0_0 x4_1) t240 _ A9.out).mono ?_); (try clear A9); rintro e w' ⟨rfl, ⟨nd, rfl⟩⟩; (try first | exact ⟨rfl, _, World.drewN_drewN _ _ _⟩ | exact ⟨rfl, _, Eq.trans (World.drewN_drewN _ _ _) (congrArg (World.drewN _) (Nat.add_assoc _ _ _))⟩))); try go_wp2_with (first | (go_at_call 68; (with_reducible refine (ancepsref54_Word.calls k1 (rdOf ByteArray.empty l0_0 x4_1) t240 _ A9.out).mono ?_); (try clear A9); rintro e w' ⟨rfl, ⟨nd, rfl⟩⟩; (try first | exact ⟨rfl, _, World.drewN_drewN _ _ _⟩ | exact ⟨rfl, _, Eq.trans (World.drewN_drewN _ _ _) (congrArg (World.drewN _) (Nat.add_assoc _ _ _))⟩))))
        go_roundg k1
        case measure => have := HK1.out; omega
        case rel => exact ⟨(wrap64 (x4_1 + 1)), eV, H', ⟨by have := HK1.out; omega⟩, ⟨iB BK238⟩, ⟨iL HB⟩⟩
      ·rw [if_neg c10] at H
       have c10b0 : (t240 == 0) = false := beq_eq_false_iff_ne.mpr c10
       have c10b1 : (t240 != 0) = true := bne_iff_ne.mpr c10
       simp only [Option.some.injEq, Prod.mk.injEq] at H
       obtain ⟨rfl, rfl⟩ := H
       have hcz19_0 := cZ BK238 0 (.slice A0_0 l0_0.length c0_0)
       have hfz19_0 := blk_frozen BK238.out 0
       have p239 := oD (0 ≤ (x4_1 : Int))
       have q239 := oD (x4_1 < (l0_0.length : Int))
       obtain ⟨ad239, e239, hx239_0⟩ := Kd.at_string HR0_0.out x4_1 p239 q239
       cases e239
       replace hx239_0 := (HB.out.cell (World.block_lt_of_cell? w _ hx239_0)).trans hx239_0
       replace p239 := eq_true p239
       replace q239 := eq_true q239
       go_wp2_with (first | (go_at_call 68; (with_reducible refine (ancepsref54_Word.calls k1 (rdOf ByteArray.empty l0_0 x4_1) t240 _ A9.out).mono ?_); rintro e w' ⟨rfl, ⟨nd, rfl⟩⟩; (try first | exact ⟨rfl, _, World.drewN_drewN _ _ _⟩ | exact ⟨rfl, _, Eq.trans (World.drewN_drewN _ _ _) (congrArg (World.drewN _) (Nat.add_assoc _ _ _))⟩)))
       repeat (go_quiet (first | (go_at_call 68; (with_reducible refine (ancepsref54_Word.calls k1 (rdOf ByteArray.empty l0_0 x4_1) t240 _ A9.out).mono ?_); (try clear A9); rintro e w' ⟨rfl, ⟨nd, rfl⟩⟩; (try first | exact ⟨rfl, _, World.drewN_drewN _ _ _⟩ | exact ⟨rfl, _, Eq.trans (World.drewN_drewN _ _ _) (congrArg (World.drewN _) (Nat.add_assoc _ _ _))⟩))); try go_wp2_with (first | (go_at_call 68; (with_reducible refine (ancepsref54_Word.calls k1 (rdOf ByteArray.empty l0_0 x4_1) t240 _ A9.out).mono ?_); (try clear A9); rintro e w' ⟨rfl, ⟨nd, rfl⟩⟩; (try first | exact ⟨rfl, _, World.drewN_drewN _ _ _⟩ | exact ⟨rfl, _, Eq.trans (World.drewN_drewN _ _ _) (congrArg (World.drewN _) (Nat.add_assoc _ _ _))⟩))))
       go_ret2
       exact ⟨eV, iL HB⟩
     ·rw [if_neg c8] at H
      exact absurd H (by simp)
    ·rw [if_neg c7] at H
     have c7b0 : decide (x4_1 < (l0_0.length : Int)) = false := decide_eq_false c7
     clear c7
     simp only [Option.some.injEq, Prod.mk.injEq] at H
     obtain ⟨rfl, rfl⟩ := H
     have hcz20_0 := cZ BK238 0 (.slice A0_0 l0_0.length c0_0)
     have hfz20_0 := blk_frozen BK238.out 0
     go_wp2
     repeat (go_quiet (fail); try go_wp2)
     go_ret2
     exact ⟨eV, iL HB⟩

/-! ### ancepsref54_Valid: function 27 -/
def ancepsref54_Valid.f (k : Nat) (l0_0 : List ByteArray) : Option (Int) := (ancepsref54_check.f k l0_0).bind fun bt244 => (some bt244.2)
theorem ancepsref54_Valid.mono : ∀ a0 k, LeO (ancepsref54_Valid.f k a0) (ancepsref54_Valid.f (k + 1) a0) := by
 intro a0 k
 unfold ancepsref54_Valid.f
 repeat' first
   | (with_reducible exact ancepsref54_check.mono _ _)
   | (with_reducible exact LeO.refl _)
   | (with_reducible exact LeO.none _)
   | (with_reducible refine LeO.ite ?_ ?_)
   | (with_reducible refine LeO.bind ?_ (fun _ => ?_))
   | exact ancepsref54_check.mono _ _
   | exact LeO.none _
   | refine LeO.ite ?_ ?_
   | refine LeO.bind ?_ (fun _ => ?_)
set_option maxHeartbeats 8000000 in
set_option maxRecDepth 100000 in
theorem ancepsref54_Valid.calls (k : Nat) (A0_0 : Option Addr) (c0_0 : Nat) (l0_0 : List ByteArray) (r : Int) (w : World) (hr0_0 : Kd.C Kd.string w A0_0 l0_0.length l0_0) (hc0_0 : l0_0.length ≤ c0_0) (h : ancepsref54_Valid.f k l0_0 = some r) :
  Calls Try.prog 27 #[.agg #[.slice A0_0 l0_0.length c0_0]] w fun e w' => e = .returned (.int .i64 r) ∧ Below w.heap.size w w' := by
 have hu26 := Try.underlying26
 have HR0_0 := Aside0.mk hr0_0
 have HC0_0 := Aside0.mk hc0_0
 clear hr0_0 hc0_0
 have HB := Aside0.mk (Below.refl w.heap.size w)
 have H : ((ancepsref54_check.f k l0_0).bind fun bt244 => (some bt244.2)) = some r := h
 clear h
 replace H := Option.bind_eq_some_iff.mp H
 obtain ⟨⟨t244, t245⟩, A20, H⟩ := H
 replace H : (some t245) = some r := H
 have A2 := Aside0.mk A20
 clear A20
 obtain rfl := Option.some.inj H
 go_enter Try.func27, Try.ntmps27
 go_wp2_with (first | ((with_reducible refine gate_dst (N := 1) rfl ?_); refine bX 1 #[.slice A0_0 l0_0.length c0_0] 26 ?_; intro gb243 hg w3 hbox hb; have n0_ := jL HB hb; have n1_ := Aside0.mk (hbox); have n2_ := Aside0.mk ((by rw [hg]; exact (below_size (iL HB)) : w.heap.size ≤ gb243)); have n3_ := Aside0.mk ((by rw [hg]; exact (below_size (iL HB)) : w.heap.size ≤ gb243)); clear HB; have HB := n0_; have BK243 := n1_; have GW243 := n2_; have GE243 := n3_; clear n0_ n1_ n2_ n3_; clear hb hbox hg; have hcz4_0 := cZ BK243 0 (.slice A0_0 l0_0.length c0_0); have hfz4_0 := blk_frozen BK243.out 0) | ((with_reducible refine gate_callee (f := 51) rfl ?_); refine gL_ (some 7) Try.func51 #[.agg #[.slice A0_0 l0_0.length c0_0]] ?_; (with_reducible refine (ancepsref54_check.calls k _ _ l0_0 t244 t245 _ ?side1 ?side2 A2.out).mono ?_); (case side1 => exact iC HR0_0 HB); (case side2 => exact HC0_0.out); rintro e w5 ⟨rfl, hb⟩; refine ⟨_, rfl, ?_⟩; have n0_ := jB BK243 hb; have n1_ := jL HB hb; clear BK243; clear HB; have BK243 := n0_; have HB := n1_; clear n0_ n1_; (try clear hb)))
 go_ret
 exact ⟨eV, iL HB⟩

/-! ### ancepsref54_Strings: function 43 -/
def ancepsref54_Strings.l0 : Nat → List ByteArray → List ByteArray → Int → Option (Bool)
 | 0, _, _, _ => none
 | k + 1, x0, x1, x5 => if x5 < (x0.length : Int) then (if 0 ≤ x5 then (if x5 < (x1.length : Int) then (if (rdOf ByteArray.empty x0 x5).toList = (rdOf ByteArray.empty x1 x5).toList then (ancepsref54_Strings.l0 k x0 x1 (wrap64 (x5 + 1))) else (some false)) else (none)) else (none)) else (some true)
def ancepsref54_Strings.f (k : Nat) (l0 : List ByteArray) (l1 : List ByteArray) : Option (Bool) := if (l0.length : Int) = (l1.length : Int) then (ancepsref54_Strings.l0 k l0 l1 0) else (some false)
theorem ancepsref54_Strings.mono_l : ∀ k, (∀ y0 y1 y2, LeO (ancepsref54_Strings.l0 k y0 y1 y2) (ancepsref54_Strings.l0 (k + 1) y0 y1 y2))
 | 0 => fun _ _ _ r h => by simp [ancepsref54_Strings.l0] at h
 | k + 1 => by
  have ih0 := ancepsref54_Strings.mono_l k
  ·intro y0 y1 y2
   unfold ancepsref54_Strings.l0
   repeat' first
   | (with_reducible exact ih0 _ _ _)
   | (with_reducible exact LeO.refl _)
   | (with_reducible exact LeO.none _)
   | (with_reducible refine LeO.ite ?_ ?_)
   | (with_reducible refine LeO.bind ?_ (fun _ => ?_))
   | exact ih0 _ _ _
   | exact LeO.none _
   | refine LeO.ite ?_ ?_
   | refine LeO.bind ?_ (fun _ => ?_)
theorem ancepsref54_Strings.mono : ∀ a0 a1 k, LeO (ancepsref54_Strings.f k a0 a1) (ancepsref54_Strings.f (k + 1) a0 a1) := by
 intro a0 a1 k
 have ih0 := ancepsref54_Strings.mono_l k
 unfold ancepsref54_Strings.f
 repeat' first
   | (with_reducible exact ih0 _ _ _)
   | (with_reducible exact LeO.refl _)
   | (with_reducible exact LeO.none _)
   | (with_reducible refine LeO.ite ?_ ?_)
   | (with_reducible refine LeO.bind ?_ (fun _ => ?_))
   | exact ih0 _ _ _
   | exact LeO.none _
   | refine LeO.ite ?_ ?_
   | refine LeO.bind ?_ (fun _ => ?_)
set_option maxHeartbeats 8000000 in
set_option maxRecDepth 100000 in
theorem ancepsref54_Strings.calls (k : Nat) (A0 : Option Addr) (c0 : Nat) (l0 : List ByteArray) (A1 : Option Addr) (c1 : Nat) (l1 : List ByteArray) (r : Bool) (w : World) (hr0 : Kd.C Kd.string w A0 l0.length l0) (hc0 : l0.length ≤ c0) (hr1 : Kd.C Kd.string w A1 l1.length l1) (hc1 : l1.length ≤ c1) (h : ancepsref54_Strings.f k l0 l1 = some r) :
  Calls Try.prog 43 #[.slice A0 l0.length c0, .slice A1 l1.length c1] w fun e w' => e = .returned (.bool r) ∧ Drawn0 w w' := by
 have HR0 := Aside0.mk hr0
 have HC0 := Aside0.mk hc0
 clear hr0 hc0
 have HR1 := Aside0.mk hr1
 have HC1 := Aside0.mk hc1
 clear hr1 hc1
 have H : (if (l0.length : Int) = (l1.length : Int) then (ancepsref54_Strings.l0 k l0 l1 0) else (some false)) = some r := h
 clear h
 by_cases c3 : (l0.length : Int) = (l1.length : Int)
 ·rw [if_pos c3] at H
  have c3b0 : ((l0.length : Int) == (l1.length : Int)) = true := beq_iff_eq.mpr c3
  have c3b1 : ((l0.length : Int) != (l1.length : Int)) = false := bne_eq_false_iff_eq.mpr c3
  have c3b2 : (l0.length == l1.length) = true := by first | simpa using c3 | (simp at c3 ⊢; omega)
  clear c3
  have H' := Aside0.mk H
  clear H
  go_enter Try.func43, Try.ntmps43
  go_wp2
  repeat (go_quiet (fail); try go_wp2)
  go_loopg [5] k (fun kq v5 w' => ∃ (x5_1 : Int), v5 = .int .i64 x5_1 ∧ Aside0 (ancepsref54_Strings.l0 kq l0 l1 x5_1 = some r) ∧ Aside0 (kq ≤ k) ∧ Drawn0 w w')
  case atStart => exact ⟨(0), eV, H', ⟨Nat.le_refl _⟩, dR⟩
  case round =>
   clear H'
   (try clear c1); (try clear p2); (try clear c3); (try clear c3b0); (try clear c3b1); (try clear c3b2)
   obtain ⟨x5_1, rfl, HA, HK1, ⟨m1, rfl⟩⟩ := hrel
   cases gk with
   | zero => exact absurd HA.out (by simp [ancepsref54_Strings.l0])
   | succ k1 =>
    have H := HA.out
    clear HA
    simp only [ancepsref54_Strings.l0] at H
    by_cases c4 : x5_1 < (l0.length : Int)
    ·rw [if_pos c4] at H
     have c4b0 : decide (x5_1 < (l0.length : Int)) = true := decide_eq_true c4
     clear c4
     by_cases c5 : 0 ≤ x5_1
     ·rw [if_pos c5] at H
      have c5b0 : decide (0 ≤ x5_1) = true := decide_eq_true c5
      clear c5
      by_cases c6 : x5_1 < (l1.length : Int)
      ·rw [if_pos c6] at H
       have c6b0 : decide (x5_1 < (l1.length : Int)) = true := decide_eq_true c6
       clear c6
       by_cases c7 : (rdOf ByteArray.empty l0 x5_1).toList = (rdOf ByteArray.empty l1 x5_1).toList
       ·rw [if_pos c7] at H
        have c7b0 : ((rdOf ByteArray.empty l0 x5_1).toList == (rdOf ByteArray.empty l1 x5_1).toList) = true := beq_iff_eq.mpr c7
        have c7b1 : ((rdOf ByteArray.empty l0 x5_1).toList != (rdOf ByteArray.empty l1 x5_1).toList) = false := bne_eq_false_iff_eq.mpr c7
        clear c7
        have H' := Aside0.mk H
        clear H
        have p246 := oD (0 ≤ (x5_1 : Int))
        have q246 := oD (x5_1 < (l0.length : Int))
        obtain ⟨ad246, e246, hx246_0⟩ := Kd.at_string HR0.out x5_1 p246 q246
        cases e246
        replace p246 := eq_true p246
        replace q246 := eq_true q246
        have p247 := oD (0 ≤ (x5_1 : Int))
        have q247 := oD (x5_1 < (l1.length : Int))
        obtain ⟨ad247, e247, hx247_0⟩ := Kd.at_string HR1.out x5_1 p247 q247
        cases e247
        replace p247 := eq_true p247
        replace q247 := eq_true q247
        go_wp2
        repeat (go_quiet (fail); try go_wp2)
        go_roundg k1
        case measure => have := HK1.out; omega
        case rel => exact ⟨(wrap64 (x5_1 + 1)), eV, H', ⟨by have := HK1.out; omega⟩, dR⟩
       ·rw [if_neg c7] at H
        have c7b0 : ((rdOf ByteArray.empty l0 x5_1).toList == (rdOf ByteArray.empty l1 x5_1).toList) = false := beq_eq_false_iff_ne.mpr c7
        have c7b1 : ((rdOf ByteArray.empty l0 x5_1).toList != (rdOf ByteArray.empty l1 x5_1).toList) = true := bne_iff_ne.mpr c7
        obtain rfl := Option.some.inj H
        have p246 := oD (0 ≤ (x5_1 : Int))
        have q246 := oD (x5_1 < (l0.length : Int))
        obtain ⟨ad246, e246, hx246_0⟩ := Kd.at_string HR0.out x5_1 p246 q246
        cases e246
        replace p246 := eq_true p246
        replace q246 := eq_true q246
        have p247 := oD (0 ≤ (x5_1 : Int))
        have q247 := oD (x5_1 < (l1.length : Int))
        obtain ⟨ad247, e247, hx247_0⟩ := Kd.at_string HR1.out x5_1 p247 q247
        cases e247
        replace p247 := eq_true p247
        replace q247 := eq_true q247
        go_wp2
        repeat (go_quiet (fail); try go_wp2)
        go_ret
        exact ⟨eV, dR⟩
      ·rw [if_neg c6] at H
       exact absurd H (by simp)
     ·rw [if_neg c5] at H
      exact absurd H (by simp)
    ·rw [if_neg c4] at H
     have c4b0 : decide (x5_1 < (l0.length : Int)) = false := decide_eq_false c4
     clear c4
     obtain rfl := Option.some.inj H
     go_wp2
     repeat (go_quiet (fail); try go_wp2)
     go_ret
     exact ⟨eV, dR⟩
 ·rw [if_neg c3] at H
  have c3b0 : ((l0.length : Int) == (l1.length : Int)) = false := beq_eq_false_iff_ne.mpr c3
  have c3b1 : ((l0.length : Int) != (l1.length : Int)) = true := bne_iff_ne.mpr c3
  have c3b2 : (l0.length == l1.length) = false := by first | simpa using c3 | (simp at c3 ⊢; omega)
  obtain rfl := Option.some.inj H
  go_enter Try.func43, Try.ntmps43
  go_wp2
  repeat (go_quiet (fail); try go_wp2)
  go_ret
  exact ⟨eV, dR⟩

end Go.Proofs.Ytdaooagikacboaa.X
