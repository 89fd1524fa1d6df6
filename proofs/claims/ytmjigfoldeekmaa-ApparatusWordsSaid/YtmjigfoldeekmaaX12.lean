-- shortened
-- thinned
-- halved indents
-- printed by this session's xprint.py: out of the translation, by the kit's print with additions; Lean checks it
import Derived.Test.YtmjigfoldeekmaaWN
import Derived.Test.YtmjigfoldeekmaaWShare
import Derived.Test.YtmjigfoldeekmaaWRepsOne
import Derived.Test.YtmjigfoldeekmaaX0
import Derived.Test.YtmjigfoldeekmaaX11
import Derived.Test.YtmjigfoldeekmaaXA
namespace Go.Proofs.Ytmjigfoldeekmaa.X
open Go.RowKit Go.Proofs.YtmjigfoldeekmaaW.PrintWords Go.Proofs.YtmjigfoldeekmaaW.PrintLast Go.Proofs.YtmjigfoldeekmaaW.PrintMore
attribute [local go_sem] max2_int min2_int max_two min_two max_three min_three max_four min_four isSome_setCell binOp_gtr_str binOp_leq_str binOp_geq_str   -- for this text's walks alone
set_option linter.unusedVariables false
set_option linter.unusedSimpArgs false

/-! ### ancepsref01_Letter: function 40 -/
mutual
def ancepsref01_Letter.j0 : Nat → Int → Bool → Option (Bool)
 | 0, _, _ => none
 | k + 1, x0, x9 => if x9 = true then (some false) else (ancepsref01_Letter.l0 k x0 0)
def ancepsref01_Letter.l0 : Nat → Int → Int → Option (Bool)
 | 0, _, _ => none
 | k + 1, x0, x3 => if x3 < 15 then (if 0 ≤ x3 then (if (bt (⟨#[32, 46, 44, 59, 58, 33, 63, 34, 45, 91, 93, 60, 62, 123, 125]⟩ : ByteArray) x3) = x0 then (some false) else (ancepsref01_Letter.l0 k x0 (wrap64 (x3 + 1)))) else (none)) else (some true)
end
def ancepsref01_Letter.f (k : Nat) (a0 : Int) : Option (Bool) := if a0 < 32 then (ancepsref01_Letter.j0 k a0 true) else (ancepsref01_Letter.j0 k a0 (decide (a0 > 126)))
theorem ancepsref01_Letter.mono_l : ∀ k, (∀ y0 y1, LeO (ancepsref01_Letter.j0 k y0 y1) (ancepsref01_Letter.j0 (k + 1) y0 y1)) ∧ (∀ y0 y1, LeO (ancepsref01_Letter.l0 k y0 y1) (ancepsref01_Letter.l0 (k + 1) y0 y1))
 | 0 => ⟨fun _ _ r h => by simp [ancepsref01_Letter.j0] at h, fun _ _ r h => by simp [ancepsref01_Letter.l0] at h⟩
 | k + 1 => by
  obtain ⟨ih0, ih1⟩ := ancepsref01_Letter.mono_l k
  refine ⟨?_, ?_⟩
  ·intro y0 y1
   unfold ancepsref01_Letter.j0
   repeat' first
   | (with_reducible exact ih0 _ _)
   | (with_reducible exact ih1 _ _)
   | (with_reducible exact LeO.refl _)
   | (with_reducible exact LeO.none _)
   | (with_reducible refine LeO.ite ?_ ?_)
   | (with_reducible refine LeO.bind ?_ (fun _ => ?_))
   | exact ih0 _ _
   | exact ih1 _ _
   | exact LeO.none _
   | refine LeO.ite ?_ ?_
   | refine LeO.bind ?_ (fun _ => ?_)
  ·intro y0 y1
   unfold ancepsref01_Letter.l0
   repeat' first
   | (with_reducible exact ih0 _ _)
   | (with_reducible exact ih1 _ _)
   | (with_reducible exact LeO.refl _)
   | (with_reducible exact LeO.none _)
   | (with_reducible refine LeO.ite ?_ ?_)
   | (with_reducible refine LeO.bind ?_ (fun _ => ?_))
   | exact ih0 _ _
   | exact ih1 _ _
   | exact LeO.none _
   | refine LeO.ite ?_ ?_
   | refine LeO.bind ?_ (fun _ => ?_)
theorem ancepsref01_Letter.mono : ∀ a0 k, LeO (ancepsref01_Letter.f k a0) (ancepsref01_Letter.f (k + 1) a0) := by
 intro a0 k
 obtain ⟨ih0, ih1⟩ := ancepsref01_Letter.mono_l k
 unfold ancepsref01_Letter.f
 repeat' first
   | (with_reducible exact ih0 _ _)
   | (with_reducible exact ih1 _ _)
   | (with_reducible exact LeO.refl _)
   | (with_reducible exact LeO.none _)
   | (with_reducible refine LeO.ite ?_ ?_)
   | (with_reducible refine LeO.bind ?_ (fun _ => ?_))
   | exact ih0 _ _
   | exact ih1 _ _
   | exact LeO.none _
   | refine LeO.ite ?_ ?_
   | refine LeO.bind ?_ (fun _ => ?_)
set_option maxHeartbeats 8000000 in
set_option maxRecDepth 100000 in
theorem ancepsref01_Letter.calls (k : Nat) (a0 : Int) (r : Bool) (w : World) (h : ancepsref01_Letter.f k a0 = some r) :
  Calls Try.prog 40 #[.int .u8 a0] w fun e w' => e = .returned (.bool r) ∧ Drawn0 w w' := by
 have H : (if a0 < 32 then (ancepsref01_Letter.j0 k a0 true) else (ancepsref01_Letter.j0 k a0 (decide (a0 > 126)))) = some r := h
 clear h
 have HC2 := Aside0.mk H
 clear H
 go_enter Try.func40, Try.ntmps40
 go_upto_region 1 with (fail)
 go_cut [9] (fun v9 wc => ∃ (kq : Nat) (x9_1 : Bool), v9 = .bool x9_1 ∧ Aside0 (ancepsref01_Letter.j0 kq a0 x9_1 = some r) ∧ Aside0 (kq ≤ k) ∧ Drawn0 w wc)
 case first =>
  have H := HC2.out
  clear HC2
  by_cases c3 : a0 < 32
  ·rw [if_pos c3] at H
   have c3b0 : decide (a0 < 32) = true := decide_eq_true c3
   clear c3
   (first | rw [c3b0] | (simp only [i64_w, i32_w]; rw [c3b0]) | skip)
   have H' := Aside0.mk H
   clear H
   go_wp2
   go_meet
   case rel => exact ⟨_, (true), (by first | rfl | (simp; done) | (simp [*]; done)), H', ⟨by first | omega | exact Nat.le_refl _⟩, by repeat (first | exact Drawn0.refl _ | apply Drawn0.step)⟩
  ·rw [if_neg c3] at H
   have c3b0 : decide (a0 < 32) = false := decide_eq_false c3
   clear c3
   (first | rw [c3b0] | (simp only [i64_w, i32_w]; rw [c3b0]) | skip)
   have H' := Aside0.mk H
   clear H
   go_wp2
   go_meet
   case rel => exact ⟨_, (decide (a0 > 126)), (by first | rfl | (simp; done) | (simp [*]; done)), H', ⟨by first | omega | exact Nat.le_refl _⟩, by repeat (first | exact Drawn0.refl _ | apply Drawn0.step)⟩
 case rest =>
  clear HC2
  try clear p2
  try clear c3
  try clear c3b0
  obtain ⟨kq, x9_1, rfl, HA, HJ1, ⟨mc1, rfl⟩⟩ := hcut
  cases kq with
  | zero => exact absurd HA.out (by simp [ancepsref01_Letter.j0])
  | succ kj1 =>
   have H := HA.out
   clear HA
   simp only [ancepsref01_Letter.j0] at H
   by_cases c4 : x9_1 = true
   ·subst c4
    have H1 : (some false) = some r := by rw [if_pos rfl] at H; exact H
    clear H
    have H := H1
    clear H1
    obtain rfl := Option.some.inj H
    go_wp2
    go_ret
    exact ⟨by first | rfl | (simp; done) | (simp [*]; done), by repeat (first | exact Drawn0.refl _ | apply Drawn0.step)⟩
   ·replace c4 := Bool.eq_false_iff.mpr c4
    subst c4
    have H1 : (ancepsref01_Letter.l0 kj1 a0 0) = some r := by rw [if_neg (show ¬ (false = true) by decide)] at H; exact H
    clear H
    have H := H1
    clear H1
    have H' := Aside0.mk H
    clear H
    go_wp2
    go_loopg [3] kj1 (fun kq v3 w' => ∃ (x3_2 : Int), v3 = .int .i64 x3_2 ∧ Aside0 (ancepsref01_Letter.l0 kq a0 x3_2 = some r) ∧ Aside0 (kq ≤ kj1) ∧ Drawn0 w w')
    case atStart => exact ⟨(0), (by first | rfl | (simp; done) | (simp [*]; done)), H', ⟨Nat.le_refl _⟩, by repeat (first | exact Drawn0.refl _ | apply Drawn0.step)⟩
    case round =>
     clear H'
     try clear c1
     try clear p2
     try clear c3
     try clear c3b0
     try clear c4
     try clear p2
     obtain ⟨x3_2, rfl, HA, HK2, ⟨m2, rfl⟩⟩ := hrel
     cases gk with
     | zero => exact absurd HA.out (by simp [ancepsref01_Letter.l0])
     | succ k2 =>
      have H := HA.out
      clear HA
      simp only [ancepsref01_Letter.l0] at H
      by_cases c5 : x3_2 < 15
      ·rw [if_pos c5] at H
       have c5b0 : decide (x3_2 < 15) = true := decide_eq_true c5
       clear c5
       by_cases c6 : 0 ≤ x3_2
       ·rw [if_pos c6] at H
        have c6b0 : decide (0 ≤ x3_2) = true := decide_eq_true c6
        clear c6
        by_cases c8 : (bt (⟨#[32, 46, 44, 59, 58, 33, 63, 34, 45, 91, 93, 60, 62, 123, 125]⟩ : ByteArray) x3_2) = a0
        ·rw [if_pos c8] at H
         have c8b0 : ((bt (⟨#[32, 46, 44, 59, 58, 33, 63, 34, 45, 91, 93, 60, 62, 123, 125]⟩ : ByteArray) x3_2) == a0) = true := beq_iff_eq.mpr c8
         have c8b1 : ((bt (⟨#[32, 46, 44, 59, 58, 33, 63, 34, 45, 91, 93, 60, 62, 123, 125]⟩ : ByteArray) x3_2) != a0) = false := bne_eq_false_iff_eq.mpr c8
         clear c8
         obtain rfl := Option.some.inj H
         have p7 : 0 ≤ (x3_2 : Int) := of_decide_eq_true (by first | (with_reducible assumption) | assumption)
         have q7 : x3_2 < (15 : Int) := of_decide_eq_true (by first | (with_reducible assumption) | assumption)
         have hx7 := bt_at (⟨#[32, 46, 44, 59, 58, 33, 63, 34, 45, 91, 93, 60, 62, 123, 125]⟩ : ByteArray) x3_2
         replace p7 := eq_true p7
         replace q7 := eq_true q7
         go_wp2
         go_ret
         exact ⟨by first | rfl | (simp; done) | (simp [*]; done), by repeat (first | exact Drawn0.refl _ | apply Drawn0.step)⟩
        ·rw [if_neg c8] at H
         have c8b0 : ((bt (⟨#[32, 46, 44, 59, 58, 33, 63, 34, 45, 91, 93, 60, 62, 123, 125]⟩ : ByteArray) x3_2) == a0) = false := beq_eq_false_iff_ne.mpr c8
         have c8b1 : ((bt (⟨#[32, 46, 44, 59, 58, 33, 63, 34, 45, 91, 93, 60, 62, 123, 125]⟩ : ByteArray) x3_2) != a0) = true := bne_iff_ne.mpr c8
         have H' := Aside0.mk H
         clear H
         have p7 : 0 ≤ (x3_2 : Int) := of_decide_eq_true (by first | (with_reducible assumption) | assumption)
         have q7 : x3_2 < (15 : Int) := of_decide_eq_true (by first | (with_reducible assumption) | assumption)
         have hx7 := bt_at (⟨#[32, 46, 44, 59, 58, 33, 63, 34, 45, 91, 93, 60, 62, 123, 125]⟩ : ByteArray) x3_2
         replace p7 := eq_true p7
         replace q7 := eq_true q7
         go_wp2
         go_roundg k2
         case measure => have := HJ1.out; have := HK2.out; omega
         case rel => exact ⟨(wrap64 (x3_2 + 1)), (by first | rfl | (simp; done) | (simp [*]; done)), H', ⟨by have := HJ1.out; have := HK2.out; omega⟩, by repeat (first | exact Drawn0.refl _ | apply Drawn0.step)⟩
       ·rw [if_neg c6] at H
        exact absurd H (by simp)
      ·rw [if_neg c5] at H
       have c5b0 : decide (x3_2 < 15) = false := decide_eq_false c5
       clear c5
       obtain rfl := Option.some.inj H
       go_wp2
       go_ret
       exact ⟨by first | rfl | (simp; done) | (simp [*]; done), by repeat (first | exact Drawn0.refl _ | apply Drawn0.step)⟩

/-! ### ancepsref01_Words: function 13 -/
def ancepsref01_Words.l0 : Nat → ByteArray → List (S74) → Int → Option ((List (S74)) × Int)
 | 0, _, _, _ => none
 | k + 1, x0, x5, x6 => if x6 < (x0.size : Int) then (if 0 ≤ x6 then ((ancepsref01_Letter.f k (bt x0 x6)).bind fun t240 => (if t240 = true then (if x6 > 0 then (if 0 ≤ (wrap64 (x6 - 1)) then (if (wrap64 (x6 - 1)) < (x0.size : Int) then ((ancepsref01_Letter.f k (bt x0 (wrap64 (x6 - 1)))).bind fun t241 => (if t241 = true then (if 0 ≤ (wrap64 ((x5.length : Int) - 1)) then (if (wrap64 ((x5.length : Int) - 1)) < (x5.length : Int) then (ancepsref01_Words.l0 k x0 (x5.set ((wrap64 ((x5.length : Int) - 1)) : Int).toNat (⟨(rd_T74 x5 (wrap64 ((x5.length : Int) - 1))).f0, wrap64 (x6 + 1)⟩ : S74)) (wrap64 (x6 + 1))) else (none)) else (none)) else (if x5.length < 8796093022208 then (ancepsref01_Words.l0 k x0 (x5 ++ [(⟨x6, wrap64 (x6 + 1)⟩ : S74)]) (wrap64 (x6 + 1))) else (none)))) else (none)) else (none)) else (if x5.length < 8796093022208 then (ancepsref01_Words.l0 k x0 (x5 ++ [(⟨x6, wrap64 (x6 + 1)⟩ : S74)]) (wrap64 (x6 + 1))) else (none))) else (ancepsref01_Words.l0 k x0 x5 (wrap64 (x6 + 1))))) else (none)) else (some (x5, 0))
def ancepsref01_Words.f (k : Nat) (a0 : ByteArray) : Option ((List (S74)) × Int) := (ancepsref01_Valid.f k a0).bind fun t239 => (if t239 = 0 then (ancepsref01_Words.l0 k a0 ([] : List (S74)) 0) else (some (([] : List (S74)), t239)))
theorem ancepsref01_Words.mono_l : ∀ k, (∀ y0 y1 y2, LeO (ancepsref01_Words.l0 k y0 y1 y2) (ancepsref01_Words.l0 (k + 1) y0 y1 y2))
 | 0 => fun _ _ _ r h => by simp [ancepsref01_Words.l0] at h
 | k + 1 => by
  have ih0 := ancepsref01_Words.mono_l k
  ·intro y0 y1 y2
   unfold ancepsref01_Words.l0
   repeat' first
   | (with_reducible exact ih0 _ _ _)
   | (with_reducible exact ancepsref01_Letter.mono _ _)
   | (with_reducible exact ancepsref01_Valid.mono _ _)
   | (with_reducible exact LeO.refl _)
   | (with_reducible exact LeO.none _)
   | (with_reducible refine LeO.ite ?_ ?_)
   | (with_reducible refine LeO.bind ?_ (fun _ => ?_))
   | exact ih0 _ _ _
   | exact ancepsref01_Letter.mono _ _
   | exact ancepsref01_Valid.mono _ _
   | exact LeO.none _
   | refine LeO.ite ?_ ?_
   | refine LeO.bind ?_ (fun _ => ?_)
theorem ancepsref01_Words.mono : ∀ a0 k, LeO (ancepsref01_Words.f k a0) (ancepsref01_Words.f (k + 1) a0) := by
 intro a0 k
 have ih0 := ancepsref01_Words.mono_l k
 unfold ancepsref01_Words.f
 repeat' first
   | (with_reducible exact ih0 _ _ _)
   | (with_reducible exact ancepsref01_Letter.mono _ _)
   | (with_reducible exact ancepsref01_Valid.mono _ _)
   | (with_reducible exact LeO.refl _)
   | (with_reducible exact LeO.none _)
   | (with_reducible refine LeO.ite ?_ ?_)
   | (with_reducible refine LeO.bind ?_ (fun _ => ?_))
   | exact ih0 _ _ _
   | exact ancepsref01_Letter.mono _ _
   | exact ancepsref01_Valid.mono _ _
   | exact LeO.none _
   | refine LeO.ite ?_ ?_
   | refine LeO.bind ?_ (fun _ => ?_)
set_option maxHeartbeats 8000000 in
set_option maxRecDepth 100000 in
theorem ancepsref01_Words.calls (k : Nat) (a0 : ByteArray) (r1 : List (S74)) (r2 : Int) (w : World) (h : ancepsref01_Words.f k a0 = some (r1, r2)) :
  Calls Try.prog 13 #[.string a0] w fun e w' => ∃ v0_ : Value, e = .returned (.tuple #[v0_, .int .i64 r2]) ∧ Kd.R k74 74 w' w.heap.size (fun _ => True) v0_ r1 ∧ Below w.heap.size w w' := by
 have hu74 := Try.underlying74
 have HB := Aside0.mk (Below.refl w.heap.size w)
 have H : ((ancepsref01_Valid.f k a0).bind fun t239 => (if t239 = 0 then (ancepsref01_Words.l0 k a0 ([] : List (S74)) 0) else (some (([] : List (S74)), t239)))) = some (r1, r2) := h
 clear h
 replace H := Option.bind_eq_some_iff.mp H
 obtain ⟨t239, A20, H⟩ := H
 try dsimp only at H
 have A2 := Aside0.mk A20
 clear A20
 by_cases c3 : t239 = 0
 ·rw [if_pos c3] at H
  have c3b0 : (t239 == 0) = true := beq_iff_eq.mpr c3
  have c3b1 : (t239 != 0) = false := bne_eq_false_iff_eq.mpr c3
  clear c3
  have H' := Aside0.mk H
  clear H
  go_enter Try.func13, Try.ntmps13
  go_wp2_with (first | ((with_reducible refine gate_callee (f := 39) rfl ?_); refine gL_ (some 8) Try.func39 #[.string a0] ?_; (with_reducible refine (ancepsref01_Valid.calls k a0 t239 _ A2.out).mono ?_); rintro e w' ⟨rfl, ⟨nd, rfl⟩⟩; refine ⟨_, rfl, ?_⟩))
  go_loopg [5, 6] k (fun kq v5 v6 w' => ∃ (x5_1 : List (S74)) (x6_1 : Int), v6 = .int .i64 x6_1 ∧ Aside0 (ancepsref01_Words.l0 kq a0 x5_1 x6_1 = some (r1, r2)) ∧ Aside0 (kq ≤ k) ∧ Aside0 (Kd.R k74 74 w' w.heap.size (fun _ => True) v5 x5_1) ∧ Aside0 (Below w.heap.size w w'))
  case atStart => exact ⟨(([] : List (S74))), (0), (by first | rfl | (simp; done) | (simp [*]; done)), H', ⟨Nat.le_refl _⟩, ⟨by first | exact Kd.R_nil _ _ _ _ _ | exact Kd.N_nil _ _ _ _ _ | exact Kd.V_nil _ _ _ _ _ | exact Kd.Q_nil _ _ _ _ _ | exact Kd.S_nil _ _ _ _ _⟩, ⟨by repeat (first | (with_reducible first | exact HB.out | apply below_alloc | apply pw_below_drewN | apply below_drew1) | exact HB.out)⟩⟩
  case round =>
   clear H'
   try clear c1
   try clear p2
   try clear c3
   try clear c3b0
   try clear c3b1
   obtain ⟨x5_1, x6_1, rfl, HA, HK1, HO_5, HB⟩ := hrel
   cases gk with
   | zero => exact absurd HA.out (by simp [ancepsref01_Words.l0])
   | succ k1 =>
    have H := HA.out
    clear HA
    simp only [ancepsref01_Words.l0] at H
    by_cases c4 : x6_1 < (a0.size : Int)
    ·rw [if_pos c4] at H
     have c4b0 : decide (x6_1 < (a0.size : Int)) = true := decide_eq_true c4
     clear c4
     by_cases c5 : 0 ≤ x6_1
     ·rw [if_pos c5] at H
      have c5b0 : decide (0 ≤ x6_1) = true := decide_eq_true c5
      clear c5
      replace H := Option.bind_eq_some_iff.mp H
      obtain ⟨t240, A70, H⟩ := H
      try dsimp only at H
      have A7 := Aside0.mk A70
      clear A70
      by_cases c8 : t240 = true
      ·subst c8
       have H1 : (if x6_1 > 0 then (if 0 ≤ (wrap64 (x6_1 - 1)) then (if (wrap64 (x6_1 - 1)) < (a0.size : Int) then ((ancepsref01_Letter.f k1 (bt a0 (wrap64 (x6_1 - 1)))).bind fun t241 => (if t241 = true then (if 0 ≤ (wrap64 ((x5_1.length : Int) - 1)) then (if (wrap64 ((x5_1.length : Int) - 1)) < (x5_1.length : Int) then (ancepsref01_Words.l0 k1 a0 (x5_1.set ((wrap64 ((x5_1.length : Int) - 1)) : Int).toNat (⟨(rd_T74 x5_1 (wrap64 ((x5_1.length : Int) - 1))).f0, wrap64 (x6_1 + 1)⟩ : S74)) (wrap64 (x6_1 + 1))) else (none)) else (none)) else (if x5_1.length < 8796093022208 then (ancepsref01_Words.l0 k1 a0 (x5_1 ++ [(⟨x6_1, wrap64 (x6_1 + 1)⟩ : S74)]) (wrap64 (x6_1 + 1))) else (none)))) else (none)) else (none)) else (if x5_1.length < 8796093022208 then (ancepsref01_Words.l0 k1 a0 (x5_1 ++ [(⟨x6_1, wrap64 (x6_1 + 1)⟩ : S74)]) (wrap64 (x6_1 + 1))) else (none))) = some (r1, r2) := by rw [if_pos rfl] at H; exact H
       clear H
       have H := H1
       clear H1
       by_cases c9 : x6_1 > 0
       ·rw [if_pos c9] at H
        have c9b0 : decide (0 < x6_1) = true := decide_eq_true c9
        clear c9
        obtain ⟨ji10, hji10⟩ : ∃ j_ : Int, (wrap64 (x6_1 - 1)) = j_ := ⟨_, rfl⟩
        replace H : (if 0 ≤ (ji10) then (if (ji10) < (a0.size : Int) then ((ancepsref01_Letter.f k1 (bt a0 (ji10))).bind fun t241 => (if t241 = true then (if 0 ≤ (wrap64 ((x5_1.length : Int) - 1)) then (if (wrap64 ((x5_1.length : Int) - 1)) < (x5_1.length : Int) then (ancepsref01_Words.l0 k1 a0 (x5_1.set ((wrap64 ((x5_1.length : Int) - 1)) : Int).toNat (⟨(rd_T74 x5_1 (wrap64 ((x5_1.length : Int) - 1))).f0, wrap64 (x6_1 + 1)⟩ : S74)) (wrap64 (x6_1 + 1))) else (none)) else (none)) else (if x5_1.length < 8796093022208 then (ancepsref01_Words.l0 k1 a0 (x5_1 ++ [(⟨x6_1, wrap64 (x6_1 + 1)⟩ : S74)]) (wrap64 (x6_1 + 1))) else (none)))) else (none)) else (none)) = some (r1, r2) := by first | (rw [hji10] at H; exact H) | (simp only [hji10] at H ⊢; exact H)
        (try rw [hji10] at A7)
        have hji10w : (IntKind.i64.wrap (x6_1 - 1)) = ji10 := (i64_w _).trans hji10
        by_cases c11 : 0 ≤ (ji10)
        ·rw [if_pos c11] at H
         have c11b0 : decide (0 ≤ (ji10)) = true := decide_eq_true c11
         clear c11
         by_cases c12 : (ji10) < (a0.size : Int)
         ·rw [if_pos c12] at H
          have c12b0 : decide ((ji10) < (a0.size : Int)) = true := decide_eq_true c12
          clear c12
          replace H := Option.bind_eq_some_iff.mp H
          obtain ⟨t241, A140, H⟩ := H
          try dsimp only at H
          have A14 := Aside0.mk A140
          clear A140
          by_cases c15 : t241 = true
          ·subst c15
           have H1 : (if 0 ≤ (wrap64 ((x5_1.length : Int) - 1)) then (if (wrap64 ((x5_1.length : Int) - 1)) < (x5_1.length : Int) then (ancepsref01_Words.l0 k1 a0 (x5_1.set ((wrap64 ((x5_1.length : Int) - 1)) : Int).toNat (⟨(rd_T74 x5_1 (wrap64 ((x5_1.length : Int) - 1))).f0, wrap64 (x6_1 + 1)⟩ : S74)) (wrap64 (x6_1 + 1))) else (none)) else (none)) = some (r1, r2) := by rw [if_pos rfl] at H; exact H
           clear H
           have H := H1
           clear H1
           obtain ⟨ji16, hji16⟩ : ∃ j_ : Int, (wrap64 ((x5_1.length : Int) - 1)) = j_ := ⟨_, rfl⟩
           replace H : (if 0 ≤ (ji16) then (if (ji16) < (x5_1.length : Int) then (ancepsref01_Words.l0 k1 a0 (x5_1.set ((ji16) : Int).toNat (⟨(rd_T74 x5_1 (ji16)).f0, wrap64 (x6_1 + 1)⟩ : S74)) (wrap64 (x6_1 + 1))) else (none)) else (none)) = some (r1, r2) := by first | (rw [hji16] at H; exact H) | (simp only [hji16] at H ⊢; exact H)
           (try rw [hji16] at A7)
           (try rw [hji16] at A14)
           have hji16w : (IntKind.i64.wrap ((x5_1.length : Int) - 1)) = ji16 := (i64_w _).trans hji16
           by_cases c17 : 0 ≤ (ji16)
           ·rw [if_pos c17] at H
            have c17b0 : decide (0 ≤ (ji16)) = true := decide_eq_true c17
            clear c17
            by_cases c18 : (ji16) < (x5_1.length : Int)
            ·rw [if_pos c18] at H
             have c18b0 : decide ((ji16) < (x5_1.length : Int)) = true := decide_eq_true c18
             clear c18
             obtain ⟨y242, hy242⟩ : ∃ y_ : List (S74), y_ = (x5_1.set ((ji16) : Int).toNat (⟨(rd_T74 x5_1 (ji16)).f0, wrap64 (x6_1 + 1)⟩ : S74)) := ⟨_, rfl⟩
             replace H : (ancepsref01_Words.l0 k1 a0 y242 (wrap64 (x6_1 + 1))) = some (r1, r2) := by first | (rw [hy242]; with_reducible exact H) | (have H2_ := (Option.bind_some _ _).symm.trans H; rw [hy242]; with_reducible exact H2_) | (have H2_ := (Option.bind_some _ _).symm.trans H; with_reducible exact H2_) | with_reducible exact H | (rw [hy242]; exact H) | exact H
             have Ny242 := Aside0.mk hy242
             clear hy242
             have H' := Aside0.mk H
             clear H
             have p6 : 0 ≤ (x6_1 : Int) := of_decide_eq_true (by first | (with_reducible assumption) | assumption)
             have q6 : x6_1 < (a0.size : Int) := of_decide_eq_true (by first | (with_reducible assumption) | assumption)
             have hx6 := bt_at a0 x6_1
             replace p6 := eq_true p6
             replace q6 := eq_true q6
             go_wp2_with (first | ((with_reducible refine gate_callee (f := 40) rfl ?_); refine gL_ (some 21) Try.func40 #[.int .u8 (bt a0 x6_1)] ?_; (with_reducible refine (ancepsref01_Letter.calls k1 (bt a0 x6_1) true _ A7.out).mono ?_); rintro e w' ⟨rfl, ⟨nd, rfl⟩⟩; refine ⟨_, rfl, ?_⟩; (try (rw [drewN_self wr]; generalize hq_ : World.drewN wr _ = wr; have n0_ : Aside0 (Kd.R k74 74 wr w.heap.size (fun _ => True) u5 x5_1) := ⟨by rw [← hq_]; exact (iR HO_5)⟩; have n1_ : Aside0 (Below w.heap.size w wr) := ⟨by rw [← hq_]; exact (iL HB)⟩; clear HO_5 HB hq_; have HO_5 := n0_; have HB := n1_; clear n0_ n1_)); have p13 : 0 ≤ ((ji10) : Int) := of_decide_eq_true (by first | (with_reducible assumption) | assumption); have q13 : (ji10) < (a0.size : Int) := of_decide_eq_true (by first | (with_reducible assumption) | assumption); have hx13 := bt_at a0 (ji10); replace p13 := eq_true p13; replace q13 := eq_true q13) | (go_at_call 40; (with_reducible refine (ancepsref01_Letter.calls k1 (bt a0 (ji10)) true _ A14.out).mono ?_); rintro e w' ⟨rfl, ⟨nd, rfl⟩⟩; (try (rw [drewN_self wr]; generalize hq_ : World.drewN wr _ = wr; have n0_ : Aside0 (Kd.R k74 74 wr w.heap.size (fun _ => True) u5 x5_1) := ⟨by rw [← hq_]; exact (iR HO_5)⟩; have n1_ : Aside0 (Below w.heap.size w wr) := ⟨by rw [← hq_]; exact (iL HB)⟩; clear HO_5 HB hq_; have HO_5 := n0_; have HB := n1_; clear n0_ n1_)); obtain ⟨Ao20, co20, eo20⟩ := Kd.R_slice HO_5.out; subst eo20; have p19 : 0 ≤ ((ji16) : Int) := of_decide_eq_true (by first | (with_reducible assumption) | assumption); have q19 : ((ji16) : Int) < ((x5_1.length : Int) : Int) := of_decide_eq_true (by first | (with_reducible assumption) | assumption); obtain ⟨go19, co19, eo19, gb19, gl19, cl19, HG19⟩ := Kd.R_form HO_5.out (by omega); (first | cases eo19 | (injection eo19 with ea_ en_ ec_; (first | subst ea_ | (injection ea_ with ea_; subst ea_)); subst ec_; clear en_)); have GB19 := Aside0.mk gb19; have GG19 := Aside0.mk HG19; clear gb19 gl19 HG19; obtain ⟨ce19, hcl19, hM19, hcc19, hfr19⟩ := Kd.R_elem HO_5.out z74 ((ji16) : Int) p19 q19; obtain rfl := k74_openM hM19; have hx19_0 : wr.cell? ⟨go19, ((ji16) : Int).toNat * 2, none⟩ = some (.int .i64 ((rd_T74 x5_1 (ji16)).f0)) := hcc19 0 _ rfl; have hx19_1 : wr.cell? ⟨go19, ((ji16) : Int).toNat * 2 + 1, none⟩ = some (.int .i64 ((rd_T74 x5_1 (ji16)).f1)) := hcc19 1 _ rfl; have hf19_0 : wr.frozen? ⟨go19, ((ji16) : Int).toNat * 2, none⟩ = false := hfr19 0; have hf19_1 : wr.frozen? ⟨go19, ((ji16) : Int).toNat * 2 + 1, none⟩ = false := hfr19 1; (try clear hM19); clear hcl19 hcc19 hfr19; replace p19 := eq_true p19; replace q19 := eq_true q19; have HX21 := Aside0.mk (show Kd.R k74 74 wr w.heap.size (fun _ => True) (.slice (some ⟨go19, 0, none⟩) x5_1.length co20) x5_1 from (iR HO_5)); obtain ⟨ce21, hcl21, hM21, hcc21, hfr21⟩ := Kd.R_elem HX21.out z74 ((ji16) : Int) (of_decide_eq_true (by first | (with_reducible assumption) | assumption)) (by have h_ : ((ji16) : Int) < ((x5_1.length : Int) : Int) := of_decide_eq_true (by first | (with_reducible assumption) | assumption); first | exact h_ | (have e_ := (Kd.R_reads' HO_5.out).1; omega) | simpa using h_); obtain rfl := k74_openM hM21; have HP21 := Kd.R_seg HX21.out ((ji16) : Int) (of_decide_eq_true (by first | (with_reducible assumption) | assumption)) (by have h_ : ((ji16) : Int) < ((x5_1.length : Int) : Int) := of_decide_eq_true (by first | (with_reducible assumption) | assumption); first | exact h_ | (have e_ := (Kd.R_reads' HO_5.out).1; omega) | simpa using h_) (seg := [.int .i64 (wrap64 (x6_1 + 1))]) (j := 1) hcl21 hcc21 (show 2 ≤ 2 from by decide) (x' := (⟨(rd_T74 x5_1 (ji16)).f0, wrap64 (x6_1 + 1)⟩ : S74)) (k74_mkM _ _ _ (⟨(rd_T74 x5_1 (ji16)).f0, wrap64 (x6_1 + 1)⟩ : S74) ) (fun _ hk => hk); have hx21_1 := hcc21 1 _ rfl; (try simp only [show (k74).sz = 2 from rfl, Nat.mul_one, Nat.add_zero] at hx21_1); have hf21_1 := hfr21 1; (try simp only [show (k74).sz = 2 from rfl, Nat.mul_one, Nat.add_zero] at hf21_1); (try clear hM21); clear hcl21 hcc21 hfr21) | ((with_reducible refine gate_store (t := 3) (p := 39) rfl ?_); refine store_event (t := 3) (p := 39) (v := ?vo_w22) (w1 := (wr.setCell ⟨go19, ((ji16) : Int).toNat * 2 + 1, none⟩ (.int .i64 (wrap64 (x6_1 + 1))))) ?hg ?ho ?hn ?hr ?_; (case ho => rfl); (case hg => rfl); (case hn => rfl); (case hr => first | (go_simp; done) | (go_simp; rfl)); intro w22 hw; have hg : wr.grownBy w22 (some go19) := (by rw [hw]; exact HP21.2); have hp_ : Kd.R k74 74 w22 w.heap.size (fun _ => True) (.slice (some ⟨go19, 0, none⟩) x5_1.length co20) y242 := (by rw [hw, Ny242.out]; exact HP21.1); clear HP21; have n0_ := Aside0.mk (hp_); have n1_ := Aside0.mk ((by rw [hw]; exact below_set (HB.out) GB19.out : Below w.heap.size w w22)); clear HO_5; clear HB; have HO_5 := n0_; have HB := n1_; clear n0_ n1_; clear hg hw hp_))
             go_roundg k1
             case measure => have := HK1.out; omega
             case rel => exact ⟨(y242), (wrap64 (x6_1 + 1)), (by first | rfl | (simp; done) | (simp [*]; done)), H', ⟨by have := HK1.out; omega⟩, ⟨by (with_reducible repeat (first | apply Kd.R_alloc | apply Kd.R_drewN | apply Kd.R_drew)); exact HO_5.out⟩, ⟨by repeat (first | (with_reducible first | exact HB.out | apply below_alloc | apply pw_below_drewN | apply below_drew1) | exact HB.out)⟩⟩
            ·rw [if_neg c18] at H
             exact absurd H (by simp)
           ·rw [if_neg c17] at H
            exact absurd H (by simp)
          ·replace c15 := Bool.eq_false_iff.mpr c15
           subst c15
           have H1 : (if x5_1.length < 8796093022208 then (ancepsref01_Words.l0 k1 a0 (x5_1 ++ [(⟨x6_1, wrap64 (x6_1 + 1)⟩ : S74)]) (wrap64 (x6_1 + 1))) else (none)) = some (r1, r2) := by rw [if_neg (show ¬ (false = true) by decide)] at H; exact H
           clear H
           have H := H1
           clear H1
           by_cases c23 : x5_1.length < 8796093022208
           ·rw [if_pos c23] at H
            have LMc23 := Aside0.mk c23
            clear c23
            obtain ⟨y243, hy243⟩ : ∃ y_ : List (S74), y_ = (x5_1 ++ [(⟨x6_1, wrap64 (x6_1 + 1)⟩ : S74)]) := ⟨_, rfl⟩
            replace H : (ancepsref01_Words.l0 k1 a0 y243 (wrap64 (x6_1 + 1))) = some (r1, r2) := by first | (rw [hy243]; with_reducible exact H) | (have H2_ := (Option.bind_some _ _).symm.trans H; rw [hy243]; with_reducible exact H2_) | (have H2_ := (Option.bind_some _ _).symm.trans H; with_reducible exact H2_) | with_reducible exact H | (rw [hy243]; exact H) | exact H
            have Ny243 := Aside0.mk hy243
            clear hy243
            have H' := Aside0.mk H
            clear H
            have p6 : 0 ≤ (x6_1 : Int) := of_decide_eq_true (by first | (with_reducible assumption) | assumption)
            have q6 : x6_1 < (a0.size : Int) := of_decide_eq_true (by first | (with_reducible assumption) | assumption)
            have hx6 := bt_at a0 x6_1
            replace p6 := eq_true p6
            replace q6 := eq_true q6
            go_wp2_with (first | ((with_reducible refine gate_callee (f := 40) rfl ?_); refine gL_ (some 21) Try.func40 #[.int .u8 (bt a0 x6_1)] ?_; (with_reducible refine (ancepsref01_Letter.calls k1 (bt a0 x6_1) true _ A7.out).mono ?_); rintro e w' ⟨rfl, ⟨nd, rfl⟩⟩; refine ⟨_, rfl, ?_⟩; have p13 : 0 ≤ ((ji10) : Int) := of_decide_eq_true (by first | (with_reducible assumption) | assumption); have q13 : (ji10) < (a0.size : Int) := of_decide_eq_true (by first | (with_reducible assumption) | assumption); have hx13 := bt_at a0 (ji10); replace p13 := eq_true p13; replace q13 := eq_true q13) | (go_at_call 40; (with_reducible refine (ancepsref01_Letter.calls k1 (bt a0 (ji10)) false _ A14.out).mono ?_); rintro e w' ⟨rfl, ⟨nd, rfl⟩⟩) | ((with_reducible refine gate_builtin (b := .append) (xs := #[.tmp 40, .tmp 45]) rfl ?_); at_builtin; refine Kd.R_append k74 (w0 := w) w.heap.size rfl (.tmp 40) (.tmp 45) 30 74 (.agg #[(.int .i64 0), (.int .i64 0)]) 16 rfl Try.underlying30 info74 rfl (by decide) (by omega) u5 x5_1 (⟨x6_1, wrap64 (x6_1 + 1)⟩ : S74) [.int .i64 x6_1, .int .i64 (wrap64 (x6_1 + 1))] (fun _ => True) (fun _ => False) rfl rfl ?aP (fun _ hk => hk.elim) ?aF ?aO ?aB ?aS ?aL ?_; (case aP => exact k74_mkM _ _ _ (⟨x6_1, wrap64 (x6_1 + 1)⟩ : S74)); (case aB => exact (iL HB)); (case aF => exact (fun _ _ => trivial)); (case aO => exact (iR HO_5)); (case aS => exact (below_size (iL HB))); (case aL => have := LMc23.out; omega); intro v244 w24 ho hb hg hat; rw [← Ny243.out] at ho; have n0_ := Aside0.mk (hb); have n1_ := Aside0.mk (ho); clear HB; clear HO_5; have HB := n0_; have HO245 := n1_; clear n0_ n1_; clear ho hb hg hat))
            go_roundg k1
            case measure => have := HK1.out; omega
            case rel => exact ⟨(y243), (wrap64 (x6_1 + 1)), (by first | rfl | (simp; done) | (simp [*]; done)), H', ⟨by have := HK1.out; omega⟩, ⟨by (with_reducible repeat (first | apply Kd.R_alloc | apply Kd.R_drewN | apply Kd.R_drew)); exact HO245.out⟩, ⟨by repeat (first | (with_reducible first | exact HB.out | apply below_alloc | apply pw_below_drewN | apply below_drew1) | exact HB.out)⟩⟩
           ·rw [if_neg c23] at H
            exact absurd H (by simp)
         ·rw [if_neg c12] at H
          exact absurd H (by simp)
        ·rw [if_neg c11] at H
         exact absurd H (by simp)
       ·rw [if_neg c9] at H
        have c9b0 : decide (0 < x6_1) = false := decide_eq_false c9
        clear c9
        by_cases c25 : x5_1.length < 8796093022208
        ·rw [if_pos c25] at H
         have LMc25 := Aside0.mk c25
         clear c25
         obtain ⟨y246, hy246⟩ : ∃ y_ : List (S74), y_ = (x5_1 ++ [(⟨x6_1, wrap64 (x6_1 + 1)⟩ : S74)]) := ⟨_, rfl⟩
         replace H : (ancepsref01_Words.l0 k1 a0 y246 (wrap64 (x6_1 + 1))) = some (r1, r2) := by first | (rw [hy246]; with_reducible exact H) | (have H2_ := (Option.bind_some _ _).symm.trans H; rw [hy246]; with_reducible exact H2_) | (have H2_ := (Option.bind_some _ _).symm.trans H; with_reducible exact H2_) | with_reducible exact H | (rw [hy246]; exact H) | exact H
         have Ny246 := Aside0.mk hy246
         clear hy246
         have H' := Aside0.mk H
         clear H
         have p6 : 0 ≤ (x6_1 : Int) := of_decide_eq_true (by first | (with_reducible assumption) | assumption)
         have q6 : x6_1 < (a0.size : Int) := of_decide_eq_true (by first | (with_reducible assumption) | assumption)
         have hx6 := bt_at a0 x6_1
         replace p6 := eq_true p6
         replace q6 := eq_true q6
         go_wp2_with (first | ((with_reducible refine gate_callee (f := 40) rfl ?_); refine gL_ (some 21) Try.func40 #[.int .u8 (bt a0 x6_1)] ?_; (with_reducible refine (ancepsref01_Letter.calls k1 (bt a0 x6_1) true _ A7.out).mono ?_); rintro e w' ⟨rfl, ⟨nd, rfl⟩⟩; refine ⟨_, rfl, ?_⟩) | ((with_reducible refine gate_builtin (b := .append) (xs := #[.tmp 40, .tmp 45]) rfl ?_); at_builtin; refine Kd.R_append k74 (w0 := w) w.heap.size rfl (.tmp 40) (.tmp 45) 30 74 (.agg #[(.int .i64 0), (.int .i64 0)]) 16 rfl Try.underlying30 info74 rfl (by decide) (by omega) u5 x5_1 (⟨x6_1, wrap64 (x6_1 + 1)⟩ : S74) [.int .i64 x6_1, .int .i64 (wrap64 (x6_1 + 1))] (fun _ => True) (fun _ => False) rfl rfl ?aP (fun _ hk => hk.elim) ?aF ?aO ?aB ?aS ?aL ?_; (case aP => exact k74_mkM _ _ _ (⟨x6_1, wrap64 (x6_1 + 1)⟩ : S74)); (case aB => exact (iL HB)); (case aF => exact (fun _ _ => trivial)); (case aO => exact (iR HO_5)); (case aS => exact (below_size (iL HB))); (case aL => have := LMc25.out; omega); intro v247 w26 ho hb hg hat; rw [← Ny246.out] at ho; have n0_ := Aside0.mk (hb); have n1_ := Aside0.mk (ho); clear HB; clear HO_5; have HB := n0_; have HO248 := n1_; clear n0_ n1_; clear ho hb hg hat))
         go_roundg k1
         case measure => have := HK1.out; omega
         case rel => exact ⟨(y246), (wrap64 (x6_1 + 1)), (by first | rfl | (simp; done) | (simp [*]; done)), H', ⟨by have := HK1.out; omega⟩, ⟨by (with_reducible repeat (first | apply Kd.R_alloc | apply Kd.R_drewN | apply Kd.R_drew)); exact HO248.out⟩, ⟨by repeat (first | (with_reducible first | exact HB.out | apply below_alloc | apply pw_below_drewN | apply below_drew1) | exact HB.out)⟩⟩
        ·rw [if_neg c25] at H
         exact absurd H (by simp)
      ·replace c8 := Bool.eq_false_iff.mpr c8
       subst c8
       have H1 : (ancepsref01_Words.l0 k1 a0 x5_1 (wrap64 (x6_1 + 1))) = some (r1, r2) := by rw [if_neg (show ¬ (false = true) by decide)] at H; exact H
       clear H
       have H := H1
       clear H1
       have H' := Aside0.mk H
       clear H
       have p6 : 0 ≤ (x6_1 : Int) := of_decide_eq_true (by first | (with_reducible assumption) | assumption)
       have q6 : x6_1 < (a0.size : Int) := of_decide_eq_true (by first | (with_reducible assumption) | assumption)
       have hx6 := bt_at a0 x6_1
       replace p6 := eq_true p6
       replace q6 := eq_true q6
       go_wp2_with (first | ((with_reducible refine gate_callee (f := 40) rfl ?_); refine gL_ (some 21) Try.func40 #[.int .u8 (bt a0 x6_1)] ?_; (with_reducible refine (ancepsref01_Letter.calls k1 (bt a0 x6_1) false _ A7.out).mono ?_); rintro e w' ⟨rfl, ⟨nd, rfl⟩⟩; refine ⟨_, rfl, ?_⟩))
       go_roundg k1
       case measure => have := HK1.out; omega
       case rel => exact ⟨(x5_1), (wrap64 (x6_1 + 1)), (by first | rfl | (simp; done) | (simp [*]; done)), H', ⟨by have := HK1.out; omega⟩, ⟨by (with_reducible repeat (first | apply Kd.R_alloc | apply Kd.R_drewN | apply Kd.R_drew)); exact HO_5.out⟩, ⟨by repeat (first | (with_reducible first | exact HB.out | apply below_alloc | apply pw_below_drewN | apply below_drew1) | exact HB.out)⟩⟩
     ·rw [if_neg c5] at H
      exact absurd H (by simp)
    ·rw [if_neg c4] at H
     have c4b0 : decide (x6_1 < (a0.size : Int)) = false := decide_eq_false c4
     clear c4
     simp only [Option.some.injEq, Prod.mk.injEq] at H
     obtain ⟨rfl, rfl⟩ := H
     go_wp2
     go_ret2
     exact ⟨_, by first | rfl | (simp [errW_none, errW_some] <;> rfl) | (simp [*, errW_none, errW_some] <;> rfl), by (with_reducible repeat (first | apply Kd.R_alloc | apply Kd.R_drewN | apply Kd.R_drew)); exact HO_5.out, by repeat (first | (with_reducible first | exact HB.out | apply below_alloc | apply pw_below_drewN | apply below_drew1) | exact HB.out)⟩
 ·rw [if_neg c3] at H
  have c3b0 : (t239 == 0) = false := beq_eq_false_iff_ne.mpr c3
  have c3b1 : (t239 != 0) = true := bne_iff_ne.mpr c3
  simp only [Option.some.injEq, Prod.mk.injEq] at H
  obtain ⟨rfl, rfl⟩ := H
  go_enter Try.func13, Try.ntmps13
  go_wp2_with (first | ((with_reducible refine gate_callee (f := 39) rfl ?_); refine gL_ (some 8) Try.func39 #[.string a0] ?_; (with_reducible refine (ancepsref01_Valid.calls k a0 t239 _ A2.out).mono ?_); rintro e w' ⟨rfl, ⟨nd, rfl⟩⟩; refine ⟨_, rfl, ?_⟩))
  go_ret2
  exact ⟨_, by first | rfl | (simp [errW_none, errW_some] <;> rfl) | (simp [*, errW_none, errW_some] <;> rfl), by first | exact Kd.R_nil _ _ _ _ _ | exact Kd.N_nil _ _ _ _ _ | exact Kd.V_nil _ _ _ _ _ | exact Kd.Q_nil _ _ _ _ _ | exact Kd.S_nil _ _ _ _ _, by repeat (first | (with_reducible first | exact HB.out | apply below_alloc | apply pw_below_drewN | apply below_drew1) | exact HB.out)⟩

/-! ### ancepsref01_Fold: function 41 -/
def ancepsref01_Fold.l0 : Nat → ByteArray → Int → List Int → Option (ByteArray)
 | 0, _, _, _ => none
 | k + 1, x0, x4, x7 => if x4 < (x0.size : Int) then (if 0 ≤ x4 then (if x4 < (x7.length : Int) then ((some (x7.set (x4 : Int).toNat (bt x0 x4) : List Int)).bind fun y252 => (if (bt x0 x4) ≥ 65 then (if (bt x0 x4) ≤ 90 then (ancepsref01_Fold.l0 k x0 (wrap64 (x4 + 1)) (y252.set (x4 : Int).toNat (((((bt x0 x4) - 65) % 256) + 97) % 256))) else (ancepsref01_Fold.l0 k x0 (wrap64 (x4 + 1)) y252)) else (ancepsref01_Fold.l0 k x0 (wrap64 (x4 + 1)) y252))) else (none)) else (none)) else (some (strOfNums x7))
def ancepsref01_Fold.f (k : Nat) (a0 : ByteArray) : Option (ByteArray) := if 0 ≤ (a0.size : Int) then (if ((a0.size : Int) : Int).toNat ≤ 281474976710656 then (ancepsref01_Fold.l0 k a0 0 (List.replicate ((a0.size : Int) : Int).toNat 0)) else (none)) else (none)
theorem ancepsref01_Fold.mono_l : ∀ k, (∀ y0 y1 y2, LeO (ancepsref01_Fold.l0 k y0 y1 y2) (ancepsref01_Fold.l0 (k + 1) y0 y1 y2))
 | 0 => fun _ _ _ r h => by simp [ancepsref01_Fold.l0] at h
 | k + 1 => by
  have ih0 := ancepsref01_Fold.mono_l k
  ·intro y0 y1 y2
   unfold ancepsref01_Fold.l0
   repeat' first
   | (with_reducible exact ih0 _ _ _)
   | (with_reducible exact LeO.refl _)
   | (with_reducible exact LeO.none _)
   | (with_reducible refine LeO.ite ?_ ?_)
   | (with_reducible refine LeO.bind ?_ (fun _ => ?_))
   | exact ih0 _ _ _
   | exact LeO.none _
   | refine LeO.ite ?_ ?_
   | refine LeO.bind ?_ (fun _ => ?_)
theorem ancepsref01_Fold.mono : ∀ a0 k, LeO (ancepsref01_Fold.f k a0) (ancepsref01_Fold.f (k + 1) a0) := by
 intro a0 k
 have ih0 := ancepsref01_Fold.mono_l k
 unfold ancepsref01_Fold.f
 repeat' first
   | (with_reducible exact ih0 _ _ _)
   | (with_reducible exact LeO.refl _)
   | (with_reducible exact LeO.none _)
   | (with_reducible refine LeO.ite ?_ ?_)
   | (with_reducible refine LeO.bind ?_ (fun _ => ?_))
   | exact ih0 _ _ _
   | exact LeO.none _
   | refine LeO.ite ?_ ?_
   | refine LeO.bind ?_ (fun _ => ?_)
set_option maxHeartbeats 8000000 in
set_option maxRecDepth 100000 in
theorem ancepsref01_Fold.calls (k : Nat) (a0 : ByteArray) (r : ByteArray) (w : World) (h : ancepsref01_Fold.f k a0 = some r) :
  Calls Try.prog 41 #[.string a0] w fun e w' => e = .returned (.string r) ∧ Below w.heap.size w w' := by
 have HB := Aside0.mk (Below.refl w.heap.size w)
 have H : (if 0 ≤ (a0.size : Int) then (if ((a0.size : Int) : Int).toNat ≤ 281474976710656 then (ancepsref01_Fold.l0 k a0 0 (List.replicate ((a0.size : Int) : Int).toNat 0)) else (none)) else (none)) = some r := h
 clear h
 by_cases c2 : 0 ≤ (a0.size : Int)
 ·rw [if_pos c2] at H
  have c2b0 := eq_true c2
  have c2b1 : decide (0 ≤ (a0.size : Int)) = true := decide_eq_true c2
  clear c2
  by_cases c3 : ((a0.size : Int) : Int).toNat ≤ 281474976710656
  ·rw [if_pos c3] at H
   have c3b0 := eq_true c3
   have c3b1 : decide (((a0.size : Int) : Int).toNat ≤ 281474976710656) = true := decide_eq_true c3
   clear c3
   obtain ⟨y249, hy249⟩ : ∃ y_ : List Int, y_ = (List.replicate ((a0.size : Int) : Int).toNat 0) := ⟨_, rfl⟩
   replace H : (ancepsref01_Fold.l0 k a0 0 y249) = some r := by first | (rw [hy249]; with_reducible exact H) | (have H2_ := (Option.bind_some _ _).symm.trans H; rw [hy249]; with_reducible exact H2_) | (have H2_ := (Option.bind_some _ _).symm.trans H; with_reducible exact H2_) | with_reducible exact H | (rw [hy249]; exact H) | exact H
   have Ny249 := Aside0.mk hy249
   clear hy249
   have H' := Aside0.mk H
   clear H
   go_enter Try.func41, Try.ntmps41
   go_wp2_with (first | ((with_reducible refine gate_dst (N := 7) rfl ?_); refine Kd.R_make (Kd.int .u8) _ 5 rfl (N := 7) rfl 93 _ _ rfl (a0.size : Int) rfl rfl Try.underlying93 (.int .u8 0) 1 info5 rfl (by decide) (by omega) 0 (ok := fun _ => True) (okp := fun _ => True) rfl (fun _ hk => hk) trivial (of_decide_eq_true (by first | (with_reducible assumption) | assumption)) (Nat.le_trans (Nat.mul_le_mul_right _ (of_decide_eq_true (by first | (with_reducible assumption) | assumption) : (a0.size : Int).toNat ≤ 281474976710656)) (by omega)) (Below.refl _ _) (Nat.le_refl _) ?_; intro v250 w4 ho5 hb hg_ hnew_; clear hg_ hnew_; (first | rw [← Ny249.out] at ho5 | (simp only [Int.reduceToNat] at ho5; rw [← Ny249.out] at ho5)); have n0_ := Aside0.mk (Kd.R_lower ho5 (below_size (iL HB))); have n1_ := jL HB hb; clear HB; have HO251 := n0_; have HB := n1_; clear n0_ n1_; clear hb ho5))
   go_loopg [4] k (fun kq v4 w' => ∃ (x4_1 : Int) (x7_1 : List Int), v4 = .int .i64 x4_1 ∧ Aside0 (ancepsref01_Fold.l0 kq a0 x4_1 x7_1 = some r) ∧ Aside0 (kq ≤ k) ∧ Aside0 (Kd.R (Kd.int .u8) 5 w' w.heap.size (fun _ => True) v250 x7_1) ∧ Aside0 (Below w.heap.size w w'))
   case atStart => exact ⟨(0), (y249), (by first | rfl | (simp; done) | (simp [*]; done)), H', ⟨Nat.le_refl _⟩, ⟨by (with_reducible repeat (first | apply Kd.R_alloc | apply Kd.R_drewN | apply Kd.R_drew)); exact HO251.out⟩, ⟨by repeat (first | (with_reducible first | exact HB.out | apply below_alloc | apply pw_below_drewN | apply below_drew1) | exact HB.out)⟩⟩
   case round =>
    clear H'
    try clear c2
    try clear c2b0
    try clear c2b1
    try clear p2
    try clear c3
    try clear c3b0
    try clear c3b1
    try clear c4
    obtain ⟨x4_1, x7_1, rfl, HA, HK1, HO_7, HB⟩ := hrel
    cases gk with
    | zero => exact absurd HA.out (by simp [ancepsref01_Fold.l0])
    | succ k1 =>
     have H := HA.out
     clear HA
     simp only [ancepsref01_Fold.l0] at H
     by_cases c6 : x4_1 < (a0.size : Int)
     ·rw [if_pos c6] at H
      have c6b0 : decide (x4_1 < (a0.size : Int)) = true := decide_eq_true c6
      clear c6
      by_cases c7 : 0 ≤ x4_1
      ·rw [if_pos c7] at H
       have c7b0 : decide (0 ≤ x4_1) = true := decide_eq_true c7
       clear c7
       by_cases c9 : x4_1 < (x7_1.length : Int)
       ·rw [if_pos c9] at H
        have c9b0 : decide (x4_1 < (x7_1.length : Int)) = true := decide_eq_true c9
        clear c9
        obtain ⟨y252, hy252⟩ : ∃ y_ : List Int, y_ = (x7_1.set (x4_1 : Int).toNat (bt a0 x4_1)) := ⟨_, rfl⟩
        replace H : (if (bt a0 x4_1) ≥ 65 then (if (bt a0 x4_1) ≤ 90 then (ancepsref01_Fold.l0 k1 a0 (wrap64 (x4_1 + 1)) (y252.set (x4_1 : Int).toNat (((((bt a0 x4_1) - 65) % 256) + 97) % 256))) else (ancepsref01_Fold.l0 k1 a0 (wrap64 (x4_1 + 1)) y252)) else (ancepsref01_Fold.l0 k1 a0 (wrap64 (x4_1 + 1)) y252)) = some r := by first | (rw [hy252]; with_reducible exact H) | (have H2_ := (Option.bind_some _ _).symm.trans H; rw [hy252]; with_reducible exact H2_) | (have H2_ := (Option.bind_some _ _).symm.trans H; with_reducible exact H2_) | with_reducible exact H | (rw [hy252]; exact H) | exact H
        have Ny252 := Aside0.mk hy252
        clear hy252
        by_cases c12 : (bt a0 x4_1) ≥ 65
        ·rw [if_pos c12] at H
         have c12b0 : decide (65 ≤ (bt a0 x4_1)) = true := decide_eq_true c12
         clear c12
         by_cases c14 : (bt a0 x4_1) ≤ 90
         ·rw [if_pos c14] at H
          have c14b0 : decide ((bt a0 x4_1) ≤ 90) = true := decide_eq_true c14
          clear c14
          obtain ⟨y253, hy253⟩ : ∃ y_ : List Int, y_ = (y252.set (x4_1 : Int).toNat (((((bt a0 x4_1) - 65) % 256) + 97) % 256)) := ⟨_, rfl⟩
          replace H : (ancepsref01_Fold.l0 k1 a0 (wrap64 (x4_1 + 1)) y253) = some r := by first | (rw [hy253]; with_reducible exact H) | (have H2_ := (Option.bind_some _ _).symm.trans H; rw [hy253]; with_reducible exact H2_) | (have H2_ := (Option.bind_some _ _).symm.trans H; with_reducible exact H2_) | with_reducible exact H | (rw [hy253]; exact H) | exact H
          have Ny253 := Aside0.mk hy253
          clear hy253
          have H' := Aside0.mk H
          clear H
          have p8 : 0 ≤ (x4_1 : Int) := of_decide_eq_true (by first | (with_reducible assumption) | assumption)
          have q8 : x4_1 < (a0.size : Int) := of_decide_eq_true (by first | (with_reducible assumption) | assumption)
          have hx8 := bt_at a0 x4_1
          replace p8 := eq_true p8
          replace q8 := eq_true q8
          have p10 : 0 ≤ (x4_1 : Int) := of_decide_eq_true (by first | (with_reducible assumption) | assumption)
          have q10 : (x4_1 : Int) < ((x7_1.length : Int) : Int) := of_decide_eq_true (by first | (with_reducible assumption) | assumption)
          obtain ⟨go10, co10, eo10, gb10, gl10, cl10, HG10⟩ := Kd.R_form HO_7.out (by omega)
          (first | cases eo10 | (injection eo10 with ea_ en_ ec_; (first | subst ea_ | (injection ea_ with ea_; subst ea_)); subst ec_; clear en_))
          have GB10 := Aside0.mk gb10
          have GG10 := Aside0.mk HG10
          clear gb10 gl10 HG10
          obtain ⟨hx10_0, hf10_0⟩ := Kd.R_celln 0 HO_7.out (x4_1 : Int) p10 q10
          replace p10 := eq_true p10
          replace q10 := eq_true q10
          have HP17 := Kd.R_putg HO_7.out (x4_1 : Int) (bt a0 x4_1)
          go_wp2_with (first | ((with_reducible refine gate_store (t := 5) (p := 19) rfl ?_); refine store_event (t := 5) (p := 19) (v := ?vo_w18) (w1 := (wr.setCell ⟨go10, (x4_1 : Int).toNat, none⟩ (.int .u8 (bt a0 x4_1)))) ?hg ?ho ?hn ?hr ?_; (case ho => rfl); (case hg => rfl); (case hn => rfl); (case hr => first | (go_simp; done) | (go_simp; rfl)); intro w18 hw; have hg : wr.grownBy w18 (some go10) := (by rw [hw]; exact HP17.2); have hp_ : Kd.R (Kd.int .u8) 5 w18 w.heap.size (fun _ => True) (.slice (some ⟨go10, 0, none⟩) x7_1.length co10) y252 := (by rw [hw, Ny252.out]; exact HP17.1); clear HP17; have n0_ := Aside0.mk (hp_); have n1_ := Aside0.mk ((by rw [hw]; exact below_set (HB.out) GB10.out : Below w.heap.size w w18)); clear HO_7; clear HB; have HO_7 := n0_; have HB := n1_; clear n0_ n1_; clear hg hw hp_; have p11 : 0 ≤ (x4_1 : Int) := of_decide_eq_true (by first | (with_reducible assumption) | assumption); have q11 : x4_1 < (a0.size : Int) := of_decide_eq_true (by first | (with_reducible assumption) | assumption); have hx11 := bt_at a0 x4_1; replace p11 := eq_true p11; replace q11 := eq_true q11; have p13 : 0 ≤ (x4_1 : Int) := of_decide_eq_true (by first | (with_reducible assumption) | assumption); have q13 : x4_1 < (a0.size : Int) := of_decide_eq_true (by first | (with_reducible assumption) | assumption); have hx13 := bt_at a0 x4_1; replace p13 := eq_true p13; replace q13 := eq_true q13; have p15 : 0 ≤ (x4_1 : Int) := of_decide_eq_true (by first | (with_reducible assumption) | assumption); have q15 : x4_1 < (a0.size : Int) := of_decide_eq_true (by first | (with_reducible assumption) | assumption); have hx15 := bt_at a0 x4_1; replace p15 := eq_true p15; replace q15 := eq_true q15; have p16 : 0 ≤ (x4_1 : Int) := of_decide_eq_true (by first | (with_reducible assumption) | assumption); have q16 : (x4_1 : Int) < ((x7_1.length : Int) : Int) := of_decide_eq_true (by first | (with_reducible assumption) | assumption); obtain ⟨hx16_0, hf16_0⟩ := Kd.R_celln 0 HO_7.out (x4_1 : Int) p16 q16; replace p16 := eq_true p16; replace q16 := eq_true q16; obtain ⟨hy19_, hz19_⟩ := Kd.R_celln 0 HO_7.out (x4_1 : Int) (of_decide_eq_true (by first | (with_reducible assumption) | assumption)) (of_decide_eq_true (by first | (with_reducible assumption) | assumption)); have HP19 := Kd.R_putg HO_7.out (x4_1 : Int) (((((bt a0 x4_1) - 65) % 256) + 97) % 256)) | ((with_reducible refine gate_store (t := 5) (p := 37) rfl ?_); refine store_event (t := 5) (p := 37) (v := ?vo_w20) (w1 := (w18.setCell ⟨go10, (x4_1 : Int).toNat, none⟩ (.int .u8 (((((bt a0 x4_1) - 65) % 256) + 97) % 256)))) ?hg ?ho ?hn ?hr ?_; (case ho => rfl); (case hg => rfl); (case hn => rfl); (case hr => first | (go_simp; done) | (go_simp; rfl)); intro w20 hw; have hg : w18.grownBy w20 (some go10) := (by rw [hw]; exact HP19.2); have hp_ : Kd.R (Kd.int .u8) 5 w20 w.heap.size (fun _ => True) (.slice (some ⟨go10, 0, none⟩) x7_1.length co10) y253 := (by rw [hw, Ny253.out]; exact HP19.1); clear HP19; have n0_ := Aside0.mk (hp_); have n1_ := Aside0.mk ((by rw [hw]; exact below_set (HB.out) GB10.out : Below w.heap.size w w20)); clear HO_7; clear HB; have HO_7 := n0_; have HB := n1_; clear n0_ n1_; clear hg hw hp_))
          go_roundg k1
          case measure => have := HK1.out; omega
          case rel => exact ⟨(wrap64 (x4_1 + 1)), (y253), (by first | rfl | (simp; done) | (simp [*]; done)), H', ⟨by have := HK1.out; omega⟩, ⟨by (with_reducible repeat (first | apply Kd.R_alloc | apply Kd.R_drewN | apply Kd.R_drew)); exact HO_7.out⟩, ⟨by repeat (first | (with_reducible first | exact HB.out | apply below_alloc | apply pw_below_drewN | apply below_drew1) | exact HB.out)⟩⟩
         ·rw [if_neg c14] at H
          have c14b0 : decide ((bt a0 x4_1) ≤ 90) = false := decide_eq_false c14
          clear c14
          have H' := Aside0.mk H
          clear H
          have p8 : 0 ≤ (x4_1 : Int) := of_decide_eq_true (by first | (with_reducible assumption) | assumption)
          have q8 : x4_1 < (a0.size : Int) := of_decide_eq_true (by first | (with_reducible assumption) | assumption)
          have hx8 := bt_at a0 x4_1
          replace p8 := eq_true p8
          replace q8 := eq_true q8
          have p10 : 0 ≤ (x4_1 : Int) := of_decide_eq_true (by first | (with_reducible assumption) | assumption)
          have q10 : (x4_1 : Int) < ((x7_1.length : Int) : Int) := of_decide_eq_true (by first | (with_reducible assumption) | assumption)
          obtain ⟨go10, co10, eo10, gb10, gl10, cl10, HG10⟩ := Kd.R_form HO_7.out (by omega)
          (first | cases eo10 | (injection eo10 with ea_ en_ ec_; (first | subst ea_ | (injection ea_ with ea_; subst ea_)); subst ec_; clear en_))
          have GB10 := Aside0.mk gb10
          have GG10 := Aside0.mk HG10
          clear gb10 gl10 HG10
          obtain ⟨hx10_0, hf10_0⟩ := Kd.R_celln 0 HO_7.out (x4_1 : Int) p10 q10
          replace p10 := eq_true p10
          replace q10 := eq_true q10
          have HP21 := Kd.R_putg HO_7.out (x4_1 : Int) (bt a0 x4_1)
          go_wp2_with (first | ((with_reducible refine gate_store (t := 5) (p := 19) rfl ?_); refine store_event (t := 5) (p := 19) (v := ?vo_w22) (w1 := (wr.setCell ⟨go10, (x4_1 : Int).toNat, none⟩ (.int .u8 (bt a0 x4_1)))) ?hg ?ho ?hn ?hr ?_; (case ho => rfl); (case hg => rfl); (case hn => rfl); (case hr => first | (go_simp; done) | (go_simp; rfl)); intro w22 hw; have hg : wr.grownBy w22 (some go10) := (by rw [hw]; exact HP21.2); have hp_ : Kd.R (Kd.int .u8) 5 w22 w.heap.size (fun _ => True) (.slice (some ⟨go10, 0, none⟩) x7_1.length co10) y252 := (by rw [hw, Ny252.out]; exact HP21.1); clear HP21; have n0_ := Aside0.mk (hp_); have n1_ := Aside0.mk ((by rw [hw]; exact below_set (HB.out) GB10.out : Below w.heap.size w w22)); clear HO_7; clear HB; have HO_7 := n0_; have HB := n1_; clear n0_ n1_; clear hg hw hp_; have p11 : 0 ≤ (x4_1 : Int) := of_decide_eq_true (by first | (with_reducible assumption) | assumption); have q11 : x4_1 < (a0.size : Int) := of_decide_eq_true (by first | (with_reducible assumption) | assumption); have hx11 := bt_at a0 x4_1; replace p11 := eq_true p11; replace q11 := eq_true q11; have p13 : 0 ≤ (x4_1 : Int) := of_decide_eq_true (by first | (with_reducible assumption) | assumption); have q13 : x4_1 < (a0.size : Int) := of_decide_eq_true (by first | (with_reducible assumption) | assumption); have hx13 := bt_at a0 x4_1; replace p13 := eq_true p13; replace q13 := eq_true q13))
          go_roundg k1
          case measure => have := HK1.out; omega
          case rel => exact ⟨(wrap64 (x4_1 + 1)), (y252), (by first | rfl | (simp; done) | (simp [*]; done)), H', ⟨by have := HK1.out; omega⟩, ⟨by (with_reducible repeat (first | apply Kd.R_alloc | apply Kd.R_drewN | apply Kd.R_drew)); exact HO_7.out⟩, ⟨by repeat (first | (with_reducible first | exact HB.out | apply below_alloc | apply pw_below_drewN | apply below_drew1) | exact HB.out)⟩⟩
        ·rw [if_neg c12] at H
         have c12b0 : decide (65 ≤ (bt a0 x4_1)) = false := decide_eq_false c12
         clear c12
         have H' := Aside0.mk H
         clear H
         have p8 : 0 ≤ (x4_1 : Int) := of_decide_eq_true (by first | (with_reducible assumption) | assumption)
         have q8 : x4_1 < (a0.size : Int) := of_decide_eq_true (by first | (with_reducible assumption) | assumption)
         have hx8 := bt_at a0 x4_1
         replace p8 := eq_true p8
         replace q8 := eq_true q8
         have p10 : 0 ≤ (x4_1 : Int) := of_decide_eq_true (by first | (with_reducible assumption) | assumption)
         have q10 : (x4_1 : Int) < ((x7_1.length : Int) : Int) := of_decide_eq_true (by first | (with_reducible assumption) | assumption)
         obtain ⟨go10, co10, eo10, gb10, gl10, cl10, HG10⟩ := Kd.R_form HO_7.out (by omega)
         (first | cases eo10 | (injection eo10 with ea_ en_ ec_; (first | subst ea_ | (injection ea_ with ea_; subst ea_)); subst ec_; clear en_))
         have GB10 := Aside0.mk gb10
         have GG10 := Aside0.mk HG10
         clear gb10 gl10 HG10
         obtain ⟨hx10_0, hf10_0⟩ := Kd.R_celln 0 HO_7.out (x4_1 : Int) p10 q10
         replace p10 := eq_true p10
         replace q10 := eq_true q10
         have HP23 := Kd.R_putg HO_7.out (x4_1 : Int) (bt a0 x4_1)
         go_wp2_with (first | ((with_reducible refine gate_store (t := 5) (p := 19) rfl ?_); refine store_event (t := 5) (p := 19) (v := ?vo_w24) (w1 := (wr.setCell ⟨go10, (x4_1 : Int).toNat, none⟩ (.int .u8 (bt a0 x4_1)))) ?hg ?ho ?hn ?hr ?_; (case ho => rfl); (case hg => rfl); (case hn => rfl); (case hr => first | (go_simp; done) | (go_simp; rfl)); intro w24 hw; have hg : wr.grownBy w24 (some go10) := (by rw [hw]; exact HP23.2); have hp_ : Kd.R (Kd.int .u8) 5 w24 w.heap.size (fun _ => True) (.slice (some ⟨go10, 0, none⟩) x7_1.length co10) y252 := (by rw [hw, Ny252.out]; exact HP23.1); clear HP23; have n0_ := Aside0.mk (hp_); have n1_ := Aside0.mk ((by rw [hw]; exact below_set (HB.out) GB10.out : Below w.heap.size w w24)); clear HO_7; clear HB; have HO_7 := n0_; have HB := n1_; clear n0_ n1_; clear hg hw hp_; have p11 : 0 ≤ (x4_1 : Int) := of_decide_eq_true (by first | (with_reducible assumption) | assumption); have q11 : x4_1 < (a0.size : Int) := of_decide_eq_true (by first | (with_reducible assumption) | assumption); have hx11 := bt_at a0 x4_1; replace p11 := eq_true p11; replace q11 := eq_true q11))
         go_roundg k1
         case measure => have := HK1.out; omega
         case rel => exact ⟨(wrap64 (x4_1 + 1)), (y252), (by first | rfl | (simp; done) | (simp [*]; done)), H', ⟨by have := HK1.out; omega⟩, ⟨by (with_reducible repeat (first | apply Kd.R_alloc | apply Kd.R_drewN | apply Kd.R_drew)); exact HO_7.out⟩, ⟨by repeat (first | (with_reducible first | exact HB.out | apply below_alloc | apply pw_below_drewN | apply below_drew1) | exact HB.out)⟩⟩
       ·rw [if_neg c9] at H
        exact absurd H (by simp)
      ·rw [if_neg c7] at H
       exact absurd H (by simp)
     ·rw [if_neg c6] at H
      have c6b0 : decide (x4_1 < (a0.size : Int)) = false := decide_eq_false c6
      clear c6
      obtain rfl := Option.some.inj H
      have hcv25 := own_string (P := Try.prog) Try.underlying93 Try.underlying5 Try.underlying9 (Kd.own_of_R HO_7.out)
      go_wp2
      go_ret
      exact ⟨by first | rfl | (simp [errW_none, errW_some] <;> rfl) | (simp [*, errW_none, errW_some] <;> rfl), by repeat (first | (with_reducible first | exact HB.out | apply below_alloc | apply pw_below_drewN | apply below_drew1) | exact HB.out)⟩
  ·rw [if_neg c3] at H
   exact absurd H (by simp)
 ·rw [if_neg c2] at H
  exact absurd H (by simp)

end Go.Proofs.Ytmjigfoldeekmaa.X
