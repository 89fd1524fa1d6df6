-- and more
-- shortened
-- thinned
-- halved indents
-- printed by this session's xprint.py: out of the translation, by the kit's print with additions; Lean checks it
import Derived.Test.YtmjigfoldeekmaaXE
import Derived.Test.YtmjigfoldeekmaaWN
import Derived.Test.YtmjigfoldeekmaaWShare
import Derived.Test.YtmjigfoldeekmaaWRepsOne
import Derived.Test.YtmjigfoldeekmaaX0
import Derived.Test.YtmjigfoldeekmaaXA
namespace Go.Proofs.Ytmjigfoldeekmaa.X
open Go.RowKit Go.Proofs.YtmjigfoldeekmaaW.PrintWords Go.Proofs.YtmjigfoldeekmaaW.PrintLast Go.Proofs.YtmjigfoldeekmaaW.PrintMore
attribute [local go_sem] max2_int min2_int max_two min_two max_three min_three max_four min_four isSome_setCell binOp_gtr_str binOp_leq_str binOp_geq_str   -- for this text's walks alone
set_option linter.unusedVariables false
set_option linter.unusedSimpArgs false

/-! ### text_Valid: function 46 -/
def text_Valid.l0 : Nat → List Int → Int → Int → Option (Int)
 | 0, _, _, _ => none
 | k + 1, x9, x10, x11 => if x11 < x10 then (if 0 ≤ x11 then (if x11 < (x9.length : Int) then (if (rd x9 x11) < 32 then (some 2) else (if (rd x9 x11) > 126 then (some 2) else (text_Valid.l0 k x9 x10 (wrap64 (x11 + 1))))) else (none)) else (none)) else (some 0)
def text_Valid.f (k : Nat) (a0 : ByteArray) : Option (Int) := if (a0.size : Int) > 120 then (some 3) else (if a0.size ≤ 140737488355328 then ((some (bytesOf a0 : List Int)).bind fun y101 => (text_Valid.l0 k y101 (y101.length : Int) 0)) else (none))
theorem text_Valid.mono_l : ∀ k, (∀ y0 y1 y2, LeO (text_Valid.l0 k y0 y1 y2) (text_Valid.l0 (k + 1) y0 y1 y2))
 | 0 => fun _ _ _ r h => by simp [text_Valid.l0] at h
 | k + 1 => by
  have ih0 := text_Valid.mono_l k
  ·intro y0 y1 y2
   unfold text_Valid.l0
   repeat' first
   | (with_reducible exact ih0 _ _ _)
   | (with_reducible exact LeO.refl _)
   | (with_reducible exact LeO.none _)
   | (with_reducible refine LeO.ite ?_ ?_)
   | (with_reducible refine LeO.bind ?_ (fun _ => ?_))
   | exact ih0 _ _ _
   | exact LeO.none _
   | refine LeO.ite ?_ ?_
   | refine LeO.bind ?_ (fun _ => ?_)
theorem text_Valid.mono : ∀ a0 k, LeO (text_Valid.f k a0) (text_Valid.f (k + 1) a0) := by
 intro a0 k
 have ih0 := text_Valid.mono_l k
 unfold text_Valid.f
 repeat' first
   | (with_reducible exact ih0 _ _ _)
   | (with_reducible exact LeO.refl _)
   | (with_reducible exact LeO.none _)
   | (with_reducible refine LeO.ite ?_ ?_)
   | (with_reducible refine LeO.bind ?_ (fun _ => ?_))
   | exact ih0 _ _ _
   | exact LeO.none _
   | refine LeO.ite ?_ ?_
   | refine LeO.bind ?_ (fun _ => ?_)
set_option maxHeartbeats 8000000 in
set_option maxRecDepth 100000 in
theorem text_Valid.calls (k : Nat) (a0 : ByteArray) (r : Int) (w : World) (h : text_Valid.f k a0 = some r) :
  Calls Try.prog 46 #[.string a0] w fun e w' => e = .returned (.int .i64 r) ∧ Below w.heap.size w w' := by
 have HB := Aside0.mk (Below.refl w.heap.size w)
 have H : (if (a0.size : Int) > 120 then (some 3) else (if a0.size ≤ 140737488355328 then ((some (bytesOf a0 : List Int)).bind fun y101 => (text_Valid.l0 k y101 (y101.length : Int) 0)) else (none))) = some r := h
 clear h
 by_cases c2 : (a0.size : Int) > 120
 ·rw [if_pos c2] at H
  have c2b0 : decide (120 < (a0.size : Int)) = true := decide_eq_true c2
  have c2b1 : decide (120 < a0.size) = true := decide_eq_true (by omega)
  clear c2
  obtain rfl := Option.some.inj H
  go_enter Try.func46, Try.ntmps46
  go_wp2
  go_ret
  exact ⟨eV, iL HB⟩
 ·rw [if_neg c2] at H
  have c2b0 : decide (120 < (a0.size : Int)) = false := decide_eq_false c2
  have c2b1 : decide (120 < a0.size) = false := decide_eq_false (by omega)
  clear c2
  by_cases c3 : a0.size ≤ 140737488355328
  ·rw [if_pos c3] at H
   have c3b0 := eq_true c3
   have c3b1 : decide (a0.size ≤ 140737488355328) = true := decide_eq_true c3
   clear c3
   obtain ⟨y101, hy101⟩ : ∃ y_ : List Int, y_ = (bytesOf a0) := ⟨_, rfl⟩
   replace H : (text_Valid.l0 k y101 (y101.length : Int) 0) = some r := by first | (rw [hy101]; with_reducible exact H) | (have H2_ := (Option.bind_some _ _).symm.trans H; rw [hy101]; with_reducible exact H2_) | (have H2_ := (Option.bind_some _ _).symm.trans H; with_reducible exact H2_) | with_reducible exact H | (rw [hy101]; exact H) | exact H
   have Ny101 := Aside0.mk hy101
   clear hy101
   have H' := Aside0.mk H
   clear H
   go_enter Try.func46, Try.ntmps46
   go_wp2_with (first | ((with_reducible refine gate_dst (N := 9) rfl ?_); refine Kd.B_conv _ 5 rfl (N := 9) rfl 9 93 _ rfl a0 rfl Try.underlying9 Try.underlying93 Try.underlying5 (ok := fun _ => True) trivial (Nat.le_trans (of_decide_eq_true (by first | (with_reducible assumption) | assumption) : a0.size ≤ 140737488355328) (by decide)) (Below.refl _ _) (Nat.le_refl _) ?_; intro v102 w4 ho5 hb hg_ hnew_; clear hg_ hnew_; (first | rw [← Ny101.out] at ho5 | (simp only [Int.reduceToNat] at ho5; rw [← Ny101.out] at ho5)); have n0_ := Aside0.mk (Kd.B_lower ho5 (below_size (iL HB))); have n1_ := jL HB hb; clear HB; have HO103 := n0_; have HB := n1_; clear n0_ n1_; clear hb ho5; obtain ⟨Ao6, co6, eo6⟩ := Kd.B_slice HO103.out; subst eo6))
   go_loopg [11] k (fun kq v11 w' => ∃ (x11_1 : Int), v11 = .int .i64 x11_1 ∧ Aside0 (text_Valid.l0 kq y101 (y101.length : Int) x11_1 = some r) ∧ Aside0 (kq ≤ k) ∧ Aside0 (Kd.B (Kd.int .u8) 5 w' w.heap.size (fun _ => True) (.slice Ao6 y101.length co6) y101) ∧ Aside0 (Below w.heap.size w w'))
   case atStart => exact ⟨(0), eV, H', ⟨Nat.le_refl _⟩, ⟨by (with_reducible repeat (first | apply Kd.B_alloc | apply Kd.B_drewN | apply Kd.B_drew)); exact HO103.out⟩, ⟨iL HB⟩⟩
   case round =>
    clear H'
    (try clear c2); (try clear c2b0); (try clear c2b1); (try clear p2); (try clear c3); (try clear c3b0); (try clear c3b1); (try clear c4)
    obtain ⟨x11_1, rfl, HA, HK1, HO_9, HB⟩ := hrel
    cases gk with
    | zero => exact absurd HA.out (by simp [text_Valid.l0])
    | succ k1 =>
     have H := HA.out
     clear HA
     simp only [text_Valid.l0] at H
     by_cases c7 : x11_1 < (y101.length : Int)
     ·rw [if_pos c7] at H
      have c7b0 : decide (x11_1 < (y101.length : Int)) = true := decide_eq_true c7
      clear c7
      by_cases c8 : 0 ≤ x11_1
      ·rw [if_pos c8] at H
       have c8b0 : decide (0 ≤ x11_1) = true := decide_eq_true c8
       clear c8
       by_cases c9 : x11_1 < (y101.length : Int)
       ·rw [if_pos c9] at H
        have c9b0 : decide (x11_1 < (y101.length : Int)) = true := decide_eq_true c9
        clear c9
        by_cases c10 : (rd y101 x11_1) < 32
        ·rw [if_pos c10] at H
         have c10b0 : decide ((rd y101 x11_1) < 32) = true := decide_eq_true c10
         clear c10
         obtain rfl := Option.some.inj H
         have p104 := oD (0 ≤ (x11_1 : Int))
         have q104 := oD (x11_1 < (y101.length : Int))
         obtain ⟨ad104, e104, hx104_0⟩ := Kd.at_int (Kd.B_reads' HO_9.out).2.2 x11_1 p104 q104
         cases e104
         replace p104 := eq_true p104
         replace q104 := eq_true q104
         go_wp2
         go_ret
         exact ⟨eV, iL HB⟩
        ·rw [if_neg c10] at H
         have c10b0 : decide ((rd y101 x11_1) < 32) = false := decide_eq_false c10
         clear c10
         by_cases c11 : (rd y101 x11_1) > 126
         ·rw [if_pos c11] at H
          have c11b0 : decide (126 < (rd y101 x11_1)) = true := decide_eq_true c11
          clear c11
          obtain rfl := Option.some.inj H
          have p104 := oD (0 ≤ (x11_1 : Int))
          have q104 := oD (x11_1 < (y101.length : Int))
          obtain ⟨ad104, e104, hx104_0⟩ := Kd.at_int (Kd.B_reads' HO_9.out).2.2 x11_1 p104 q104
          cases e104
          replace p104 := eq_true p104
          replace q104 := eq_true q104
          go_wp2
          go_ret
          exact ⟨eV, iL HB⟩
         ·rw [if_neg c11] at H
          have c11b0 : decide (126 < (rd y101 x11_1)) = false := decide_eq_false c11
          clear c11
          have H' := Aside0.mk H
          clear H
          have p104 := oD (0 ≤ (x11_1 : Int))
          have q104 := oD (x11_1 < (y101.length : Int))
          obtain ⟨ad104, e104, hx104_0⟩ := Kd.at_int (Kd.B_reads' HO_9.out).2.2 x11_1 p104 q104
          cases e104
          replace p104 := eq_true p104
          replace q104 := eq_true q104
          go_wp2
          go_roundg k1
          case measure => have := HK1.out; omega
          case rel => exact ⟨(wrap64 (x11_1 + 1)), eV, H', ⟨by have := HK1.out; omega⟩, ⟨by (with_reducible repeat (first | apply Kd.B_alloc | apply Kd.B_drewN | apply Kd.B_drew)); exact HO_9.out⟩, ⟨iL HB⟩⟩
       ·rw [if_neg c9] at H
        exact absurd H (by simp)
      ·rw [if_neg c8] at H
       exact absurd H (by simp)
     ·rw [if_neg c7] at H
      have c7b0 : decide (x11_1 < (y101.length : Int)) = false := decide_eq_false c7
      clear c7
      obtain rfl := Option.some.inj H
      go_wp2
      go_ret
      exact ⟨eV, iL HB⟩
  ·rw [if_neg c3] at H
   exact absurd H (by simp)

/-! ### strings_IndexByte: function 76 -/
def strings_IndexByte.f (a0 : ByteArray) (a1 : Int) : Option (Int) := some (Lib.indexByte a0.data.toList a1.toNat.toUInt8)
theorem strings_IndexByte.calls (a0 : ByteArray) (a1 : Int) (r : Int) (w : World) (h : strings_IndexByte.f a0 a1 = some r) :
  Calls Try.prog 76 #[.string a0, .int .u8 a1] w fun e w' => e = .returned (.int .i64 r) ∧ Drawn0 w w' := by
 obtain rfl := Option.some.inj h
 exact (Try.strings_IndexByte a0 a1 w).mono fun e w' ⟨he, hw⟩ => ⟨he, hw ▸ Drawn0.refl _⟩

/-! ### text_letter: function 71 -/
def text_letter.f (a0 : Int) : Option (Bool) := if a0 ≥ 32 then (if a0 ≤ 126 then ((strings_IndexByte.f (⟨#[32, 46, 44, 59, 58, 33, 63, 34, 45, 91, 93, 60, 62, 123, 125]⟩ : ByteArray) a0).bind fun t105 => (some (decide (t105 < 0)))) else (some false)) else (some false)
set_option maxHeartbeats 8000000 in
set_option maxRecDepth 100000 in
theorem text_letter.calls (a0 : Int) (r : Bool) (w : World) (h : text_letter.f a0 = some r) :
  Calls Try.prog 71 #[.int .u8 a0] w fun e w' => e = .returned (.bool r) ∧ Drawn0 w w' := by
 have H : (if a0 ≥ 32 then (if a0 ≤ 126 then ((strings_IndexByte.f (⟨#[32, 46, 44, 59, 58, 33, 63, 34, 45, 91, 93, 60, 62, 123, 125]⟩ : ByteArray) a0).bind fun t105 => (some (decide (t105 < 0)))) else (some false)) else (some false)) = some r := h
 clear h
 by_cases c2 : a0 ≥ 32
 ·rw [if_pos c2] at H
  have c2b0 : decide (32 ≤ a0) = true := decide_eq_true c2
  clear c2
  by_cases c3 : a0 ≤ 126
  ·rw [if_pos c3] at H
   have c3b0 : decide (a0 ≤ 126) = true := decide_eq_true c3
   clear c3
   replace H := Option.bind_eq_some_iff.mp H
   obtain ⟨t105, A40, H⟩ := H
   replace H : (some (decide (t105 < 0))) = some r := H
   have A4 := Aside0.mk A40
   clear A40
   obtain rfl := Option.some.inj H
   go_enter Try.func71, Try.ntmps71
   go_wp2_with (first | (go_at_call 76; (with_reducible refine (strings_IndexByte.calls (⟨#[32, 46, 44, 59, 58, 33, 63, 34, 45, 91, 93, 60, 62, 123, 125]⟩ : ByteArray) a0 t105 _ A4.out).mono ?_); rintro e w' ⟨rfl, ⟨nd, rfl⟩⟩))
   go_ret
   exact ⟨eV, dR⟩
  ·rw [if_neg c3] at H
   have c3b0 : decide (a0 ≤ 126) = false := decide_eq_false c3
   clear c3
   obtain rfl := Option.some.inj H
   go_enter Try.func71, Try.ntmps71
   go_wp2
   go_ret
   exact ⟨eV, dR⟩
 ·rw [if_neg c2] at H
  have c2b0 : decide (32 ≤ a0) = false := decide_eq_false c2
  clear c2
  obtain rfl := Option.some.inj H
  go_enter Try.func71, Try.ntmps71
  go_wp2
  go_ret
  exact ⟨eV, dR⟩

/-! ### text_Words: function 62 -/
def text_Words.l0 : Nat → List (S74) → List Int → Int → Int → Option ((List (S74)) × Int)
 | 0, _, _, _, _ => none
 | k + 1, x5, x15, x16, x17 => if x17 < x16 then (if 0 ≤ x17 then (if x17 < (x15.length : Int) then ((text_letter.f (rd x15 x17)).bind fun t111 => (if t111 = true then (if (x5.length : Int) > 0 then (if 0 ≤ (wrap64 ((x5.length : Int) - 1)) then (if (wrap64 ((x5.length : Int) - 1)) < (x5.length : Int) then (if ((rd_T74 x5 (wrap64 ((x5.length : Int) - 1))).f1) = x17 then (text_Words.l0 k (x5.set ((wrap64 ((x5.length : Int) - 1)) : Int).toNat (⟨(rd_T74 x5 (wrap64 ((x5.length : Int) - 1))).f0, wrap64 (((rd_T74 x5 (wrap64 ((x5.length : Int) - 1))).f1) + 1)⟩ : S74)) x15 x16 (wrap64 (x17 + 1))) else (if x5.length < 8796093022208 then (text_Words.l0 k (x5 ++ [(⟨x17, wrap64 (x17 + 1)⟩ : S74)]) x15 x16 (wrap64 (x17 + 1))) else (none))) else (none)) else (none)) else (if x5.length < 8796093022208 then (text_Words.l0 k (x5 ++ [(⟨x17, wrap64 (x17 + 1)⟩ : S74)]) x15 x16 (wrap64 (x17 + 1))) else (none))) else (text_Words.l0 k x5 x15 x16 (wrap64 (x17 + 1))))) else (none)) else (none)) else (some (x5, 0))
def text_Words.f (k : Nat) (a0 : ByteArray) : Option ((List (S74)) × Int) := (text_Valid.f k a0).bind fun t106 => (if t106 = 0 then (if a0.size ≤ 140737488355328 then ((some (bytesOf a0 : List Int)).bind fun y107 => (text_Words.l0 k ([] : List (S74)) y107 (y107.length : Int) 0)) else (none)) else (some (([] : List (S74)), t106)))
theorem text_Words.mono_l : ∀ k, (∀ y0 y1 y2 y3, LeO (text_Words.l0 k y0 y1 y2 y3) (text_Words.l0 (k + 1) y0 y1 y2 y3))
 | 0 => fun _ _ _ _ r h => by simp [text_Words.l0] at h
 | k + 1 => by
  have ih0 := text_Words.mono_l k
  ·intro y0 y1 y2 y3
   unfold text_Words.l0
   repeat' first
   | (with_reducible exact ih0 _ _ _ _)
   | (with_reducible exact text_Valid.mono _ _)
   | (with_reducible exact LeO.refl _)
   | (with_reducible exact LeO.none _)
   | (with_reducible refine LeO.ite ?_ ?_)
   | (with_reducible refine LeO.bind ?_ (fun _ => ?_))
   | exact ih0 _ _ _ _
   | exact text_Valid.mono _ _
   | exact LeO.none _
   | refine LeO.ite ?_ ?_
   | refine LeO.bind ?_ (fun _ => ?_)
theorem text_Words.mono : ∀ a0 k, LeO (text_Words.f k a0) (text_Words.f (k + 1) a0) := by
 intro a0 k
 have ih0 := text_Words.mono_l k
 unfold text_Words.f
 repeat' first
   | (with_reducible exact ih0 _ _ _ _)
   | (with_reducible exact text_Valid.mono _ _)
   | (with_reducible exact LeO.refl _)
   | (with_reducible exact LeO.none _)
   | (with_reducible refine LeO.ite ?_ ?_)
   | (with_reducible refine LeO.bind ?_ (fun _ => ?_))
   | exact ih0 _ _ _ _
   | exact text_Valid.mono _ _
   | exact LeO.none _
   | refine LeO.ite ?_ ?_
   | refine LeO.bind ?_ (fun _ => ?_)
set_option maxHeartbeats 8000000 in
set_option maxRecDepth 100000 in
theorem text_Words.calls (k : Nat) (a0 : ByteArray) (r1 : List (S74)) (r2 : Int) (w : World) (h : text_Words.f k a0 = some (r1, r2)) :
  Calls Try.prog 62 #[.string a0] w fun e w' => ∃ v0_ : Value, e = .returned (.tuple #[v0_, .int .i64 r2]) ∧ Kd.R k74 74 w' w.heap.size (fun _ => True) v0_ r1 ∧ Below w.heap.size w w' := by
 have hu74 := Try.underlying74
 have HB := Aside0.mk (Below.refl w.heap.size w)
 have H : ((text_Valid.f k a0).bind fun t106 => (if t106 = 0 then (if a0.size ≤ 140737488355328 then ((some (bytesOf a0 : List Int)).bind fun y107 => (text_Words.l0 k ([] : List (S74)) y107 (y107.length : Int) 0)) else (none)) else (some (([] : List (S74)), t106)))) = some (r1, r2) := h
 clear h
 replace H := Option.bind_eq_some_iff.mp H
 obtain ⟨t106, A20, H⟩ := H
 try dsimp only at H
 have A2 := Aside0.mk A20
 clear A20
 by_cases c3 : t106 = 0
 ·rw [if_pos c3] at H
  have c3b0 : (t106 == 0) = true := beq_iff_eq.mpr c3
  have c3b1 : (t106 != 0) = false := bne_eq_false_iff_eq.mpr c3
  clear c3
  by_cases c4 : a0.size ≤ 140737488355328
  ·rw [if_pos c4] at H
   have c4b0 := eq_true c4
   have c4b1 : decide (a0.size ≤ 140737488355328) = true := decide_eq_true c4
   clear c4
   obtain ⟨y107, hy107⟩ : ∃ y_ : List Int, y_ = (bytesOf a0) := ⟨_, rfl⟩
   replace H : (text_Words.l0 k ([] : List (S74)) y107 (y107.length : Int) 0) = some (r1, r2) := by first | (rw [hy107]; with_reducible exact H) | (have H2_ := (Option.bind_some _ _).symm.trans H; rw [hy107]; with_reducible exact H2_) | (have H2_ := (Option.bind_some _ _).symm.trans H; with_reducible exact H2_) | with_reducible exact H | (rw [hy107]; exact H) | exact H
   have Ny107 := Aside0.mk hy107
   clear hy107
   have H' := Aside0.mk H
   clear H
   go_enter Try.func62, Try.ntmps62
   go_wp2_with (first | ((with_reducible refine gate_callee (f := 46) rfl ?_); refine gL_ (some 10) Try.func46 #[.string a0] ?_; (with_reducible refine (text_Valid.calls k a0 t106 _ A2.out).mono ?_); rintro e w5 ⟨rfl, hb⟩; refine ⟨_, rfl, ?_⟩; have n0_ := jL HB hb; clear HB; have HB := n0_; clear n0_; (try clear hb)) | ((with_reducible refine gate_dst (N := 15) rfl ?_); refine Kd.B_conv _ 5 rfl (N := 15) rfl 9 93 _ rfl a0 rfl Try.underlying9 Try.underlying93 Try.underlying5 (ok := fun _ => True) trivial (Nat.le_trans (of_decide_eq_true (by first | (with_reducible assumption) | assumption) : a0.size ≤ 140737488355328) (by decide)) (Below.refl _ _) (Nat.le_refl _) ?_; intro v108 w6 ho7 hb hg_ hnew_; clear hg_ hnew_; (first | rw [← Ny107.out] at ho7 | (simp only [Int.reduceToNat] at ho7; rw [← Ny107.out] at ho7)); have n0_ := Aside0.mk (Kd.B_lower ho7 (below_size (iL HB))); have n1_ := jL HB hb; clear HB; have HO109 := n0_; have HB := n1_; clear n0_ n1_; clear hb ho7; obtain ⟨Ao8, co8, eo8⟩ := Kd.B_slice HO109.out; subst eo8))
   go_loopg [5, 17] k (fun kq v5 v17 w' => ∃ (x5_1 : List (S74)) (x17_1 : Int), v17 = .int .i64 x17_1 ∧ Aside0 (text_Words.l0 kq x5_1 y107 (y107.length : Int) x17_1 = some (r1, r2)) ∧ Aside0 (kq ≤ k) ∧ Aside0 (Kd.R k74 74 w' w.heap.size (fun _ => True) v5 x5_1) ∧ Aside0 (Kd.B (Kd.int .u8) 5 w' w.heap.size (fun _ => True) (.slice Ao8 y107.length co8) y107) ∧ Aside0 (Below w.heap.size w w'))
   case atStart => exact ⟨(([] : List (S74))), (0), eV, H', ⟨Nat.le_refl _⟩, ⟨by first | exact Kd.R_nil _ _ _ _ _ | exact Kd.N_nil _ _ _ _ _ | exact Kd.V_nil _ _ _ _ _ | exact Kd.Q_nil _ _ _ _ _ | exact Kd.S_nil _ _ _ _ _⟩, ⟨by (with_reducible repeat (first | apply Kd.B_alloc | apply Kd.B_drewN | apply Kd.B_drew)); exact HO109.out⟩, ⟨iL HB⟩⟩
   case round =>
    clear H'
    (try clear p2); (try clear c3); (try clear c3b0); (try clear c3b1); (try clear c4); (try clear c4b0); (try clear c4b1); (try clear c6)
    obtain ⟨x5_1, x17_1, rfl, HA, HK1, HO_5, HO_15, HB⟩ := hrel
    cases gk with
    | zero => exact absurd HA.out (by simp [text_Words.l0])
    | succ k1 =>
     have H := HA.out
     clear HA
     simp only [text_Words.l0] at H
     by_cases c9 : x17_1 < (y107.length : Int)
     ·rw [if_pos c9] at H
      have c9b0 : decide (x17_1 < (y107.length : Int)) = true := decide_eq_true c9
      clear c9
      by_cases c10 : 0 ≤ x17_1
      ·rw [if_pos c10] at H
       have c10b0 : decide (0 ≤ x17_1) = true := decide_eq_true c10
       clear c10
       by_cases c11 : x17_1 < (y107.length : Int)
       ·rw [if_pos c11] at H
        have c11b0 : decide (x17_1 < (y107.length : Int)) = true := decide_eq_true c11
        clear c11
        replace H := Option.bind_eq_some_iff.mp H
        obtain ⟨t111, A120, H⟩ := H
        try dsimp only at H
        have A12 := Aside0.mk A120
        clear A120
        by_cases c13 : t111 = true
        ·subst c13
         have H1 : (if (x5_1.length : Int) > 0 then (if 0 ≤ (wrap64 ((x5_1.length : Int) - 1)) then (if (wrap64 ((x5_1.length : Int) - 1)) < (x5_1.length : Int) then (if ((rd_T74 x5_1 (wrap64 ((x5_1.length : Int) - 1))).f1) = x17_1 then (text_Words.l0 k1 (x5_1.set ((wrap64 ((x5_1.length : Int) - 1)) : Int).toNat (⟨(rd_T74 x5_1 (wrap64 ((x5_1.length : Int) - 1))).f0, wrap64 (((rd_T74 x5_1 (wrap64 ((x5_1.length : Int) - 1))).f1) + 1)⟩ : S74)) y107 (y107.length : Int) (wrap64 (x17_1 + 1))) else (if x5_1.length < 8796093022208 then (text_Words.l0 k1 (x5_1 ++ [(⟨x17_1, wrap64 (x17_1 + 1)⟩ : S74)]) y107 (y107.length : Int) (wrap64 (x17_1 + 1))) else (none))) else (none)) else (none)) else (if x5_1.length < 8796093022208 then (text_Words.l0 k1 (x5_1 ++ [(⟨x17_1, wrap64 (x17_1 + 1)⟩ : S74)]) y107 (y107.length : Int) (wrap64 (x17_1 + 1))) else (none))) = some (r1, r2) := by rw [if_pos rfl] at H; exact H
         clear H
         have H := H1
         clear H1
         by_cases c14 : (x5_1.length : Int) > 0
         ·rw [if_pos c14] at H
          have c14b0 : decide (0 < (x5_1.length : Int)) = true := decide_eq_true c14
          have c14b1 : decide (0 < x5_1.length) = true := decide_eq_true (by omega)
          clear c14
          obtain ⟨ji15, hji15⟩ : ∃ j_ : Int, (wrap64 ((x5_1.length : Int) - 1)) = j_ := ⟨_, rfl⟩
          replace H : (if 0 ≤ (ji15) then (if (ji15) < (x5_1.length : Int) then (if ((rd_T74 x5_1 (ji15)).f1) = x17_1 then (text_Words.l0 k1 (x5_1.set ((ji15) : Int).toNat (⟨(rd_T74 x5_1 (ji15)).f0, wrap64 (((rd_T74 x5_1 (ji15)).f1) + 1)⟩ : S74)) y107 (y107.length : Int) (wrap64 (x17_1 + 1))) else (if x5_1.length < 8796093022208 then (text_Words.l0 k1 (x5_1 ++ [(⟨x17_1, wrap64 (x17_1 + 1)⟩ : S74)]) y107 (y107.length : Int) (wrap64 (x17_1 + 1))) else (none))) else (none)) else (none)) = some (r1, r2) := by first | (rw [hji15] at H; exact H) | (simp only [hji15] at H ⊢; exact H)
          (try rw [hji15] at A12)
          have hji15w : (IntKind.i64.wrap ((x5_1.length : Int) - 1)) = ji15 := (i64_w _).trans hji15
          by_cases c16 : 0 ≤ (ji15)
          ·rw [if_pos c16] at H
           have c16b0 : decide (0 ≤ (ji15)) = true := decide_eq_true c16
           clear c16
           by_cases c17 : (ji15) < (x5_1.length : Int)
           ·rw [if_pos c17] at H
            have c17b0 : decide ((ji15) < (x5_1.length : Int)) = true := decide_eq_true c17
            clear c17
            by_cases c18 : ((rd_T74 x5_1 (ji15)).f1) = x17_1
            ·rw [if_pos c18] at H
             have c18b0 : (((rd_T74 x5_1 (ji15)).f1) == x17_1) = true := beq_iff_eq.mpr c18
             have c18b1 : (((rd_T74 x5_1 (ji15)).f1) != x17_1) = false := bne_eq_false_iff_eq.mpr c18
             clear c18
             obtain ⟨y114, hy114⟩ : ∃ y_ : List (S74), y_ = (x5_1.set ((ji15) : Int).toNat (⟨(rd_T74 x5_1 (ji15)).f0, wrap64 (((rd_T74 x5_1 (ji15)).f1) + 1)⟩ : S74)) := ⟨_, rfl⟩
             replace H : (text_Words.l0 k1 y114 y107 (y107.length : Int) (wrap64 (x17_1 + 1))) = some (r1, r2) := by first | (rw [hy114]; with_reducible exact H) | (have H2_ := (Option.bind_some _ _).symm.trans H; rw [hy114]; with_reducible exact H2_) | (have H2_ := (Option.bind_some _ _).symm.trans H; with_reducible exact H2_) | with_reducible exact H | (rw [hy114]; exact H) | exact H
             have Ny114 := Aside0.mk hy114
             clear hy114
             have H' := Aside0.mk H
             clear H
             have p110 := oD (0 ≤ (x17_1 : Int))
             have q110 := oD (x17_1 < (y107.length : Int))
             obtain ⟨ad110, e110, hx110_0⟩ := Kd.at_int (Kd.B_reads' HO_15.out).2.2 x17_1 p110 q110
             cases e110
             replace p110 := eq_true p110
             replace q110 := eq_true q110
             obtain ⟨Ao20, co20, eo20⟩ := Kd.R_slice HO_5.out
             subst eo20
             go_wp2_with (first | ((with_reducible refine gate_callee (f := 71) rfl ?_); refine gL_ (some 33) Try.func71 #[.int .u8 (rd y107 x17_1)] ?_; (with_reducible refine (text_letter.calls (rd y107 x17_1) true _ A12.out).mono ?_); rintro e w' ⟨rfl, ⟨nd, rfl⟩⟩; refine ⟨_, rfl, ?_⟩; (try (rw [drewN_self wr]; generalize hq_ : World.drewN wr _ = wr; have n0_ : Aside0 (Kd.B (Kd.int .u8) 5 wr w.heap.size (fun _ => True) (.slice (some ad110) y107.length co8) y107) := ⟨by rw [← hq_]; exact (by (with_reducible repeat (first | apply Kd.B_alloc | apply Kd.B_drewN | apply Kd.B_drew)); exact HO_15.out)⟩; have n1_ : Aside0 (Kd.R k74 74 wr w.heap.size (fun _ => True) (.slice Ao20 x5_1.length co20) x5_1) := ⟨by rw [← hq_]; exact (iR HO_5)⟩; have n2_ : Aside0 (Below w.heap.size w wr) := ⟨by rw [← hq_]; exact (iL HB)⟩; clear HO_15 HO_5 HB hq_; have HO_15 := n0_; have HO_5 := n1_; have HB := n2_; clear n0_ n1_ n2_)); have p112 := oD (0 ≤ ((ji15) : Int)); have q112 := oD ((ji15) < (x5_1.length : Int)); obtain ⟨ad112, e112, hx112_0, hx112_1⟩ := at_T74 (Kd.R_reads' HO_5.out).2.2 (ji15) p112 q112; cases e112; replace p112 := eq_true p112; replace q112 := eq_true q112; have p113 := oD (0 ≤ ((ji15) : Int)); have q113 := oD ((ji15) < (x5_1.length : Int)); obtain ⟨ad113, e113, hx113_0, hx113_1⟩ := at_T74 (Kd.R_reads' HO_5.out).2.2 (ji15) p113 q113; obtain rfl : ad112 = ad113 := (by injection e113); replace p113 := eq_true p113; replace q113 := eq_true q113; have p19 := oD (0 ≤ ((ji15) : Int)); have q19 := oD (((ji15) : Int) < ((x5_1.length : Int) : Int)); obtain ⟨go19, co19, eo19, gb19, gl19, cl19, HG19⟩ := Kd.R_form HO_5.out (by omega); (first | cases eo19 | (injection eo19 with ea_ en_ ec_; (first | subst ea_ | (injection ea_ with ea_; subst ea_)); subst ec_; clear en_)); have GB19 := Aside0.mk gb19; have GG19 := Aside0.mk HG19; clear gb19 gl19 HG19; (first | simp only [add_plain] at hx112_0 | skip); (first | simp only [add_plain] at hx112_1 | skip); (first | simp only [add_plain] at hx113_0 | skip); (first | simp only [add_plain] at hx113_1 | skip); obtain ⟨ce19, hcl19, hM19, hcc19, hfr19⟩ := Kd.R_elem HO_5.out z74 ((ji15) : Int) p19 q19; obtain rfl := k74_openM hM19; have hx19_0 : wr.cell? ⟨go19, ((ji15) : Int).toNat * 2, none⟩ = some (.int .i64 ((rd_T74 x5_1 (ji15)).f0)) := hcc19 0 _ rfl; have hx19_1 : wr.cell? ⟨go19, ((ji15) : Int).toNat * 2 + 1, none⟩ = some (.int .i64 ((rd_T74 x5_1 (ji15)).f1)) := hcc19 1 _ rfl; have hf19_0 : wr.frozen? ⟨go19, ((ji15) : Int).toNat * 2, none⟩ = false := hfr19 0; have hf19_1 : wr.frozen? ⟨go19, ((ji15) : Int).toNat * 2 + 1, none⟩ = false := hfr19 1; (try clear hM19); clear hcl19 hcc19 hfr19; replace p19 := eq_true p19; replace q19 := eq_true q19; have HX21 := Aside0.mk (show Kd.R k74 74 wr w.heap.size (fun _ => True) (.slice (some ⟨go19, 0, none⟩) x5_1.length co20) x5_1 from (iR HO_5)); obtain ⟨ce21, hcl21, hM21, hcc21, hfr21⟩ := Kd.R_elem HX21.out z74 ((ji15) : Int) (of_decide_eq_true (by first | (with_reducible assumption) | assumption)) (by have h_ := oD (((ji15) : Int) < ((x5_1.length : Int) : Int)); first | exact h_ | (have e_ := (Kd.R_reads' HO_5.out).1; omega) | simpa using h_); obtain rfl := k74_openM hM21; have HP21 := Kd.R_seg HX21.out ((ji15) : Int) (of_decide_eq_true (by first | (with_reducible assumption) | assumption)) (by have h_ := oD (((ji15) : Int) < ((x5_1.length : Int) : Int)); first | exact h_ | (have e_ := (Kd.R_reads' HO_5.out).1; omega) | simpa using h_) (seg := [.int .i64 (wrap64 (((rd_T74 x5_1 (ji15)).f1) + 1))]) (j := 1) hcl21 hcc21 (show 2 ≤ 2 from by decide) (x' := (⟨(rd_T74 x5_1 (ji15)).f0, wrap64 (((rd_T74 x5_1 (ji15)).f1) + 1)⟩ : S74)) (k74_mkM _ _ _ (⟨(rd_T74 x5_1 (ji15)).f0, wrap64 (((rd_T74 x5_1 (ji15)).f1) + 1)⟩ : S74) ) (fun _ hk => hk); have hx21_1 := hcc21 1 _ rfl; (try simp only [show (k74).sz = 2 from rfl, Nat.mul_one, Nat.add_zero] at hx21_1); have hf21_1 := hfr21 1; (try simp only [show (k74).sz = 2 from rfl, Nat.mul_one, Nat.add_zero] at hf21_1); (try clear hM21); clear hcl21 hcc21 hfr21) | ((with_reducible refine gate_store (t := 3) (p := 56) rfl ?_); refine store_event (t := 3) (p := 56) (v := ?vo_w22) (w1 := (wr.setCell ⟨go19, ((ji15) : Int).toNat * 2 + 1, none⟩ (.int .i64 (wrap64 (((rd_T74 x5_1 (ji15)).f1) + 1))))) ?hg ?ho ?hn ?hr ?_; (case ho => rfl); (case hg => rfl); (case hn => rfl); (case hr => first | (go_simp; done) | (go_simp; rfl)); intro w22 hw; have hg : wr.grownBy w22 (some go19) := (by rw [hw]; exact HP21.2); have hp_ : Kd.R k74 74 w22 w.heap.size (fun _ => True) (.slice (some ⟨go19, 0, none⟩) x5_1.length co20) y114 := (by rw [hw, Ny114.out]; exact HP21.1); clear HP21; have n0_ := Aside0.mk (hp_); have n1_ := Aside0.mk (Kd.B_over' (v := (.slice (some ⟨go19, 0, none⟩) x5_1.length co20)) (by (with_reducible repeat (first | apply Kd.B_alloc | apply Kd.B_drewN | apply Kd.B_drew)); exact HO_15.out) (Kd.R_typed HO_5.out) (by decide) hg); have n2_ := Aside0.mk ((by rw [hw]; exact below_set (HB.out) GB19.out : Below w.heap.size w w22)); clear HO_5; clear HO_15; clear HB; have HO_5 := n0_; have HO_15 := n1_; have HB := n2_; clear n0_ n1_ n2_; clear hg hw hp_))
             go_roundg k1
             case measure => have := HK1.out; omega
             case rel => exact ⟨(y114), (wrap64 (x17_1 + 1)), eV, H', ⟨by have := HK1.out; omega⟩, ⟨iR HO_5⟩, ⟨by (with_reducible repeat (first | apply Kd.B_alloc | apply Kd.B_drewN | apply Kd.B_drew)); exact HO_15.out⟩, ⟨iL HB⟩⟩
            ·rw [if_neg c18] at H
             have c18b0 : (((rd_T74 x5_1 (ji15)).f1) == x17_1) = false := beq_eq_false_iff_ne.mpr c18
             have c18b1 : (((rd_T74 x5_1 (ji15)).f1) != x17_1) = true := bne_iff_ne.mpr c18
             by_cases c23 : x5_1.length < 8796093022208
             ·rw [if_pos c23] at H
              have LMc23 := Aside0.mk c23
              clear c23
              obtain ⟨y115, hy115⟩ : ∃ y_ : List (S74), y_ = (x5_1 ++ [(⟨x17_1, wrap64 (x17_1 + 1)⟩ : S74)]) := ⟨_, rfl⟩
              replace H : (text_Words.l0 k1 y115 y107 (y107.length : Int) (wrap64 (x17_1 + 1))) = some (r1, r2) := by first | (rw [hy115]; with_reducible exact H) | (have H2_ := (Option.bind_some _ _).symm.trans H; rw [hy115]; with_reducible exact H2_) | (have H2_ := (Option.bind_some _ _).symm.trans H; with_reducible exact H2_) | with_reducible exact H | (rw [hy115]; exact H) | exact H
              have Ny115 := Aside0.mk hy115
              clear hy115
              have H' := Aside0.mk H
              clear H
              have p110 := oD (0 ≤ (x17_1 : Int))
              have q110 := oD (x17_1 < (y107.length : Int))
              obtain ⟨ad110, e110, hx110_0⟩ := Kd.at_int (Kd.B_reads' HO_15.out).2.2 x17_1 p110 q110
              cases e110
              replace p110 := eq_true p110
              replace q110 := eq_true q110
              obtain ⟨Ao24, co24, eo24⟩ := Kd.R_slice HO_5.out
              subst eo24
              go_wp2_with (first | ((with_reducible refine gate_callee (f := 71) rfl ?_); refine gL_ (some 33) Try.func71 #[.int .u8 (rd y107 x17_1)] ?_; (with_reducible refine (text_letter.calls (rd y107 x17_1) true _ A12.out).mono ?_); rintro e w' ⟨rfl, ⟨nd, rfl⟩⟩; refine ⟨_, rfl, ?_⟩; have p112 := oD (0 ≤ ((ji15) : Int)); have q112 := oD ((ji15) < (x5_1.length : Int)); obtain ⟨ad112, e112, hx112_0, hx112_1⟩ := at_T74 (Kd.R_reads' HO_5.out).2.2 (ji15) p112 q112; cases e112; replace p112 := eq_true p112; replace q112 := eq_true q112) | ((with_reducible refine gate_builtin (b := .append) (xs := #[.tmp 24, .tmp 29]) rfl ?_); at_builtin; refine Kd.R_append k74 (w0 := w) w.heap.size rfl (.tmp 24) (.tmp 29) 30 74 (.agg #[(.int .i64 0), (.int .i64 0)]) 16 rfl Try.underlying30 info74 rfl (by decide) (by omega) (.slice (some ad112) x5_1.length co24) x5_1 (⟨x17_1, wrap64 (x17_1 + 1)⟩ : S74) [.int .i64 x17_1, .int .i64 (wrap64 (x17_1 + 1))] (fun _ => True) (fun _ => False) rfl rfl ?aP (fun _ hk => hk.elim) ?aF ?aO ?aB ?aS ?aL ?_; (case aP => exact k74_mkM _ _ _ (⟨x17_1, wrap64 (x17_1 + 1)⟩ : S74)); (case aB => exact (iL HB)); (case aF => exact (fun _ _ => trivial)); (case aO => exact (iR HO_5)); (case aS => exact (below_size (iL HB))); (case aL => have := LMc23.out; omega); intro v116 w25 ho hb hg hat; rw [← Ny115.out] at ho; have n0_ := Aside0.mk (Kd.B_over' (by (with_reducible repeat (first | apply Kd.B_alloc | apply Kd.B_drewN | apply Kd.B_drew)); exact HO_15.out) (Kd.R_typed (iR HO_5)) (by decide) hg); have n1_ := Aside0.mk (hb); have n2_ := Aside0.mk (ho); clear HO_15; clear HB; clear HO_5; have HO_15 := n0_; have HB := n1_; have HO117 := n2_; clear n0_ n1_ n2_; clear ho hb hg hat))
              go_roundg k1
              case measure => have := HK1.out; omega
              case rel => exact ⟨(y115), (wrap64 (x17_1 + 1)), eV, H', ⟨by have := HK1.out; omega⟩, ⟨iR HO117⟩, ⟨by (with_reducible repeat (first | apply Kd.B_alloc | apply Kd.B_drewN | apply Kd.B_drew)); exact HO_15.out⟩, ⟨iL HB⟩⟩
             ·rw [if_neg c23] at H
              exact absurd H (by simp)
           ·rw [if_neg c17] at H
            exact absurd H (by simp)
          ·rw [if_neg c16] at H
           exact absurd H (by simp)
         ·rw [if_neg c14] at H
          have c14b0 : decide (0 < (x5_1.length : Int)) = false := decide_eq_false c14
          have c14b1 : decide (0 < x5_1.length) = false := decide_eq_false (by omega)
          clear c14
          by_cases c26 : x5_1.length < 8796093022208
          ·rw [if_pos c26] at H
           have LMc26 := Aside0.mk c26
           clear c26
           obtain ⟨y118, hy118⟩ : ∃ y_ : List (S74), y_ = (x5_1 ++ [(⟨x17_1, wrap64 (x17_1 + 1)⟩ : S74)]) := ⟨_, rfl⟩
           replace H : (text_Words.l0 k1 y118 y107 (y107.length : Int) (wrap64 (x17_1 + 1))) = some (r1, r2) := by first | (rw [hy118]; with_reducible exact H) | (have H2_ := (Option.bind_some _ _).symm.trans H; rw [hy118]; with_reducible exact H2_) | (have H2_ := (Option.bind_some _ _).symm.trans H; with_reducible exact H2_) | with_reducible exact H | (rw [hy118]; exact H) | exact H
           have Ny118 := Aside0.mk hy118
           clear hy118
           have H' := Aside0.mk H
           clear H
           have p110 := oD (0 ≤ (x17_1 : Int))
           have q110 := oD (x17_1 < (y107.length : Int))
           obtain ⟨ad110, e110, hx110_0⟩ := Kd.at_int (Kd.B_reads' HO_15.out).2.2 x17_1 p110 q110
           cases e110
           replace p110 := eq_true p110
           replace q110 := eq_true q110
           obtain ⟨Ao27, co27, eo27⟩ := Kd.R_slice HO_5.out
           subst eo27
           go_wp2_with (first | ((with_reducible refine gate_callee (f := 71) rfl ?_); refine gL_ (some 33) Try.func71 #[.int .u8 (rd y107 x17_1)] ?_; (with_reducible refine (text_letter.calls (rd y107 x17_1) true _ A12.out).mono ?_); rintro e w' ⟨rfl, ⟨nd, rfl⟩⟩; refine ⟨_, rfl, ?_⟩) | ((with_reducible refine gate_builtin (b := .append) (xs := #[.tmp 24, .tmp 29]) rfl ?_); at_builtin; refine Kd.R_append k74 (w0 := w) w.heap.size rfl (.tmp 24) (.tmp 29) 30 74 (.agg #[(.int .i64 0), (.int .i64 0)]) 16 rfl Try.underlying30 info74 rfl (by decide) (by omega) (.slice Ao27 x5_1.length co27) x5_1 (⟨x17_1, wrap64 (x17_1 + 1)⟩ : S74) [.int .i64 x17_1, .int .i64 (wrap64 (x17_1 + 1))] (fun _ => True) (fun _ => False) rfl rfl ?aP (fun _ hk => hk.elim) ?aF ?aO ?aB ?aS ?aL ?_; (case aP => exact k74_mkM _ _ _ (⟨x17_1, wrap64 (x17_1 + 1)⟩ : S74)); (case aB => exact (iL HB)); (case aF => exact (fun _ _ => trivial)); (case aO => exact (iR HO_5)); (case aS => exact (below_size (iL HB))); (case aL => have := LMc26.out; omega); intro v119 w28 ho hb hg hat; rw [← Ny118.out] at ho; have n0_ := Aside0.mk (Kd.B_over' (by (with_reducible repeat (first | apply Kd.B_alloc | apply Kd.B_drewN | apply Kd.B_drew)); exact HO_15.out) (Kd.R_typed (iR HO_5)) (by decide) hg); have n1_ := Aside0.mk (hb); have n2_ := Aside0.mk (ho); clear HO_15; clear HB; clear HO_5; have HO_15 := n0_; have HB := n1_; have HO120 := n2_; clear n0_ n1_ n2_; clear ho hb hg hat))
           go_roundg k1
           case measure => have := HK1.out; omega
           case rel => exact ⟨(y118), (wrap64 (x17_1 + 1)), eV, H', ⟨by have := HK1.out; omega⟩, ⟨iR HO120⟩, ⟨by (with_reducible repeat (first | apply Kd.B_alloc | apply Kd.B_drewN | apply Kd.B_drew)); exact HO_15.out⟩, ⟨iL HB⟩⟩
          ·rw [if_neg c26] at H
           exact absurd H (by simp)
        ·replace c13 := Bool.eq_false_iff.mpr c13
         subst c13
         have H1 : (text_Words.l0 k1 x5_1 y107 (y107.length : Int) (wrap64 (x17_1 + 1))) = some (r1, r2) := by rw [if_neg (show ¬ (false = true) by decide)] at H; exact H
         clear H
         have H := H1
         clear H1
         have H' := Aside0.mk H
         clear H
         have p110 := oD (0 ≤ (x17_1 : Int))
         have q110 := oD (x17_1 < (y107.length : Int))
         obtain ⟨ad110, e110, hx110_0⟩ := Kd.at_int (Kd.B_reads' HO_15.out).2.2 x17_1 p110 q110
         cases e110
         replace p110 := eq_true p110
         replace q110 := eq_true q110
         obtain ⟨Ao29, co29, eo29⟩ := Kd.R_slice HO_5.out
         subst eo29
         go_wp2_with (first | ((with_reducible refine gate_callee (f := 71) rfl ?_); refine gL_ (some 33) Try.func71 #[.int .u8 (rd y107 x17_1)] ?_; (with_reducible refine (text_letter.calls (rd y107 x17_1) false _ A12.out).mono ?_); rintro e w' ⟨rfl, ⟨nd, rfl⟩⟩; refine ⟨_, rfl, ?_⟩))
         go_roundg k1
         case measure => have := HK1.out; omega
         case rel => exact ⟨(x5_1), (wrap64 (x17_1 + 1)), eV, H', ⟨by have := HK1.out; omega⟩, ⟨iR HO_5⟩, ⟨by (with_reducible repeat (first | apply Kd.B_alloc | apply Kd.B_drewN | apply Kd.B_drew)); exact HO_15.out⟩, ⟨iL HB⟩⟩
       ·rw [if_neg c11] at H
        exact absurd H (by simp)
      ·rw [if_neg c10] at H
       exact absurd H (by simp)
     ·rw [if_neg c9] at H
      have c9b0 : decide (x17_1 < (y107.length : Int)) = false := decide_eq_false c9
      clear c9
      simp only [Option.some.injEq, Prod.mk.injEq] at H
      obtain ⟨rfl, rfl⟩ := H
      go_wp2
      go_ret2
      exact ⟨_, eV, by (with_reducible repeat (first | apply Kd.R_alloc | apply Kd.R_drewN | apply Kd.R_drew)); exact HO_5.out, iL HB⟩
  ·rw [if_neg c4] at H
   exact absurd H (by simp)
 ·rw [if_neg c3] at H
  have c3b0 : (t106 == 0) = false := beq_eq_false_iff_ne.mpr c3
  have c3b1 : (t106 != 0) = true := bne_iff_ne.mpr c3
  simp only [Option.some.injEq, Prod.mk.injEq] at H
  obtain ⟨rfl, rfl⟩ := H
  go_enter Try.func62, Try.ntmps62
  go_wp2_with (first | ((with_reducible refine gate_callee (f := 46) rfl ?_); refine gL_ (some 10) Try.func46 #[.string a0] ?_; (with_reducible refine (text_Valid.calls k a0 t106 _ A2.out).mono ?_); rintro e w30 ⟨rfl, hb⟩; refine ⟨_, rfl, ?_⟩; have n0_ := jL HB hb; clear HB; have HB := n0_; clear n0_; (try clear hb)))
  go_ret2
  exact ⟨_, eV, by first | exact Kd.R_nil _ _ _ _ _ | exact Kd.N_nil _ _ _ _ _ | exact Kd.V_nil _ _ _ _ _ | exact Kd.Q_nil _ _ _ _ _ | exact Kd.S_nil _ _ _ _ _, iL HB⟩

/-! ### text_Fold: function 63 -/
def text_Fold.l0 : Nat → List Int → Int → Int → Option (ByteArray)
 | 0, _, _, _ => none
 | k + 1, x7, x9, x10 => if x10 < x9 then (if 0 ≤ x10 then (if x10 < (x7.length : Int) then (if (rd x7 x10) ≥ 65 then (if (rd x7 x10) ≤ 90 then (text_Fold.l0 k (x7.set (x10 : Int).toNat (((((rd x7 x10) - 65) % 256) + 97) % 256)) x9 (wrap64 (x10 + 1))) else (text_Fold.l0 k x7 x9 (wrap64 (x10 + 1)))) else (text_Fold.l0 k x7 x9 (wrap64 (x10 + 1)))) else (none)) else (none)) else (some (strOfNums x7))
def text_Fold.f (k : Nat) (a0 : ByteArray) : Option (ByteArray) := if a0.size ≤ 140737488355328 then ((some (bytesOf a0 : List Int)).bind fun y121 => (text_Fold.l0 k y121 (y121.length : Int) 0)) else (none)
theorem text_Fold.mono_l : ∀ k, (∀ y0 y1 y2, LeO (text_Fold.l0 k y0 y1 y2) (text_Fold.l0 (k + 1) y0 y1 y2))
 | 0 => fun _ _ _ r h => by simp [text_Fold.l0] at h
 | k + 1 => by
  have ih0 := text_Fold.mono_l k
  ·intro y0 y1 y2
   unfold text_Fold.l0
   repeat' first
   | (with_reducible exact ih0 _ _ _)
   | (with_reducible exact LeO.refl _)
   | (with_reducible exact LeO.none _)
   | (with_reducible refine LeO.ite ?_ ?_)
   | (with_reducible refine LeO.bind ?_ (fun _ => ?_))
   | exact ih0 _ _ _
   | exact LeO.none _
   | refine LeO.ite ?_ ?_
   | refine LeO.bind ?_ (fun _ => ?_)
theorem text_Fold.mono : ∀ a0 k, LeO (text_Fold.f k a0) (text_Fold.f (k + 1) a0) := by
 intro a0 k
 have ih0 := text_Fold.mono_l k
 unfold text_Fold.f
 repeat' first
   | (with_reducible exact ih0 _ _ _)
   | (with_reducible exact LeO.refl _)
   | (with_reducible exact LeO.none _)
   | (with_reducible refine LeO.ite ?_ ?_)
   | (with_reducible refine LeO.bind ?_ (fun _ => ?_))
   | exact ih0 _ _ _
   | exact LeO.none _
   | refine LeO.ite ?_ ?_
   | refine LeO.bind ?_ (fun _ => ?_)
set_option maxHeartbeats 8000000 in
set_option maxRecDepth 100000 in
theorem text_Fold.calls (k : Nat) (a0 : ByteArray) (r : ByteArray) (w : World) (h : text_Fold.f k a0 = some r) :
  Calls Try.prog 63 #[.string a0] w fun e w' => e = .returned (.string r) ∧ Below w.heap.size w w' := by
 have HB := Aside0.mk (Below.refl w.heap.size w)
 have H : (if a0.size ≤ 140737488355328 then ((some (bytesOf a0 : List Int)).bind fun y121 => (text_Fold.l0 k y121 (y121.length : Int) 0)) else (none)) = some r := h
 clear h
 by_cases c2 : a0.size ≤ 140737488355328
 ·rw [if_pos c2] at H
  have c2b0 := eq_true c2
  have c2b1 : decide (a0.size ≤ 140737488355328) = true := decide_eq_true c2
  clear c2
  obtain ⟨y121, hy121⟩ : ∃ y_ : List Int, y_ = (bytesOf a0) := ⟨_, rfl⟩
  replace H : (text_Fold.l0 k y121 (y121.length : Int) 0) = some r := by first | (rw [hy121]; with_reducible exact H) | (have H2_ := (Option.bind_some _ _).symm.trans H; rw [hy121]; with_reducible exact H2_) | (have H2_ := (Option.bind_some _ _).symm.trans H; with_reducible exact H2_) | with_reducible exact H | (rw [hy121]; exact H) | exact H
  have Ny121 := Aside0.mk hy121
  clear hy121
  have H' := Aside0.mk H
  clear H
  go_enter Try.func63, Try.ntmps63
  go_wp2_with (first | ((with_reducible refine gate_dst (N := 7) rfl ?_); refine Kd.B_conv _ 5 rfl (N := 7) rfl 9 93 _ rfl a0 rfl Try.underlying9 Try.underlying93 Try.underlying5 (ok := fun _ => True) trivial (Nat.le_trans (of_decide_eq_true (by first | (with_reducible assumption) | assumption) : a0.size ≤ 140737488355328) (by decide)) (Below.refl _ _) (Nat.le_refl _) ?_; intro v122 w3 ho4 hb hg_ hnew_; clear hg_ hnew_; (first | rw [← Ny121.out] at ho4 | (simp only [Int.reduceToNat] at ho4; rw [← Ny121.out] at ho4)); have n0_ := Aside0.mk (Kd.B_lower ho4 (below_size (iL HB))); have n1_ := jL HB hb; clear HB; have HO123 := n0_; have HB := n1_; clear n0_ n1_; clear hb ho4; obtain ⟨Ao5, co5, eo5⟩ := Kd.B_slice HO123.out; subst eo5))
  go_loopg [10] k (fun kq v10 w' => ∃ (x7_1 : List Int) (x10_1 : Int), v10 = .int .i64 x10_1 ∧ Aside0 (text_Fold.l0 kq x7_1 (y121.length : Int) x10_1 = some r) ∧ Aside0 (kq ≤ k) ∧ Aside0 (Kd.B (Kd.int .u8) 5 w' w.heap.size (fun _ => True) (.slice Ao5 y121.length co5) x7_1) ∧ Aside0 (Below w.heap.size w w'))
  case atStart => exact ⟨(y121), (0), eV, H', ⟨Nat.le_refl _⟩, ⟨by (with_reducible repeat (first | apply Kd.B_alloc | apply Kd.B_drewN | apply Kd.B_drew)); exact HO123.out⟩, ⟨iL HB⟩⟩
  case round =>
   clear H'
   (try clear c2); (try clear c2b0); (try clear c2b1); (try clear p2)
   obtain ⟨x7_1, x10_1, rfl, HA, HK1, HO_7, HB⟩ := hrel
   have hl7_1 := (Kd.B_reads' HO_7.out).1
   rw [hl7_1] at HO_7
   (try simp only [hl7_1])
   cases gk with
   | zero => exact absurd HA.out (by simp [text_Fold.l0])
   | succ k1 =>
    have H := HA.out
    clear HA
    simp only [text_Fold.l0] at H
    by_cases c6 : x10_1 < (y121.length : Int)
    ·rw [if_pos c6] at H
     have c6b0 : decide (x10_1 < (y121.length : Int)) = true := decide_eq_true c6
     (try simp only [hl7_1] at c6b0)
     clear c6
     by_cases c7 : 0 ≤ x10_1
     ·rw [if_pos c7] at H
      have c7b0 : decide (0 ≤ x10_1) = true := decide_eq_true c7
      clear c7
      by_cases c8 : x10_1 < (x7_1.length : Int)
      ·rw [if_pos c8] at H
       have c8b0 : decide (x10_1 < (x7_1.length : Int)) = true := decide_eq_true c8
       (try simp only [hl7_1] at c8b0)
       clear c8
       by_cases c9 : (rd x7_1 x10_1) ≥ 65
       ·rw [if_pos c9] at H
        have c9b0 : decide (65 ≤ (rd x7_1 x10_1)) = true := decide_eq_true c9
        clear c9
        by_cases c10 : (rd x7_1 x10_1) ≤ 90
        ·rw [if_pos c10] at H
         have c10b0 : decide ((rd x7_1 x10_1) ≤ 90) = true := decide_eq_true c10
         clear c10
         obtain ⟨y125, hy125⟩ : ∃ y_ : List Int, y_ = (x7_1.set (x10_1 : Int).toNat (((((rd x7_1 x10_1) - 65) % 256) + 97) % 256)) := ⟨_, rfl⟩
         replace H : (text_Fold.l0 k1 y125 (y121.length : Int) (wrap64 (x10_1 + 1))) = some r := by first | (rw [hy125]; with_reducible exact H) | (have H2_ := (Option.bind_some _ _).symm.trans H; rw [hy125]; with_reducible exact H2_) | (have H2_ := (Option.bind_some _ _).symm.trans H; with_reducible exact H2_) | with_reducible exact H | (rw [hy125]; exact H) | exact H
         have Ny125 := Aside0.mk hy125
         clear hy125
         have H' := Aside0.mk H
         clear H
         have p124 := oD (0 ≤ (x10_1 : Int))
         have q124 := oD (x10_1 < (x7_1.length : Int))
         obtain ⟨ad124, e124, hx124_0⟩ := Kd.at_int (Kd.B_reads' HO_7.out).2.2 x10_1 p124 q124
         cases e124
         replace p124 := eq_true p124
         replace q124 := eq_true q124
         have p11 := oD (0 ≤ (x10_1 : Int))
         have q11 := oD ((x10_1 : Int) < ((x7_1.length : Int) : Int))
         obtain ⟨go11, co11, eo11, gb11, gl11, cl11, HG11⟩ := Kd.B_form HO_7.out (by omega)
         (first | cases eo11 | (injection eo11 with ea_ en_ ec_; (first | subst ea_ | (injection ea_ with ea_; subst ea_)); subst ec_; clear en_))
         have GB11 := Aside0.mk gb11
         have GG11 := Aside0.mk HG11
         clear gb11 gl11 HG11
         (first | simp only [add_plain] at hx124_0 | skip)
         obtain ⟨hx11_0, hf11_0⟩ := Kd.B_celln 0 HO_7.out (x10_1 : Int) p11 q11
         replace p11 := eq_true p11
         replace q11 := eq_true q11
         have HP12 := Kd.B_putg HO_7.out (x10_1 : Int) (((((rd x7_1 x10_1) - 65) % 256) + 97) % 256)
         go_wp2_with (first | ((with_reducible refine gate_store (t := 5) (p := 26) rfl ?_); refine store_event (t := 5) (p := 26) (v := ?vo_w13) (w1 := (wr.setCell ⟨go11, (x10_1 : Int).toNat, none⟩ (.int .u8 (((((rd x7_1 x10_1) - 65) % 256) + 97) % 256)))) ?hg ?ho ?hn ?hr ?_; (case ho => rfl); (case hg => rfl); (case hn => rfl); (case hr => first | (go_simp; done) | (go_simp; rfl)); intro w13 hw; have hg : wr.grownBy w13 (some go11) := (by rw [hw]; exact HP12.2); have hp_ : Kd.B (Kd.int .u8) 5 w13 w.heap.size (fun _ => True) (.slice (some ⟨go11, 0, none⟩) x7_1.length co5) y125 := (by rw [hw, Ny125.out]; exact HP12.1); clear HP12; have n0_ := Aside0.mk (hp_); have n1_ := Aside0.mk ((by rw [hw]; exact below_set (HB.out) GB11.out : Below w.heap.size w w13)); clear HO_7; clear HB; have HO_7 := n0_; have HB := n1_; clear n0_ n1_; clear hg hw hp_))
         (try simp only [← hl7_1])
         go_roundg k1
         case measure => have := HK1.out; omega
         case rel => exact ⟨(y125), (wrap64 (x10_1 + 1)), eV, H', ⟨by have := HK1.out; omega⟩, ⟨by (try simp only [hl7_1]); (with_reducible repeat (first | apply Kd.B_alloc | apply Kd.B_drewN | apply Kd.B_drew)); exact HO_7.out⟩, ⟨iL HB⟩⟩
        ·rw [if_neg c10] at H
         have c10b0 : decide ((rd x7_1 x10_1) ≤ 90) = false := decide_eq_false c10
         clear c10
         have H' := Aside0.mk H
         clear H
         have p124 := oD (0 ≤ (x10_1 : Int))
         have q124 := oD (x10_1 < (x7_1.length : Int))
         obtain ⟨ad124, e124, hx124_0⟩ := Kd.at_int (Kd.B_reads' HO_7.out).2.2 x10_1 p124 q124
         cases e124
         replace p124 := eq_true p124
         replace q124 := eq_true q124
         go_wp2
         (try simp only [← hl7_1])
         go_roundg k1
         case measure => have := HK1.out; omega
         case rel => exact ⟨(x7_1), (wrap64 (x10_1 + 1)), eV, H', ⟨by have := HK1.out; omega⟩, ⟨by (try simp only [hl7_1]); (with_reducible repeat (first | apply Kd.B_alloc | apply Kd.B_drewN | apply Kd.B_drew)); exact HO_7.out⟩, ⟨iL HB⟩⟩
       ·rw [if_neg c9] at H
        have c9b0 : decide (65 ≤ (rd x7_1 x10_1)) = false := decide_eq_false c9
        clear c9
        have H' := Aside0.mk H
        clear H
        have p124 := oD (0 ≤ (x10_1 : Int))
        have q124 := oD (x10_1 < (x7_1.length : Int))
        obtain ⟨ad124, e124, hx124_0⟩ := Kd.at_int (Kd.B_reads' HO_7.out).2.2 x10_1 p124 q124
        cases e124
        replace p124 := eq_true p124
        replace q124 := eq_true q124
        go_wp2
        (try simp only [← hl7_1])
        go_roundg k1
        case measure => have := HK1.out; omega
        case rel => exact ⟨(x7_1), (wrap64 (x10_1 + 1)), eV, H', ⟨by have := HK1.out; omega⟩, ⟨by (try simp only [hl7_1]); (with_reducible repeat (first | apply Kd.B_alloc | apply Kd.B_drewN | apply Kd.B_drew)); exact HO_7.out⟩, ⟨iL HB⟩⟩
      ·rw [if_neg c8] at H
       exact absurd H (by simp)
     ·rw [if_neg c7] at H
      exact absurd H (by simp)
    ·rw [if_neg c6] at H
     have c6b0 : decide (x10_1 < (y121.length : Int)) = false := decide_eq_false c6
     (try simp only [hl7_1] at c6b0)
     clear c6
     obtain rfl := Option.some.inj H
     have hcv14 := Kd.B_string (P := Try.prog) Try.underlying93 Try.underlying5 Try.underlying9 HO_7.out
     go_wp2
     go_ret
     exact ⟨eV, iL HB⟩
 ·rw [if_neg c2] at H
  exact absurd H (by simp)

/-! ### apparatus_folded: function 36 -/
def apparatus_folded.l0 : Nat → ByteArray → Int → List ByteArray → List (S74) → Int → Int → Option (List ByteArray × Int)
 | 0, _, _, _, _, _, _ => none
 | k + 1, x0, x5, x6, x14, x15, x16 => if x16 < x15 then (if 0 ≤ x16 then (if x16 < (x14.length : Int) then (if 0 ≤ ((rd_T74 x14 x16).f0) then (if ((rd_T74 x14 x16).f0) ≤ ((rd_T74 x14 x16).f1) then (if ((rd_T74 x14 x16).f1) ≤ (x0.size : Int) then ((text_Fold.f k (x0.extract (((rd_T74 x14 x16).f0) : Int).toNat (((rd_T74 x14 x16).f1) : Int).toNat)).bind fun t132 => (if x6.length < 8796093022208 then (apparatus_folded.l0 k x0 x5 (x6 ++ [t132]) x14 x15 (wrap64 (x16 + 1))) else (none))) else (none)) else (none)) else (none)) else (none)) else (none)) else (some (x6, x5))
def apparatus_folded.f (k : Nat) (a0 : ByteArray) : Option (List ByteArray × Int) := (text_Words.f k a0).bind fun bt126 => (apparatus_folded.l0 k a0 bt126.2 ([] : List ByteArray) bt126.1 (bt126.1.length : Int) 0)
theorem apparatus_folded.mono_l : ∀ k, (∀ y0 y1 y2 y3 y4 y5, LeO (apparatus_folded.l0 k y0 y1 y2 y3 y4 y5) (apparatus_folded.l0 (k + 1) y0 y1 y2 y3 y4 y5))
 | 0 => fun _ _ _ _ _ _ r h => by simp [apparatus_folded.l0] at h
 | k + 1 => by
  have ih0 := apparatus_folded.mono_l k
  ·intro y0 y1 y2 y3 y4 y5
   unfold apparatus_folded.l0
   repeat' first
   | (with_reducible exact ih0 _ _ _ _ _ _)
   | (with_reducible exact text_Fold.mono _ _)
   | (with_reducible exact text_Words.mono _ _)
   | (with_reducible exact LeO.refl _)
   | (with_reducible exact LeO.none _)
   | (with_reducible refine LeO.ite ?_ ?_)
   | (with_reducible refine LeO.bind ?_ (fun _ => ?_))
   | exact ih0 _ _ _ _ _ _
   | exact text_Fold.mono _ _
   | exact text_Words.mono _ _
   | exact LeO.none _
   | refine LeO.ite ?_ ?_
   | refine LeO.bind ?_ (fun _ => ?_)
theorem apparatus_folded.mono : ∀ a0 k, LeO (apparatus_folded.f k a0) (apparatus_folded.f (k + 1) a0) := by
 intro a0 k
 have ih0 := apparatus_folded.mono_l k
 unfold apparatus_folded.f
 repeat' first
   | (with_reducible exact ih0 _ _ _ _ _ _)
   | (with_reducible exact text_Fold.mono _ _)
   | (with_reducible exact text_Words.mono _ _)
   | (with_reducible exact LeO.refl _)
   | (with_reducible exact LeO.none _)
   | (with_reducible refine LeO.ite ?_ ?_)
   | (with_reducible refine LeO.bind ?_ (fun _ => ?_))
   | exact ih0 _ _ _ _ _ _
   | exact text_Fold.mono _ _
   | exact text_Words.mono _ _
   | exact LeO.none _
   | refine LeO.ite ?_ ?_
   | refine LeO.bind ?_ (fun _ => ?_)
set_option maxHeartbeats 8000000 in
set_option maxRecDepth 100000 in
theorem apparatus_folded.calls (k : Nat) (a0 : ByteArray) (r1 : List ByteArray) (r2 : Int) (w : World) (h : apparatus_folded.f k a0 = some (r1, r2)) :
  Calls Try.prog 36 #[.string a0] w fun e w' => ∃ v0_ : Value, e = .returned (.tuple #[v0_, .int .i64 r2]) ∧ Kd.R Kd.string 9 w' w.heap.size (fun _ => True) v0_ r1 ∧ Below w.heap.size w w' := by
 have hu74 := Try.underlying74
 have HB := Aside0.mk (Below.refl w.heap.size w)
 have H : ((text_Words.f k a0).bind fun bt126 => (apparatus_folded.l0 k a0 bt126.2 ([] : List ByteArray) bt126.1 (bt126.1.length : Int) 0)) = some (r1, r2) := h
 clear h
 replace H := Option.bind_eq_some_iff.mp H
 obtain ⟨⟨t126, t127⟩, A20, H⟩ := H
 try dsimp only at H
 have A2 := Aside0.mk A20
 clear A20
 have H' := Aside0.mk H
 clear H
 go_enter Try.func36, Try.ntmps36
 go_wp2_with (first | ((with_reducible refine gate_callee (f := 62) rfl ?_); refine gL_ (some 11) Try.func62 #[.string a0] ?_; (with_reducible refine (text_Words.calls k a0 t126 t127 _ A2.out).mono ?_); rintro e w3 ⟨v128, rfl, ho0, hb⟩; refine ⟨_, rfl, ?_⟩; have n0_ := Aside0.mk (Kd.R_lower ho0 (below_size (iL HB))); have n1_ := jL HB hb; clear HB; have HO129 := n0_; have HB := n1_; clear n0_ n1_; (try clear hb); (try clear ho0); obtain ⟨Ao4, co4, eo4⟩ := Kd.R_slice HO129.out; subst eo4))
 go_loopg [6, 16] k (fun kq v6 v16 w' => ∃ (x6_1 : List ByteArray) (x16_1 : Int), v16 = .int .i64 x16_1 ∧ Aside0 (apparatus_folded.l0 kq a0 t127 x6_1 t126 (t126.length : Int) x16_1 = some (r1, r2)) ∧ Aside0 (kq ≤ k) ∧ Aside0 (Kd.R Kd.string 9 w' w.heap.size (fun _ => True) v6 x6_1) ∧ Aside0 (Kd.R k74 74 w' w.heap.size (fun _ => True) (.slice Ao4 t126.length co4) t126) ∧ Aside0 (Below w.heap.size w w'))
 case atStart => exact ⟨(([] : List ByteArray)), (0), eV, H', ⟨Nat.le_refl _⟩, ⟨by first | exact Kd.R_nil _ _ _ _ _ | exact Kd.N_nil _ _ _ _ _ | exact Kd.V_nil _ _ _ _ _ | exact Kd.Q_nil _ _ _ _ _ | exact Kd.S_nil _ _ _ _ _⟩, ⟨iR HO129⟩, ⟨iL HB⟩⟩
 case round =>
  clear H'
  (try clear p2); (try clear c3)
  obtain ⟨x6_1, x16_1, rfl, HA, HK1, HO_6, HO_14, HB⟩ := hrel
  cases gk with
  | zero => exact absurd HA.out (by simp [apparatus_folded.l0])
  | succ k1 =>
   have H := HA.out
   clear HA
   simp only [apparatus_folded.l0] at H
   by_cases c5 : x16_1 < (t126.length : Int)
   ·rw [if_pos c5] at H
    have c5b0 : decide (x16_1 < (t126.length : Int)) = true := decide_eq_true c5
    clear c5
    by_cases c6 : 0 ≤ x16_1
    ·rw [if_pos c6] at H
     have c6b0 : decide (0 ≤ x16_1) = true := decide_eq_true c6
     clear c6
     by_cases c7 : x16_1 < (t126.length : Int)
     ·rw [if_pos c7] at H
      have c7b0 : decide (x16_1 < (t126.length : Int)) = true := decide_eq_true c7
      clear c7
      by_cases c8 : 0 ≤ ((rd_T74 t126 x16_1).f0)
      ·rw [if_pos c8] at H
       have c8b0 := eq_true c8
       have c8b1 : decide (0 ≤ ((rd_T74 t126 x16_1).f0)) = true := decide_eq_true c8
       clear c8
       by_cases c9 : ((rd_T74 t126 x16_1).f0) ≤ ((rd_T74 t126 x16_1).f1)
       ·rw [if_pos c9] at H
        have c9b0 := eq_true c9
        have c9b1 : decide (((rd_T74 t126 x16_1).f0) ≤ ((rd_T74 t126 x16_1).f1)) = true := decide_eq_true c9
        clear c9
        by_cases c10 : ((rd_T74 t126 x16_1).f1) ≤ (a0.size : Int)
        ·rw [if_pos c10] at H
         have c10b0 := eq_true c10
         have c10b1 : decide (((rd_T74 t126 x16_1).f1) ≤ (a0.size : Int)) = true := decide_eq_true c10
         clear c10
         replace H := Option.bind_eq_some_iff.mp H
         obtain ⟨t132, A110, H⟩ := H
         try dsimp only at H
         have A11 := Aside0.mk A110
         clear A110
         by_cases c12 : x6_1.length < 8796093022208
         ·rw [if_pos c12] at H
          have LMc12 := Aside0.mk c12
          clear c12
          obtain ⟨y133, hy133⟩ : ∃ y_ : List ByteArray, y_ = (x6_1 ++ [t132]) := ⟨_, rfl⟩
          replace H : (apparatus_folded.l0 k1 a0 t127 y133 t126 (t126.length : Int) (wrap64 (x16_1 + 1))) = some (r1, r2) := by first | (rw [hy133]; with_reducible exact H) | (have H2_ := (Option.bind_some _ _).symm.trans H; rw [hy133]; with_reducible exact H2_) | (have H2_ := (Option.bind_some _ _).symm.trans H; with_reducible exact H2_) | with_reducible exact H | (rw [hy133]; exact H) | exact H
          have Ny133 := Aside0.mk hy133
          clear hy133
          have H' := Aside0.mk H
          clear H
          have p130 := oD (0 ≤ (x16_1 : Int))
          have q130 := oD (x16_1 < (t126.length : Int))
          obtain ⟨ad130, e130, hx130_0, hx130_1⟩ := at_T74 (Kd.R_reads' HO_14.out).2.2 x16_1 p130 q130
          cases e130
          replace p130 := eq_true p130
          replace q130 := eq_true q130
          go_wp2_with (first | ((with_reducible refine gate_dst (N := 8) rfl ?_); refine bX 8 #[.int .i64 0, .int .i64 0] 74 ?_; intro gb131 hg w13 hbox hb; have n0_ := jR HO_6 hb; have n1_ := Aside0.mk (Kd.R_below (Kd.R_elderB (iR HO_14) gb131 (Nat.le_of_eq hg.symm)) hb); have n2_ := jL HB hb; have n3_ := Aside0.mk (hbox); have n4_ := Aside0.mk ((by rw [hg]; exact (below_size (iL HB)) : w.heap.size ≤ gb131)); have n5_ := Aside0.mk ((by rw [hg]; exact (below_size (iL HB)) : w.heap.size ≤ gb131)); clear HO_6; clear HO_14; clear HB; have HO_6 := n0_; have HO_14 := n1_; have HB := n2_; have BK131 := n3_; have GW131 := n4_; have GE131 := n5_; clear n0_ n1_ n2_ n3_ n4_ n5_; clear hb hbox hg; have hcz14_0 := cZ BK131 0 (.int .i64 0); have hcz14_1 := cZ BK131 1 (.int .i64 0); have hfz14_0 := blk_frozen BK131.out 0; have hfz14_1 := blk_frozen BK131.out 1) | ((with_reducible refine gate_callee (f := 63) rfl ?_); refine gL_ (some 27) Try.func63 #[.string (a0.extract (((rd_T74 t126 x16_1).f0) : Int).toNat (((rd_T74 t126 x16_1).f1) : Int).toNat)] ?_; (with_reducible refine (text_Fold.calls k1 (a0.extract (((rd_T74 t126 x16_1).f0) : Int).toNat (((rd_T74 t126 x16_1).f1) : Int).toNat) t132 _ A11.out).mono ?_); rintro e w15 ⟨rfl, hb⟩; refine ⟨_, rfl, ?_⟩; have n0_ := Aside0.mk (Kd.R_below (by (with_reducible repeat (first | apply Kd.R_alloc | apply Kd.R_drewN | apply Kd.R_drew)); exact (Kd.R_mono (Kd.R_far (p := ⟨gb131, 1, none⟩) (Kd.R_far (p := ⟨gb131, 0, none⟩) (Kd.R_types HO_6.out BK131.out (by decide)) (fun _ hk => hk.2) (.int .i64 ((rd_T74 t126 x16_1).f0))) (fun _ hk => hk.2) (.int .i64 ((rd_T74 t126 x16_1).f1))) (fun _ h_ => h_.1))) hb); have n1_ := Aside0.mk (Kd.R_below (by (with_reducible repeat (first | apply Kd.R_alloc | apply Kd.R_drewN | apply Kd.R_drew)); exact (Kd.R_mono (Kd.R_far (p := ⟨gb131, 1, none⟩) (Kd.R_far (p := ⟨gb131, 0, none⟩) (Kd.R_mono HO_14.out (fun k_ hk => (⟨hk, hk.2⟩ : _ ∧ k_ ≠ gb131))) (fun _ hk => hk.2) (.int .i64 ((rd_T74 t126 x16_1).f0))) (fun _ hk => hk.2) (.int .i64 ((rd_T74 t126 x16_1).f1))) (fun _ h_ => h_.1))) hb); have n2_ := Aside0.mk (blk_below (g := gb131) (o := .cells #[.int .i64 ((rd_T74 t126 x16_1).f0), .int .i64 ((rd_T74 t126 x16_1).f1)] 74 (0, 0)) (by (with_reducible repeat (first | apply blk_drewN | apply blk_drew | apply blk_alloc)); refine blk_put (cs := #[.int .i64 ((rd_T74 t126 x16_1).f0), .int .i64 0]) ?_ 1 _ rfl; (with_reducible repeat (first | apply blk_drewN | apply blk_drew | apply blk_alloc)); refine blk_put (cs := #[.int .i64 0, .int .i64 0]) ?_ 0 _ rfl; (with_reducible repeat (first | apply blk_drewN | apply blk_drew | apply blk_alloc)); exact BK131.out) hb); have n3_ := jL HB hb; clear HO_6; clear HO_14; clear BK131; clear HB; have HO_6 := n0_; have HO_14 := n1_; have BK131 := n2_; have HB := n3_; clear n0_ n1_ n2_ n3_; (try clear hb)) | ((with_reducible refine gate_builtin (b := .append) (xs := #[.tmp 20, .tmp 28]) rfl ?_); at_builtin; refine Kd.R_append Kd.string (w0 := w) w.heap.size rfl (.tmp 20) (.tmp 28) 34 9 (.string ⟨#[]⟩) 16 rfl Try.underlying34 info9 rfl (by decide) (by omega) u6 x6_1 t132 [.string t132] (fun _ => True) (fun _ => False) rfl rfl ?aP (fun _ hk => hk.elim) ?aF ?aO ?aB ?aS ?aL ?_; (case aP => exact rfl); (case aB => exact (iL HB)); (case aF => exact (fun _ _ => trivial)); (case aO => exact (iR HO_6)); (case aS => exact (below_size (iL HB))); (case aL => have := LMc12.out; omega); intro v134 w16 ho hb hg hat; rw [← Ny133.out] at ho; have n0_ := Aside0.mk (Kd.R_over' (iR HO_14) (Kd.R_typed (iR HO_6)) (by decide) hg); have n1_ := Aside0.mk (blk_grown (g := gb131) (o := .cells #[.int .i64 ((rd_T74 t126 x16_1).f0), .int .i64 ((rd_T74 t126 x16_1).f1)] 74 (0, 0)) (iB BK131) hg (Kd.R_ne HO_6.out BK131.out (by decide))); have n2_ := Aside0.mk (hb); have n3_ := Aside0.mk (ho); clear HO_14; clear BK131; clear HB; clear HO_6; have HO_14 := n0_; have BK131 := n1_; have HB := n2_; have HO135 := n3_; clear n0_ n1_ n2_ n3_; clear ho hb hg hat))
          go_roundg k1
          case measure => have := HK1.out; omega
          case rel => exact ⟨(y133), (wrap64 (x16_1 + 1)), eV, H', ⟨by have := HK1.out; omega⟩, ⟨iR HO135⟩, ⟨by (with_reducible repeat (first | apply Kd.R_alloc | apply Kd.R_drewN | apply Kd.R_drew)); exact Kd.R_mono HO_14.out (fun _ hk => trivial)⟩, ⟨iL HB⟩⟩
         ·rw [if_neg c12] at H
          exact absurd H (by simp)
        ·rw [if_neg c10] at H
         exact absurd H (by simp)
       ·rw [if_neg c9] at H
        exact absurd H (by simp)
      ·rw [if_neg c8] at H
       exact absurd H (by simp)
     ·rw [if_neg c7] at H
      exact absurd H (by simp)
    ·rw [if_neg c6] at H
     exact absurd H (by simp)
   ·rw [if_neg c5] at H
    have c5b0 : decide (x16_1 < (t126.length : Int)) = false := decide_eq_false c5
    clear c5
    simp only [Option.some.injEq, Prod.mk.injEq] at H
    obtain ⟨rfl, rfl⟩ := H
    go_wp2
    go_ret2
    exact ⟨_, eV, by (with_reducible repeat (first | apply Kd.R_alloc | apply Kd.R_drewN | apply Kd.R_drew)); exact HO_6.out, iL HB⟩

-- NOT PRINTED: function 37 (apparatus_Words_1)

end Go.Proofs.Ytmjigfoldeekmaa.X
