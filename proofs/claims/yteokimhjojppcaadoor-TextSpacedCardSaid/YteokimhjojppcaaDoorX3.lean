-- printed by this session's xprint.py: out of the translation, by the kit's print with additions; Lean checks it
import Derived.Test.YteokimhjojppcaaDoorWN
import Derived.Test.YteokimhjojppcaaDoorWShare
import Derived.Test.YteokimhjojppcaaDoorWRepsOne
import Derived.Test.YteokimhjojppcaaDoorX0
import Derived.Test.YteokimhjojppcaaDoorX1
import Derived.Test.YteokimhjojppcaaDoorX2
namespace Go.Proofs.YteokimhjojppcaaDoor.X
open Go.RowKit Go.Proofs.YteokimhjojppcaaDoorW.PrintWords Go.Proofs.YteokimhjojppcaaDoorW.PrintLast Go.Proofs.YteokimhjojppcaaDoorW.PrintMore
attribute [local go_sem] max2_int min2_int max_two min_two max_three min_three max_four min_four isSome_setCell binOp_gtr_str binOp_leq_str   -- for this text's walks alone
set_option linter.unusedVariables false
set_option linter.unusedSimpArgs false

attribute [local go_sem high] eqA46
/-! ### slices_Equal_string_string: function 36 -/
def slices_Equal_string_string.l0 : Nat → List ByteArray → List ByteArray → Int → Int → Option (Bool)
  | 0, _, _, _, _ => none
  | k + 1, x0, x1, x12, x13 => if x13 < x12 then (if 0 ≤ x13 then (if x13 < (x0.length : Int) then (if x13 < (x1.length : Int) then (if (rdOf ByteArray.empty x0 x13).toList = (rdOf ByteArray.empty x1 x13).toList then (slices_Equal_string_string.l0 k x0 x1 x12 (wrap64 (x13 + 1))) else (some false)) else (none)) else (none)) else (none)) else (some true)
def slices_Equal_string_string.f (k : Nat) (l0 : List ByteArray) (l1 : List ByteArray) : Option (Bool) := if (l0.length : Int) = (l1.length : Int) then (slices_Equal_string_string.l0 k l0 l1 (l0.length : Int) 0) else (some false)
theorem slices_Equal_string_string.mono_l : ∀ k, (∀ y0 y1 y2 y3, LeO (slices_Equal_string_string.l0 k y0 y1 y2 y3) (slices_Equal_string_string.l0 (k + 1) y0 y1 y2 y3))
  | 0 => fun _ _ _ _ r h => by simp [slices_Equal_string_string.l0] at h
  | k + 1 => by
    have ih0 := slices_Equal_string_string.mono_l k
    · intro y0 y1 y2 y3
      unfold slices_Equal_string_string.l0
      repeat' first
      | (with_reducible exact ih0 _ _ _ _)
      | (with_reducible exact LeO.refl _)
      | (with_reducible exact LeO.none _)
      | (with_reducible refine LeO.ite ?_ ?_)
      | (with_reducible refine LeO.bind ?_ (fun _ => ?_))
      | exact ih0 _ _ _ _
      | exact LeO.none _
      | refine LeO.ite ?_ ?_
      | refine LeO.bind ?_ (fun _ => ?_)
theorem slices_Equal_string_string.mono : ∀ a0 a1 k, LeO (slices_Equal_string_string.f k a0 a1) (slices_Equal_string_string.f (k + 1) a0 a1) := by
  intro a0 a1 k
  have ih0 := slices_Equal_string_string.mono_l k
  unfold slices_Equal_string_string.f
  repeat' first
      | (with_reducible exact ih0 _ _ _ _)
      | (with_reducible exact LeO.refl _)
      | (with_reducible exact LeO.none _)
      | (with_reducible refine LeO.ite ?_ ?_)
      | (with_reducible refine LeO.bind ?_ (fun _ => ?_))
      | exact ih0 _ _ _ _
      | exact LeO.none _
      | refine LeO.ite ?_ ?_
      | refine LeO.bind ?_ (fun _ => ?_)
set_option maxHeartbeats 8000000 in
set_option maxRecDepth 100000 in
theorem slices_Equal_string_string.calls (k : Nat) (A0 : Option Addr) (c0 : Nat) (l0 : List ByteArray) (A1 : Option Addr) (c1 : Nat) (l1 : List ByteArray) (r : Bool) (w : World) (hr0 : Kd.C Kd.string w A0 l0.length l0) (hc0 : l0.length ≤ c0) (hr1 : Kd.C Kd.string w A1 l1.length l1) (hc1 : l1.length ≤ c1) (h : slices_Equal_string_string.f k l0 l1 = some r) :
    Calls Tryd.prog 36 #[.slice A0 l0.length c0, .slice A1 l1.length c1] w fun e w' => e = .returned (.bool r) ∧ Drawn0 w w' := by
  have HR0 := Aside0.mk hr0
  have HC0 := Aside0.mk hc0
  clear hr0 hc0
  have HR1 := Aside0.mk hr1
  have HC1 := Aside0.mk hc1
  clear hr1 hc1
  have H : (if (l0.length : Int) = (l1.length : Int) then (slices_Equal_string_string.l0 k l0 l1 (l0.length : Int) 0) else (some false)) = some r := h
  clear h
  by_cases c3 : (l0.length : Int) = (l1.length : Int)
  · rw [if_pos c3] at H
    have c3b0 : ((l0.length : Int) == (l1.length : Int)) = true := beq_iff_eq.mpr c3
    have c3b1 : ((l0.length : Int) != (l1.length : Int)) = false := bne_eq_false_iff_eq.mpr c3
    have c3b2 : (l0.length == l1.length) = true := by first | simpa using c3 | (simp at c3 ⊢; omega)
    clear c3
    have H' := Aside0.mk H
    clear H
    go_enter Tryd.func36, Tryd.ntmps36
    go_wp2
    repeat (go_quiet (fail); try go_wp2)
    go_loopg [13] k (fun kq v13 w' => ∃ (x13_1 : Int), v13 = .int .i64 x13_1 ∧ Aside0 (slices_Equal_string_string.l0 kq l0 l1 (l0.length : Int) x13_1 = some r) ∧ Aside0 (kq ≤ k) ∧ Drawn0 w w')
    case atStart => exact ⟨(0), (by first | rfl | (simp; done) | (simp [*]; done)), H', ⟨Nat.le_refl _⟩, by repeat (first | exact Drawn0.refl _ | apply Drawn0.step)⟩
    case round =>
      clear H'
      try clear c1
      try clear p2
      try clear c3
      try clear c3b0
      try clear c3b1
      try clear c3b2
      obtain ⟨x13_1, rfl, HA, HK1, ⟨m1, rfl⟩⟩ := hrel
      cases gk with
      | zero => exact absurd HA.out (by simp [slices_Equal_string_string.l0])
      | succ k1 =>
        have H := HA.out
        clear HA
        simp only [slices_Equal_string_string.l0] at H
        by_cases c4 : x13_1 < (l0.length : Int)
        · rw [if_pos c4] at H
          have c4b0 : decide (x13_1 < (l0.length : Int)) = true := decide_eq_true c4
          clear c4
          by_cases c5 : 0 ≤ x13_1
          · rw [if_pos c5] at H
            have c5b0 : decide (0 ≤ x13_1) = true := decide_eq_true c5
            clear c5
            by_cases c6 : x13_1 < (l0.length : Int)
            · rw [if_pos c6] at H
              have c6b0 : decide (x13_1 < (l0.length : Int)) = true := decide_eq_true c6
              clear c6
              by_cases c7 : x13_1 < (l1.length : Int)
              · rw [if_pos c7] at H
                have c7b0 : decide (x13_1 < (l1.length : Int)) = true := decide_eq_true c7
                clear c7
                by_cases c8 : (rdOf ByteArray.empty l0 x13_1).toList = (rdOf ByteArray.empty l1 x13_1).toList
                · rw [if_pos c8] at H
                  have c8b0 : ((rdOf ByteArray.empty l0 x13_1).toList == (rdOf ByteArray.empty l1 x13_1).toList) = true := beq_iff_eq.mpr c8
                  have c8b1 : ((rdOf ByteArray.empty l0 x13_1).toList != (rdOf ByteArray.empty l1 x13_1).toList) = false := bne_eq_false_iff_eq.mpr c8
                  clear c8
                  have H' := Aside0.mk H
                  clear H
                  have p136 : 0 ≤ (x13_1 : Int) := of_decide_eq_true (by first | (with_reducible assumption) | assumption)
                  have q136 : x13_1 < (l0.length : Int) := of_decide_eq_true (by first | (with_reducible assumption) | assumption)
                  obtain ⟨ad136, e136, hx136_0⟩ := Kd.at_string HR0.out x13_1 p136 q136
                  cases e136
                  replace p136 := eq_true p136
                  replace q136 := eq_true q136
                  have p137 : 0 ≤ (x13_1 : Int) := of_decide_eq_true (by first | (with_reducible assumption) | assumption)
                  have q137 : x13_1 < (l1.length : Int) := of_decide_eq_true (by first | (with_reducible assumption) | assumption)
                  obtain ⟨ad137, e137, hx137_0⟩ := Kd.at_string HR1.out x13_1 p137 q137
                  cases e137
                  replace p137 := eq_true p137
                  replace q137 := eq_true q137
                  go_wp2
                  repeat (go_quiet (fail); try go_wp2)
                  go_roundg k1
                  case measure => have := HK1.out; omega
                  case rel => exact ⟨(wrap64 (x13_1 + 1)), (by first | rfl | (simp; done) | (simp [*]; done)), H', ⟨by have := HK1.out; omega⟩, by repeat (first | exact Drawn0.refl _ | apply Drawn0.step)⟩
                · rw [if_neg c8] at H
                  have c8b0 : ((rdOf ByteArray.empty l0 x13_1).toList == (rdOf ByteArray.empty l1 x13_1).toList) = false := beq_eq_false_iff_ne.mpr c8
                  have c8b1 : ((rdOf ByteArray.empty l0 x13_1).toList != (rdOf ByteArray.empty l1 x13_1).toList) = true := bne_iff_ne.mpr c8
                  obtain rfl := Option.some.inj H
                  have p136 : 0 ≤ (x13_1 : Int) := of_decide_eq_true (by first | (with_reducible assumption) | assumption)
                  have q136 : x13_1 < (l0.length : Int) := of_decide_eq_true (by first | (with_reducible assumption) | assumption)
                  obtain ⟨ad136, e136, hx136_0⟩ := Kd.at_string HR0.out x13_1 p136 q136
                  cases e136
                  replace p136 := eq_true p136
                  replace q136 := eq_true q136
                  have p137 : 0 ≤ (x13_1 : Int) := of_decide_eq_true (by first | (with_reducible assumption) | assumption)
                  have q137 : x13_1 < (l1.length : Int) := of_decide_eq_true (by first | (with_reducible assumption) | assumption)
                  obtain ⟨ad137, e137, hx137_0⟩ := Kd.at_string HR1.out x13_1 p137 q137
                  cases e137
                  replace p137 := eq_true p137
                  replace q137 := eq_true q137
                  go_wp2
                  repeat (go_quiet (fail); try go_wp2)
                  go_ret
                  exact ⟨by first | rfl | (simp; done) | (simp [*]; done), by repeat (first | exact Drawn0.refl _ | apply Drawn0.step)⟩
              · rw [if_neg c7] at H
                exact absurd H (by simp)
            · rw [if_neg c6] at H
              exact absurd H (by simp)
          · rw [if_neg c5] at H
            exact absurd H (by simp)
        · rw [if_neg c4] at H
          have c4b0 : decide (x13_1 < (l0.length : Int)) = false := decide_eq_false c4
          clear c4
          obtain rfl := Option.some.inj H
          go_wp2
          repeat (go_quiet (fail); try go_wp2)
          go_ret
          exact ⟨by first | rfl | (simp; done) | (simp [*]; done), by repeat (first | exact Drawn0.refl _ | apply Drawn0.step)⟩
  · rw [if_neg c3] at H
    have c3b0 : ((l0.length : Int) == (l1.length : Int)) = false := beq_eq_false_iff_ne.mpr c3
    have c3b1 : ((l0.length : Int) != (l1.length : Int)) = true := bne_iff_ne.mpr c3
    have c3b2 : (l0.length == l1.length) = false := by first | simpa using c3 | (simp at c3 ⊢; omega)
    obtain rfl := Option.some.inj H
    go_enter Tryd.func36, Tryd.ntmps36
    go_wp2
    repeat (go_quiet (fail); try go_wp2)
    go_ret
    exact ⟨by first | rfl | (simp; done) | (simp [*]; done), by repeat (first | exact Drawn0.refl _ | apply Drawn0.step)⟩

/-! ### text_Same: function 19 -/
def text_Same.f (k : Nat) (a0 : ByteArray) (a1 : ByteArray) : Option (Bool) := (text_folded.f k a0).bind fun bt138 => ((text_folded.f k a1).bind fun bt142 => (if bt138.2 = 0 then (if bt142.2 = 0 then ((slices_Equal_string_string.f k bt138.1 bt142.1).bind fun t146 => (some t146)) else (some false)) else (some false)))
theorem text_Same.mono : ∀ a0 a1 k, LeO (text_Same.f k a0 a1) (text_Same.f (k + 1) a0 a1) := by
  intro a0 a1 k
  unfold text_Same.f
  repeat' first
      | (with_reducible exact slices_Equal_string_string.mono _ _ _)
      | (with_reducible exact text_folded.mono _ _)
      | (with_reducible exact LeO.refl _)
      | (with_reducible exact LeO.none _)
      | (with_reducible refine LeO.ite ?_ ?_)
      | (with_reducible refine LeO.bind ?_ (fun _ => ?_))
      | exact slices_Equal_string_string.mono _ _ _
      | exact text_folded.mono _ _
      | exact LeO.none _
      | refine LeO.ite ?_ ?_
      | refine LeO.bind ?_ (fun _ => ?_)
set_option maxHeartbeats 8000000 in
set_option maxRecDepth 100000 in
theorem text_Same.calls (k : Nat) (a0 : ByteArray) (a1 : ByteArray) (r : Bool) (w : World) (h : text_Same.f k a0 a1 = some r) :
    Calls Tryd.prog 19 #[.string a0, .string a1] w fun e w' => e = .returned (.bool r) ∧ Below w.heap.size w w' := by
  have HB := Aside0.mk (Below.refl w.heap.size w)
  have H : ((text_folded.f k a0).bind fun bt138 => ((text_folded.f k a1).bind fun bt142 => (if bt138.2 = 0 then (if bt142.2 = 0 then ((slices_Equal_string_string.f k bt138.1 bt142.1).bind fun t146 => (some t146)) else (some false)) else (some false)))) = some r := h
  clear h
  replace H := Option.bind_eq_some_iff.mp H
  obtain ⟨⟨t138, t139⟩, A30, H⟩ := H
  replace H : ((text_folded.f k a1).bind fun bt142 => (if t139 = 0 then (if bt142.2 = 0 then ((slices_Equal_string_string.f k t138 bt142.1).bind fun t146 => (some t146)) else (some false)) else (some false))) = some r := H
  have A3 := Aside0.mk A30
  clear A30
  replace H := Option.bind_eq_some_iff.mp H
  obtain ⟨⟨t142, t143⟩, A40, H⟩ := H
  replace H : (if t139 = 0 then (if t143 = 0 then ((slices_Equal_string_string.f k t138 t142).bind fun t146 => (some t146)) else (some false)) else (some false)) = some r := H
  have A4 := Aside0.mk A40
  clear A40
  by_cases c5 : t139 = 0
  · rw [if_pos c5] at H
    have c5b0 : (t139 == 0) = true := beq_iff_eq.mpr c5
    have c5b1 : (t139 != 0) = false := bne_eq_false_iff_eq.mpr c5
    clear c5
    by_cases c6 : t143 = 0
    · rw [if_pos c6] at H
      have c6b0 : (t143 == 0) = true := beq_iff_eq.mpr c6
      have c6b1 : (t143 != 0) = false := bne_eq_false_iff_eq.mpr c6
      clear c6
      replace H := Option.bind_eq_some_iff.mp H
      obtain ⟨t146, A70, H⟩ := H
      replace H : (some t146) = some r := H
      have A7 := Aside0.mk A70
      clear A70
      obtain rfl := Option.some.inj H
      go_enter Tryd.func19, Tryd.ntmps19
      go_wp2_with (first | ((with_reducible refine gate_callee (f := 35) rfl ?_); refine goesL_ (some 11) rfl rfl Tryd.func35 (by kernel_rfl) rfl #[.string a0] rfl (by (try simp only [List.map_toArray, List.map_cons, List.map_nil]); first | done | rfl | (simp only [List.length_drop, List.length_take]; rfl)) ?_; (with_reducible refine (text_folded.calls k a0 t138 t139 _ A3.out).mono ?_); rintro e w8 ⟨v140, rfl, ho0, hb⟩; refine ⟨_, rfl, ?_⟩; have n0_ := Aside0.mk (Kd.R_lower ho0 (below_size (by repeat (first | (with_reducible first | exact HB.out | apply below_alloc | apply pw_below_drewN | apply below_drew1) | exact HB.out)))); have n1_ := Aside0.mk (below_step (by repeat (first | (with_reducible first | exact HB.out | apply below_alloc | apply pw_below_drewN | apply below_drew1) | exact HB.out)) hb); clear HB; have HO141 := n0_; have HB := n1_; clear n0_ n1_; (try clear hb); (try clear hb2); (try clear hk); (try clear hi); (try clear ho0)) | ((with_reducible refine gate_callee (f := 35) rfl ?_); refine goesL_ (some 16) rfl rfl Tryd.func35 (by kernel_rfl) rfl #[.string a1] rfl (by (try simp only [List.map_toArray, List.map_cons, List.map_nil]); first | done | rfl | (simp only [List.length_drop, List.length_take]; rfl)) ?_; (with_reducible refine (text_folded.calls k a1 t142 t143 _ A4.out).mono ?_); rintro e w9 ⟨v144, rfl, ho0, hb⟩; refine ⟨_, rfl, ?_⟩; have n0_ := Aside0.mk (Kd.R_elder' (by (with_reducible repeat (first | apply Kd.R_alloc | apply Kd.R_drewN | apply Kd.R_drew)); exact HO141.out) (Kd.R_base ho0) hb); have n1_ := Aside0.mk (Kd.R_lower (Kd.R_new' ho0 (Kd.R_lt (by (with_reducible repeat (first | apply Kd.R_alloc | apply Kd.R_drewN | apply Kd.R_drew)); exact HO141.out))) (below_size (by repeat (first | (with_reducible first | exact HB.out | apply below_alloc | apply pw_below_drewN | apply below_drew1) | exact HB.out)))); have n2_ := Aside0.mk (below_step (by repeat (first | (with_reducible first | exact HB.out | apply below_alloc | apply pw_below_drewN | apply below_drew1) | exact HB.out)) hb); clear HO141; clear HB; have HO141 := n0_; have HO145 := n1_; have HB := n2_; clear n0_ n1_ n2_; (try clear hb); (try clear hb2); (try clear hk); (try clear hi); (try clear ho0); obtain ⟨Ao10, co10, eo10⟩ := Kd.R_slice HO141.out; subst eo10; obtain ⟨Ao11, co11, eo11⟩ := Kd.R_slice HO145.out; subst eo11) | (go_at_call 36; (with_reducible refine (slices_Equal_string_string.calls k _ _ t138 _ _ t142 t146 _ ?side1 ?side2 ?side3 ?side4 A7.out).mono ?_); (case side1 => repeat (first | exact (Kd.R_reads' HO141.out).2.2 | (with_reducible refine Kd.C_alloc ?_ _) | (with_reducible refine Kd.C_drewN ?_ _) | (with_reducible refine Kd.C_drew ?_))); (case side2 => exact (Kd.R_reads' HO141.out).2.1); (case side3 => repeat (first | exact (Kd.R_reads' HO145.out).2.2 | (with_reducible refine Kd.C_alloc ?_ _) | (with_reducible refine Kd.C_drewN ?_ _) | (with_reducible refine Kd.C_drew ?_))); (case side4 => exact (Kd.R_reads' HO145.out).2.1); rintro e w' ⟨rfl, ⟨nd, rfl⟩⟩))
      go_ret
      exact ⟨by first | rfl | (simp [errW_none, errW_some] <;> rfl) | (simp [*, errW_none, errW_some] <;> rfl), by repeat (first | (with_reducible first | exact HB.out | apply below_alloc | apply pw_below_drewN | apply below_drew1) | exact HB.out)⟩
    · rw [if_neg c6] at H
      have c6b0 : (t143 == 0) = false := beq_eq_false_iff_ne.mpr c6
      have c6b1 : (t143 != 0) = true := bne_iff_ne.mpr c6
      obtain rfl := Option.some.inj H
      go_enter Tryd.func19, Tryd.ntmps19
      go_wp2_with (first | ((with_reducible refine gate_callee (f := 35) rfl ?_); refine goesL_ (some 11) rfl rfl Tryd.func35 (by kernel_rfl) rfl #[.string a0] rfl (by (try simp only [List.map_toArray, List.map_cons, List.map_nil]); first | done | rfl | (simp only [List.length_drop, List.length_take]; rfl)) ?_; (with_reducible refine (text_folded.calls k a0 t138 t139 _ A3.out).mono ?_); rintro e w12 ⟨v140, rfl, ho0, hb⟩; refine ⟨_, rfl, ?_⟩; have n0_ := Aside0.mk (Kd.R_lower ho0 (below_size (by repeat (first | (with_reducible first | exact HB.out | apply below_alloc | apply pw_below_drewN | apply below_drew1) | exact HB.out)))); have n1_ := Aside0.mk (below_step (by repeat (first | (with_reducible first | exact HB.out | apply below_alloc | apply pw_below_drewN | apply below_drew1) | exact HB.out)) hb); clear HB; have HO141 := n0_; have HB := n1_; clear n0_ n1_; (try clear hb); (try clear hb2); (try clear hk); (try clear hi); (try clear ho0)) | ((with_reducible refine gate_callee (f := 35) rfl ?_); refine goesL_ (some 16) rfl rfl Tryd.func35 (by kernel_rfl) rfl #[.string a1] rfl (by (try simp only [List.map_toArray, List.map_cons, List.map_nil]); first | done | rfl | (simp only [List.length_drop, List.length_take]; rfl)) ?_; (with_reducible refine (text_folded.calls k a1 t142 t143 _ A4.out).mono ?_); rintro e w13 ⟨v144, rfl, ho0, hb⟩; refine ⟨_, rfl, ?_⟩; have n0_ := Aside0.mk (Kd.R_elder' (by (with_reducible repeat (first | apply Kd.R_alloc | apply Kd.R_drewN | apply Kd.R_drew)); exact HO141.out) (Kd.R_base ho0) hb); have n1_ := Aside0.mk (Kd.R_lower (Kd.R_new' ho0 (Kd.R_lt (by (with_reducible repeat (first | apply Kd.R_alloc | apply Kd.R_drewN | apply Kd.R_drew)); exact HO141.out))) (below_size (by repeat (first | (with_reducible first | exact HB.out | apply below_alloc | apply pw_below_drewN | apply below_drew1) | exact HB.out)))); have n2_ := Aside0.mk (below_step (by repeat (first | (with_reducible first | exact HB.out | apply below_alloc | apply pw_below_drewN | apply below_drew1) | exact HB.out)) hb); clear HO141; clear HB; have HO141 := n0_; have HO145 := n1_; have HB := n2_; clear n0_ n1_ n2_; (try clear hb); (try clear hb2); (try clear hk); (try clear hi); (try clear ho0)))
      go_ret
      exact ⟨by first | rfl | (simp [errW_none, errW_some] <;> rfl) | (simp [*, errW_none, errW_some] <;> rfl), by repeat (first | (with_reducible first | exact HB.out | apply below_alloc | apply pw_below_drewN | apply below_drew1) | exact HB.out)⟩
  · rw [if_neg c5] at H
    have c5b0 : (t139 == 0) = false := beq_eq_false_iff_ne.mpr c5
    have c5b1 : (t139 != 0) = true := bne_iff_ne.mpr c5
    obtain rfl := Option.some.inj H
    go_enter Tryd.func19, Tryd.ntmps19
    go_wp2_with (first | ((with_reducible refine gate_callee (f := 35) rfl ?_); refine goesL_ (some 11) rfl rfl Tryd.func35 (by kernel_rfl) rfl #[.string a0] rfl (by (try simp only [List.map_toArray, List.map_cons, List.map_nil]); first | done | rfl | (simp only [List.length_drop, List.length_take]; rfl)) ?_; (with_reducible refine (text_folded.calls k a0 t138 t139 _ A3.out).mono ?_); rintro e w14 ⟨v140, rfl, ho0, hb⟩; refine ⟨_, rfl, ?_⟩; have n0_ := Aside0.mk (Kd.R_lower ho0 (below_size (by repeat (first | (with_reducible first | exact HB.out | apply below_alloc | apply pw_below_drewN | apply below_drew1) | exact HB.out)))); have n1_ := Aside0.mk (below_step (by repeat (first | (with_reducible first | exact HB.out | apply below_alloc | apply pw_below_drewN | apply below_drew1) | exact HB.out)) hb); clear HB; have HO141 := n0_; have HB := n1_; clear n0_ n1_; (try clear hb); (try clear hb2); (try clear hk); (try clear hi); (try clear ho0)) | ((with_reducible refine gate_callee (f := 35) rfl ?_); refine goesL_ (some 16) rfl rfl Tryd.func35 (by kernel_rfl) rfl #[.string a1] rfl (by (try simp only [List.map_toArray, List.map_cons, List.map_nil]); first | done | rfl | (simp only [List.length_drop, List.length_take]; rfl)) ?_; (with_reducible refine (text_folded.calls k a1 t142 t143 _ A4.out).mono ?_); rintro e w15 ⟨v144, rfl, ho0, hb⟩; refine ⟨_, rfl, ?_⟩; have n0_ := Aside0.mk (Kd.R_elder' (by (with_reducible repeat (first | apply Kd.R_alloc | apply Kd.R_drewN | apply Kd.R_drew)); exact HO141.out) (Kd.R_base ho0) hb); have n1_ := Aside0.mk (Kd.R_lower (Kd.R_new' ho0 (Kd.R_lt (by (with_reducible repeat (first | apply Kd.R_alloc | apply Kd.R_drewN | apply Kd.R_drew)); exact HO141.out))) (below_size (by repeat (first | (with_reducible first | exact HB.out | apply below_alloc | apply pw_below_drewN | apply below_drew1) | exact HB.out)))); have n2_ := Aside0.mk (below_step (by repeat (first | (with_reducible first | exact HB.out | apply below_alloc | apply pw_below_drewN | apply below_drew1) | exact HB.out)) hb); clear HO141; clear HB; have HO141 := n0_; have HO145 := n1_; have HB := n2_; clear n0_ n1_ n2_; (try clear hb); (try clear hb2); (try clear hk); (try clear hi); (try clear ho0)))
    go_ret
    exact ⟨by first | rfl | (simp [errW_none, errW_some] <;> rfl) | (simp [*, errW_none, errW_some] <;> rfl), by repeat (first | (with_reducible first | exact HB.out | apply below_alloc | apply pw_below_drewN | apply below_drew1) | exact HB.out)⟩

/-! ### text_Word: function 21 -/
def text_Word.f (k : Nat) (a0 : ByteArray) (a1 : Int) : Option (ByteArray × Int) := (text_Words.f k a0).bind fun bt147 => (if bt147.2 = 0 then (if a1 < 0 then (some ((⟨#[]⟩ : ByteArray), 6)) else (if a1 ≥ (bt147.1.length : Int) then (some ((⟨#[]⟩ : ByteArray), 6)) else (if 0 ≤ a1 then (if a1 < (bt147.1.length : Int) then (if 0 ≤ ((rd_T46 bt147.1 a1).f0) then (if ((rd_T46 bt147.1 a1).f0) ≤ ((rd_T46 bt147.1 a1).f1) then (if ((rd_T46 bt147.1 a1).f1) ≤ (a0.size : Int) then ((text_Fold.f k (a0.extract (((rd_T46 bt147.1 a1).f0) : Int).toNat (((rd_T46 bt147.1 a1).f1) : Int).toNat)).bind fun t153 => (some (t153, 0))) else (none)) else (none)) else (none)) else (none)) else (none)))) else (some ((⟨#[]⟩ : ByteArray), bt147.2)))
theorem text_Word.mono : ∀ a0 a1 k, LeO (text_Word.f k a0 a1) (text_Word.f (k + 1) a0 a1) := by
  intro a0 a1 k
  unfold text_Word.f
  repeat' first
      | (with_reducible exact text_Fold.mono _ _)
      | (with_reducible exact text_Words.mono _ _)
      | (with_reducible exact LeO.refl _)
      | (with_reducible exact LeO.none _)
      | (with_reducible refine LeO.ite ?_ ?_)
      | (with_reducible refine LeO.bind ?_ (fun _ => ?_))
      | exact text_Fold.mono _ _
      | exact text_Words.mono _ _
      | exact LeO.none _
      | refine LeO.ite ?_ ?_
      | refine LeO.bind ?_ (fun _ => ?_)
def text_Word.T6 : Bool × List (List Nat × List Nat) := (true, [([], []), ([], []), ([], []), ([1, 2], [1, 2]), ([3], [3]), ([4], [4]), ([], []), ([], []), ([6, 7], [6, 7]), ([8], [8]), ([9], [9]), ([0, 5, 10], [0, 5, 10]), ([11], [11]), ([12, 12, 0, 1, 2, 3, 4, 5, 6, 7, 8, 9, 10, 11, 12], [12]), ([13, 0, 1, 2, 3, 4, 5, 6, 7, 8, 9, 10, 11, 12, 13], [])])
def text_Word.B6 : List Nat := [0, 0, 0, 6, 14, 30, 0, 0, 192, 448, 960, 2047, 4095, 8191, 16383]
theorem text_Word.tab6 : rtab .any (opsOf Tryd.f21 6) = text_Word.T6 := by kernel_rfl
theorem text_Word.bits6 : waitsOk text_Word.T6.2 text_Word.B6 = true := by kernel_rfl
set_option maxHeartbeats 8000000 in
set_option maxRecDepth 100000 in
theorem text_Word.calls (k : Nat) (a0 : ByteArray) (a1 : Int) (r1 : ByteArray) (r2 : Int) (w : World) (h : text_Word.f k a0 a1 = some (r1, r2)) :
    Calls Tryd.prog 21 #[.string a0, .int .i64 a1] w fun e w' => e = .returned (.tuple #[.string r1, .int .i64 r2]) ∧ Below w.heap.size w w' := by
  have HB := Aside0.mk (Below.refl w.heap.size w)
  have H : ((text_Words.f k a0).bind fun bt147 => (if bt147.2 = 0 then (if a1 < 0 then (some ((⟨#[]⟩ : ByteArray), 6)) else (if a1 ≥ (bt147.1.length : Int) then (some ((⟨#[]⟩ : ByteArray), 6)) else (if 0 ≤ a1 then (if a1 < (bt147.1.length : Int) then (if 0 ≤ ((rd_T46 bt147.1 a1).f0) then (if ((rd_T46 bt147.1 a1).f0) ≤ ((rd_T46 bt147.1 a1).f1) then (if ((rd_T46 bt147.1 a1).f1) ≤ (a0.size : Int) then ((text_Fold.f k (a0.extract (((rd_T46 bt147.1 a1).f0) : Int).toNat (((rd_T46 bt147.1 a1).f1) : Int).toNat)).bind fun t153 => (some (t153, 0))) else (none)) else (none)) else (none)) else (none)) else (none)))) else (some ((⟨#[]⟩ : ByteArray), bt147.2)))) = some (r1, r2) := h
  clear h
  replace H := Option.bind_eq_some_iff.mp H
  obtain ⟨⟨t147, t148⟩, A30, H⟩ := H
  replace H : (if t148 = 0 then (if a1 < 0 then (some ((⟨#[]⟩ : ByteArray), 6)) else (if a1 ≥ (t147.length : Int) then (some ((⟨#[]⟩ : ByteArray), 6)) else (if 0 ≤ a1 then (if a1 < (t147.length : Int) then (if 0 ≤ ((rd_T46 t147 a1).f0) then (if ((rd_T46 t147 a1).f0) ≤ ((rd_T46 t147 a1).f1) then (if ((rd_T46 t147 a1).f1) ≤ (a0.size : Int) then ((text_Fold.f k (a0.extract (((rd_T46 t147 a1).f0) : Int).toNat (((rd_T46 t147 a1).f1) : Int).toNat)).bind fun t153 => (some (t153, 0))) else (none)) else (none)) else (none)) else (none)) else (none)))) else (some ((⟨#[]⟩ : ByteArray), t148))) = some (r1, r2) := H
  have A3 := Aside0.mk A30
  clear A30
  by_cases c4 : t148 = 0
  · rw [if_pos c4] at H
    have c4b0 : (t148 == 0) = true := beq_iff_eq.mpr c4
    have c4b1 : (t148 != 0) = false := bne_eq_false_iff_eq.mpr c4
    clear c4
    by_cases c5 : a1 < 0
    · rw [if_pos c5] at H
      have c5b0 : decide (a1 < 0) = true := decide_eq_true c5
      clear c5
      simp only [Option.some.injEq, Prod.mk.injEq] at H
      obtain ⟨rfl, rfl⟩ := H
      go_enter Tryd.func21, Tryd.ntmps21
      go_wp2_with (first | ((with_reducible refine gate_callee (f := 20) rfl ?_); refine goesL_ (some 10) rfl rfl Tryd.func20 (by kernel_rfl) rfl #[.string a0] rfl (by (try simp only [List.map_toArray, List.map_cons, List.map_nil]); first | done | rfl | (simp only [List.length_drop, List.length_take]; rfl)) ?_; (with_reducible refine (text_Words.calls k a0 t147 t148 _ A3.out).mono ?_); rintro e w6 ⟨v149, rfl, ho0, hb⟩; refine ⟨_, rfl, ?_⟩; have n0_ := Aside0.mk (Kd.R_lower ho0 (below_size (by repeat (first | (with_reducible first | exact HB.out | apply below_alloc | apply pw_below_drewN | apply below_drew1) | exact HB.out)))); have n1_ := Aside0.mk (below_step (by repeat (first | (with_reducible first | exact HB.out | apply below_alloc | apply pw_below_drewN | apply below_drew1) | exact HB.out)) hb); clear HB; have HO150 := n0_; have HB := n1_; clear n0_ n1_; (try clear hb); (try clear hb2); (try clear hk); (try clear hi); (try clear ho0)))
      go_ret2
      exact ⟨by first | rfl | (simp [errW_none, errW_some] <;> rfl) | (simp [*, errW_none, errW_some] <;> rfl), by repeat (first | (with_reducible first | exact HB.out | apply below_alloc | apply pw_below_drewN | apply below_drew1) | exact HB.out)⟩
    · rw [if_neg c5] at H
      have c5b0 : decide (a1 < 0) = false := decide_eq_false c5
      clear c5
      by_cases c7 : a1 ≥ (t147.length : Int)
      · rw [if_pos c7] at H
        have c7b0 : decide ((t147.length : Int) ≤ a1) = true := decide_eq_true c7
        clear c7
        simp only [Option.some.injEq, Prod.mk.injEq] at H
        obtain ⟨rfl, rfl⟩ := H
        go_enter Tryd.func21, Tryd.ntmps21
        go_wp2_with (first | ((with_reducible refine gate_callee (f := 20) rfl ?_); refine goesL_ (some 10) rfl rfl Tryd.func20 (by kernel_rfl) rfl #[.string a0] rfl (by (try simp only [List.map_toArray, List.map_cons, List.map_nil]); first | done | rfl | (simp only [List.length_drop, List.length_take]; rfl)) ?_; (with_reducible refine (text_Words.calls k a0 t147 t148 _ A3.out).mono ?_); rintro e w8 ⟨v149, rfl, ho0, hb⟩; refine ⟨_, rfl, ?_⟩; have n0_ := Aside0.mk (Kd.R_lower ho0 (below_size (by repeat (first | (with_reducible first | exact HB.out | apply below_alloc | apply pw_below_drewN | apply below_drew1) | exact HB.out)))); have n1_ := Aside0.mk (below_step (by repeat (first | (with_reducible first | exact HB.out | apply below_alloc | apply pw_below_drewN | apply below_drew1) | exact HB.out)) hb); clear HB; have HO150 := n0_; have HB := n1_; clear n0_ n1_; (try clear hb); (try clear hb2); (try clear hk); (try clear hi); (try clear ho0); obtain ⟨Ao9, co9, eo9⟩ := Kd.R_slice HO150.out; subst eo9))
        go_ret2
        exact ⟨by first | rfl | (simp [errW_none, errW_some] <;> rfl) | (simp [*, errW_none, errW_some] <;> rfl), by repeat (first | (with_reducible first | exact HB.out | apply below_alloc | apply pw_below_drewN | apply below_drew1) | exact HB.out)⟩
      · rw [if_neg c7] at H
        have c7b0 : decide ((t147.length : Int) ≤ a1) = false := decide_eq_false c7
        clear c7
        by_cases c10 : 0 ≤ a1
        · rw [if_pos c10] at H
          have c10b0 : decide (0 ≤ a1) = true := decide_eq_true c10
          clear c10
          by_cases c11 : a1 < (t147.length : Int)
          · rw [if_pos c11] at H
            have c11b0 : decide (a1 < (t147.length : Int)) = true := decide_eq_true c11
            clear c11
            by_cases c12 : 0 ≤ ((rd_T46 t147 a1).f0)
            · rw [if_pos c12] at H
              have c12b0 := eq_true c12
              have c12b1 : decide (0 ≤ ((rd_T46 t147 a1).f0)) = true := decide_eq_true c12
              clear c12
              by_cases c13 : ((rd_T46 t147 a1).f0) ≤ ((rd_T46 t147 a1).f1)
              · rw [if_pos c13] at H
                have c13b0 := eq_true c13
                have c13b1 : decide (((rd_T46 t147 a1).f0) ≤ ((rd_T46 t147 a1).f1)) = true := decide_eq_true c13
                clear c13
                by_cases c14 : ((rd_T46 t147 a1).f1) ≤ (a0.size : Int)
                · rw [if_pos c14] at H
                  have c14b0 := eq_true c14
                  have c14b1 : decide (((rd_T46 t147 a1).f1) ≤ (a0.size : Int)) = true := decide_eq_true c14
                  clear c14
                  replace H := Option.bind_eq_some_iff.mp H
                  obtain ⟨t153, A150, H⟩ := H
                  replace H : (some (t153, 0)) = some (r1, r2) := H
                  have A15 := Aside0.mk A150
                  clear A150
                  simp only [Option.some.injEq, Prod.mk.injEq] at H
                  obtain ⟨rfl, rfl⟩ := H
                  go_enter Tryd.func21, Tryd.ntmps21
                  try go_wp2_with (first | ((with_reducible refine gate_callee (f := 20) rfl ?_); refine goesL_ (some 10) rfl rfl Tryd.func20 (by kernel_rfl) rfl #[.string a0] rfl (by (try simp only [List.map_toArray, List.map_cons, List.map_nil]); first | done | rfl | (simp only [List.length_drop, List.length_take]; rfl)) ?_; (with_reducible refine (text_Words.calls k a0 t147 t148 _ A3.out).mono ?_); rintro e w16 ⟨v149, rfl, ho0, hb⟩; refine ⟨_, rfl, ?_⟩; have n0_ := Aside0.mk (Kd.R_lower ho0 (below_size (by repeat (first | (with_reducible first | exact HB.out | apply below_alloc | apply pw_below_drewN | apply below_drew1) | exact HB.out)))); have n1_ := Aside0.mk (below_step (by repeat (first | (with_reducible first | exact HB.out | apply below_alloc | apply pw_below_drewN | apply below_drew1) | exact HB.out)) hb); clear HB; have HO150 := n0_; have HB := n1_; clear n0_ n1_; (try clear hb); (try clear hb2); (try clear hk); (try clear hi); (try clear ho0); obtain ⟨Ao17, co17, eo17⟩ := Kd.R_slice HO150.out; subst eo17))
                  have n0_ := Aside0.mk (Kd.R_drew HO150.out)
                  have n1_ := Aside0.mk (below_drew1 HB.out)
                  clear HO150
                  clear HB
                  have HO150 := n0_
                  have HB := n1_
                  clear n0_ n1_
                  have p151 : 0 ≤ (a1 : Int) := of_decide_eq_true (by first | (with_reducible assumption) | assumption)
                  have q151 : a1 < (t147.length : Int) := of_decide_eq_true (by first | (with_reducible assumption) | assumption)
                  obtain ⟨ad151, e151, hx151_0, hx151_1⟩ := at_T46 (Kd.R_reads' HO150.out).2.2 a1 p151 q151
                  cases e151
                  replace p151 := eq_true p151
                  replace q151 := eq_true q151
                  have p152 : 0 ≤ (a1 : Int) := of_decide_eq_true (by first | (with_reducible assumption) | assumption)
                  have q152 : a1 < (t147.length : Int) := of_decide_eq_true (by first | (with_reducible assumption) | assumption)
                  obtain ⟨ad152, e152, hx152_0, hx152_1⟩ := at_T46 (Kd.R_reads' HO150.out).2.2 a1 p152 q152
                  obtain rfl : ad151 = ad152 := (by injection e152)
                  replace p152 := eq_true p152
                  replace q152 := eq_true q152
                  refine start_ (n := 15) (S := fun w' => w'.cell? (ad151.add ((a1).toNat * 2)) = some (.int .i64 ((rd_T46 t147 a1).f0)) ∧ w'.cell? ⟨(ad151.add ((a1).toNat * 2)).block, (ad151.add ((a1).toNat * 2)).off + 1, none⟩ = some (.int .i64 ((rd_T46 t147 a1).f1)) ∧ w'.cell? (ad151.add ((a1).toNat * 2)) = some (.int .i64 ((rd_T46 t147 a1).f0)) ∧ w'.cell? ⟨(ad151.add ((a1).toNat * 2)).block, (ad151.add ((a1).toNat * 2)).off + 1, none⟩ = some (.int .i64 ((rd_T46 t147 a1).f1))) (ds := []) #[false, false, false, false, false, false, false, false, false, false, false, false, false, false, false] (by kernel_rfl) rfl rfl ⟨hx151_0, hx151_1, hx152_0, hx152_1⟩ (fun hHeld => ?_); refine with_tabW text_Word.tab6 text_Word.bits6 (fun HT_ HW_ => ?_)
                  generalize w16.drew = w18 at HO150 HB hx151_0 hx151_1 hx152_0 hx152_1 hHeld ⊢
                  refine pure_ (i := 0) (N := some 24) (v := ?_) (a' := ?_) #[true, false, false, false, false, false, false, false, false, false, false, false, false, false, false] rfl rfl (any_of HT_.out (by kernel_rfl)) (fun _ _ _ h => h) (Or.inl ⟨by rfl, ?_⟩) ?_ ?_
                  rotate_left
                  · intro w'
                    go_simp
                    with_reducible rfl
                  rotate_left
                  · simp only [Act.put, List.setIfInBounds_toArray, List.set_cons_zero, List.set_cons_succ, i64_w, i32_w]
                    rfl
                  refine pure_ (i := 1) (N := some 25) (v := ?_) (a' := ?_) #[true, true, false, false, false, false, false, false, false, false, false, false, false, false, false] rfl rfl (any_of HT_.out (by kernel_rfl)) (fun _ _ _ h => h) (Or.inl ⟨by rfl, ?_⟩) ?_ ?_
                  rotate_left
                  · intro w'
                    go_simp
                    with_reducible rfl
                  rotate_left
                  · simp only [Act.put, List.setIfInBounds_toArray, List.set_cons_zero, List.set_cons_succ, i64_w, i32_w]
                    rfl
                  refine pure_ (i := 2) (N := some 26) (v := ?_) (a' := ?_) #[true, true, true, false, false, false, false, false, false, false, false, false, false, false, false] rfl rfl (any_of HT_.out (by kernel_rfl)) (fun _ _ _ h => h) (Or.inl ⟨by rfl, ?_⟩) ?_ ?_
                  rotate_left
                  · intro w'
                    go_simp
                    with_reducible rfl
                  rotate_left
                  · simp only [Act.put, List.setIfInBounds_toArray, List.set_cons_zero, List.set_cons_succ, i64_w, i32_w]
                    rfl
                  refine pure_ (i := 3) (N := some 27) (v := ?_) (a' := ?_) #[true, true, true, true, false, false, false, false, false, false, false, false, false, false, false] rfl rfl (any_of HT_.out (by kernel_rfl)) (fun _ _ _ h => h) (Or.inl ⟨by rfl, ?_⟩) ?_ ?_
                  rotate_left
                  · intro w'
                    go_simp
                    with_reducible rfl
                  rotate_left
                  · simp only [Act.put, List.setIfInBounds_toArray, List.set_cons_zero, List.set_cons_succ, i64_w, i32_w]
                    rfl
                  refine pure_ (i := 4) (N := some 28) (v := ?_) (a' := ?_) #[true, true, true, true, true, false, false, false, false, false, false, false, false, false, false] rfl rfl (any_of HT_.out (by kernel_rfl)) (fun _ _ _ h => h) (Or.inl ⟨by rfl, ?_⟩) ?_ ?_
                  rotate_left
                  · intro w'
                    go_simp
                    with_reducible rfl
                  rotate_left
                  · simp only [Act.put, List.setIfInBounds_toArray, List.set_cons_zero, List.set_cons_succ, i64_w, i32_w]
                    rfl
                  refine pure_ (i := 6) (N := some 30) (v := ?_) (a' := ?_) #[true, true, true, true, true, false, true, false, false, false, false, false, false, false, false] rfl rfl (any_of HT_.out (by kernel_rfl)) (fun _ _ _ h => h) (Or.inl ⟨by rfl, ?_⟩) ?_ ?_
                  rotate_left
                  · intro w'
                    go_simp
                    with_reducible rfl
                  rotate_left
                  · simp only [Act.put, List.setIfInBounds_toArray, List.set_cons_zero, List.set_cons_succ, i64_w, i32_w]
                    rfl
                  refine pure_ (i := 7) (N := some 31) (v := ?_) (a' := ?_) #[true, true, true, true, true, false, true, true, false, false, false, false, false, false, false] rfl rfl (any_of HT_.out (by kernel_rfl)) (fun _ _ _ h => h) (Or.inl ⟨by rfl, ?_⟩) ?_ ?_
                  rotate_left
                  · intro w'
                    go_simp
                    with_reducible rfl
                  rotate_left
                  · simp only [Act.put, List.setIfInBounds_toArray, List.set_cons_zero, List.set_cons_succ, i64_w, i32_w]
                    rfl
                  refine pure_ (i := 8) (N := some 32) (v := ?_) (a' := ?_) #[true, true, true, true, true, false, true, true, true, false, false, false, false, false, false] rfl rfl (any_of HT_.out (by kernel_rfl)) (fun _ _ _ h => h) (Or.inl ⟨by rfl, ?_⟩) ?_ ?_
                  rotate_left
                  · intro w'
                    go_simp
                    with_reducible rfl
                  rotate_left
                  · simp only [Act.put, List.setIfInBounds_toArray, List.set_cons_zero, List.set_cons_succ, i64_w, i32_w]
                    rfl
                  refine pure_ (i := 9) (N := some 33) (v := ?_) (a' := ?_) #[true, true, true, true, true, false, true, true, true, true, false, false, false, false, false] rfl rfl (any_of HT_.out (by kernel_rfl)) (fun _ _ _ h => h) (Or.inl ⟨by rfl, ?_⟩) ?_ ?_
                  rotate_left
                  · intro w'
                    go_simp
                    with_reducible rfl
                  rotate_left
                  · simp only [Act.put, List.setIfInBounds_toArray, List.set_cons_zero, List.set_cons_succ, i64_w, i32_w]
                    rfl
                  refine take_ (i := 5) (N := some 29) (v := ?_) (a' := ?_) #[true, true, true, true, true, true, true, true, true, true, false, false, false, false, false] rfl rfl (take_ofW HT_.out HW_.out (by kernel_rfl)) (fun _ _ _ h => h) (Or.inl ⟨by rfl, ?_⟩) hHeld ?_ ?_
                  rotate_left
                  · rintro w' ⟨s0, s1, s2, s3⟩
                    go_simp
                    with_reducible rfl
                  rotate_left
                  · simp only [Act.put, List.setIfInBounds_toArray, List.set_cons_zero, List.set_cons_succ, i64_w, i32_w]
                    rfl
                  refine take_ (i := 10) (N := some 34) (v := ?_) (a' := ?_) #[true, true, true, true, true, true, true, true, true, true, true, false, false, false, false] rfl rfl (take_ofW HT_.out HW_.out (by kernel_rfl)) (fun _ _ _ h => h) (Or.inl ⟨by rfl, ?_⟩) hHeld ?_ ?_
                  rotate_left
                  · rintro w' ⟨s0, s1, s2, s3⟩
                    go_simp
                    with_reducible rfl
                  rotate_left
                  · simp only [Act.put, List.setIfInBounds_toArray, List.set_cons_zero, List.set_cons_succ, i64_w, i32_w]
                    rfl
                  refine pure_ (i := 11) (N := some 35) (v := ?_) (a' := ?_) #[true, true, true, true, true, true, true, true, true, true, true, true, false, false, false] rfl rfl (any_of HT_.out (by kernel_rfl)) (fun _ _ _ h => h) (Or.inl ⟨by rfl, ?_⟩) ?_ ?_
                  rotate_left
                  · intro w'
                    go_simp
                    with_reducible rfl
                  rotate_left
                  · simp only [Act.put, List.setIfInBounds_toArray, List.set_cons_zero, List.set_cons_succ, i64_w, i32_w]
                    rfl
                  refine one_ (i := 12) (N := some 36) #[true, true, true, true, true, true, true, true, true, true, true, true, true, false, false] rfl rfl (one_of HT_.out (by kernel_rfl)) (by decide) (fun K hK => ?_)
                  refine goes_ Tryd.func39 (by kernel_rfl) rfl #[.string (a0.extract (((rd_T46 t147 a1).f0) : Int).toNat (((rd_T46 t147 a1).f1) : Int).toNat)] (by rfl) rfl rfl (by (try simp only [List.map_toArray, List.map_cons, List.map_nil]); first | done | rfl | (simp only [List.length_drop, List.length_take]; rfl)) ?_
                  with_reducible refine (text_Fold.calls k (a0.extract (((rd_T46 t147 a1).f0) : Int).toNat (((rd_T46 t147 a1).f1) : Int).toNat) t153 _ A15.out).mono ?_
                  rintro e w19 ⟨rfl, hb⟩
                  have HS0_ := (hb.cell (World.block_lt_of_cell? _ _ (hHeld.1))).trans (hHeld.1)
                  have HS1_ := (hb.cell (World.block_lt_of_cell? _ _ (hHeld.2.1))).trans (hHeld.2.1)
                  have HS2_ := (hb.cell (World.block_lt_of_cell? _ _ (hHeld.2.2.1))).trans (hHeld.2.2.1)
                  have HS3_ := (hb.cell (World.block_lt_of_cell? _ _ (hHeld.2.2.2))).trans (hHeld.2.2.2)
                  refine ⟨_, rfl, ?_⟩
                  have n0_ := Aside0.mk (Kd.R_below (by (with_reducible repeat (first | apply Kd.R_alloc | apply Kd.R_drewN | apply Kd.R_drew)); exact HO150.out) hb)
                  have n1_ := Aside0.mk (below_step (by repeat (first | (with_reducible first | exact HB.out | apply below_alloc | apply pw_below_drewN | apply below_drew1) | exact HB.out)) hb)
                  clear HO150
                  clear HB
                  have HO150 := n0_
                  have HB := n1_
                  clear n0_ n1_
                  (try clear hb)
                  (try clear hb2)
                  (try clear hk)
                  (try clear hi)
                  refine hK.out _ _ ⟨HS0_, HS1_, HS2_, HS3_⟩ (fun hHeld => ?_)
                  clear hK K
                  refine norm_ (a' := ?_) ?_ ?_
                  rotate_left
                  · show Act.put _ (some 36) _ = _
                    simp only [Act.put, List.setIfInBounds_toArray, List.set_cons_zero, List.set_cons_succ, i64_w, i32_w]
                    rfl
                  refine pure_ (i := 13) (N := some 4) (v := ?_) (a' := ?_) #[true, true, true, true, true, true, true, true, true, true, true, true, true, true, false] rfl rfl (any_of HT_.out (by kernel_rfl)) (fun _ _ _ h => h) (Or.inl ⟨by rfl, ?_⟩) ?_ ?_
                  rotate_left
                  · intro w'
                    go_simp
                    with_reducible rfl
                  rotate_left
                  · simp only [Act.put, List.setIfInBounds_toArray, List.set_cons_zero, List.set_cons_succ, i64_w, i32_w]
                    rfl
                  refine pure_ (i := 14) (N := some 5) (v := ?_) (a' := ?_) #[true, true, true, true, true, true, true, true, true, true, true, true, true, true, true] rfl rfl (any_of HT_.out (by kernel_rfl)) (fun _ _ _ h => h) (Or.inl ⟨by rfl, ?_⟩) ?_ ?_
                  rotate_left
                  · intro w'
                    go_simp
                    with_reducible rfl
                  rotate_left
                  · simp only [Act.put, List.setIfInBounds_toArray, List.set_cons_zero, List.set_cons_succ, i64_w, i32_w]
                    rfl
                  refine done_ (done_of HT_.out (by kernel_rfl)) ?_
                  try go_wp2
                  go_ret2
                  exact ⟨by first | rfl | (simp [errW_none, errW_some] <;> rfl) | (simp [*, errW_none, errW_some] <;> rfl), by repeat (first | (with_reducible first | exact HB.out | apply below_alloc | apply pw_below_drewN | apply below_drew1) | exact HB.out)⟩
                · rw [if_neg c14] at H
                  exact absurd H (by simp)
              · rw [if_neg c13] at H
                exact absurd H (by simp)
            · rw [if_neg c12] at H
              exact absurd H (by simp)
          · rw [if_neg c11] at H
            exact absurd H (by simp)
        · rw [if_neg c10] at H
          exact absurd H (by simp)
  · rw [if_neg c4] at H
    have c4b0 : (t148 == 0) = false := beq_eq_false_iff_ne.mpr c4
    have c4b1 : (t148 != 0) = true := bne_iff_ne.mpr c4
    simp only [Option.some.injEq, Prod.mk.injEq] at H
    obtain ⟨rfl, rfl⟩ := H
    go_enter Tryd.func21, Tryd.ntmps21
    go_wp2_with (first | ((with_reducible refine gate_callee (f := 20) rfl ?_); refine goesL_ (some 10) rfl rfl Tryd.func20 (by kernel_rfl) rfl #[.string a0] rfl (by (try simp only [List.map_toArray, List.map_cons, List.map_nil]); first | done | rfl | (simp only [List.length_drop, List.length_take]; rfl)) ?_; (with_reducible refine (text_Words.calls k a0 t147 t148 _ A3.out).mono ?_); rintro e w20 ⟨v149, rfl, ho0, hb⟩; refine ⟨_, rfl, ?_⟩; have n0_ := Aside0.mk (Kd.R_lower ho0 (below_size (by repeat (first | (with_reducible first | exact HB.out | apply below_alloc | apply pw_below_drewN | apply below_drew1) | exact HB.out)))); have n1_ := Aside0.mk (below_step (by repeat (first | (with_reducible first | exact HB.out | apply below_alloc | apply pw_below_drewN | apply below_drew1) | exact HB.out)) hb); clear HB; have HO150 := n0_; have HB := n1_; clear n0_ n1_; (try clear hb); (try clear hb2); (try clear hk); (try clear hi); (try clear ho0)))
    go_ret2
    exact ⟨by first | rfl | (simp [errW_none, errW_some] <;> rfl) | (simp [*, errW_none, errW_some] <;> rfl), by repeat (first | (with_reducible first | exact HB.out | apply below_alloc | apply pw_below_drewN | apply below_drew1) | exact HB.out)⟩

/-! ### api_Span: function 22 -/
def api_Span.l0 : Nat → List (S46) → List (S46) → Int → Int → Option (Bool)
  | 0, _, _, _, _ => none
  | k + 1, x0, x1, x12, x13 => if x13 < x12 then (if 0 ≤ x13 then (if x13 < (x0.length : Int) then (if x13 < (x1.length : Int) then (if (!(((rd_T46 x0 x13).f0) == ((rd_T46 x1 x13).f0)) || (!(((rd_T46 x0 x13).f1) == ((rd_T46 x1 x13).f1)))) = true then (some false) else (api_Span.l0 k x0 x1 x12 (wrap64 (x13 + 1)))) else (none)) else (none)) else (none)) else (some true)
def api_Span.f (k : Nat) (l0 : List (S46)) (l1 : List (S46)) : Option (Bool) := if (l0.length : Int) = (l1.length : Int) then (api_Span.l0 k l0 l1 (l0.length : Int) 0) else (some false)
theorem api_Span.mono_l : ∀ k, (∀ y0 y1 y2 y3, LeO (api_Span.l0 k y0 y1 y2 y3) (api_Span.l0 (k + 1) y0 y1 y2 y3))
  | 0 => fun _ _ _ _ r h => by simp [api_Span.l0] at h
  | k + 1 => by
    have ih0 := api_Span.mono_l k
    · intro y0 y1 y2 y3
      unfold api_Span.l0
      repeat' first
      | (with_reducible exact ih0 _ _ _ _)
      | (with_reducible exact LeO.refl _)
      | (with_reducible exact LeO.none _)
      | (with_reducible refine LeO.ite ?_ ?_)
      | (with_reducible refine LeO.bind ?_ (fun _ => ?_))
      | exact ih0 _ _ _ _
      | exact LeO.none _
      | refine LeO.ite ?_ ?_
      | refine LeO.bind ?_ (fun _ => ?_)
theorem api_Span.mono : ∀ a0 a1 k, LeO (api_Span.f k a0 a1) (api_Span.f (k + 1) a0 a1) := by
  intro a0 a1 k
  have ih0 := api_Span.mono_l k
  unfold api_Span.f
  repeat' first
      | (with_reducible exact ih0 _ _ _ _)
      | (with_reducible exact LeO.refl _)
      | (with_reducible exact LeO.none _)
      | (with_reducible refine LeO.ite ?_ ?_)
      | (with_reducible refine LeO.bind ?_ (fun _ => ?_))
      | exact ih0 _ _ _ _
      | exact LeO.none _
      | refine LeO.ite ?_ ?_
      | refine LeO.bind ?_ (fun _ => ?_)
set_option maxHeartbeats 8000000 in
set_option maxRecDepth 100000 in
theorem api_Span.calls (k : Nat) (A0 : Option Addr) (c0 : Nat) (l0 : List (S46)) (A1 : Option Addr) (c1 : Nat) (l1 : List (S46)) (r : Bool) (w : World) (hr0 : Kd.C k46 w A0 l0.length l0) (hc0 : l0.length ≤ c0) (hr1 : Kd.C k46 w A1 l1.length l1) (hc1 : l1.length ≤ c1) (h : api_Span.f k l0 l1 = some r) :
    Calls Tryd.prog 22 #[.slice A0 l0.length c0, .slice A1 l1.length c1] w fun e w' => e = .returned (.bool r) ∧ Drawn0 w w' := by
  have hu46 := Tryd.underlying46
  have HR0 := Aside0.mk hr0
  have HC0 := Aside0.mk hc0
  clear hr0 hc0
  have HR1 := Aside0.mk hr1
  have HC1 := Aside0.mk hc1
  clear hr1 hc1
  have H : (if (l0.length : Int) = (l1.length : Int) then (api_Span.l0 k l0 l1 (l0.length : Int) 0) else (some false)) = some r := h
  clear h
  by_cases c3 : (l0.length : Int) = (l1.length : Int)
  · rw [if_pos c3] at H
    have c3b0 : ((l0.length : Int) == (l1.length : Int)) = true := beq_iff_eq.mpr c3
    have c3b1 : ((l0.length : Int) != (l1.length : Int)) = false := bne_eq_false_iff_eq.mpr c3
    have c3b2 : (l0.length == l1.length) = true := by first | simpa using c3 | (simp at c3 ⊢; omega)
    clear c3
    have H' := Aside0.mk H
    clear H
    go_enter Tryd.func22, Tryd.ntmps22
    go_wp2
    repeat (go_quiet (fail); try go_wp2)
    go_loopg [13] k (fun kq v13 w' => ∃ (x13_1 : Int), v13 = .int .i64 x13_1 ∧ Aside0 (api_Span.l0 kq l0 l1 (l0.length : Int) x13_1 = some r) ∧ Aside0 (kq ≤ k) ∧ Drawn0 w w')
    case atStart => exact ⟨(0), (by first | rfl | (simp; done) | (simp [*]; done)), H', ⟨Nat.le_refl _⟩, by repeat (first | exact Drawn0.refl _ | apply Drawn0.step)⟩
    case round =>
      clear H'
      try clear c1
      try clear c2
      try clear p2
      try clear c3
      try clear c3b0
      try clear c3b1
      try clear c3b2
      obtain ⟨x13_1, rfl, HA, HK1, ⟨m1, rfl⟩⟩ := hrel
      cases gk with
      | zero => exact absurd HA.out (by simp [api_Span.l0])
      | succ k1 =>
        have H := HA.out
        clear HA
        simp only [api_Span.l0] at H
        by_cases c4 : x13_1 < (l0.length : Int)
        · rw [if_pos c4] at H
          have c4b0 : decide (x13_1 < (l0.length : Int)) = true := decide_eq_true c4
          clear c4
          by_cases c5 : 0 ≤ x13_1
          · rw [if_pos c5] at H
            have c5b0 : decide (0 ≤ x13_1) = true := decide_eq_true c5
            clear c5
            by_cases c6 : x13_1 < (l0.length : Int)
            · rw [if_pos c6] at H
              have c6b0 : decide (x13_1 < (l0.length : Int)) = true := decide_eq_true c6
              clear c6
              by_cases c7 : x13_1 < (l1.length : Int)
              · rw [if_pos c7] at H
                have c7b0 : decide (x13_1 < (l1.length : Int)) = true := decide_eq_true c7
                clear c7
                by_cases c8 : (!(((rd_T46 l0 x13_1).f0) == ((rd_T46 l1 x13_1).f0)) || (!(((rd_T46 l0 x13_1).f1) == ((rd_T46 l1 x13_1).f1)))) = true
                · rw [if_pos c8] at H
                  have c8b0 : (!(((rd_T46 l0 x13_1).f0) == ((rd_T46 l1 x13_1).f0)) || (!(((rd_T46 l0 x13_1).f1) == ((rd_T46 l1 x13_1).f1)))) = true := c8
                  clear c8
                  obtain rfl := Option.some.inj H
                  have p154 : 0 ≤ (x13_1 : Int) := of_decide_eq_true (by first | (with_reducible assumption) | assumption)
                  have q154 : x13_1 < (l0.length : Int) := of_decide_eq_true (by first | (with_reducible assumption) | assumption)
                  obtain ⟨ad154, e154, hx154_0, hx154_1⟩ := at_T46 HR0.out x13_1 p154 q154
                  cases e154
                  replace p154 := eq_true p154
                  replace q154 := eq_true q154
                  have p155 : 0 ≤ (x13_1 : Int) := of_decide_eq_true (by first | (with_reducible assumption) | assumption)
                  have q155 : x13_1 < (l1.length : Int) := of_decide_eq_true (by first | (with_reducible assumption) | assumption)
                  obtain ⟨ad155, e155, hx155_0, hx155_1⟩ := at_T46 HR1.out x13_1 p155 q155
                  cases e155
                  replace p155 := eq_true p155
                  replace q155 := eq_true q155
                  go_wp2
                  repeat (go_quiet (fail); try go_wp2)
                  go_ret
                  exact ⟨by first | rfl | (simp; done) | (simp [*]; done), by repeat (first | exact Drawn0.refl _ | apply Drawn0.step)⟩
                · rw [if_neg c8] at H
                  have c8b0 : (!(((rd_T46 l0 x13_1).f0) == ((rd_T46 l1 x13_1).f0)) || (!(((rd_T46 l0 x13_1).f1) == ((rd_T46 l1 x13_1).f1)))) = false := by simpa using c8
                  clear c8
                  have H' := Aside0.mk H
                  clear H
                  have p154 : 0 ≤ (x13_1 : Int) := of_decide_eq_true (by first | (with_reducible assumption) | assumption)
                  have q154 : x13_1 < (l0.length : Int) := of_decide_eq_true (by first | (with_reducible assumption) | assumption)
                  obtain ⟨ad154, e154, hx154_0, hx154_1⟩ := at_T46 HR0.out x13_1 p154 q154
                  cases e154
                  replace p154 := eq_true p154
                  replace q154 := eq_true q154
                  have p155 : 0 ≤ (x13_1 : Int) := of_decide_eq_true (by first | (with_reducible assumption) | assumption)
                  have q155 : x13_1 < (l1.length : Int) := of_decide_eq_true (by first | (with_reducible assumption) | assumption)
                  obtain ⟨ad155, e155, hx155_0, hx155_1⟩ := at_T46 HR1.out x13_1 p155 q155
                  cases e155
                  replace p155 := eq_true p155
                  replace q155 := eq_true q155
                  go_wp2
                  repeat (go_quiet (fail); try go_wp2)
                  go_roundg k1
                  case measure => have := HK1.out; omega
                  case rel => exact ⟨(wrap64 (x13_1 + 1)), (by first | rfl | (simp; done) | (simp [*]; done)), H', ⟨by have := HK1.out; omega⟩, by repeat (first | exact Drawn0.refl _ | apply Drawn0.step)⟩
              · rw [if_neg c7] at H
                exact absurd H (by simp)
            · rw [if_neg c6] at H
              exact absurd H (by simp)
          · rw [if_neg c5] at H
            exact absurd H (by simp)
        · rw [if_neg c4] at H
          have c4b0 : decide (x13_1 < (l0.length : Int)) = false := decide_eq_false c4
          clear c4
          obtain rfl := Option.some.inj H
          go_wp2
          repeat (go_quiet (fail); try go_wp2)
          go_ret
          exact ⟨by first | rfl | (simp; done) | (simp [*]; done), by repeat (first | exact Drawn0.refl _ | apply Drawn0.step)⟩
  · rw [if_neg c3] at H
    have c3b0 : ((l0.length : Int) == (l1.length : Int)) = false := beq_eq_false_iff_ne.mpr c3
    have c3b1 : ((l0.length : Int) != (l1.length : Int)) = true := bne_iff_ne.mpr c3
    have c3b2 : (l0.length == l1.length) = false := by first | simpa using c3 | (simp at c3 ⊢; omega)
    obtain rfl := Option.some.inj H
    go_enter Tryd.func22, Tryd.ntmps22
    go_wp2
    repeat (go_quiet (fail); try go_wp2)
    go_ret
    exact ⟨by first | rfl | (simp; done) | (simp [*]; done), by repeat (first | exact Drawn0.refl _ | apply Drawn0.step)⟩

/-! ### ancepslaw01_awake: function 6 -/
def ancepslaw01_awake.g (k : Nat)  : Option (Bool) := (text_Words.f k (⟨#[65, 114, 109, 97, 32, 118, 105, 114, 117, 109, 113, 117, 101, 32, 99, 97, 110, 111, 44, 32, 84, 114, 111, 105, 97, 101]⟩ : ByteArray)).bind fun bt156 => ((text_Word.f k (⟨#[65, 114, 109, 97, 32, 118, 105, 114, 117, 109, 113, 117, 101, 32, 99, 97, 110, 111, 44, 32, 84, 114, 111, 105, 97, 101]⟩ : ByteArray) 3).bind fun bt160 => (if bt156.2 = 0 then (if bt160.2 = 0 then ((api_Span.f k bt156.1 (([(⟨0, 4⟩ : S46), (⟨5, 13⟩ : S46), (⟨14, 18⟩ : S46), (⟨20, 26⟩ : S46)] : List (S46)))).bind fun t165 => (if t165 = true then (if bt160.1.toList = ([116, 114, 111, 105, 97, 101] : List UInt8) then ((text_Same.f k (⟨#[65, 114, 109, 97, 32, 118, 105, 114, 117, 109, 113, 117, 101, 32, 99, 97, 110, 111, 44, 32, 84, 114, 111, 105, 97, 101]⟩ : ByteArray) (⟨#[97, 114, 109, 97, 32, 86, 73, 82, 85, 77, 81, 85, 69, 59, 32, 99, 97, 110, 111, 32, 84, 114, 111, 105, 97, 101, 33]⟩ : ByteArray)).bind fun t166 => (if t166 = true then ((text_Same.f k (⟨#[65, 114, 109, 97, 32, 118, 105, 114, 117, 109, 113, 117, 101, 32, 99, 97, 110, 111, 44, 32, 84, 114, 111, 105, 97, 101]⟩ : ByteArray) (⟨#[97, 114, 109, 97, 32, 118, 105, 114, 117, 109, 32, 113, 117, 101, 32, 99, 97, 110, 111, 32, 84, 114, 111, 105, 97, 101]⟩ : ByteArray)).bind fun t167 => (some (!t167))) else (some false))) else (some false)) else (some false))) else (some false)) else (some false)))
theorem ancepslaw01_awake.monoG : ∀ k, LeO (ancepslaw01_awake.g k ) (ancepslaw01_awake.g (k + 1) ) := by
  intro  k
  unfold ancepslaw01_awake.g
  repeat' first
      | (with_reducible exact api_Span.mono _ _ _)
      | (with_reducible exact text_Same.mono _ _ _)
      | (with_reducible exact text_Word.mono _ _ _)
      | (with_reducible exact text_Words.mono _ _)
      | (with_reducible exact LeO.refl _)
      | (with_reducible exact LeO.none _)
      | (with_reducible refine LeO.ite ?_ ?_)
      | (with_reducible refine LeO.bind ?_ (fun _ => ?_))
      | exact api_Span.mono _ _ _
      | exact text_Same.mono _ _ _
      | exact text_Word.mono _ _ _
      | exact text_Words.mono _ _
      | exact LeO.none _
      | refine LeO.ite ?_ ?_
      | refine LeO.bind ?_ (fun _ => ?_)
set_option maxHeartbeats 8000000 in
set_option maxRecDepth 100000 in
theorem ancepslaw01_awake.callsT (k : Nat)  (w : World) (h : ancepslaw01_awake.g k  = some true) :
    Calls Tryd.prog 6 #[] w fun e w' => e = .returned (.bool true) ∧ Below w.heap.size w w' := by
  have hu46 := Tryd.underlying46
  have HB := Aside0.mk (Below.refl w.heap.size w)
  have H : ((text_Words.f k (⟨#[65, 114, 109, 97, 32, 118, 105, 114, 117, 109, 113, 117, 101, 32, 99, 97, 110, 111, 44, 32, 84, 114, 111, 105, 97, 101]⟩ : ByteArray)).bind fun bt156 => ((text_Word.f k (⟨#[65, 114, 109, 97, 32, 118, 105, 114, 117, 109, 113, 117, 101, 32, 99, 97, 110, 111, 44, 32, 84, 114, 111, 105, 97, 101]⟩ : ByteArray) 3).bind fun bt160 => (if bt156.2 = 0 then (if bt160.2 = 0 then ((api_Span.f k bt156.1 (([(⟨0, 4⟩ : S46), (⟨5, 13⟩ : S46), (⟨14, 18⟩ : S46), (⟨20, 26⟩ : S46)] : List (S46)))).bind fun t165 => (if t165 = true then (if bt160.1.toList = ([116, 114, 111, 105, 97, 101] : List UInt8) then ((text_Same.f k (⟨#[65, 114, 109, 97, 32, 118, 105, 114, 117, 109, 113, 117, 101, 32, 99, 97, 110, 111, 44, 32, 84, 114, 111, 105, 97, 101]⟩ : ByteArray) (⟨#[97, 114, 109, 97, 32, 86, 73, 82, 85, 77, 81, 85, 69, 59, 32, 99, 97, 110, 111, 32, 84, 114, 111, 105, 97, 101, 33]⟩ : ByteArray)).bind fun t166 => (if t166 = true then ((text_Same.f k (⟨#[65, 114, 109, 97, 32, 118, 105, 114, 117, 109, 113, 117, 101, 32, 99, 97, 110, 111, 44, 32, 84, 114, 111, 105, 97, 101]⟩ : ByteArray) (⟨#[97, 114, 109, 97, 32, 118, 105, 114, 117, 109, 32, 113, 117, 101, 32, 99, 97, 110, 111, 32, 84, 114, 111, 105, 97, 101]⟩ : ByteArray)).bind fun t167 => (some (!t167))) else (some false))) else (some false)) else (some false))) else (some false)) else (some false)))) = some true := h
  clear h
  replace H := Option.bind_eq_some_iff.mp H
  obtain ⟨⟨t156, t157⟩, A10, H⟩ := H
  replace H : ((text_Word.f k (⟨#[65, 114, 109, 97, 32, 118, 105, 114, 117, 109, 113, 117, 101, 32, 99, 97, 110, 111, 44, 32, 84, 114, 111, 105, 97, 101]⟩ : ByteArray) 3).bind fun bt160 => (if t157 = 0 then (if bt160.2 = 0 then ((api_Span.f k t156 (([(⟨0, 4⟩ : S46), (⟨5, 13⟩ : S46), (⟨14, 18⟩ : S46), (⟨20, 26⟩ : S46)] : List (S46)))).bind fun t165 => (if t165 = true then (if bt160.1.toList = ([116, 114, 111, 105, 97, 101] : List UInt8) then ((text_Same.f k (⟨#[65, 114, 109, 97, 32, 118, 105, 114, 117, 109, 113, 117, 101, 32, 99, 97, 110, 111, 44, 32, 84, 114, 111, 105, 97, 101]⟩ : ByteArray) (⟨#[97, 114, 109, 97, 32, 86, 73, 82, 85, 77, 81, 85, 69, 59, 32, 99, 97, 110, 111, 32, 84, 114, 111, 105, 97, 101, 33]⟩ : ByteArray)).bind fun t166 => (if t166 = true then ((text_Same.f k (⟨#[65, 114, 109, 97, 32, 118, 105, 114, 117, 109, 113, 117, 101, 32, 99, 97, 110, 111, 44, 32, 84, 114, 111, 105, 97, 101]⟩ : ByteArray) (⟨#[97, 114, 109, 97, 32, 118, 105, 114, 117, 109, 32, 113, 117, 101, 32, 99, 97, 110, 111, 32, 84, 114, 111, 105, 97, 101]⟩ : ByteArray)).bind fun t167 => (some (!t167))) else (some false))) else (some false)) else (some false))) else (some false)) else (some false))) = some true := H
  have A1 := Aside0.mk A10
  clear A10
  replace H := Option.bind_eq_some_iff.mp H
  obtain ⟨⟨t160, t161⟩, A20, H⟩ := H
  replace H : (if t157 = 0 then (if t161 = 0 then ((api_Span.f k t156 (([(⟨0, 4⟩ : S46), (⟨5, 13⟩ : S46), (⟨14, 18⟩ : S46), (⟨20, 26⟩ : S46)] : List (S46)))).bind fun t165 => (if t165 = true then (if t160.toList = ([116, 114, 111, 105, 97, 101] : List UInt8) then ((text_Same.f k (⟨#[65, 114, 109, 97, 32, 118, 105, 114, 117, 109, 113, 117, 101, 32, 99, 97, 110, 111, 44, 32, 84, 114, 111, 105, 97, 101]⟩ : ByteArray) (⟨#[97, 114, 109, 97, 32, 86, 73, 82, 85, 77, 81, 85, 69, 59, 32, 99, 97, 110, 111, 32, 84, 114, 111, 105, 97, 101, 33]⟩ : ByteArray)).bind fun t166 => (if t166 = true then ((text_Same.f k (⟨#[65, 114, 109, 97, 32, 118, 105, 114, 117, 109, 113, 117, 101, 32, 99, 97, 110, 111, 44, 32, 84, 114, 111, 105, 97, 101]⟩ : ByteArray) (⟨#[97, 114, 109, 97, 32, 118, 105, 114, 117, 109, 32, 113, 117, 101, 32, 99, 97, 110, 111, 32, 84, 114, 111, 105, 97, 101]⟩ : ByteArray)).bind fun t167 => (some (!t167))) else (some false))) else (some false)) else (some false))) else (some false)) else (some false)) = some true := H
  have A2 := Aside0.mk A20
  clear A20
  obtain ⟨y162, hy162⟩ : ∃ y_ : List (S46), y_ = (([(⟨0, 4⟩ : S46), (⟨5, 13⟩ : S46), (⟨14, 18⟩ : S46), (⟨20, 26⟩ : S46)] : List (S46))) := ⟨_, rfl⟩
  replace H : (if t157 = 0 then (if t161 = 0 then ((api_Span.f k t156 y162).bind fun t165 => (if t165 = true then (if t160.toList = ([116, 114, 111, 105, 97, 101] : List UInt8) then ((text_Same.f k (⟨#[65, 114, 109, 97, 32, 118, 105, 114, 117, 109, 113, 117, 101, 32, 99, 97, 110, 111, 44, 32, 84, 114, 111, 105, 97, 101]⟩ : ByteArray) (⟨#[97, 114, 109, 97, 32, 86, 73, 82, 85, 77, 81, 85, 69, 59, 32, 99, 97, 110, 111, 32, 84, 114, 111, 105, 97, 101, 33]⟩ : ByteArray)).bind fun t166 => (if t166 = true then ((text_Same.f k (⟨#[65, 114, 109, 97, 32, 118, 105, 114, 117, 109, 113, 117, 101, 32, 99, 97, 110, 111, 44, 32, 84, 114, 111, 105, 97, 101]⟩ : ByteArray) (⟨#[97, 114, 109, 97, 32, 118, 105, 114, 117, 109, 32, 113, 117, 101, 32, 99, 97, 110, 111, 32, 84, 114, 111, 105, 97, 101]⟩ : ByteArray)).bind fun t167 => (some (!t167))) else (some false))) else (some false)) else (some false))) else (some false)) else (some false)) = some true := by first | (rw [hy162]; with_reducible exact H) | (have H2_ := (Option.bind_some _ _).symm.trans H; rw [hy162]; with_reducible exact H2_) | (have H2_ := (Option.bind_some _ _).symm.trans H; with_reducible exact H2_) | with_reducible exact H | (rw [hy162]; exact H) | exact H
  have Ny162 := Aside0.mk hy162
  clear hy162
  by_cases c3 : t157 = 0
  · rw [if_pos c3] at H
    have c3b0 : (t157 == 0) = true := beq_iff_eq.mpr c3
    have c3b1 : (t157 != 0) = false := bne_eq_false_iff_eq.mpr c3
    clear c3
    by_cases c4 : t161 = 0
    · rw [if_pos c4] at H
      have c4b0 : (t161 == 0) = true := beq_iff_eq.mpr c4
      have c4b1 : (t161 != 0) = false := bne_eq_false_iff_eq.mpr c4
      clear c4
      replace H := Option.bind_eq_some_iff.mp H
      obtain ⟨t165, A50, H⟩ := H
      replace H : (if t165 = true then (if t160.toList = ([116, 114, 111, 105, 97, 101] : List UInt8) then ((text_Same.f k (⟨#[65, 114, 109, 97, 32, 118, 105, 114, 117, 109, 113, 117, 101, 32, 99, 97, 110, 111, 44, 32, 84, 114, 111, 105, 97, 101]⟩ : ByteArray) (⟨#[97, 114, 109, 97, 32, 86, 73, 82, 85, 77, 81, 85, 69, 59, 32, 99, 97, 110, 111, 32, 84, 114, 111, 105, 97, 101, 33]⟩ : ByteArray)).bind fun t166 => (if t166 = true then ((text_Same.f k (⟨#[65, 114, 109, 97, 32, 118, 105, 114, 117, 109, 113, 117, 101, 32, 99, 97, 110, 111, 44, 32, 84, 114, 111, 105, 97, 101]⟩ : ByteArray) (⟨#[97, 114, 109, 97, 32, 118, 105, 114, 117, 109, 32, 113, 117, 101, 32, 99, 97, 110, 111, 32, 84, 114, 111, 105, 97, 101]⟩ : ByteArray)).bind fun t167 => (some (!t167))) else (some false))) else (some false)) else (some false)) = some true := H
      have A5 := Aside0.mk A50
      clear A50
      by_cases c6 : t165 = true
      · subst c6
        have H1 : (if t160.toList = ([116, 114, 111, 105, 97, 101] : List UInt8) then ((text_Same.f k (⟨#[65, 114, 109, 97, 32, 118, 105, 114, 117, 109, 113, 117, 101, 32, 99, 97, 110, 111, 44, 32, 84, 114, 111, 105, 97, 101]⟩ : ByteArray) (⟨#[97, 114, 109, 97, 32, 86, 73, 82, 85, 77, 81, 85, 69, 59, 32, 99, 97, 110, 111, 32, 84, 114, 111, 105, 97, 101, 33]⟩ : ByteArray)).bind fun t166 => (if t166 = true then ((text_Same.f k (⟨#[65, 114, 109, 97, 32, 118, 105, 114, 117, 109, 113, 117, 101, 32, 99, 97, 110, 111, 44, 32, 84, 114, 111, 105, 97, 101]⟩ : ByteArray) (⟨#[97, 114, 109, 97, 32, 118, 105, 114, 117, 109, 32, 113, 117, 101, 32, 99, 97, 110, 111, 32, 84, 114, 111, 105, 97, 101]⟩ : ByteArray)).bind fun t167 => (some (!t167))) else (some false))) else (some false)) = some true := by rw [if_pos rfl] at H; exact H
        clear H
        have H := H1
        clear H1
        by_cases c7 : t160.toList = ([116, 114, 111, 105, 97, 101] : List UInt8)
        · rw [if_pos c7] at H
          have c7b0 : (t160.toList == ([116, 114, 111, 105, 97, 101] : List UInt8)) = true := beq_iff_eq.mpr c7
          have c7b1 : (t160.toList != ([116, 114, 111, 105, 97, 101] : List UInt8)) = false := bne_eq_false_iff_eq.mpr c7
          clear c7
          replace H := Option.bind_eq_some_iff.mp H
          obtain ⟨t166, A80, H⟩ := H
          replace H : (if t166 = true then ((text_Same.f k (⟨#[65, 114, 109, 97, 32, 118, 105, 114, 117, 109, 113, 117, 101, 32, 99, 97, 110, 111, 44, 32, 84, 114, 111, 105, 97, 101]⟩ : ByteArray) (⟨#[97, 114, 109, 97, 32, 118, 105, 114, 117, 109, 32, 113, 117, 101, 32, 99, 97, 110, 111, 32, 84, 114, 111, 105, 97, 101]⟩ : ByteArray)).bind fun t167 => (some (!t167))) else (some false)) = some true := H
          have A8 := Aside0.mk A80
          clear A80
          by_cases c9 : t166 = true
          · subst c9
            have H1 : ((text_Same.f k (⟨#[65, 114, 109, 97, 32, 118, 105, 114, 117, 109, 113, 117, 101, 32, 99, 97, 110, 111, 44, 32, 84, 114, 111, 105, 97, 101]⟩ : ByteArray) (⟨#[97, 114, 109, 97, 32, 118, 105, 114, 117, 109, 32, 113, 117, 101, 32, 99, 97, 110, 111, 32, 84, 114, 111, 105, 97, 101]⟩ : ByteArray)).bind fun t167 => (some (!t167))) = some true := by rw [if_pos rfl] at H; exact H
            clear H
            have H := H1
            clear H1
            replace H := Option.bind_eq_some_iff.mp H
            obtain ⟨t167, A100, H⟩ := H
            replace H : (some (!t167)) = some true := H
            have A10 := Aside0.mk A100
            clear A100
            have hR_ := Option.some.inj H
            go_enter Tryd.func6, Tryd.ntmps6
            go_wp2_with (first | ((with_reducible refine gate_callee (f := 20) rfl ?_); refine goesL_ (some 7) rfl rfl Tryd.func20 (by kernel_rfl) rfl #[.string (⟨#[65, 114, 109, 97, 32, 118, 105, 114, 117, 109, 113, 117, 101, 32, 99, 97, 110, 111, 44, 32, 84, 114, 111, 105, 97, 101]⟩ : ByteArray)] rfl (by (try simp only [List.map_toArray, List.map_cons, List.map_nil]); first | done | rfl | (simp only [List.length_drop, List.length_take]; rfl)) ?_; (with_reducible refine (text_Words.calls k (⟨#[65, 114, 109, 97, 32, 118, 105, 114, 117, 109, 113, 117, 101, 32, 99, 97, 110, 111, 44, 32, 84, 114, 111, 105, 97, 101]⟩ : ByteArray) t156 t157 _ A1.out).mono ?_); rintro e w11 ⟨v158, rfl, ho0, hb⟩; refine ⟨_, rfl, ?_⟩; have n0_ := Aside0.mk (Kd.R_lower ho0 (below_size (by repeat (first | (with_reducible first | exact HB.out | apply below_alloc | apply pw_below_drewN | apply below_drew1) | exact HB.out)))); have n1_ := Aside0.mk (below_step (by repeat (first | (with_reducible first | exact HB.out | apply below_alloc | apply pw_below_drewN | apply below_drew1) | exact HB.out)) hb); clear HB; have HO159 := n0_; have HB := n1_; clear n0_ n1_; (try clear hb); (try clear hb2); (try clear hk); (try clear hi); (try clear ho0)) | ((with_reducible refine gate_callee (f := 21) rfl ?_); refine goesL_ (some 11) rfl rfl Tryd.func21 (by kernel_rfl) rfl #[.string (⟨#[65, 114, 109, 97, 32, 118, 105, 114, 117, 109, 113, 117, 101, 32, 99, 97, 110, 111, 44, 32, 84, 114, 111, 105, 97, 101]⟩ : ByteArray), .int .i64 3] rfl (by (try simp only [List.map_toArray, List.map_cons, List.map_nil]); first | done | rfl | (simp only [List.length_drop, List.length_take]; rfl)) ?_; (with_reducible refine (text_Word.calls k (⟨#[65, 114, 109, 97, 32, 118, 105, 114, 117, 109, 113, 117, 101, 32, 99, 97, 110, 111, 44, 32, 84, 114, 111, 105, 97, 101]⟩ : ByteArray) 3 t160 t161 _ A2.out).mono ?_); rintro e w12 ⟨rfl, hb⟩; refine ⟨_, rfl, ?_⟩; have n0_ := Aside0.mk (Kd.R_below (by (with_reducible repeat (first | apply Kd.R_alloc | apply Kd.R_drewN | apply Kd.R_drew)); exact HO159.out) hb); have n1_ := Aside0.mk (below_step (by repeat (first | (with_reducible first | exact HB.out | apply below_alloc | apply pw_below_drewN | apply below_drew1) | exact HB.out)) hb); clear HO159; clear HB; have HO159 := n0_; have HB := n1_; clear n0_ n1_; (try clear hb); (try clear hb2); (try clear hk); (try clear hi)) | ((with_reducible refine gate_dst (N := 18) rfl ?_); refine Kd.R_lit k46 _ 46 ?hg (N := 18) ?hd (xs := ([(⟨0, 4⟩ : S46), (⟨5, 13⟩ : S46), (⟨14, 18⟩ : S46), (⟨20, 26⟩ : S46)] : List (S46))) (inner := [.int .i64 0, .int .i64 4, .int .i64 5, .int .i64 13, .int .i64 14, .int .i64 18, .int .i64 20, .int .i64 26]) (ok := fun _ => True) (okp := fun _ => True) ?hr ?hp (fun _ hk => hk) trivial (Below.refl _ _) (Nat.le_refl _) (by simp) ?_; (case hd => rfl); (case hg => rfl); (case hr => first | (go_simp; done) | (go_simp; rfl)); (case hp => exact (Reps.c2 (show Kd.M k46 _ _ _ (⟨0, 4⟩ : S46) [.int .i64 0, .int .i64 4] from (k46_mkM _ _ _ (⟨0, 4⟩ : S46) )) (Reps.c2 (show Kd.M k46 _ _ _ (⟨5, 13⟩ : S46) [.int .i64 5, .int .i64 13] from (k46_mkM _ _ _ (⟨5, 13⟩ : S46) )) (Reps.c2 (show Kd.M k46 _ _ _ (⟨14, 18⟩ : S46) [.int .i64 14, .int .i64 18] from (k46_mkM _ _ _ (⟨14, 18⟩ : S46) )) (Reps.c2 (show Kd.M k46 _ _ _ (⟨20, 26⟩ : S46) [.int .i64 20, .int .i64 26] from (k46_mkM _ _ _ (⟨20, 26⟩ : S46) )) (Reps.none _ _)))))); intro v163 w13 ho14 hb hg_ hnew_; clear hg_ hnew_; (first | rw [← Ny162.out] at ho14 | (simp only [Int.reduceToNat] at ho14; rw [← Ny162.out] at ho14)); have n0_ := Aside0.mk (Kd.R_elder' (by (with_reducible repeat (first | apply Kd.R_alloc | apply Kd.R_drewN | apply Kd.R_drew)); exact HO159.out) (Kd.R_base ho14) hb); have n1_ := Aside0.mk (Kd.R_lower (Kd.R_new' ho14 (Kd.R_lt (by (with_reducible repeat (first | apply Kd.R_alloc | apply Kd.R_drewN | apply Kd.R_drew)); exact HO159.out))) (below_size (by repeat (first | (with_reducible first | exact HB.out | apply below_alloc | apply pw_below_drewN | apply below_drew1) | exact HB.out)))); have n2_ := Aside0.mk (below_step (by repeat (first | (with_reducible first | exact HB.out | apply below_alloc | apply pw_below_drewN | apply below_drew1) | exact HB.out)) hb); clear HO159; clear HB; have HO159 := n0_; have HO164 := n1_; have HB := n2_; clear n0_ n1_ n2_; clear hb ho14; obtain ⟨Ao15, co15, eo15⟩ := Kd.R_slice HO159.out; subst eo15; obtain ⟨Ao16, co16, eo16⟩ := Kd.R_slice HO164.out; subst eo16) | (go_at_call 22; (with_reducible refine (api_Span.calls k _ _ t156 _ _ y162 true _ ?side1 ?side2 ?side3 ?side4 A5.out).mono ?_); (case side1 => repeat (first | exact (Kd.R_reads' HO159.out).2.2 | (with_reducible refine Kd.C_alloc ?_ _) | (with_reducible refine Kd.C_drewN ?_ _) | (with_reducible refine Kd.C_drew ?_))); (case side2 => exact (Kd.R_reads' HO159.out).2.1); (case side3 => repeat (first | exact (Kd.R_reads' HO164.out).2.2 | (with_reducible refine Kd.C_alloc ?_ _) | (with_reducible refine Kd.C_drewN ?_ _) | (with_reducible refine Kd.C_drew ?_))); (case side4 => exact (Kd.R_reads' HO164.out).2.1); rintro e w' ⟨rfl, ⟨nd, rfl⟩⟩) | (go_at_call 19; (with_reducible refine (text_Same.calls k (⟨#[65, 114, 109, 97, 32, 118, 105, 114, 117, 109, 113, 117, 101, 32, 99, 97, 110, 111, 44, 32, 84, 114, 111, 105, 97, 101]⟩ : ByteArray) (⟨#[97, 114, 109, 97, 32, 86, 73, 82, 85, 77, 81, 85, 69, 59, 32, 99, 97, 110, 111, 32, 84, 114, 111, 105, 97, 101, 33]⟩ : ByteArray) true _ A8.out).mono ?_); (try clear A8); rintro e w17 ⟨rfl, hb⟩; have n0_ := Aside0.mk (Kd.R_below (by (with_reducible repeat (first | apply Kd.R_alloc | apply Kd.R_drewN | apply Kd.R_drew)); exact HO159.out) hb); have n1_ := Aside0.mk (Kd.R_below (by (with_reducible repeat (first | apply Kd.R_alloc | apply Kd.R_drewN | apply Kd.R_drew)); exact HO164.out) hb); have n2_ := Aside0.mk (below_step (by repeat (first | (with_reducible first | exact HB.out | apply below_alloc | apply pw_below_drewN | apply below_drew1) | exact HB.out)) hb); clear HO159; clear HO164; clear HB; have HO159 := n0_; have HO164 := n1_; have HB := n2_; clear n0_ n1_ n2_; (try clear hb); (try clear hb2); (try clear hk); (try clear hi)) | (go_at_call 19; (with_reducible refine (text_Same.calls k (⟨#[65, 114, 109, 97, 32, 118, 105, 114, 117, 109, 113, 117, 101, 32, 99, 97, 110, 111, 44, 32, 84, 114, 111, 105, 97, 101]⟩ : ByteArray) (⟨#[97, 114, 109, 97, 32, 118, 105, 114, 117, 109, 32, 113, 117, 101, 32, 99, 97, 110, 111, 32, 84, 114, 111, 105, 97, 101]⟩ : ByteArray) t167 _ A10.out).mono ?_); (try clear A10); rintro e w18 ⟨rfl, hb⟩; have n0_ := Aside0.mk (Kd.R_below (by (with_reducible repeat (first | apply Kd.R_alloc | apply Kd.R_drewN | apply Kd.R_drew)); exact HO159.out) hb); have n1_ := Aside0.mk (Kd.R_below (by (with_reducible repeat (first | apply Kd.R_alloc | apply Kd.R_drewN | apply Kd.R_drew)); exact HO164.out) hb); have n2_ := Aside0.mk (below_step (by repeat (first | (with_reducible first | exact HB.out | apply below_alloc | apply pw_below_drewN | apply below_drew1) | exact HB.out)) hb); clear HO159; clear HO164; clear HB; have HO159 := n0_; have HO164 := n1_; have HB := n2_; clear n0_ n1_ n2_; (try clear hb); (try clear hb2); (try clear hk); (try clear hi)))
            go_ret
            exact ⟨by first | rfl | (simp [errW_none, errW_some] <;> rfl) | (simp [*, errW_none, errW_some] <;> rfl), by repeat (first | (with_reducible first | exact HB.out | apply below_alloc | apply pw_below_drewN | apply below_drew1) | exact HB.out)⟩
          · replace c9 := Bool.eq_false_iff.mpr c9
            subst c9
            have H1 : (some false) = some true := by rw [if_neg (show ¬ (false = true) by decide)] at H; exact H
            clear H
            have H := H1
            clear H1
            exact absurd (Option.some.inj H) (by decide)
        · rw [if_neg c7] at H
          have c7b0 : (t160.toList == ([116, 114, 111, 105, 97, 101] : List UInt8)) = false := beq_eq_false_iff_ne.mpr c7
          have c7b1 : (t160.toList != ([116, 114, 111, 105, 97, 101] : List UInt8)) = true := bne_iff_ne.mpr c7
          exact absurd (Option.some.inj H) (by decide)
      · replace c6 := Bool.eq_false_iff.mpr c6
        subst c6
        have H1 : (some false) = some true := by rw [if_neg (show ¬ (false = true) by decide)] at H; exact H
        clear H
        have H := H1
        clear H1
        exact absurd (Option.some.inj H) (by decide)
    · rw [if_neg c4] at H
      have c4b0 : (t161 == 0) = false := beq_eq_false_iff_ne.mpr c4
      have c4b1 : (t161 != 0) = true := bne_iff_ne.mpr c4
      exact absurd (Option.some.inj H) (by decide)
  · rw [if_neg c3] at H
    have c3b0 : (t157 == 0) = false := beq_eq_false_iff_ne.mpr c3
    have c3b1 : (t157 != 0) = true := bne_iff_ne.mpr c3
    exact absurd (Option.some.inj H) (by decide)
def ancepslaw01_awake.f (k : Nat)  : Option (Bool) := (ancepslaw01_awake.g k).bind fun b => if b = true then some true else none
theorem ancepslaw01_awake.mono : ∀ k, LeO (ancepslaw01_awake.f k) (ancepslaw01_awake.f (k + 1)) := by
  intro k
  unfold ancepslaw01_awake.f
  exact LeO.bind (ancepslaw01_awake.monoG k) (fun _ => LeO.refl _)
theorem ancepslaw01_awake.calls (k : Nat)  (r : Bool) (w : World) (h : ancepslaw01_awake.f k  = some r) :
    Calls Tryd.prog 6 #[] w fun e w' => e = .returned (.bool r) ∧ Below w.heap.size w w' := by
  unfold ancepslaw01_awake.f at h
  obtain ⟨b, h1, h2⟩ := Option.bind_eq_some_iff.mp h
  cases b with
  | true =>
    rw [if_pos rfl] at h2
    obtain rfl := Option.some.inj h2
    exact ancepslaw01_awake.callsT k w h1
  | false => simp at h2

end Go.Proofs.YteokimhjojppcaaDoor.X
