-- printed by this session's xprint.py: out of the translation, by the kit's print with additions; Lean checks it
import Derived.Test.YtbecdafbkdchkaaX0
import Derived.Test.YtbecdafbkdchkaaX1
import Derived.Test.YtbecdafbkdchkaaX2
import Derived.Test.YtbecdafbkdchkaaX3
import Derived.Test.YtbecdafbkdchkaaX10
import Derived.Test.YtbecdafbkdchkaaX12
namespace Go.Proofs.Ytbecdafbkdchkaa.X
open Go.RowKit Go.Proofs.YtbecdafbkdchkaaW.PrintWords Go.Proofs.YtbecdafbkdchkaaW.PrintLast Go.Proofs.YtbecdafbkdchkaaW.PrintMore
attribute [local go_sem] max2_int min2_int max_two min_two max_three min_three max_four min_four isSome_setCell   -- for this text's walks alone
set_option linter.unusedVariables false
set_option linter.unusedSimpArgs false

/-! ### ancepslaw04_PatternExpand: function 7 -/
mutual
def ancepslaw04_PatternExpand.j0 : Nat → ByteArray → Bool → Option (Bool)
  | 0, _, _ => none
  | k + 1, x0, x15 => if x15 = true then ((ancepslaw04_awake.f k).bind fun t279 => (some t279)) else ((pattern_Expand.f k x0).bind fun bt280 => ((ancepsref04_Expand.f k x0).bind fun bt284 => (if bt280.2 = bt284.2 then ((slices_Equal_string_string.f k bt280.1 bt284.1).bind fun t288 => (ancepslaw04_PatternExpand.j1 k x0 bt280.1 (!t288))) else (ancepslaw04_PatternExpand.j1 k x0 bt280.1 true))))
def ancepslaw04_PatternExpand.j1 : Nat → ByteArray → List ByteArray → Bool → Option (Bool)
  | 0, _, _, _ => none
  | k + 1, x0, x3, x35 => if x35 = true then (some false) else (ancepslaw04_PatternExpand.l0 k x0 x3 x3 (x3.length : Int) 0)
def ancepslaw04_PatternExpand.l0 : Nat → ByteArray → List ByteArray → List ByteArray → Int → Int → Option (Bool)
  | 0, _, _, _, _, _ => none
  | k + 1, x0, x3, x36, x37, x38 => if x38 < x37 then (if 0 ≤ x38 then (if x38 < (x36.length : Int) then ((pattern_Match.f k x0 (rdOf ByteArray.empty x36 x38)).bind fun t290 => (if t290 = true then (if x38 > 0 then (if 0 ≤ (wrap64 (x38 - 1)) then (if (wrap64 (x38 - 1)) < (x3.length : Int) then ((pattern_Compare.f k (rdOf ByteArray.empty x3 (wrap64 (x38 - 1))) (rdOf ByteArray.empty x36 x38)).bind fun t292 => (if t292 ≥ 0 then (some false) else (ancepslaw04_PatternExpand.l0 k x0 x3 x36 x37 (wrap64 (x38 + 1))))) else (none)) else (none)) else (ancepslaw04_PatternExpand.l0 k x0 x3 x36 x37 (wrap64 (x38 + 1)))) else (some false))) else (none)) else (none)) else (some true)
end
def ancepslaw04_PatternExpand.f (k : Nat) (a0 : ByteArray) : Option (Bool) := (ancepslaw04_awake.f k).bind fun t278 => (if t278 = true then (ancepslaw04_PatternExpand.j0 k a0 (decide ((a0.size : Int) > 300))) else (ancepslaw04_PatternExpand.j0 k a0 true))
theorem ancepslaw04_PatternExpand.mono_l : ∀ k, (∀ y0 y1, LeO (ancepslaw04_PatternExpand.j0 k y0 y1) (ancepslaw04_PatternExpand.j0 (k + 1) y0 y1)) ∧ (∀ y0 y1 y2, LeO (ancepslaw04_PatternExpand.j1 k y0 y1 y2) (ancepslaw04_PatternExpand.j1 (k + 1) y0 y1 y2)) ∧ (∀ y0 y1 y2 y3 y4, LeO (ancepslaw04_PatternExpand.l0 k y0 y1 y2 y3 y4) (ancepslaw04_PatternExpand.l0 (k + 1) y0 y1 y2 y3 y4))
  | 0 => ⟨fun _ _ r h => by simp [ancepslaw04_PatternExpand.j0] at h, fun _ _ _ r h => by simp [ancepslaw04_PatternExpand.j1] at h, fun _ _ _ _ _ r h => by simp [ancepslaw04_PatternExpand.l0] at h⟩
  | k + 1 => by
    obtain ⟨ih0, ih1, ih2⟩ := ancepslaw04_PatternExpand.mono_l k
    refine ⟨?_, ?_, ?_⟩
    · intro y0 y1
      unfold ancepslaw04_PatternExpand.j0
      repeat' first
      | (with_reducible exact ih0 _ _)
      | (with_reducible exact ih1 _ _ _)
      | (with_reducible exact ih2 _ _ _ _ _)
      | (with_reducible exact ancepslaw04_awake.mono _)
      | (with_reducible exact ancepsref04_Expand.mono _ _)
      | (with_reducible exact pattern_Compare.mono _ _ _)
      | (with_reducible exact pattern_Expand.mono _ _)
      | (with_reducible exact pattern_Match.mono _ _ _)
      | (with_reducible exact slices_Equal_string_string.mono _ _ _)
      | (with_reducible exact LeO.refl _)
      | (with_reducible exact LeO.none _)
      | (with_reducible refine LeO.ite ?_ ?_)
      | (with_reducible refine LeO.bind ?_ (fun _ => ?_))
      | exact ih0 _ _
      | exact ih1 _ _ _
      | exact ih2 _ _ _ _ _
      | exact ancepslaw04_awake.mono _
      | exact ancepsref04_Expand.mono _ _
      | exact pattern_Compare.mono _ _ _
      | exact pattern_Expand.mono _ _
      | exact pattern_Match.mono _ _ _
      | exact slices_Equal_string_string.mono _ _ _
      | exact LeO.none _
      | refine LeO.ite ?_ ?_
      | refine LeO.bind ?_ (fun _ => ?_)
    · intro y0 y1 y2
      unfold ancepslaw04_PatternExpand.j1
      repeat' first
      | (with_reducible exact ih0 _ _)
      | (with_reducible exact ih1 _ _ _)
      | (with_reducible exact ih2 _ _ _ _ _)
      | (with_reducible exact ancepslaw04_awake.mono _)
      | (with_reducible exact ancepsref04_Expand.mono _ _)
      | (with_reducible exact pattern_Compare.mono _ _ _)
      | (with_reducible exact pattern_Expand.mono _ _)
      | (with_reducible exact pattern_Match.mono _ _ _)
      | (with_reducible exact slices_Equal_string_string.mono _ _ _)
      | (with_reducible exact LeO.refl _)
      | (with_reducible exact LeO.none _)
      | (with_reducible refine LeO.ite ?_ ?_)
      | (with_reducible refine LeO.bind ?_ (fun _ => ?_))
      | exact ih0 _ _
      | exact ih1 _ _ _
      | exact ih2 _ _ _ _ _
      | exact ancepslaw04_awake.mono _
      | exact ancepsref04_Expand.mono _ _
      | exact pattern_Compare.mono _ _ _
      | exact pattern_Expand.mono _ _
      | exact pattern_Match.mono _ _ _
      | exact slices_Equal_string_string.mono _ _ _
      | exact LeO.none _
      | refine LeO.ite ?_ ?_
      | refine LeO.bind ?_ (fun _ => ?_)
    · intro y0 y1 y2 y3 y4
      unfold ancepslaw04_PatternExpand.l0
      repeat' first
      | (with_reducible exact ih0 _ _)
      | (with_reducible exact ih1 _ _ _)
      | (with_reducible exact ih2 _ _ _ _ _)
      | (with_reducible exact ancepslaw04_awake.mono _)
      | (with_reducible exact ancepsref04_Expand.mono _ _)
      | (with_reducible exact pattern_Compare.mono _ _ _)
      | (with_reducible exact pattern_Expand.mono _ _)
      | (with_reducible exact pattern_Match.mono _ _ _)
      | (with_reducible exact slices_Equal_string_string.mono _ _ _)
      | (with_reducible exact LeO.refl _)
      | (with_reducible exact LeO.none _)
      | (with_reducible refine LeO.ite ?_ ?_)
      | (with_reducible refine LeO.bind ?_ (fun _ => ?_))
      | exact ih0 _ _
      | exact ih1 _ _ _
      | exact ih2 _ _ _ _ _
      | exact ancepslaw04_awake.mono _
      | exact ancepsref04_Expand.mono _ _
      | exact pattern_Compare.mono _ _ _
      | exact pattern_Expand.mono _ _
      | exact pattern_Match.mono _ _ _
      | exact slices_Equal_string_string.mono _ _ _
      | exact LeO.none _
      | refine LeO.ite ?_ ?_
      | refine LeO.bind ?_ (fun _ => ?_)
theorem ancepslaw04_PatternExpand.mono : ∀ a0 k, LeO (ancepslaw04_PatternExpand.f k a0) (ancepslaw04_PatternExpand.f (k + 1) a0) := by
  intro a0 k
  obtain ⟨ih0, ih1, ih2⟩ := ancepslaw04_PatternExpand.mono_l k
  unfold ancepslaw04_PatternExpand.f
  repeat' first
      | (with_reducible exact ih0 _ _)
      | (with_reducible exact ih1 _ _ _)
      | (with_reducible exact ih2 _ _ _ _ _)
      | (with_reducible exact ancepslaw04_awake.mono _)
      | (with_reducible exact ancepsref04_Expand.mono _ _)
      | (with_reducible exact pattern_Compare.mono _ _ _)
      | (with_reducible exact pattern_Expand.mono _ _)
      | (with_reducible exact pattern_Match.mono _ _ _)
      | (with_reducible exact slices_Equal_string_string.mono _ _ _)
      | (with_reducible exact LeO.refl _)
      | (with_reducible exact LeO.none _)
      | (with_reducible refine LeO.ite ?_ ?_)
      | (with_reducible refine LeO.bind ?_ (fun _ => ?_))
      | exact ih0 _ _
      | exact ih1 _ _ _
      | exact ih2 _ _ _ _ _
      | exact ancepslaw04_awake.mono _
      | exact ancepsref04_Expand.mono _ _
      | exact pattern_Compare.mono _ _ _
      | exact pattern_Expand.mono _ _
      | exact pattern_Match.mono _ _ _
      | exact slices_Equal_string_string.mono _ _ _
      | exact LeO.none _
      | refine LeO.ite ?_ ?_
      | refine LeO.bind ?_ (fun _ => ?_)
set_option maxHeartbeats 8000000 in
set_option maxRecDepth 100000 in
theorem ancepslaw04_PatternExpand.calls (k : Nat) (a0 : ByteArray) (r : Bool) (w : World) (h : ancepslaw04_PatternExpand.f k a0 = some r) :
    Calls Try.prog 7 #[.string a0] w fun e w' => e = .returned (.bool r) ∧ Below w.heap.size w w' := by
  have HB := Aside0.mk (Below.refl w.heap.size w)
  have H : ((ancepslaw04_awake.f k).bind fun t278 => (if t278 = true then (ancepslaw04_PatternExpand.j0 k a0 (decide ((a0.size : Int) > 300))) else (ancepslaw04_PatternExpand.j0 k a0 true))) = some r := h
  clear h
  have HC2 := Aside0.mk H
  clear H
  go_enter Try.func7, Try.ntmps7
  go_upto_region 1 with (fail)
  go_cut [15] (fun v15 wc => ∃ (kq : Nat) (x15_1 : Bool), v15 = .bool x15_1 ∧ Aside0 (ancepslaw04_PatternExpand.j0 kq a0 x15_1 = some r) ∧ Aside0 (kq ≤ k) ∧ Aside0 (Below w.heap.size w wc))
  case first =>
    have H := HC2.out
    clear HC2
    replace H := Option.bind_eq_some_iff.mp H
    obtain ⟨t278, A30, H⟩ := H
    replace H : (if t278 = true then (ancepslaw04_PatternExpand.j0 k a0 (decide ((a0.size : Int) > 300))) else (ancepslaw04_PatternExpand.j0 k a0 true)) = some r := H
    have A3 := Aside0.mk A30
    clear A30
    by_cases c4 : t278 = true
    · subst c4
      have H1 : (ancepslaw04_PatternExpand.j0 k a0 (decide ((a0.size : Int) > 300))) = some r := by rw [if_pos rfl] at H; exact H
      clear H
      have H := H1
      clear H1
      have H' := Aside0.mk H
      clear H
      go_wp2_with (first | ((with_reducible refine gate_callee (f := 10) rfl ?_); refine goesL_ (some 9) rfl rfl Try.func10 (by kernel_rfl) rfl #[] rfl (by (try simp only [List.map_toArray, List.map_cons, List.map_nil]); first | done | rfl | (simp only [List.length_drop, List.length_take]; rfl)) ?_; (with_reducible refine (ancepslaw04_awake.calls k  true _ A3.out).mono ?_); rintro e w5 ⟨rfl, hb⟩; refine ⟨_, rfl, ?_⟩; have n0_ := Aside0.mk (below_step (by repeat (first | (with_reducible first | exact HB.out | apply below_alloc | apply pw_below_drewN | apply below_drew1) | exact HB.out)) hb); clear HB; have HB := n0_; clear n0_; (try clear hb); (try clear hb2); (try clear hk); (try clear hi)))
      go_meet
      case rel => exact ⟨_, (decide ((a0.size : Int) > 300)), (by first | rfl | (simp; done) | (simp [*]; done)), H', ⟨by first | omega | exact Nat.le_refl _⟩, ⟨by repeat (first | (with_reducible first | exact HB.out | apply below_alloc | apply pw_below_drewN | apply below_drew1) | exact HB.out)⟩⟩
    · replace c4 := Bool.eq_false_iff.mpr c4
      subst c4
      have H1 : (ancepslaw04_PatternExpand.j0 k a0 true) = some r := by rw [if_neg (show ¬ (false = true) by decide)] at H; exact H
      clear H
      have H := H1
      clear H1
      have H' := Aside0.mk H
      clear H
      go_wp2_with (first | ((with_reducible refine gate_callee (f := 10) rfl ?_); refine goesL_ (some 9) rfl rfl Try.func10 (by kernel_rfl) rfl #[] rfl (by (try simp only [List.map_toArray, List.map_cons, List.map_nil]); first | done | rfl | (simp only [List.length_drop, List.length_take]; rfl)) ?_; (with_reducible refine (ancepslaw04_awake.calls k  false _ A3.out).mono ?_); rintro e w6 ⟨rfl, hb⟩; refine ⟨_, rfl, ?_⟩; have n0_ := Aside0.mk (below_step (by repeat (first | (with_reducible first | exact HB.out | apply below_alloc | apply pw_below_drewN | apply below_drew1) | exact HB.out)) hb); clear HB; have HB := n0_; clear n0_; (try clear hb); (try clear hb2); (try clear hk); (try clear hi)))
      go_meet
      case rel => exact ⟨_, (true), (by first | rfl | (simp; done) | (simp [*]; done)), H', ⟨by first | omega | exact Nat.le_refl _⟩, ⟨by repeat (first | (with_reducible first | exact HB.out | apply below_alloc | apply pw_below_drewN | apply below_drew1) | exact HB.out)⟩⟩
  case rest =>
    clear HC2
    try clear c1
    try clear p2
    try clear c4
    obtain ⟨kq, x15_1, rfl, HA, HJ1, HB⟩ := hcut
    cases kq with
    | zero => exact absurd HA.out (by simp [ancepslaw04_PatternExpand.j0])
    | succ kj1 =>
      have H := HA.out
      clear HA
      simp only [ancepslaw04_PatternExpand.j0] at H
      by_cases c7 : x15_1 = true
      · subst c7
        have H1 : ((ancepslaw04_awake.f kj1).bind fun t279 => (some t279)) = some r := by rw [if_pos rfl] at H; exact H
        clear H
        have H := H1
        clear H1
        replace H := Option.bind_eq_some_iff.mp H
        obtain ⟨t279, A80, H⟩ := H
        replace H : (some t279) = some r := H
        have A8 := Aside0.mk A80
        clear A80
        obtain rfl := Option.some.inj H
        go_wp2_with (first | ((with_reducible refine gate_callee (f := 10) rfl ?_); refine goesL_ (some 16) rfl rfl Try.func10 (by kernel_rfl) rfl #[] rfl (by (try simp only [List.map_toArray, List.map_cons, List.map_nil]); first | done | rfl | (simp only [List.length_drop, List.length_take]; rfl)) ?_; (with_reducible refine (ancepslaw04_awake.calls kj1  t279 _ A8.out).mono ?_); rintro e w9 ⟨rfl, hb⟩; refine ⟨_, rfl, ?_⟩; have n0_ := Aside0.mk (below_step (by repeat (first | (with_reducible first | exact HB.out | apply below_alloc | apply pw_below_drewN | apply below_drew1) | exact HB.out)) hb); clear HB; have HB := n0_; clear n0_; (try clear hb); (try clear hb2); (try clear hk); (try clear hi)))
        go_ret
        exact ⟨by first | rfl | (simp [errW_none, errW_some] <;> rfl) | (simp [*, errW_none, errW_some] <;> rfl), by repeat (first | (with_reducible first | exact HB.out | apply below_alloc | apply pw_below_drewN | apply below_drew1) | exact HB.out)⟩
      · replace c7 := Bool.eq_false_iff.mpr c7
        subst c7
        have H1 : ((pattern_Expand.f kj1 a0).bind fun bt280 => ((ancepsref04_Expand.f kj1 a0).bind fun bt284 => (if bt280.2 = bt284.2 then ((slices_Equal_string_string.f kj1 bt280.1 bt284.1).bind fun t288 => (ancepslaw04_PatternExpand.j1 kj1 a0 bt280.1 (!t288))) else (ancepslaw04_PatternExpand.j1 kj1 a0 bt280.1 true)))) = some r := by rw [if_neg (show ¬ (false = true) by decide)] at H; exact H
        clear H
        have H := H1
        clear H1
        replace H := Option.bind_eq_some_iff.mp H
        obtain ⟨⟨t280, t281⟩, A100, H⟩ := H
        replace H : ((ancepsref04_Expand.f kj1 a0).bind fun bt284 => (if t281 = bt284.2 then ((slices_Equal_string_string.f kj1 t280 bt284.1).bind fun t288 => (ancepslaw04_PatternExpand.j1 kj1 a0 t280 (!t288))) else (ancepslaw04_PatternExpand.j1 kj1 a0 t280 true))) = some r := H
        have A10 := Aside0.mk A100
        clear A100
        replace H := Option.bind_eq_some_iff.mp H
        obtain ⟨⟨t284, t285⟩, A110, H⟩ := H
        replace H : (if t281 = t285 then ((slices_Equal_string_string.f kj1 t280 t284).bind fun t288 => (ancepslaw04_PatternExpand.j1 kj1 a0 t280 (!t288))) else (ancepslaw04_PatternExpand.j1 kj1 a0 t280 true)) = some r := H
        have A11 := Aside0.mk A110
        clear A110
        have HC12 := Aside0.mk H
        clear H
        go_upto_region 5 with (first | ((with_reducible refine gate_callee (f := 19) rfl ?_); refine goesL_ (some 19) rfl rfl Try.func19 (by kernel_rfl) rfl #[.string a0] rfl (by (try simp only [List.map_toArray, List.map_cons, List.map_nil]); first | done | rfl | (simp only [List.length_drop, List.length_take]; rfl)) ?_; (with_reducible refine (pattern_Expand.calls kj1 a0 t280 t281 _ A10.out).mono ?_); rintro e w13 ⟨v282, rfl, ho0, hb⟩; refine ⟨_, rfl, ?_⟩; have n0_ := Aside0.mk (Kd.R_lower ho0 (below_size (by repeat (first | (with_reducible first | exact HB.out | apply below_alloc | apply pw_below_drewN | apply below_drew1) | exact HB.out)))); have n1_ := Aside0.mk (below_step (by repeat (first | (with_reducible first | exact HB.out | apply below_alloc | apply pw_below_drewN | apply below_drew1) | exact HB.out)) hb); clear HB; have HO283 := n0_; have HB := n1_; clear n0_ n1_; (try clear hb); (try clear hb2); (try clear hk); (try clear hi); (try clear ho0)) | ((with_reducible refine gate_callee (f := 21) rfl ?_); refine goesL_ (some 24) rfl rfl Try.func21 (by kernel_rfl) rfl #[.string a0] rfl (by (try simp only [List.map_toArray, List.map_cons, List.map_nil]); first | done | rfl | (simp only [List.length_drop, List.length_take]; rfl)) ?_; (with_reducible refine (ancepsref04_Expand.calls kj1 a0 t284 t285 _ A11.out).mono ?_); rintro e w14 ⟨v286, rfl, ho0, hb⟩; refine ⟨_, rfl, ?_⟩; have n0_ := Aside0.mk (Kd.R_elder' (by (with_reducible repeat (first | apply Kd.R_alloc | apply Kd.R_drewN | apply Kd.R_drew)); exact HO283.out) (Kd.R_base ho0) hb); have n1_ := Aside0.mk (Kd.R_lower (Kd.R_new' ho0 (Kd.R_lt (by (with_reducible repeat (first | apply Kd.R_alloc | apply Kd.R_drewN | apply Kd.R_drew)); exact HO283.out))) (below_size (by repeat (first | (with_reducible first | exact HB.out | apply below_alloc | apply pw_below_drewN | apply below_drew1) | exact HB.out)))); have n2_ := Aside0.mk (below_step (by repeat (first | (with_reducible first | exact HB.out | apply below_alloc | apply pw_below_drewN | apply below_drew1) | exact HB.out)) hb); clear HO283; clear HB; have HO283 := n0_; have HO287 := n1_; have HB := n2_; clear n0_ n1_ n2_; (try clear hb); (try clear hb2); (try clear hk); (try clear hi); (try clear ho0)))
        (try simp only [Act.put, List.setIfInBounds_toArray, List.set_cons_zero, List.set_cons_succ])
        go_cut [35] (fun v35 wc => ∃ (kq : Nat) (x35_11 : Bool), v35 = .bool x35_11 ∧ Aside0 (ancepslaw04_PatternExpand.j1 kq a0 t280 x35_11 = some r) ∧ Aside0 (kq ≤ kj1) ∧ Aside0 (Kd.R Kd.string 9 wc w.heap.size (fun _ => True) v282 t280) ∧ Aside0 (Below w.heap.size w wc))
        case first =>
          have H := HC12.out
          clear HC12
          by_cases c15 : t281 = t285
          · rw [if_pos c15] at H
            have c15b0 : (t281 == t285) = true := beq_iff_eq.mpr c15
            have c15b1 : (t281 != t285) = false := bne_eq_false_iff_eq.mpr c15
            clear c15
            (first | rw [c15b0] | (simp only [i64_w, i32_w]; rw [c15b0]) | skip)
            replace H := Option.bind_eq_some_iff.mp H
            obtain ⟨t288, A160, H⟩ := H
            replace H : (ancepslaw04_PatternExpand.j1 kj1 a0 t280 (!t288)) = some r := H
            have A16 := Aside0.mk A160
            clear A160
            have H' := Aside0.mk H
            clear H
            obtain ⟨Ao17, co17, eo17⟩ := Kd.R_slice HO283.out
            subst eo17
            obtain ⟨Ao18, co18, eo18⟩ := Kd.R_slice HO287.out
            subst eo18
            go_wp2_with (first | (go_at_call 22; (with_reducible refine (slices_Equal_string_string.calls kj1 _ _ t280 _ _ t284 t288 _ ?side1 ?side2 ?side3 ?side4 A16.out).mono ?_); (case side1 => repeat (first | exact (Kd.R_reads' HO283.out).2.2 | (with_reducible refine Kd.C_alloc ?_ _) | (with_reducible refine Kd.C_drewN ?_ _) | (with_reducible refine Kd.C_drew ?_))); (case side2 => exact (Kd.R_reads' HO283.out).2.1); (case side3 => repeat (first | exact (Kd.R_reads' HO287.out).2.2 | (with_reducible refine Kd.C_alloc ?_ _) | (with_reducible refine Kd.C_drewN ?_ _) | (with_reducible refine Kd.C_drew ?_))); (case side4 => exact (Kd.R_reads' HO287.out).2.1); rintro e w' ⟨rfl, ⟨nd, rfl⟩⟩))
            go_meet
            case rel => exact ⟨_, (!t288), (by first | rfl | (simp; done) | (simp [*]; done)), H', ⟨by have := HJ1.out; first | omega | exact Nat.le_refl _⟩, ⟨by (with_reducible repeat (first | apply Kd.R_alloc | apply Kd.R_drewN | apply Kd.R_drew)); exact Kd.R_mono HO283.out (fun _ hk => trivial)⟩, ⟨by repeat (first | (with_reducible first | exact HB.out | apply below_alloc | apply pw_below_drewN | apply below_drew1) | exact HB.out)⟩⟩
          · rw [if_neg c15] at H
            have c15b0 : (t281 == t285) = false := beq_eq_false_iff_ne.mpr c15
            have c15b1 : (t281 != t285) = true := bne_iff_ne.mpr c15
            (first | rw [c15b0] | (simp only [i64_w, i32_w]; rw [c15b0]) | skip)
            have H' := Aside0.mk H
            clear H
            go_wp2
            go_meet
            case rel => exact ⟨_, (true), (by first | rfl | (simp; done) | (simp [*]; done)), H', ⟨by have := HJ1.out; first | omega | exact Nat.le_refl _⟩, ⟨by (with_reducible repeat (first | apply Kd.R_alloc | apply Kd.R_drewN | apply Kd.R_drew)); exact Kd.R_mono HO283.out (fun _ hk => trivial)⟩, ⟨by repeat (first | (with_reducible first | exact HB.out | apply below_alloc | apply pw_below_drewN | apply below_drew1) | exact HB.out)⟩⟩
        case rest =>
          clear HC12
          try clear c1
          try clear c2
          try clear p2
          try clear c4
          try clear c7
          try clear c10
          try clear c15
          try clear c15b0
          try clear c15b1
          try clear p2
          obtain ⟨kq, x35_11, rfl, HA, HJ11, HO_3, HB⟩ := hcut
          cases kq with
          | zero => exact absurd HA.out (by simp [ancepslaw04_PatternExpand.j1])
          | succ kj11 =>
            have H := HA.out
            clear HA
            simp only [ancepslaw04_PatternExpand.j1] at H
            by_cases c19 : x35_11 = true
            · subst c19
              have H1 : (some false) = some r := by rw [if_pos rfl] at H; exact H
              clear H
              have H := H1
              clear H1
              obtain rfl := Option.some.inj H
              go_wp2
              go_ret
              exact ⟨by first | rfl | (simp [errW_none, errW_some] <;> rfl) | (simp [*, errW_none, errW_some] <;> rfl), by repeat (first | (with_reducible first | exact HB.out | apply below_alloc | apply pw_below_drewN | apply below_drew1) | exact HB.out)⟩
            · replace c19 := Bool.eq_false_iff.mpr c19
              subst c19
              have H1 : (ancepslaw04_PatternExpand.l0 kj11 a0 t280 t280 (t280.length : Int) 0) = some r := by rw [if_neg (show ¬ (false = true) by decide)] at H; exact H
              clear H
              have H := H1
              clear H1
              have H' := Aside0.mk H
              clear H
              obtain ⟨Ao20, co20, eo20⟩ := Kd.R_slice HO_3.out
              subst eo20
              go_wp2
              go_loopg [38] kj11 (fun kq v38 w' => ∃ (x38_3 : Int), v38 = .int .i64 x38_3 ∧ Aside0 (ancepslaw04_PatternExpand.l0 kq a0 t280 t280 (t280.length : Int) x38_3 = some r) ∧ Aside0 (kq ≤ kj11) ∧ Aside0 (Kd.R Kd.string 9 w' w.heap.size (fun _ => True) (.slice Ao20 t280.length co20) t280) ∧ Aside0 (Kd.R Kd.string 9 w' w.heap.size (fun _ => True) (.slice Ao20 t280.length co20) t280) ∧ Aside0 (Below w.heap.size w w'))
              case atStart => exact ⟨(0), (by first | rfl | (simp; done) | (simp [*]; done)), H', ⟨Nat.le_refl _⟩, ⟨by (with_reducible repeat (first | apply Kd.R_alloc | apply Kd.R_drewN | apply Kd.R_drew)); exact HO_3.out⟩, ⟨by (with_reducible repeat (first | apply Kd.R_alloc | apply Kd.R_drewN | apply Kd.R_drew)); exact HO_3.out⟩, ⟨by repeat (first | (with_reducible first | exact HB.out | apply below_alloc | apply pw_below_drewN | apply below_drew1) | exact HB.out)⟩⟩
              case round =>
                clear H'
                try clear c1
                try clear c2
                try clear p2
                try clear c4
                try clear c7
                try clear c10
                try clear c15
                try clear c15b0
                try clear c15b1
                try clear c19
                try clear p2
                obtain ⟨x38_3, rfl, HA, HK3, HO_3, HO_36, HB⟩ := hrel
                cases gk with
                | zero => exact absurd HA.out (by simp [ancepslaw04_PatternExpand.l0])
                | succ k3 =>
                  have H := HA.out
                  clear HA
                  simp only [ancepslaw04_PatternExpand.l0] at H
                  by_cases c21 : x38_3 < (t280.length : Int)
                  · rw [if_pos c21] at H
                    have c21b0 : decide (x38_3 < (t280.length : Int)) = true := decide_eq_true c21
                    clear c21
                    by_cases c22 : 0 ≤ x38_3
                    · rw [if_pos c22] at H
                      have c22b0 : decide (0 ≤ x38_3) = true := decide_eq_true c22
                      clear c22
                      by_cases c23 : x38_3 < (t280.length : Int)
                      · rw [if_pos c23] at H
                        have c23b0 : decide (x38_3 < (t280.length : Int)) = true := decide_eq_true c23
                        clear c23
                        replace H := Option.bind_eq_some_iff.mp H
                        obtain ⟨t290, A240, H⟩ := H
                        replace H : (if t290 = true then (if x38_3 > 0 then (if 0 ≤ (wrap64 (x38_3 - 1)) then (if (wrap64 (x38_3 - 1)) < (t280.length : Int) then ((pattern_Compare.f k3 (rdOf ByteArray.empty t280 (wrap64 (x38_3 - 1))) (rdOf ByteArray.empty t280 x38_3)).bind fun t292 => (if t292 ≥ 0 then (some false) else (ancepslaw04_PatternExpand.l0 k3 a0 t280 t280 (t280.length : Int) (wrap64 (x38_3 + 1))))) else (none)) else (none)) else (ancepslaw04_PatternExpand.l0 k3 a0 t280 t280 (t280.length : Int) (wrap64 (x38_3 + 1)))) else (some false)) = some r := H
                        have A24 := Aside0.mk A240
                        clear A240
                        by_cases c25 : t290 = true
                        · subst c25
                          have H1 : (if x38_3 > 0 then (if 0 ≤ (wrap64 (x38_3 - 1)) then (if (wrap64 (x38_3 - 1)) < (t280.length : Int) then ((pattern_Compare.f k3 (rdOf ByteArray.empty t280 (wrap64 (x38_3 - 1))) (rdOf ByteArray.empty t280 x38_3)).bind fun t292 => (if t292 ≥ 0 then (some false) else (ancepslaw04_PatternExpand.l0 k3 a0 t280 t280 (t280.length : Int) (wrap64 (x38_3 + 1))))) else (none)) else (none)) else (ancepslaw04_PatternExpand.l0 k3 a0 t280 t280 (t280.length : Int) (wrap64 (x38_3 + 1)))) = some r := by rw [if_pos rfl] at H; exact H
                          clear H
                          have H := H1
                          clear H1
                          by_cases c26 : x38_3 > 0
                          · rw [if_pos c26] at H
                            have c26b0 : decide (0 < x38_3) = true := decide_eq_true c26
                            clear c26
                            obtain ⟨ji27, hji27⟩ : ∃ j_ : Int, (wrap64 (x38_3 - 1)) = j_ := ⟨_, rfl⟩
                            replace H : (if 0 ≤ (ji27) then (if (ji27) < (t280.length : Int) then ((pattern_Compare.f k3 (rdOf ByteArray.empty t280 (ji27)) (rdOf ByteArray.empty t280 x38_3)).bind fun t292 => (if t292 ≥ 0 then (some false) else (ancepslaw04_PatternExpand.l0 k3 a0 t280 t280 (t280.length : Int) (wrap64 (x38_3 + 1))))) else (none)) else (none)) = some r := by first | (rw [hji27] at H; exact H) | (simp only [hji27] at H ⊢; exact H)
                            (try rw [hji27] at A24)
                            have hji27w : (IntKind.i64.wrap (x38_3 - 1)) = ji27 := (i64_w _).trans hji27
                            by_cases c28 : 0 ≤ (ji27)
                            · rw [if_pos c28] at H
                              have c28b0 : decide (0 ≤ (ji27)) = true := decide_eq_true c28
                              clear c28
                              by_cases c29 : (ji27) < (t280.length : Int)
                              · rw [if_pos c29] at H
                                have c29b0 : decide ((ji27) < (t280.length : Int)) = true := decide_eq_true c29
                                clear c29
                                replace H := Option.bind_eq_some_iff.mp H
                                obtain ⟨t292, A300, H⟩ := H
                                replace H : (if t292 ≥ 0 then (some false) else (ancepslaw04_PatternExpand.l0 k3 a0 t280 t280 (t280.length : Int) (wrap64 (x38_3 + 1)))) = some r := H
                                have A30 := Aside0.mk A300
                                clear A300
                                by_cases c31 : t292 ≥ 0
                                · rw [if_pos c31] at H
                                  have c31b0 : decide (0 ≤ t292) = true := decide_eq_true c31
                                  clear c31
                                  obtain rfl := Option.some.inj H
                                  have p289 : 0 ≤ (x38_3 : Int) := of_decide_eq_true (by first | (with_reducible assumption) | assumption)
                                  have q289 : x38_3 < (t280.length : Int) := of_decide_eq_true (by first | (with_reducible assumption) | assumption)
                                  obtain ⟨ad289, e289, hx289_0⟩ := Kd.at_string (Kd.R_reads' HO_36.out).2.2 x38_3 p289 q289
                                  cases e289
                                  replace p289 := eq_true p289
                                  replace q289 := eq_true q289
                                  go_wp2_with (first | ((with_reducible refine gate_callee (f := 15) rfl ?_); refine goesL_ (some 45) rfl rfl Try.func15 (by kernel_rfl) rfl #[.string a0, .string (rdOf ByteArray.empty t280 x38_3)] rfl (by (try simp only [List.map_toArray, List.map_cons, List.map_nil]); first | done | rfl | (simp only [List.length_drop, List.length_take]; rfl)) ?_; (with_reducible refine (pattern_Match.calls k3 a0 (rdOf ByteArray.empty t280 x38_3) true _ A24.out).mono ?_); rintro e w32 ⟨rfl, hb⟩; refine ⟨_, rfl, ?_⟩; have n0_ := Aside0.mk (Kd.R_below (by (with_reducible repeat (first | apply Kd.R_alloc | apply Kd.R_drewN | apply Kd.R_drew)); exact HO_3.out) hb); have n1_ := Aside0.mk (Kd.R_below (by (with_reducible repeat (first | apply Kd.R_alloc | apply Kd.R_drewN | apply Kd.R_drew)); exact HO_36.out) hb); have n2_ := Aside0.mk (below_step (by repeat (first | (with_reducible first | exact HB.out | apply below_alloc | apply pw_below_drewN | apply below_drew1) | exact HB.out)) hb); clear HO_3; clear HO_36; clear HB; have HO_3 := n0_; have HO_36 := n1_; have HB := n2_; clear n0_ n1_ n2_; (try clear hb); (try clear hb2); (try clear hk); (try clear hi); have p291 : 0 ≤ ((ji27) : Int) := of_decide_eq_true (by first | (with_reducible assumption) | assumption); have q291 : (ji27) < (t280.length : Int) := of_decide_eq_true (by first | (with_reducible assumption) | assumption); obtain ⟨ad291, e291, hx291_0⟩ := Kd.at_string (Kd.R_reads' HO_3.out).2.2 (ji27) p291 q291; obtain rfl : ad289 = ad291 := (by injection e291); replace p291 := eq_true p291; replace q291 := eq_true q291) | (go_at_call 23; (with_reducible refine (pattern_Compare.calls k3 (rdOf ByteArray.empty t280 (ji27)) (rdOf ByteArray.empty t280 x38_3) t292 _ A30.out).mono ?_); rintro e w' ⟨rfl, ⟨nd, rfl⟩⟩))
                                  go_ret
                                  exact ⟨by first | rfl | (simp [errW_none, errW_some] <;> rfl) | (simp only [← hji27]; first | rfl | (simp [errW_none, errW_some] <;> rfl)) | (simp [*, errW_none, errW_some] <;> rfl), by repeat (first | (with_reducible first | exact HB.out | apply below_alloc | apply pw_below_drewN | apply below_drew1) | exact HB.out)⟩
                                · rw [if_neg c31] at H
                                  have c31b0 : decide (0 ≤ t292) = false := decide_eq_false c31
                                  clear c31
                                  have H' := Aside0.mk H
                                  clear H
                                  have p289 : 0 ≤ (x38_3 : Int) := of_decide_eq_true (by first | (with_reducible assumption) | assumption)
                                  have q289 : x38_3 < (t280.length : Int) := of_decide_eq_true (by first | (with_reducible assumption) | assumption)
                                  obtain ⟨ad289, e289, hx289_0⟩ := Kd.at_string (Kd.R_reads' HO_36.out).2.2 x38_3 p289 q289
                                  cases e289
                                  replace p289 := eq_true p289
                                  replace q289 := eq_true q289
                                  go_wp2_with (first | ((with_reducible refine gate_callee (f := 15) rfl ?_); refine goesL_ (some 45) rfl rfl Try.func15 (by kernel_rfl) rfl #[.string a0, .string (rdOf ByteArray.empty t280 x38_3)] rfl (by (try simp only [List.map_toArray, List.map_cons, List.map_nil]); first | done | rfl | (simp only [List.length_drop, List.length_take]; rfl)) ?_; (with_reducible refine (pattern_Match.calls k3 a0 (rdOf ByteArray.empty t280 x38_3) true _ A24.out).mono ?_); rintro e w33 ⟨rfl, hb⟩; refine ⟨_, rfl, ?_⟩; have n0_ := Aside0.mk (Kd.R_below (by (with_reducible repeat (first | apply Kd.R_alloc | apply Kd.R_drewN | apply Kd.R_drew)); exact HO_3.out) hb); have n1_ := Aside0.mk (Kd.R_below (by (with_reducible repeat (first | apply Kd.R_alloc | apply Kd.R_drewN | apply Kd.R_drew)); exact HO_36.out) hb); have n2_ := Aside0.mk (below_step (by repeat (first | (with_reducible first | exact HB.out | apply below_alloc | apply pw_below_drewN | apply below_drew1) | exact HB.out)) hb); clear HO_3; clear HO_36; clear HB; have HO_3 := n0_; have HO_36 := n1_; have HB := n2_; clear n0_ n1_ n2_; (try clear hb); (try clear hb2); (try clear hk); (try clear hi); have p291 : 0 ≤ ((ji27) : Int) := of_decide_eq_true (by first | (with_reducible assumption) | assumption); have q291 : (ji27) < (t280.length : Int) := of_decide_eq_true (by first | (with_reducible assumption) | assumption); obtain ⟨ad291, e291, hx291_0⟩ := Kd.at_string (Kd.R_reads' HO_3.out).2.2 (ji27) p291 q291; obtain rfl : ad289 = ad291 := (by injection e291); replace p291 := eq_true p291; replace q291 := eq_true q291) | (go_at_call 23; (with_reducible refine (pattern_Compare.calls k3 (rdOf ByteArray.empty t280 (ji27)) (rdOf ByteArray.empty t280 x38_3) t292 _ A30.out).mono ?_); rintro e w' ⟨rfl, ⟨nd, rfl⟩⟩))
                                  go_roundg k3
                                  case measure => have := HJ1.out; have := HJ11.out; have := HK3.out; omega
                                  case rel => exact ⟨(wrap64 (x38_3 + 1)), (by first | rfl | (simp; done) | (simp [*]; done)), H', ⟨by have := HJ1.out; have := HJ11.out; have := HK3.out; omega⟩, ⟨by (with_reducible repeat (first | apply Kd.R_alloc | apply Kd.R_drewN | apply Kd.R_drew)); exact HO_3.out⟩, ⟨by (with_reducible repeat (first | apply Kd.R_alloc | apply Kd.R_drewN | apply Kd.R_drew)); exact HO_36.out⟩, ⟨by repeat (first | (with_reducible first | exact HB.out | apply below_alloc | apply pw_below_drewN | apply below_drew1) | exact HB.out)⟩⟩
                              · rw [if_neg c29] at H
                                exact absurd H (by simp)
                            · rw [if_neg c28] at H
                              exact absurd H (by simp)
                          · rw [if_neg c26] at H
                            have c26b0 : decide (0 < x38_3) = false := decide_eq_false c26
                            clear c26
                            have H' := Aside0.mk H
                            clear H
                            have p289 : 0 ≤ (x38_3 : Int) := of_decide_eq_true (by first | (with_reducible assumption) | assumption)
                            have q289 : x38_3 < (t280.length : Int) := of_decide_eq_true (by first | (with_reducible assumption) | assumption)
                            obtain ⟨ad289, e289, hx289_0⟩ := Kd.at_string (Kd.R_reads' HO_36.out).2.2 x38_3 p289 q289
                            cases e289
                            replace p289 := eq_true p289
                            replace q289 := eq_true q289
                            go_wp2_with (first | ((with_reducible refine gate_callee (f := 15) rfl ?_); refine goesL_ (some 45) rfl rfl Try.func15 (by kernel_rfl) rfl #[.string a0, .string (rdOf ByteArray.empty t280 x38_3)] rfl (by (try simp only [List.map_toArray, List.map_cons, List.map_nil]); first | done | rfl | (simp only [List.length_drop, List.length_take]; rfl)) ?_; (with_reducible refine (pattern_Match.calls k3 a0 (rdOf ByteArray.empty t280 x38_3) true _ A24.out).mono ?_); rintro e w34 ⟨rfl, hb⟩; refine ⟨_, rfl, ?_⟩; have n0_ := Aside0.mk (Kd.R_below (by (with_reducible repeat (first | apply Kd.R_alloc | apply Kd.R_drewN | apply Kd.R_drew)); exact HO_3.out) hb); have n1_ := Aside0.mk (Kd.R_below (by (with_reducible repeat (first | apply Kd.R_alloc | apply Kd.R_drewN | apply Kd.R_drew)); exact HO_36.out) hb); have n2_ := Aside0.mk (below_step (by repeat (first | (with_reducible first | exact HB.out | apply below_alloc | apply pw_below_drewN | apply below_drew1) | exact HB.out)) hb); clear HO_3; clear HO_36; clear HB; have HO_3 := n0_; have HO_36 := n1_; have HB := n2_; clear n0_ n1_ n2_; (try clear hb); (try clear hb2); (try clear hk); (try clear hi)))
                            go_roundg k3
                            case measure => have := HJ1.out; have := HJ11.out; have := HK3.out; omega
                            case rel => exact ⟨(wrap64 (x38_3 + 1)), (by first | rfl | (simp; done) | (simp [*]; done)), H', ⟨by have := HJ1.out; have := HJ11.out; have := HK3.out; omega⟩, ⟨by (with_reducible repeat (first | apply Kd.R_alloc | apply Kd.R_drewN | apply Kd.R_drew)); exact HO_3.out⟩, ⟨by (with_reducible repeat (first | apply Kd.R_alloc | apply Kd.R_drewN | apply Kd.R_drew)); exact HO_36.out⟩, ⟨by repeat (first | (with_reducible first | exact HB.out | apply below_alloc | apply pw_below_drewN | apply below_drew1) | exact HB.out)⟩⟩
                        · replace c25 := Bool.eq_false_iff.mpr c25
                          subst c25
                          have H1 : (some false) = some r := by rw [if_neg (show ¬ (false = true) by decide)] at H; exact H
                          clear H
                          have H := H1
                          clear H1
                          obtain rfl := Option.some.inj H
                          have p289 : 0 ≤ (x38_3 : Int) := of_decide_eq_true (by first | (with_reducible assumption) | assumption)
                          have q289 : x38_3 < (t280.length : Int) := of_decide_eq_true (by first | (with_reducible assumption) | assumption)
                          obtain ⟨ad289, e289, hx289_0⟩ := Kd.at_string (Kd.R_reads' HO_36.out).2.2 x38_3 p289 q289
                          cases e289
                          replace p289 := eq_true p289
                          replace q289 := eq_true q289
                          go_wp2_with (first | ((with_reducible refine gate_callee (f := 15) rfl ?_); refine goesL_ (some 45) rfl rfl Try.func15 (by kernel_rfl) rfl #[.string a0, .string (rdOf ByteArray.empty t280 x38_3)] rfl (by (try simp only [List.map_toArray, List.map_cons, List.map_nil]); first | done | rfl | (simp only [List.length_drop, List.length_take]; rfl)) ?_; (with_reducible refine (pattern_Match.calls k3 a0 (rdOf ByteArray.empty t280 x38_3) false _ A24.out).mono ?_); rintro e w35 ⟨rfl, hb⟩; refine ⟨_, rfl, ?_⟩; have n0_ := Aside0.mk (Kd.R_below (by (with_reducible repeat (first | apply Kd.R_alloc | apply Kd.R_drewN | apply Kd.R_drew)); exact HO_3.out) hb); have n1_ := Aside0.mk (Kd.R_below (by (with_reducible repeat (first | apply Kd.R_alloc | apply Kd.R_drewN | apply Kd.R_drew)); exact HO_36.out) hb); have n2_ := Aside0.mk (below_step (by repeat (first | (with_reducible first | exact HB.out | apply below_alloc | apply pw_below_drewN | apply below_drew1) | exact HB.out)) hb); clear HO_3; clear HO_36; clear HB; have HO_3 := n0_; have HO_36 := n1_; have HB := n2_; clear n0_ n1_ n2_; (try clear hb); (try clear hb2); (try clear hk); (try clear hi)))
                          go_ret
                          exact ⟨by first | rfl | (simp [errW_none, errW_some] <;> rfl) | (simp [*, errW_none, errW_some] <;> rfl), by repeat (first | (with_reducible first | exact HB.out | apply below_alloc | apply pw_below_drewN | apply below_drew1) | exact HB.out)⟩
                      · rw [if_neg c23] at H
                        exact absurd H (by simp)
                    · rw [if_neg c22] at H
                      exact absurd H (by simp)
                  · rw [if_neg c21] at H
                    have c21b0 : decide (x38_3 < (t280.length : Int)) = false := decide_eq_false c21
                    clear c21
                    obtain rfl := Option.some.inj H
                    go_wp2
                    go_ret
                    exact ⟨by first | rfl | (simp [errW_none, errW_some] <;> rfl) | (simp [*, errW_none, errW_some] <;> rfl), by repeat (first | (with_reducible first | exact HB.out | apply below_alloc | apply pw_below_drewN | apply below_drew1) | exact HB.out)⟩

/-- THE ONE PURE STATEMENT of ancepslaw04_PatternExpand: yours. -/
def ancepslaw04_PatternExpand.Pure : Prop := ∀ (a0 : ByteArray), a0.size ≤ 140737488351232 → ∃ k, ancepslaw04_PatternExpand.f k a0 = some true
theorem ancepslaw04_PatternExpand.walk (P : ancepslaw04_PatternExpand.Pure) (a0 : ByteArray) (w : World) (w0 : a0.size ≤ 140737488351232) :
    Calls Try.prog 7 #[.string a0] w fun e w' => e = .returned (.bool true) ∧ Below w.heap.size w w' := by
  obtain ⟨k, h⟩ := P a0 w0
  refine (ancepslaw04_PatternExpand.calls k a0 true w h).mono ?_
  rintro e w' ⟨rfl, hd⟩
  exact ⟨rfl, hd⟩

end Go.Proofs.Ytbecdafbkdchkaa.X
