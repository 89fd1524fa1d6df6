-- printed by this session's xprint.py: out of the translation, by the kit's print with additions; Lean checks it
import Derived.Test.YtbecdafbkdchkaaDoorWShare
import Derived.Test.YtbecdafbkdchkaaDoorWRepsOne
import Derived.Test.YtbecdafbkdchkaaDoorX0
import Derived.Test.YtbecdafbkdchkaaDoorX1
import Derived.Test.YtbecdafbkdchkaaDoorX3
import Derived.Test.YtbecdafbkdchkaaDoorX4
import Derived.Test.YtbecdafbkdchkaaDoorX5
namespace Go.Proofs.YtbecdafbkdchkaaDoor.X
open Go.RowKit Go.Proofs.YtbecdafbkdchkaaDoorW.PrintWords Go.Proofs.YtbecdafbkdchkaaDoorW.PrintLast Go.Proofs.YtbecdafbkdchkaaDoorW.PrintMore
attribute [local go_sem] max2_int min2_int max_two min_two max_three min_three max_four min_four isSome_setCell binOp_gtr_str binOp_leq_str   -- for this text's walks alone
set_option linter.unusedVariables false
set_option linter.unusedSimpArgs false

/-! ### ancepslaw04_PatternValid: function 3 -/
mutual
def ancepslaw04_PatternValid.j0 : Nat → ByteArray → Bool → Option (Bool)
  | 0, _, _ => none
  | k + 1, x0, x19 => if x19 = true then ((ancepslaw04_awake.f k).bind fun t193 => (some t193)) else ((pattern_Plain.f k x0).bind fun bt194 => ((ancepsref04_Plain.f k x0).bind fun bt196 => ((pattern_Letters.f k x0).bind fun bt198 => ((ancepsref04_Letters.f k x0).bind fun bt202 => ((pattern_Valid.f k x0).bind fun t206 => ((ancepsref04_Valid.f k x0).bind fun t207 => (if t206 = t207 then ((pattern_Marked.f k x0).bind fun t208 => ((ancepsref04_Marked.f k x0).bind fun t209 => (if t208 = t209 then (if bt194.1.toList = bt196.1.toList then (if bt194.2 = bt196.2 then (if bt198.2 = bt202.2 then ((slices_Equal_int_int.f k bt198.1 bt202.1).bind fun t210 => (ancepslaw04_PatternValid.j1 k x0 bt198.1 bt198.2 (!t210))) else (ancepslaw04_PatternValid.j1 k x0 bt198.1 bt198.2 true)) else (ancepslaw04_PatternValid.j1 k x0 bt198.1 bt198.2 true)) else (ancepslaw04_PatternValid.j1 k x0 bt198.1 bt198.2 true)) else (ancepslaw04_PatternValid.j1 k x0 bt198.1 bt198.2 true)))) else (ancepslaw04_PatternValid.j1 k x0 bt198.1 bt198.2 true))))))))
def ancepslaw04_PatternValid.j1 : Nat → ByteArray → List Int → Int → Bool → Option (Bool)
  | 0, _, _, _, _ => none
  | k + 1, x0, x7, x8, x73 => if x73 = true then (some false) else (if x8 = 0 then ((pattern_Text.f x7).bind fun bt211 => (if bt211.2 = 0 then (some (bt211.1.toList == x0.toList)) else (some false))) else (some true))
end
def ancepslaw04_PatternValid.f (k : Nat) (a0 : ByteArray) : Option (Bool) := (ancepslaw04_awake.f k).bind fun t192 => (if t192 = true then (ancepslaw04_PatternValid.j0 k a0 (decide ((a0.size : Int) > 300))) else (ancepslaw04_PatternValid.j0 k a0 true))
theorem ancepslaw04_PatternValid.mono_l : ∀ k, (∀ y0 y1, LeO (ancepslaw04_PatternValid.j0 k y0 y1) (ancepslaw04_PatternValid.j0 (k + 1) y0 y1)) ∧ (∀ y0 y1 y2 y3, LeO (ancepslaw04_PatternValid.j1 k y0 y1 y2 y3) (ancepslaw04_PatternValid.j1 (k + 1) y0 y1 y2 y3))
  | 0 => ⟨fun _ _ r h => by simp [ancepslaw04_PatternValid.j0] at h, fun _ _ _ _ r h => by simp [ancepslaw04_PatternValid.j1] at h⟩
  | k + 1 => by
    obtain ⟨ih0, ih1⟩ := ancepslaw04_PatternValid.mono_l k
    refine ⟨?_, ?_⟩
    · intro y0 y1
      unfold ancepslaw04_PatternValid.j0
      repeat' first
      | (with_reducible exact ih0 _ _)
      | (with_reducible exact ih1 _ _ _ _)
      | (with_reducible exact ancepslaw04_awake.mono _)
      | (with_reducible exact ancepsref04_Letters.mono _ _)
      | (with_reducible exact ancepsref04_Marked.mono _ _)
      | (with_reducible exact ancepsref04_Plain.mono _ _)
      | (with_reducible exact ancepsref04_Valid.mono _ _)
      | (with_reducible exact pattern_Letters.mono _ _)
      | (with_reducible exact pattern_Marked.mono _ _)
      | (with_reducible exact pattern_Plain.mono _ _)
      | (with_reducible exact pattern_Valid.mono _ _)
      | (with_reducible exact slices_Equal_int_int.mono _ _ _)
      | (with_reducible exact LeO.refl _)
      | (with_reducible exact LeO.none _)
      | (with_reducible refine LeO.ite ?_ ?_)
      | (with_reducible refine LeO.bind ?_ (fun _ => ?_))
      | exact ih0 _ _
      | exact ih1 _ _ _ _
      | exact ancepslaw04_awake.mono _
      | exact ancepsref04_Letters.mono _ _
      | exact ancepsref04_Marked.mono _ _
      | exact ancepsref04_Plain.mono _ _
      | exact ancepsref04_Valid.mono _ _
      | exact pattern_Letters.mono _ _
      | exact pattern_Marked.mono _ _
      | exact pattern_Plain.mono _ _
      | exact pattern_Valid.mono _ _
      | exact slices_Equal_int_int.mono _ _ _
      | exact LeO.none _
      | refine LeO.ite ?_ ?_
      | refine LeO.bind ?_ (fun _ => ?_)
    · intro y0 y1 y2 y3
      unfold ancepslaw04_PatternValid.j1
      repeat' first
      | (with_reducible exact ih0 _ _)
      | (with_reducible exact ih1 _ _ _ _)
      | (with_reducible exact ancepslaw04_awake.mono _)
      | (with_reducible exact ancepsref04_Letters.mono _ _)
      | (with_reducible exact ancepsref04_Marked.mono _ _)
      | (with_reducible exact ancepsref04_Plain.mono _ _)
      | (with_reducible exact ancepsref04_Valid.mono _ _)
      | (with_reducible exact pattern_Letters.mono _ _)
      | (with_reducible exact pattern_Marked.mono _ _)
      | (with_reducible exact pattern_Plain.mono _ _)
      | (with_reducible exact pattern_Valid.mono _ _)
      | (with_reducible exact slices_Equal_int_int.mono _ _ _)
      | (with_reducible exact LeO.refl _)
      | (with_reducible exact LeO.none _)
      | (with_reducible refine LeO.ite ?_ ?_)
      | (with_reducible refine LeO.bind ?_ (fun _ => ?_))
      | exact ih0 _ _
      | exact ih1 _ _ _ _
      | exact ancepslaw04_awake.mono _
      | exact ancepsref04_Letters.mono _ _
      | exact ancepsref04_Marked.mono _ _
      | exact ancepsref04_Plain.mono _ _
      | exact ancepsref04_Valid.mono _ _
      | exact pattern_Letters.mono _ _
      | exact pattern_Marked.mono _ _
      | exact pattern_Plain.mono _ _
      | exact pattern_Valid.mono _ _
      | exact slices_Equal_int_int.mono _ _ _
      | exact LeO.none _
      | refine LeO.ite ?_ ?_
      | refine LeO.bind ?_ (fun _ => ?_)
theorem ancepslaw04_PatternValid.mono : ∀ a0 k, LeO (ancepslaw04_PatternValid.f k a0) (ancepslaw04_PatternValid.f (k + 1) a0) := by
  intro a0 k
  obtain ⟨ih0, ih1⟩ := ancepslaw04_PatternValid.mono_l k
  unfold ancepslaw04_PatternValid.f
  repeat' first
      | (with_reducible exact ih0 _ _)
      | (with_reducible exact ih1 _ _ _ _)
      | (with_reducible exact ancepslaw04_awake.mono _)
      | (with_reducible exact ancepsref04_Letters.mono _ _)
      | (with_reducible exact ancepsref04_Marked.mono _ _)
      | (with_reducible exact ancepsref04_Plain.mono _ _)
      | (with_reducible exact ancepsref04_Valid.mono _ _)
      | (with_reducible exact pattern_Letters.mono _ _)
      | (with_reducible exact pattern_Marked.mono _ _)
      | (with_reducible exact pattern_Plain.mono _ _)
      | (with_reducible exact pattern_Valid.mono _ _)
      | (with_reducible exact slices_Equal_int_int.mono _ _ _)
      | (with_reducible exact LeO.refl _)
      | (with_reducible exact LeO.none _)
      | (with_reducible refine LeO.ite ?_ ?_)
      | (with_reducible refine LeO.bind ?_ (fun _ => ?_))
      | exact ih0 _ _
      | exact ih1 _ _ _ _
      | exact ancepslaw04_awake.mono _
      | exact ancepsref04_Letters.mono _ _
      | exact ancepsref04_Marked.mono _ _
      | exact ancepsref04_Plain.mono _ _
      | exact ancepsref04_Valid.mono _ _
      | exact pattern_Letters.mono _ _
      | exact pattern_Marked.mono _ _
      | exact pattern_Plain.mono _ _
      | exact pattern_Valid.mono _ _
      | exact slices_Equal_int_int.mono _ _ _
      | exact LeO.none _
      | refine LeO.ite ?_ ?_
      | refine LeO.bind ?_ (fun _ => ?_)
set_option maxHeartbeats 8000000 in
set_option maxRecDepth 100000 in
theorem ancepslaw04_PatternValid.calls (k : Nat) (a0 : ByteArray) (r : Bool) (w : World) (h : ancepslaw04_PatternValid.f k a0 = some r) :
    Calls Tryd.prog 3 #[.string a0] w fun e w' => e = .returned (.bool r) ∧ Below w.heap.size w w' := by
  have HB := Aside0.mk (Below.refl w.heap.size w)
  have H : ((ancepslaw04_awake.f k).bind fun t192 => (if t192 = true then (ancepslaw04_PatternValid.j0 k a0 (decide ((a0.size : Int) > 300))) else (ancepslaw04_PatternValid.j0 k a0 true))) = some r := h
  clear h
  have HC2 := Aside0.mk H
  clear H
  go_enter Tryd.func3, Tryd.ntmps3
  go_upto_region 1 with (fail)
  go_cut [19] (fun v19 wc => ∃ (kq : Nat) (x19_1 : Bool), v19 = .bool x19_1 ∧ Aside0 (ancepslaw04_PatternValid.j0 kq a0 x19_1 = some r) ∧ Aside0 (kq ≤ k) ∧ Aside0 (Below w.heap.size w wc))
  case first =>
    have H := HC2.out
    clear HC2
    replace H := Option.bind_eq_some_iff.mp H
    obtain ⟨t192, A30, H⟩ := H
    replace H : (if t192 = true then (ancepslaw04_PatternValid.j0 k a0 (decide ((a0.size : Int) > 300))) else (ancepslaw04_PatternValid.j0 k a0 true)) = some r := H
    have A3 := Aside0.mk A30
    clear A30
    by_cases c4 : t192 = true
    · subst c4
      have H1 : (ancepslaw04_PatternValid.j0 k a0 (decide ((a0.size : Int) > 300))) = some r := by rw [if_pos rfl] at H; exact H
      clear H
      have H := H1
      clear H1
      have H' := Aside0.mk H
      clear H
      go_wp2_with (first | ((with_reducible refine gate_callee (f := 4) rfl ?_); refine goesL_ (some 13) rfl rfl Tryd.func4 (by kernel_rfl) rfl #[] rfl (by (try simp only [List.map_toArray, List.map_cons, List.map_nil]); first | done | rfl | (simp only [List.length_drop, List.length_take]; rfl)) ?_; (with_reducible refine (ancepslaw04_awake.calls k  true _ A3.out).mono ?_); rintro e w5 ⟨rfl, hb⟩; refine ⟨_, rfl, ?_⟩; have n0_ := Aside0.mk (below_step (by repeat (first | (with_reducible first | exact HB.out | apply below_alloc | apply pw_below_drewN | apply below_drew1) | exact HB.out)) hb); clear HB; have HB := n0_; clear n0_; (try clear hb); (try clear hb2); (try clear hk); (try clear hi)))
      go_meet
      case rel => exact ⟨_, (decide ((a0.size : Int) > 300)), (by first | rfl | (simp; done) | (simp [*]; done)), H', ⟨by first | omega | exact Nat.le_refl _⟩, ⟨by repeat (first | (with_reducible first | exact HB.out | apply below_alloc | apply pw_below_drewN | apply below_drew1) | exact HB.out)⟩⟩
    · replace c4 := Bool.eq_false_iff.mpr c4
      subst c4
      have H1 : (ancepslaw04_PatternValid.j0 k a0 true) = some r := by rw [if_neg (show ¬ (false = true) by decide)] at H; exact H
      clear H
      have H := H1
      clear H1
      have H' := Aside0.mk H
      clear H
      go_wp2_with (first | ((with_reducible refine gate_callee (f := 4) rfl ?_); refine goesL_ (some 13) rfl rfl Tryd.func4 (by kernel_rfl) rfl #[] rfl (by (try simp only [List.map_toArray, List.map_cons, List.map_nil]); first | done | rfl | (simp only [List.length_drop, List.length_take]; rfl)) ?_; (with_reducible refine (ancepslaw04_awake.calls k  false _ A3.out).mono ?_); rintro e w6 ⟨rfl, hb⟩; refine ⟨_, rfl, ?_⟩; have n0_ := Aside0.mk (below_step (by repeat (first | (with_reducible first | exact HB.out | apply below_alloc | apply pw_below_drewN | apply below_drew1) | exact HB.out)) hb); clear HB; have HB := n0_; clear n0_; (try clear hb); (try clear hb2); (try clear hk); (try clear hi)))
      go_meet
      case rel => exact ⟨_, (true), (by first | rfl | (simp; done) | (simp [*]; done)), H', ⟨by first | omega | exact Nat.le_refl _⟩, ⟨by repeat (first | (with_reducible first | exact HB.out | apply below_alloc | apply pw_below_drewN | apply below_drew1) | exact HB.out)⟩⟩
  case rest =>
    clear HC2
    try clear p2
    try clear c3
    try clear c4
    obtain ⟨kq, x19_1, rfl, HA, HJ1, HB⟩ := hcut
    cases kq with
    | zero => exact absurd HA.out (by simp [ancepslaw04_PatternValid.j0])
    | succ kj1 =>
      have H := HA.out
      clear HA
      simp only [ancepslaw04_PatternValid.j0] at H
      by_cases c7 : x19_1 = true
      · subst c7
        have H1 : ((ancepslaw04_awake.f kj1).bind fun t193 => (some t193)) = some r := by rw [if_pos rfl] at H; exact H
        clear H
        have H := H1
        clear H1
        replace H := Option.bind_eq_some_iff.mp H
        obtain ⟨t193, A80, H⟩ := H
        replace H : (some t193) = some r := H
        have A8 := Aside0.mk A80
        clear A80
        obtain rfl := Option.some.inj H
        go_wp2_with (first | ((with_reducible refine gate_callee (f := 4) rfl ?_); refine goesL_ (some 20) rfl rfl Tryd.func4 (by kernel_rfl) rfl #[] rfl (by (try simp only [List.map_toArray, List.map_cons, List.map_nil]); first | done | rfl | (simp only [List.length_drop, List.length_take]; rfl)) ?_; (with_reducible refine (ancepslaw04_awake.calls kj1  t193 _ A8.out).mono ?_); rintro e w9 ⟨rfl, hb⟩; refine ⟨_, rfl, ?_⟩; have n0_ := Aside0.mk (below_step (by repeat (first | (with_reducible first | exact HB.out | apply below_alloc | apply pw_below_drewN | apply below_drew1) | exact HB.out)) hb); clear HB; have HB := n0_; clear n0_; (try clear hb); (try clear hb2); (try clear hk); (try clear hi)))
        go_ret
        exact ⟨by first | rfl | (simp [errW_none, errW_some] <;> rfl) | (simp [*, errW_none, errW_some] <;> rfl), by repeat (first | (with_reducible first | exact HB.out | apply below_alloc | apply pw_below_drewN | apply below_drew1) | exact HB.out)⟩
      · replace c7 := Bool.eq_false_iff.mpr c7
        subst c7
        have H1 : ((pattern_Plain.f kj1 a0).bind fun bt194 => ((ancepsref04_Plain.f kj1 a0).bind fun bt196 => ((pattern_Letters.f kj1 a0).bind fun bt198 => ((ancepsref04_Letters.f kj1 a0).bind fun bt202 => ((pattern_Valid.f kj1 a0).bind fun t206 => ((ancepsref04_Valid.f kj1 a0).bind fun t207 => (if t206 = t207 then ((pattern_Marked.f kj1 a0).bind fun t208 => ((ancepsref04_Marked.f kj1 a0).bind fun t209 => (if t208 = t209 then (if bt194.1.toList = bt196.1.toList then (if bt194.2 = bt196.2 then (if bt198.2 = bt202.2 then ((slices_Equal_int_int.f kj1 bt198.1 bt202.1).bind fun t210 => (ancepslaw04_PatternValid.j1 kj1 a0 bt198.1 bt198.2 (!t210))) else (ancepslaw04_PatternValid.j1 kj1 a0 bt198.1 bt198.2 true)) else (ancepslaw04_PatternValid.j1 kj1 a0 bt198.1 bt198.2 true)) else (ancepslaw04_PatternValid.j1 kj1 a0 bt198.1 bt198.2 true)) else (ancepslaw04_PatternValid.j1 kj1 a0 bt198.1 bt198.2 true)))) else (ancepslaw04_PatternValid.j1 kj1 a0 bt198.1 bt198.2 true)))))))) = some r := by rw [if_neg (show ¬ (false = true) by decide)] at H; exact H
        clear H
        have H := H1
        clear H1
        replace H := Option.bind_eq_some_iff.mp H
        obtain ⟨⟨t194, t195⟩, A100, H⟩ := H
        replace H : ((ancepsref04_Plain.f kj1 a0).bind fun bt196 => ((pattern_Letters.f kj1 a0).bind fun bt198 => ((ancepsref04_Letters.f kj1 a0).bind fun bt202 => ((pattern_Valid.f kj1 a0).bind fun t206 => ((ancepsref04_Valid.f kj1 a0).bind fun t207 => (if t206 = t207 then ((pattern_Marked.f kj1 a0).bind fun t208 => ((ancepsref04_Marked.f kj1 a0).bind fun t209 => (if t208 = t209 then (if t194.toList = bt196.1.toList then (if t195 = bt196.2 then (if bt198.2 = bt202.2 then ((slices_Equal_int_int.f kj1 bt198.1 bt202.1).bind fun t210 => (ancepslaw04_PatternValid.j1 kj1 a0 bt198.1 bt198.2 (!t210))) else (ancepslaw04_PatternValid.j1 kj1 a0 bt198.1 bt198.2 true)) else (ancepslaw04_PatternValid.j1 kj1 a0 bt198.1 bt198.2 true)) else (ancepslaw04_PatternValid.j1 kj1 a0 bt198.1 bt198.2 true)) else (ancepslaw04_PatternValid.j1 kj1 a0 bt198.1 bt198.2 true)))) else (ancepslaw04_PatternValid.j1 kj1 a0 bt198.1 bt198.2 true))))))) = some r := H
        have A10 := Aside0.mk A100
        clear A100
        replace H := Option.bind_eq_some_iff.mp H
        obtain ⟨⟨t196, t197⟩, A110, H⟩ := H
        replace H : ((pattern_Letters.f kj1 a0).bind fun bt198 => ((ancepsref04_Letters.f kj1 a0).bind fun bt202 => ((pattern_Valid.f kj1 a0).bind fun t206 => ((ancepsref04_Valid.f kj1 a0).bind fun t207 => (if t206 = t207 then ((pattern_Marked.f kj1 a0).bind fun t208 => ((ancepsref04_Marked.f kj1 a0).bind fun t209 => (if t208 = t209 then (if t194.toList = t196.toList then (if t195 = t197 then (if bt198.2 = bt202.2 then ((slices_Equal_int_int.f kj1 bt198.1 bt202.1).bind fun t210 => (ancepslaw04_PatternValid.j1 kj1 a0 bt198.1 bt198.2 (!t210))) else (ancepslaw04_PatternValid.j1 kj1 a0 bt198.1 bt198.2 true)) else (ancepslaw04_PatternValid.j1 kj1 a0 bt198.1 bt198.2 true)) else (ancepslaw04_PatternValid.j1 kj1 a0 bt198.1 bt198.2 true)) else (ancepslaw04_PatternValid.j1 kj1 a0 bt198.1 bt198.2 true)))) else (ancepslaw04_PatternValid.j1 kj1 a0 bt198.1 bt198.2 true)))))) = some r := H
        have A11 := Aside0.mk A110
        clear A110
        replace H := Option.bind_eq_some_iff.mp H
        obtain ⟨⟨t198, t199⟩, A120, H⟩ := H
        replace H : ((ancepsref04_Letters.f kj1 a0).bind fun bt202 => ((pattern_Valid.f kj1 a0).bind fun t206 => ((ancepsref04_Valid.f kj1 a0).bind fun t207 => (if t206 = t207 then ((pattern_Marked.f kj1 a0).bind fun t208 => ((ancepsref04_Marked.f kj1 a0).bind fun t209 => (if t208 = t209 then (if t194.toList = t196.toList then (if t195 = t197 then (if t199 = bt202.2 then ((slices_Equal_int_int.f kj1 t198 bt202.1).bind fun t210 => (ancepslaw04_PatternValid.j1 kj1 a0 t198 t199 (!t210))) else (ancepslaw04_PatternValid.j1 kj1 a0 t198 t199 true)) else (ancepslaw04_PatternValid.j1 kj1 a0 t198 t199 true)) else (ancepslaw04_PatternValid.j1 kj1 a0 t198 t199 true)) else (ancepslaw04_PatternValid.j1 kj1 a0 t198 t199 true)))) else (ancepslaw04_PatternValid.j1 kj1 a0 t198 t199 true))))) = some r := H
        have A12 := Aside0.mk A120
        clear A120
        replace H := Option.bind_eq_some_iff.mp H
        obtain ⟨⟨t202, t203⟩, A130, H⟩ := H
        replace H : ((pattern_Valid.f kj1 a0).bind fun t206 => ((ancepsref04_Valid.f kj1 a0).bind fun t207 => (if t206 = t207 then ((pattern_Marked.f kj1 a0).bind fun t208 => ((ancepsref04_Marked.f kj1 a0).bind fun t209 => (if t208 = t209 then (if t194.toList = t196.toList then (if t195 = t197 then (if t199 = t203 then ((slices_Equal_int_int.f kj1 t198 t202).bind fun t210 => (ancepslaw04_PatternValid.j1 kj1 a0 t198 t199 (!t210))) else (ancepslaw04_PatternValid.j1 kj1 a0 t198 t199 true)) else (ancepslaw04_PatternValid.j1 kj1 a0 t198 t199 true)) else (ancepslaw04_PatternValid.j1 kj1 a0 t198 t199 true)) else (ancepslaw04_PatternValid.j1 kj1 a0 t198 t199 true)))) else (ancepslaw04_PatternValid.j1 kj1 a0 t198 t199 true)))) = some r := H
        have A13 := Aside0.mk A130
        clear A130
        have HC14 := Aside0.mk H
        clear H
        go_upto_region 7 with (first | ((with_reducible refine gate_callee (f := 5) rfl ?_); refine goesL_ (some 23) rfl rfl Tryd.func5 (by kernel_rfl) rfl #[.string a0] rfl (by (try simp only [List.map_toArray, List.map_cons, List.map_nil]); first | done | rfl | (simp only [List.length_drop, List.length_take]; rfl)) ?_; (with_reducible refine (pattern_Plain.calls kj1 a0 t194 t195 _ A10.out).mono ?_); rintro e w15 ⟨rfl, hb⟩; refine ⟨_, rfl, ?_⟩; have n0_ := Aside0.mk (below_step (by repeat (first | (with_reducible first | exact HB.out | apply below_alloc | apply pw_below_drewN | apply below_drew1) | exact HB.out)) hb); clear HB; have HB := n0_; clear n0_; (try clear hb); (try clear hb2); (try clear hk); (try clear hi)) | ((with_reducible refine gate_callee (f := 6) rfl ?_); refine goesL_ (some 28) rfl rfl Tryd.func6 (by kernel_rfl) rfl #[.string a0] rfl (by (try simp only [List.map_toArray, List.map_cons, List.map_nil]); first | done | rfl | (simp only [List.length_drop, List.length_take]; rfl)) ?_; (with_reducible refine (ancepsref04_Plain.calls kj1 a0 t196 t197 _ A11.out).mono ?_); rintro e w' ⟨rfl, ⟨nd, rfl⟩⟩; refine ⟨_, rfl, ?_⟩) | ((with_reducible refine gate_callee (f := 7) rfl ?_); refine goesL_ (some 33) rfl rfl Tryd.func7 (by kernel_rfl) rfl #[.string a0] rfl (by (try simp only [List.map_toArray, List.map_cons, List.map_nil]); first | done | rfl | (simp only [List.length_drop, List.length_take]; rfl)) ?_; (with_reducible refine (pattern_Letters.calls kj1 a0 t198 t199 _ A12.out).mono ?_); rintro e w16 ⟨v200, rfl, ho0, hb⟩; refine ⟨_, rfl, ?_⟩; have n0_ := Aside0.mk (Kd.R_lower ho0 (below_size (by repeat (first | (with_reducible first | exact HB.out | apply below_alloc | apply pw_below_drewN | apply below_drew1) | exact HB.out)))); have n1_ := Aside0.mk (below_step (by repeat (first | (with_reducible first | exact HB.out | apply below_alloc | apply pw_below_drewN | apply below_drew1) | exact HB.out)) hb); clear HB; have HO201 := n0_; have HB := n1_; clear n0_ n1_; (try clear hb); (try clear hb2); (try clear hk); (try clear hi); (try clear ho0)) | ((with_reducible refine gate_callee (f := 8) rfl ?_); refine goesL_ (some 38) rfl rfl Tryd.func8 (by kernel_rfl) rfl #[.string a0] rfl (by (try simp only [List.map_toArray, List.map_cons, List.map_nil]); first | done | rfl | (simp only [List.length_drop, List.length_take]; rfl)) ?_; (with_reducible refine (ancepsref04_Letters.calls kj1 a0 t202 t203 _ A13.out).mono ?_); rintro e w17 ⟨v204, rfl, ho0, hb⟩; refine ⟨_, rfl, ?_⟩; have n0_ := Aside0.mk (Kd.R_elder' (by (with_reducible repeat (first | apply Kd.R_alloc | apply Kd.R_drewN | apply Kd.R_drew)); exact HO201.out) (Kd.R_base ho0) hb); have n1_ := Aside0.mk (Kd.R_lower (Kd.R_new' ho0 (Kd.R_lt (by (with_reducible repeat (first | apply Kd.R_alloc | apply Kd.R_drewN | apply Kd.R_drew)); exact HO201.out))) (below_size (by repeat (first | (with_reducible first | exact HB.out | apply below_alloc | apply pw_below_drewN | apply below_drew1) | exact HB.out)))); have n2_ := Aside0.mk (below_step (by repeat (first | (with_reducible first | exact HB.out | apply below_alloc | apply pw_below_drewN | apply below_drew1) | exact HB.out)) hb); clear HO201; clear HB; have HO201 := n0_; have HO205 := n1_; have HB := n2_; clear n0_ n1_ n2_; (try clear hb); (try clear hb2); (try clear hk); (try clear hi); (try clear ho0)))
        (try simp only [Act.put, List.setIfInBounds_toArray, List.set_cons_zero, List.set_cons_succ])
        go_cut [73] (fun v73 wc => ∃ (kq : Nat) (x73_13 : Bool), v73 = .bool x73_13 ∧ Aside0 (ancepslaw04_PatternValid.j1 kq a0 t198 t199 x73_13 = some r) ∧ Aside0 (kq ≤ kj1) ∧ Aside0 (Kd.R (Kd.int .i64) 3 wc w.heap.size (fun _ => True) v200 t198) ∧ Aside0 (Below w.heap.size w wc))
        case first =>
          have H := HC14.out
          clear HC14
          replace H := Option.bind_eq_some_iff.mp H
          obtain ⟨t206, A180, H⟩ := H
          replace H : ((ancepsref04_Valid.f kj1 a0).bind fun t207 => (if t206 = t207 then ((pattern_Marked.f kj1 a0).bind fun t208 => ((ancepsref04_Marked.f kj1 a0).bind fun t209 => (if t208 = t209 then (if t194.toList = t196.toList then (if t195 = t197 then (if t199 = t203 then ((slices_Equal_int_int.f kj1 t198 t202).bind fun t210 => (ancepslaw04_PatternValid.j1 kj1 a0 t198 t199 (!t210))) else (ancepslaw04_PatternValid.j1 kj1 a0 t198 t199 true)) else (ancepslaw04_PatternValid.j1 kj1 a0 t198 t199 true)) else (ancepslaw04_PatternValid.j1 kj1 a0 t198 t199 true)) else (ancepslaw04_PatternValid.j1 kj1 a0 t198 t199 true)))) else (ancepslaw04_PatternValid.j1 kj1 a0 t198 t199 true))) = some r := H
          have A18 := Aside0.mk A180
          clear A180
          replace H := Option.bind_eq_some_iff.mp H
          obtain ⟨t207, A190, H⟩ := H
          replace H : (if t206 = t207 then ((pattern_Marked.f kj1 a0).bind fun t208 => ((ancepsref04_Marked.f kj1 a0).bind fun t209 => (if t208 = t209 then (if t194.toList = t196.toList then (if t195 = t197 then (if t199 = t203 then ((slices_Equal_int_int.f kj1 t198 t202).bind fun t210 => (ancepslaw04_PatternValid.j1 kj1 a0 t198 t199 (!t210))) else (ancepslaw04_PatternValid.j1 kj1 a0 t198 t199 true)) else (ancepslaw04_PatternValid.j1 kj1 a0 t198 t199 true)) else (ancepslaw04_PatternValid.j1 kj1 a0 t198 t199 true)) else (ancepslaw04_PatternValid.j1 kj1 a0 t198 t199 true)))) else (ancepslaw04_PatternValid.j1 kj1 a0 t198 t199 true)) = some r := H
          have A19 := Aside0.mk A190
          clear A190
          by_cases c20 : t206 = t207
          · rw [if_pos c20] at H
            have c20b0 : (t206 == t207) = true := beq_iff_eq.mpr c20
            have c20b1 : (t206 != t207) = false := bne_eq_false_iff_eq.mpr c20
            clear c20
            (first | rw [c20b0] | (simp only [i64_w, i32_w]; rw [c20b0]) | skip)
            replace H := Option.bind_eq_some_iff.mp H
            obtain ⟨t208, A210, H⟩ := H
            replace H : ((ancepsref04_Marked.f kj1 a0).bind fun t209 => (if t208 = t209 then (if t194.toList = t196.toList then (if t195 = t197 then (if t199 = t203 then ((slices_Equal_int_int.f kj1 t198 t202).bind fun t210 => (ancepslaw04_PatternValid.j1 kj1 a0 t198 t199 (!t210))) else (ancepslaw04_PatternValid.j1 kj1 a0 t198 t199 true)) else (ancepslaw04_PatternValid.j1 kj1 a0 t198 t199 true)) else (ancepslaw04_PatternValid.j1 kj1 a0 t198 t199 true)) else (ancepslaw04_PatternValid.j1 kj1 a0 t198 t199 true))) = some r := H
            have A21 := Aside0.mk A210
            clear A210
            replace H := Option.bind_eq_some_iff.mp H
            obtain ⟨t209, A220, H⟩ := H
            replace H : (if t208 = t209 then (if t194.toList = t196.toList then (if t195 = t197 then (if t199 = t203 then ((slices_Equal_int_int.f kj1 t198 t202).bind fun t210 => (ancepslaw04_PatternValid.j1 kj1 a0 t198 t199 (!t210))) else (ancepslaw04_PatternValid.j1 kj1 a0 t198 t199 true)) else (ancepslaw04_PatternValid.j1 kj1 a0 t198 t199 true)) else (ancepslaw04_PatternValid.j1 kj1 a0 t198 t199 true)) else (ancepslaw04_PatternValid.j1 kj1 a0 t198 t199 true)) = some r := H
            have A22 := Aside0.mk A220
            clear A220
            by_cases c23 : t208 = t209
            · rw [if_pos c23] at H
              have c23b0 : (t208 == t209) = true := beq_iff_eq.mpr c23
              have c23b1 : (t208 != t209) = false := bne_eq_false_iff_eq.mpr c23
              clear c23
              by_cases c24 : t194.toList = t196.toList
              · rw [if_pos c24] at H
                have c24b0 : (t194.toList == t196.toList) = true := beq_iff_eq.mpr c24
                have c24b1 : (t194.toList != t196.toList) = false := bne_eq_false_iff_eq.mpr c24
                clear c24
                by_cases c25 : t195 = t197
                · rw [if_pos c25] at H
                  have c25b0 : (t195 == t197) = true := beq_iff_eq.mpr c25
                  have c25b1 : (t195 != t197) = false := bne_eq_false_iff_eq.mpr c25
                  clear c25
                  by_cases c26 : t199 = t203
                  · rw [if_pos c26] at H
                    have c26b0 : (t199 == t203) = true := beq_iff_eq.mpr c26
                    have c26b1 : (t199 != t203) = false := bne_eq_false_iff_eq.mpr c26
                    clear c26
                    replace H := Option.bind_eq_some_iff.mp H
                    obtain ⟨t210, A270, H⟩ := H
                    replace H : (ancepslaw04_PatternValid.j1 kj1 a0 t198 t199 (!t210)) = some r := H
                    have A27 := Aside0.mk A270
                    clear A270
                    have H' := Aside0.mk H
                    clear H
                    go_wp2_with (first | ((with_reducible refine gate_callee (f := 9) rfl ?_); refine goesL_ (some 42) rfl rfl Tryd.func9 (by kernel_rfl) rfl #[.string a0] rfl (by (try simp only [List.map_toArray, List.map_cons, List.map_nil]); first | done | rfl | (simp only [List.length_drop, List.length_take]; rfl)) ?_; (with_reducible refine (pattern_Valid.calls kj1 a0 t206 _ A18.out).mono ?_); rintro e w' ⟨rfl, ⟨nd, rfl⟩⟩; refine ⟨_, rfl, ?_⟩) | ((with_reducible refine gate_callee (f := 10) rfl ?_); refine goesL_ (some 44) rfl rfl Tryd.func10 (by kernel_rfl) rfl #[.string a0] rfl (by (try simp only [List.map_toArray, List.map_cons, List.map_nil]); first | done | rfl | (simp only [List.length_drop, List.length_take]; rfl)) ?_; (with_reducible refine (ancepsref04_Valid.calls kj1 a0 t207 _ A19.out).mono ?_); rintro e w' ⟨rfl, ⟨nd, rfl⟩⟩; refine ⟨_, rfl, ?_⟩) | (go_at_call 11; (with_reducible refine (pattern_Marked.calls kj1 a0 t208 _ A21.out).mono ?_); rintro e w' ⟨rfl, ⟨nd, rfl⟩⟩) | (go_at_call 12; (with_reducible refine (ancepsref04_Marked.calls kj1 a0 t209 _ A22.out).mono ?_); rintro e w' ⟨rfl, ⟨nd, rfl⟩⟩; obtain ⟨Ao28, co28, eo28⟩ := Kd.R_slice HO201.out; subst eo28; obtain ⟨Ao29, co29, eo29⟩ := Kd.R_slice HO205.out; subst eo29) | (go_at_call 13; (with_reducible refine (slices_Equal_int_int.calls kj1 _ _ t198 _ _ t202 t210 _ ?side1 ?side2 ?side3 ?side4 A27.out).mono ?_); (case side1 => repeat (first | exact (Kd.R_reads' HO201.out).2.2 | (with_reducible refine Kd.C_alloc ?_ _) | (with_reducible refine Kd.C_drewN ?_ _) | (with_reducible refine Kd.C_drew ?_))); (case side2 => exact (Kd.R_reads' HO201.out).2.1); (case side3 => repeat (first | exact (Kd.R_reads' HO205.out).2.2 | (with_reducible refine Kd.C_alloc ?_ _) | (with_reducible refine Kd.C_drewN ?_ _) | (with_reducible refine Kd.C_drew ?_))); (case side4 => exact (Kd.R_reads' HO205.out).2.1); rintro e w' ⟨rfl, ⟨nd, rfl⟩⟩))
                    go_meet
                    case rel => exact ⟨_, (!t210), (by first | rfl | (simp; done) | (simp [*]; done)), H', ⟨by have := HJ1.out; first | omega | exact Nat.le_refl _⟩, ⟨by (with_reducible repeat (first | apply Kd.R_alloc | apply Kd.R_drewN | apply Kd.R_drew)); exact Kd.R_mono HO201.out (fun _ hk => trivial)⟩, ⟨by repeat (first | (with_reducible first | exact HB.out | apply below_alloc | apply pw_below_drewN | apply below_drew1) | exact HB.out)⟩⟩
                  · rw [if_neg c26] at H
                    have c26b0 : (t199 == t203) = false := beq_eq_false_iff_ne.mpr c26
                    have c26b1 : (t199 != t203) = true := bne_iff_ne.mpr c26
                    have H' := Aside0.mk H
                    clear H
                    go_wp2_with (first | ((with_reducible refine gate_callee (f := 9) rfl ?_); refine goesL_ (some 42) rfl rfl Tryd.func9 (by kernel_rfl) rfl #[.string a0] rfl (by (try simp only [List.map_toArray, List.map_cons, List.map_nil]); first | done | rfl | (simp only [List.length_drop, List.length_take]; rfl)) ?_; (with_reducible refine (pattern_Valid.calls kj1 a0 t206 _ A18.out).mono ?_); rintro e w' ⟨rfl, ⟨nd, rfl⟩⟩; refine ⟨_, rfl, ?_⟩) | ((with_reducible refine gate_callee (f := 10) rfl ?_); refine goesL_ (some 44) rfl rfl Tryd.func10 (by kernel_rfl) rfl #[.string a0] rfl (by (try simp only [List.map_toArray, List.map_cons, List.map_nil]); first | done | rfl | (simp only [List.length_drop, List.length_take]; rfl)) ?_; (with_reducible refine (ancepsref04_Valid.calls kj1 a0 t207 _ A19.out).mono ?_); rintro e w' ⟨rfl, ⟨nd, rfl⟩⟩; refine ⟨_, rfl, ?_⟩) | (go_at_call 11; (with_reducible refine (pattern_Marked.calls kj1 a0 t208 _ A21.out).mono ?_); rintro e w' ⟨rfl, ⟨nd, rfl⟩⟩) | (go_at_call 12; (with_reducible refine (ancepsref04_Marked.calls kj1 a0 t209 _ A22.out).mono ?_); rintro e w' ⟨rfl, ⟨nd, rfl⟩⟩))
                    go_meet
                    case rel => exact ⟨_, (true), (by first | rfl | (simp; done) | (simp [*]; done)), H', ⟨by have := HJ1.out; first | omega | exact Nat.le_refl _⟩, ⟨by (with_reducible repeat (first | apply Kd.R_alloc | apply Kd.R_drewN | apply Kd.R_drew)); exact Kd.R_mono HO201.out (fun _ hk => trivial)⟩, ⟨by repeat (first | (with_reducible first | exact HB.out | apply below_alloc | apply pw_below_drewN | apply below_drew1) | exact HB.out)⟩⟩
                · rw [if_neg c25] at H
                  have c25b0 : (t195 == t197) = false := beq_eq_false_iff_ne.mpr c25
                  have c25b1 : (t195 != t197) = true := bne_iff_ne.mpr c25
                  have H' := Aside0.mk H
                  clear H
                  go_wp2_with (first | ((with_reducible refine gate_callee (f := 9) rfl ?_); refine goesL_ (some 42) rfl rfl Tryd.func9 (by kernel_rfl) rfl #[.string a0] rfl (by (try simp only [List.map_toArray, List.map_cons, List.map_nil]); first | done | rfl | (simp only [List.length_drop, List.length_take]; rfl)) ?_; (with_reducible refine (pattern_Valid.calls kj1 a0 t206 _ A18.out).mono ?_); rintro e w' ⟨rfl, ⟨nd, rfl⟩⟩; refine ⟨_, rfl, ?_⟩) | ((with_reducible refine gate_callee (f := 10) rfl ?_); refine goesL_ (some 44) rfl rfl Tryd.func10 (by kernel_rfl) rfl #[.string a0] rfl (by (try simp only [List.map_toArray, List.map_cons, List.map_nil]); first | done | rfl | (simp only [List.length_drop, List.length_take]; rfl)) ?_; (with_reducible refine (ancepsref04_Valid.calls kj1 a0 t207 _ A19.out).mono ?_); rintro e w' ⟨rfl, ⟨nd, rfl⟩⟩; refine ⟨_, rfl, ?_⟩) | (go_at_call 11; (with_reducible refine (pattern_Marked.calls kj1 a0 t208 _ A21.out).mono ?_); rintro e w' ⟨rfl, ⟨nd, rfl⟩⟩) | (go_at_call 12; (with_reducible refine (ancepsref04_Marked.calls kj1 a0 t209 _ A22.out).mono ?_); rintro e w' ⟨rfl, ⟨nd, rfl⟩⟩))
                  go_meet
                  case rel => exact ⟨_, (true), (by first | rfl | (simp; done) | (simp [*]; done)), H', ⟨by have := HJ1.out; first | omega | exact Nat.le_refl _⟩, ⟨by (with_reducible repeat (first | apply Kd.R_alloc | apply Kd.R_drewN | apply Kd.R_drew)); exact Kd.R_mono HO201.out (fun _ hk => trivial)⟩, ⟨by repeat (first | (with_reducible first | exact HB.out | apply below_alloc | apply pw_below_drewN | apply below_drew1) | exact HB.out)⟩⟩
              · rw [if_neg c24] at H
                have c24b0 : (t194.toList == t196.toList) = false := beq_eq_false_iff_ne.mpr c24
                have c24b1 : (t194.toList != t196.toList) = true := bne_iff_ne.mpr c24
                have H' := Aside0.mk H
                clear H
                go_wp2_with (first | ((with_reducible refine gate_callee (f := 9) rfl ?_); refine goesL_ (some 42) rfl rfl Tryd.func9 (by kernel_rfl) rfl #[.string a0] rfl (by (try simp only [List.map_toArray, List.map_cons, List.map_nil]); first | done | rfl | (simp only [List.length_drop, List.length_take]; rfl)) ?_; (with_reducible refine (pattern_Valid.calls kj1 a0 t206 _ A18.out).mono ?_); rintro e w' ⟨rfl, ⟨nd, rfl⟩⟩; refine ⟨_, rfl, ?_⟩) | ((with_reducible refine gate_callee (f := 10) rfl ?_); refine goesL_ (some 44) rfl rfl Tryd.func10 (by kernel_rfl) rfl #[.string a0] rfl (by (try simp only [List.map_toArray, List.map_cons, List.map_nil]); first | done | rfl | (simp only [List.length_drop, List.length_take]; rfl)) ?_; (with_reducible refine (ancepsref04_Valid.calls kj1 a0 t207 _ A19.out).mono ?_); rintro e w' ⟨rfl, ⟨nd, rfl⟩⟩; refine ⟨_, rfl, ?_⟩) | (go_at_call 11; (with_reducible refine (pattern_Marked.calls kj1 a0 t208 _ A21.out).mono ?_); rintro e w' ⟨rfl, ⟨nd, rfl⟩⟩) | (go_at_call 12; (with_reducible refine (ancepsref04_Marked.calls kj1 a0 t209 _ A22.out).mono ?_); rintro e w' ⟨rfl, ⟨nd, rfl⟩⟩))
                go_meet
                case rel => exact ⟨_, (true), (by first | rfl | (simp; done) | (simp [*]; done)), H', ⟨by have := HJ1.out; first | omega | exact Nat.le_refl _⟩, ⟨by (with_reducible repeat (first | apply Kd.R_alloc | apply Kd.R_drewN | apply Kd.R_drew)); exact Kd.R_mono HO201.out (fun _ hk => trivial)⟩, ⟨by repeat (first | (with_reducible first | exact HB.out | apply below_alloc | apply pw_below_drewN | apply below_drew1) | exact HB.out)⟩⟩
            · rw [if_neg c23] at H
              have c23b0 : (t208 == t209) = false := beq_eq_false_iff_ne.mpr c23
              have c23b1 : (t208 != t209) = true := bne_iff_ne.mpr c23
              have H' := Aside0.mk H
              clear H
              go_wp2_with (first | ((with_reducible refine gate_callee (f := 9) rfl ?_); refine goesL_ (some 42) rfl rfl Tryd.func9 (by kernel_rfl) rfl #[.string a0] rfl (by (try simp only [List.map_toArray, List.map_cons, List.map_nil]); first | done | rfl | (simp only [List.length_drop, List.length_take]; rfl)) ?_; (with_reducible refine (pattern_Valid.calls kj1 a0 t206 _ A18.out).mono ?_); rintro e w' ⟨rfl, ⟨nd, rfl⟩⟩; refine ⟨_, rfl, ?_⟩) | ((with_reducible refine gate_callee (f := 10) rfl ?_); refine goesL_ (some 44) rfl rfl Tryd.func10 (by kernel_rfl) rfl #[.string a0] rfl (by (try simp only [List.map_toArray, List.map_cons, List.map_nil]); first | done | rfl | (simp only [List.length_drop, List.length_take]; rfl)) ?_; (with_reducible refine (ancepsref04_Valid.calls kj1 a0 t207 _ A19.out).mono ?_); rintro e w' ⟨rfl, ⟨nd, rfl⟩⟩; refine ⟨_, rfl, ?_⟩) | (go_at_call 11; (with_reducible refine (pattern_Marked.calls kj1 a0 t208 _ A21.out).mono ?_); rintro e w' ⟨rfl, ⟨nd, rfl⟩⟩) | (go_at_call 12; (with_reducible refine (ancepsref04_Marked.calls kj1 a0 t209 _ A22.out).mono ?_); rintro e w' ⟨rfl, ⟨nd, rfl⟩⟩))
              go_meet
              case rel => exact ⟨_, (true), (by first | rfl | (simp; done) | (simp [*]; done)), H', ⟨by have := HJ1.out; first | omega | exact Nat.le_refl _⟩, ⟨by (with_reducible repeat (first | apply Kd.R_alloc | apply Kd.R_drewN | apply Kd.R_drew)); exact Kd.R_mono HO201.out (fun _ hk => trivial)⟩, ⟨by repeat (first | (with_reducible first | exact HB.out | apply below_alloc | apply pw_below_drewN | apply below_drew1) | exact HB.out)⟩⟩
          · rw [if_neg c20] at H
            have c20b0 : (t206 == t207) = false := beq_eq_false_iff_ne.mpr c20
            have c20b1 : (t206 != t207) = true := bne_iff_ne.mpr c20
            (first | rw [c20b0] | (simp only [i64_w, i32_w]; rw [c20b0]) | skip)
            have H' := Aside0.mk H
            clear H
            go_wp2_with (first | ((with_reducible refine gate_callee (f := 9) rfl ?_); refine goesL_ (some 42) rfl rfl Tryd.func9 (by kernel_rfl) rfl #[.string a0] rfl (by (try simp only [List.map_toArray, List.map_cons, List.map_nil]); first | done | rfl | (simp only [List.length_drop, List.length_take]; rfl)) ?_; (with_reducible refine (pattern_Valid.calls kj1 a0 t206 _ A18.out).mono ?_); rintro e w' ⟨rfl, ⟨nd, rfl⟩⟩; refine ⟨_, rfl, ?_⟩) | ((with_reducible refine gate_callee (f := 10) rfl ?_); refine goesL_ (some 44) rfl rfl Tryd.func10 (by kernel_rfl) rfl #[.string a0] rfl (by (try simp only [List.map_toArray, List.map_cons, List.map_nil]); first | done | rfl | (simp only [List.length_drop, List.length_take]; rfl)) ?_; (with_reducible refine (ancepsref04_Valid.calls kj1 a0 t207 _ A19.out).mono ?_); rintro e w' ⟨rfl, ⟨nd, rfl⟩⟩; refine ⟨_, rfl, ?_⟩))
            go_meet
            case rel => exact ⟨_, (true), (by first | rfl | (simp; done) | (simp [*]; done)), H', ⟨by have := HJ1.out; first | omega | exact Nat.le_refl _⟩, ⟨by (with_reducible repeat (first | apply Kd.R_alloc | apply Kd.R_drewN | apply Kd.R_drew)); exact Kd.R_mono HO201.out (fun _ hk => trivial)⟩, ⟨by repeat (first | (with_reducible first | exact HB.out | apply below_alloc | apply pw_below_drewN | apply below_drew1) | exact HB.out)⟩⟩
        case rest =>
          clear HC14
          try clear c1
          try clear c2
          try clear p2
          try clear c3
          try clear c4
          try clear c5
          try clear c6
          try clear c7
          try clear c8
          try clear c9
          try clear c10
          try clear c20
          try clear c20b0
          try clear c20b1
          try clear c23
          try clear c23b0
          try clear c23b1
          try clear c24
          try clear c24b0
          try clear c24b1
          try clear c25
          try clear c25b0
          try clear c25b1
          try clear c26
          try clear c26b0
          try clear c26b1
          try clear p2
          obtain ⟨kq, x73_13, rfl, HA, HJ13, HO_7, HB⟩ := hcut
          cases kq with
          | zero => exact absurd HA.out (by simp [ancepslaw04_PatternValid.j1])
          | succ kj13 =>
            have H := HA.out
            clear HA
            simp only [ancepslaw04_PatternValid.j1] at H
            by_cases c30 : x73_13 = true
            · subst c30
              have H1 : (some false) = some r := by rw [if_pos rfl] at H; exact H
              clear H
              have H := H1
              clear H1
              obtain rfl := Option.some.inj H
              go_wp2
              go_ret
              exact ⟨by first | rfl | (simp [errW_none, errW_some] <;> rfl) | (simp [*, errW_none, errW_some] <;> rfl), by repeat (first | (with_reducible first | exact HB.out | apply below_alloc | apply pw_below_drewN | apply below_drew1) | exact HB.out)⟩
            · replace c30 := Bool.eq_false_iff.mpr c30
              subst c30
              have H1 : (if t199 = 0 then ((pattern_Text.f t198).bind fun bt211 => (if bt211.2 = 0 then (some (bt211.1.toList == a0.toList)) else (some false))) else (some true)) = some r := by rw [if_neg (show ¬ (false = true) by decide)] at H; exact H
              clear H
              have H := H1
              clear H1
              by_cases c31 : t199 = 0
              · rw [if_pos c31] at H
                have c31b0 : (t199 == 0) = true := beq_iff_eq.mpr c31
                have c31b1 : (t199 != 0) = false := bne_eq_false_iff_eq.mpr c31
                clear c31
                replace H := Option.bind_eq_some_iff.mp H
                obtain ⟨⟨t211, t212⟩, A320, H⟩ := H
                replace H : (if t212 = 0 then (some (t211.toList == a0.toList)) else (some false)) = some r := H
                have A32 := Aside0.mk A320
                clear A320
                by_cases c33 : t212 = 0
                · rw [if_pos c33] at H
                  have c33b0 : (t212 == 0) = true := beq_iff_eq.mpr c33
                  have c33b1 : (t212 != 0) = false := bne_eq_false_iff_eq.mpr c33
                  clear c33
                  obtain rfl := Option.some.inj H
                  obtain ⟨Ao34, co34, eo34⟩ := Kd.R_slice HO_7.out
                  subst eo34
                  go_wp2_with (first | ((with_reducible refine gate_callee (f := 14) rfl ?_); refine goesL_ (some 78) rfl rfl Tryd.func14 (by kernel_rfl) rfl #[.slice Ao34 t198.length co34] rfl (by (try simp only [List.map_toArray, List.map_cons, List.map_nil]); first | done | rfl | (simp only [List.length_drop, List.length_take]; rfl)) ?_; (with_reducible refine (pattern_Text.calls _ _ t198 t211 t212 _ ?side1 ?side2 A32.out).mono ?_); (case side1 => repeat (first | exact (Kd.R_reads' HO_7.out).2.2 | (with_reducible refine Kd.C_alloc ?_ _) | (with_reducible refine Kd.C_drewN ?_ _) | (with_reducible refine Kd.C_drew ?_))); (case side2 => exact (Kd.R_reads' HO_7.out).2.1); rintro e w35 ⟨rfl, hb⟩; refine ⟨_, rfl, ?_⟩; have n0_ := Aside0.mk (Kd.R_below (by (with_reducible repeat (first | apply Kd.R_alloc | apply Kd.R_drewN | apply Kd.R_drew)); exact HO_7.out) hb); have n1_ := Aside0.mk (below_step (by repeat (first | (with_reducible first | exact HB.out | apply below_alloc | apply pw_below_drewN | apply below_drew1) | exact HB.out)) hb); clear HO_7; clear HB; have HO_7 := n0_; have HB := n1_; clear n0_ n1_; (try clear hb); (try clear hb2); (try clear hk); (try clear hi)))
                  go_ret
                  exact ⟨by first | rfl | (simp [errW_none, errW_some] <;> rfl) | (simp [*, errW_none, errW_some] <;> rfl), by repeat (first | (with_reducible first | exact HB.out | apply below_alloc | apply pw_below_drewN | apply below_drew1) | exact HB.out)⟩
                · rw [if_neg c33] at H
                  have c33b0 : (t212 == 0) = false := beq_eq_false_iff_ne.mpr c33
                  have c33b1 : (t212 != 0) = true := bne_iff_ne.mpr c33
                  obtain rfl := Option.some.inj H
                  obtain ⟨Ao36, co36, eo36⟩ := Kd.R_slice HO_7.out
                  subst eo36
                  go_wp2_with (first | ((with_reducible refine gate_callee (f := 14) rfl ?_); refine goesL_ (some 78) rfl rfl Tryd.func14 (by kernel_rfl) rfl #[.slice Ao36 t198.length co36] rfl (by (try simp only [List.map_toArray, List.map_cons, List.map_nil]); first | done | rfl | (simp only [List.length_drop, List.length_take]; rfl)) ?_; (with_reducible refine (pattern_Text.calls _ _ t198 t211 t212 _ ?side1 ?side2 A32.out).mono ?_); (case side1 => repeat (first | exact (Kd.R_reads' HO_7.out).2.2 | (with_reducible refine Kd.C_alloc ?_ _) | (with_reducible refine Kd.C_drewN ?_ _) | (with_reducible refine Kd.C_drew ?_))); (case side2 => exact (Kd.R_reads' HO_7.out).2.1); rintro e w37 ⟨rfl, hb⟩; refine ⟨_, rfl, ?_⟩; have n0_ := Aside0.mk (Kd.R_below (by (with_reducible repeat (first | apply Kd.R_alloc | apply Kd.R_drewN | apply Kd.R_drew)); exact HO_7.out) hb); have n1_ := Aside0.mk (below_step (by repeat (first | (with_reducible first | exact HB.out | apply below_alloc | apply pw_below_drewN | apply below_drew1) | exact HB.out)) hb); clear HO_7; clear HB; have HO_7 := n0_; have HB := n1_; clear n0_ n1_; (try clear hb); (try clear hb2); (try clear hk); (try clear hi)))
                  go_ret
                  exact ⟨by first | rfl | (simp [errW_none, errW_some] <;> rfl) | (simp [*, errW_none, errW_some] <;> rfl), by repeat (first | (with_reducible first | exact HB.out | apply below_alloc | apply pw_below_drewN | apply below_drew1) | exact HB.out)⟩
              · rw [if_neg c31] at H
                have c31b0 : (t199 == 0) = false := beq_eq_false_iff_ne.mpr c31
                have c31b1 : (t199 != 0) = true := bne_iff_ne.mpr c31
                obtain rfl := Option.some.inj H
                go_wp2
                go_ret
                exact ⟨by first | rfl | (simp [errW_none, errW_some] <;> rfl) | (simp [*, errW_none, errW_some] <;> rfl), by repeat (first | (with_reducible first | exact HB.out | apply below_alloc | apply pw_below_drewN | apply below_drew1) | exact HB.out)⟩

/-- THE ONE PURE STATEMENT of ancepslaw04_PatternValid: yours. -/
def ancepslaw04_PatternValid.Pure : Prop := ∀ (a0 : ByteArray), a0.size ≤ 140737488351232 → ∃ k, ancepslaw04_PatternValid.f k a0 = some true
theorem ancepslaw04_PatternValid.walk (P : ancepslaw04_PatternValid.Pure) (a0 : ByteArray) (w : World) (w0 : a0.size ≤ 140737488351232) :
    Calls Tryd.prog 3 #[.string a0] w fun e w' => e = .returned (.bool true) ∧ Below w.heap.size w w' := by
  obtain ⟨k, h⟩ := P a0 w0
  refine (ancepslaw04_PatternValid.calls k a0 true w h).mono ?_
  rintro e w' ⟨rfl, hd⟩
  exact ⟨rfl, hd⟩

end Go.Proofs.YtbecdafbkdchkaaDoor.X
