-- printed by this session's xprint.py: out of the translation, by the kit's print with additions; Lean checks it
import Derived.Test.YtbecdafbkdchkaaX0
import Derived.Test.YtbecdafbkdchkaaX1
import Derived.Test.YtbecdafbkdchkaaX3
import Derived.Test.YtbecdafbkdchkaaX4
namespace Go.Proofs.Ytbecdafbkdchkaa.X
open Go.RowKit Go.Proofs.YtbecdafbkdchkaaW.PrintWords Go.Proofs.YtbecdafbkdchkaaW.PrintLast Go.Proofs.YtbecdafbkdchkaaW.PrintMore
attribute [local go_sem] max2_int min2_int max_two min_two max_three min_three max_four min_four isSome_setCell   -- for this text's walks alone
set_option linter.unusedVariables false
set_option linter.unusedSimpArgs false

/-! ### ancepslaw04_PatternCommon: function 6 -/
mutual
def ancepslaw04_PatternCommon.j0 : Nat → ByteArray → ByteArray → ByteArray → Bool → Option (Bool)
  | 0, _, _, _, _ => none
  | k + 1, x0, x1, x2, x44 => if x44 = true then ((ancepslaw04_awake.f k).bind fun t246 => (some t246)) else (ancepslaw04_PatternCommon.l0 k x0 x1 x2 (x2.size : Int) 0)
def ancepslaw04_PatternCommon.l0 : Nat → ByteArray → ByteArray → ByteArray → Int → Int → Option (Bool)
  | 0, _, _, _, _, _ => none
  | k + 1, x0, x1, x2, x47, x48 => if x48 < x47 then (if 0 ≤ x48 then (if x48 < (x2.size : Int) then (if (bt x2 x48) = 120 then (some true) else (ancepslaw04_PatternCommon.l0 k x0 x1 x2 x47 (wrap64 (x48 + 1)))) else (none)) else (none)) else ((pattern_Meet.f k x0 x1).bind fun bt247 => ((pattern_Join.f k x0 x1).bind fun bt249 => ((pattern_Match.f k x0 x2).bind fun t251 => ((pattern_Match.f k x1 x2).bind fun t252 => (if bt249.2 = 0 then (if t251 = true then ((pattern_Match.f k bt249.1 x2).bind fun t253 => (ancepslaw04_PatternCommon.j2 k x2 bt247.1 bt247.2 t251 t252 (!t253))) else (if t252 = true then ((pattern_Match.f k bt249.1 x2).bind fun t254 => (ancepslaw04_PatternCommon.j2 k x2 bt247.1 bt247.2 t251 t252 (!t254))) else (ancepslaw04_PatternCommon.j2 k x2 bt247.1 bt247.2 t251 t252 false))) else (ancepslaw04_PatternCommon.j2 k x2 bt247.1 bt247.2 t251 t252 true))))))
def ancepslaw04_PatternCommon.j2 : Nat → ByteArray → ByteArray → Int → Bool → Bool → Bool → Option (Bool)
  | 0, _, _, _, _, _, _ => none
  | k + 1, x2, x8, x9, x12, x13, x87 => if x87 = true then (some false) else (if x9 = 0 then ((pattern_Match.f k x8 x2).bind fun t255 => (if x12 = true then (some (t255 == x13)) else (some (t255 == false)))) else (if x12 = true then (some (!x13)) else (some true)))
end
def ancepslaw04_PatternCommon.f (k : Nat) (a0 : ByteArray) (a1 : ByteArray) (a2 : ByteArray) : Option (Bool) := (ancepslaw04_awake.f k).bind fun t242 => (if t242 = true then ((ancepsref04_Valid.f k a0).bind fun t243 => (if t243 = 0 then ((ancepsref04_Valid.f k a1).bind fun t244 => (if t244 = 0 then ((ancepsref04_Valid.f k a2).bind fun t245 => (if t245 = 0 then (if (a0.size : Int) = (a1.size : Int) then (ancepslaw04_PatternCommon.j0 k a0 a1 a2 ((a1.size : Int) != (a2.size : Int))) else (ancepslaw04_PatternCommon.j0 k a0 a1 a2 true)) else (ancepslaw04_PatternCommon.j0 k a0 a1 a2 true))) else (ancepslaw04_PatternCommon.j0 k a0 a1 a2 true))) else (ancepslaw04_PatternCommon.j0 k a0 a1 a2 true))) else (ancepslaw04_PatternCommon.j0 k a0 a1 a2 true))
theorem ancepslaw04_PatternCommon.mono_l : ∀ k, (∀ y0 y1 y2 y3, LeO (ancepslaw04_PatternCommon.j0 k y0 y1 y2 y3) (ancepslaw04_PatternCommon.j0 (k + 1) y0 y1 y2 y3)) ∧ (∀ y0 y1 y2 y3 y4, LeO (ancepslaw04_PatternCommon.l0 k y0 y1 y2 y3 y4) (ancepslaw04_PatternCommon.l0 (k + 1) y0 y1 y2 y3 y4)) ∧ (∀ y0 y1 y2 y3 y4 y5, LeO (ancepslaw04_PatternCommon.j2 k y0 y1 y2 y3 y4 y5) (ancepslaw04_PatternCommon.j2 (k + 1) y0 y1 y2 y3 y4 y5))
  | 0 => ⟨fun _ _ _ _ r h => by simp [ancepslaw04_PatternCommon.j0] at h, fun _ _ _ _ _ r h => by simp [ancepslaw04_PatternCommon.l0] at h, fun _ _ _ _ _ _ r h => by simp [ancepslaw04_PatternCommon.j2] at h⟩
  | k + 1 => by
    obtain ⟨ih0, ih1, ih2⟩ := ancepslaw04_PatternCommon.mono_l k
    refine ⟨?_, ?_, ?_⟩
    · intro y0 y1 y2 y3
      unfold ancepslaw04_PatternCommon.j0
      repeat' first
      | (with_reducible exact ih0 _ _ _ _)
      | (with_reducible exact ih1 _ _ _ _ _)
      | (with_reducible exact ih2 _ _ _ _ _ _)
      | (with_reducible exact ancepslaw04_awake.mono _)
      | (with_reducible exact ancepsref04_Valid.mono _ _)
      | (with_reducible exact pattern_Join.mono _ _ _)
      | (with_reducible exact pattern_Match.mono _ _ _)
      | (with_reducible exact pattern_Meet.mono _ _ _)
      | (with_reducible exact LeO.refl _)
      | (with_reducible exact LeO.none _)
      | (with_reducible refine LeO.ite ?_ ?_)
      | (with_reducible refine LeO.bind ?_ (fun _ => ?_))
      | exact ih0 _ _ _ _
      | exact ih1 _ _ _ _ _
      | exact ih2 _ _ _ _ _ _
      | exact ancepslaw04_awake.mono _
      | exact ancepsref04_Valid.mono _ _
      | exact pattern_Join.mono _ _ _
      | exact pattern_Match.mono _ _ _
      | exact pattern_Meet.mono _ _ _
      | exact LeO.none _
      | refine LeO.ite ?_ ?_
      | refine LeO.bind ?_ (fun _ => ?_)
    · intro y0 y1 y2 y3 y4
      unfold ancepslaw04_PatternCommon.l0
      repeat' first
      | (with_reducible exact ih0 _ _ _ _)
      | (with_reducible exact ih1 _ _ _ _ _)
      | (with_reducible exact ih2 _ _ _ _ _ _)
      | (with_reducible exact ancepslaw04_awake.mono _)
      | (with_reducible exact ancepsref04_Valid.mono _ _)
      | (with_reducible exact pattern_Join.mono _ _ _)
      | (with_reducible exact pattern_Match.mono _ _ _)
      | (with_reducible exact pattern_Meet.mono _ _ _)
      | (with_reducible exact LeO.refl _)
      | (with_reducible exact LeO.none _)
      | (with_reducible refine LeO.ite ?_ ?_)
      | (with_reducible refine LeO.bind ?_ (fun _ => ?_))
      | exact ih0 _ _ _ _
      | exact ih1 _ _ _ _ _
      | exact ih2 _ _ _ _ _ _
      | exact ancepslaw04_awake.mono _
      | exact ancepsref04_Valid.mono _ _
      | exact pattern_Join.mono _ _ _
      | exact pattern_Match.mono _ _ _
      | exact pattern_Meet.mono _ _ _
      | exact LeO.none _
      | refine LeO.ite ?_ ?_
      | refine LeO.bind ?_ (fun _ => ?_)
    · intro y0 y1 y2 y3 y4 y5
      unfold ancepslaw04_PatternCommon.j2
      repeat' first
      | (with_reducible exact ih0 _ _ _ _)
      | (with_reducible exact ih1 _ _ _ _ _)
      | (with_reducible exact ih2 _ _ _ _ _ _)
      | (with_reducible exact ancepslaw04_awake.mono _)
      | (with_reducible exact ancepsref04_Valid.mono _ _)
      | (with_reducible exact pattern_Join.mono _ _ _)
      | (with_reducible exact pattern_Match.mono _ _ _)
      | (with_reducible exact pattern_Meet.mono _ _ _)
      | (with_reducible exact LeO.refl _)
      | (with_reducible exact LeO.none _)
      | (with_reducible refine LeO.ite ?_ ?_)
      | (with_reducible refine LeO.bind ?_ (fun _ => ?_))
      | exact ih0 _ _ _ _
      | exact ih1 _ _ _ _ _
      | exact ih2 _ _ _ _ _ _
      | exact ancepslaw04_awake.mono _
      | exact ancepsref04_Valid.mono _ _
      | exact pattern_Join.mono _ _ _
      | exact pattern_Match.mono _ _ _
      | exact pattern_Meet.mono _ _ _
      | exact LeO.none _
      | refine LeO.ite ?_ ?_
      | refine LeO.bind ?_ (fun _ => ?_)
theorem ancepslaw04_PatternCommon.mono : ∀ a0 a1 a2 k, LeO (ancepslaw04_PatternCommon.f k a0 a1 a2) (ancepslaw04_PatternCommon.f (k + 1) a0 a1 a2) := by
  intro a0 a1 a2 k
  obtain ⟨ih0, ih1, ih2⟩ := ancepslaw04_PatternCommon.mono_l k
  unfold ancepslaw04_PatternCommon.f
  repeat' first
      | (with_reducible exact ih0 _ _ _ _)
      | (with_reducible exact ih1 _ _ _ _ _)
      | (with_reducible exact ih2 _ _ _ _ _ _)
      | (with_reducible exact ancepslaw04_awake.mono _)
      | (with_reducible exact ancepsref04_Valid.mono _ _)
      | (with_reducible exact pattern_Join.mono _ _ _)
      | (with_reducible exact pattern_Match.mono _ _ _)
      | (with_reducible exact pattern_Meet.mono _ _ _)
      | (with_reducible exact LeO.refl _)
      | (with_reducible exact LeO.none _)
      | (with_reducible refine LeO.ite ?_ ?_)
      | (with_reducible refine LeO.bind ?_ (fun _ => ?_))
      | exact ih0 _ _ _ _
      | exact ih1 _ _ _ _ _
      | exact ih2 _ _ _ _ _ _
      | exact ancepslaw04_awake.mono _
      | exact ancepsref04_Valid.mono _ _
      | exact pattern_Join.mono _ _ _
      | exact pattern_Match.mono _ _ _
      | exact pattern_Meet.mono _ _ _
      | exact LeO.none _
      | refine LeO.ite ?_ ?_
      | refine LeO.bind ?_ (fun _ => ?_)
set_option maxHeartbeats 8000000 in
set_option maxRecDepth 100000 in
theorem ancepslaw04_PatternCommon.calls (k : Nat) (a0 : ByteArray) (a1 : ByteArray) (a2 : ByteArray) (r : Bool) (w : World) (h : ancepslaw04_PatternCommon.f k a0 a1 a2 = some r) :
    Calls Try.prog 6 #[.string a0, .string a1, .string a2] w fun e w' => e = .returned (.bool r) ∧ Below w.heap.size w w' := by
  have HB := Aside0.mk (Below.refl w.heap.size w)
  have H : ((ancepslaw04_awake.f k).bind fun t242 => (if t242 = true then ((ancepsref04_Valid.f k a0).bind fun t243 => (if t243 = 0 then ((ancepsref04_Valid.f k a1).bind fun t244 => (if t244 = 0 then ((ancepsref04_Valid.f k a2).bind fun t245 => (if t245 = 0 then (if (a0.size : Int) = (a1.size : Int) then (ancepslaw04_PatternCommon.j0 k a0 a1 a2 ((a1.size : Int) != (a2.size : Int))) else (ancepslaw04_PatternCommon.j0 k a0 a1 a2 true)) else (ancepslaw04_PatternCommon.j0 k a0 a1 a2 true))) else (ancepslaw04_PatternCommon.j0 k a0 a1 a2 true))) else (ancepslaw04_PatternCommon.j0 k a0 a1 a2 true))) else (ancepslaw04_PatternCommon.j0 k a0 a1 a2 true))) = some r := h
  clear h
  have HC4 := Aside0.mk H
  clear H
  go_enter Try.func6, Try.ntmps6
  go_upto_region 1 with (fail)
  go_cut [44] (fun v44 wc => ∃ (kq : Nat) (x44_3 : Bool), v44 = .bool x44_3 ∧ Aside0 (ancepslaw04_PatternCommon.j0 kq a0 a1 a2 x44_3 = some r) ∧ Aside0 (kq ≤ k) ∧ Aside0 (Below w.heap.size w wc))
  case first =>
    have H := HC4.out
    clear HC4
    replace H := Option.bind_eq_some_iff.mp H
    obtain ⟨t242, A50, H⟩ := H
    replace H : (if t242 = true then ((ancepsref04_Valid.f k a0).bind fun t243 => (if t243 = 0 then ((ancepsref04_Valid.f k a1).bind fun t244 => (if t244 = 0 then ((ancepsref04_Valid.f k a2).bind fun t245 => (if t245 = 0 then (if (a0.size : Int) = (a1.size : Int) then (ancepslaw04_PatternCommon.j0 k a0 a1 a2 ((a1.size : Int) != (a2.size : Int))) else (ancepslaw04_PatternCommon.j0 k a0 a1 a2 true)) else (ancepslaw04_PatternCommon.j0 k a0 a1 a2 true))) else (ancepslaw04_PatternCommon.j0 k a0 a1 a2 true))) else (ancepslaw04_PatternCommon.j0 k a0 a1 a2 true))) else (ancepslaw04_PatternCommon.j0 k a0 a1 a2 true)) = some r := H
    have A5 := Aside0.mk A50
    clear A50
    by_cases c6 : t242 = true
    · subst c6
      have H1 : ((ancepsref04_Valid.f k a0).bind fun t243 => (if t243 = 0 then ((ancepsref04_Valid.f k a1).bind fun t244 => (if t244 = 0 then ((ancepsref04_Valid.f k a2).bind fun t245 => (if t245 = 0 then (if (a0.size : Int) = (a1.size : Int) then (ancepslaw04_PatternCommon.j0 k a0 a1 a2 ((a1.size : Int) != (a2.size : Int))) else (ancepslaw04_PatternCommon.j0 k a0 a1 a2 true)) else (ancepslaw04_PatternCommon.j0 k a0 a1 a2 true))) else (ancepslaw04_PatternCommon.j0 k a0 a1 a2 true))) else (ancepslaw04_PatternCommon.j0 k a0 a1 a2 true))) = some r := by rw [if_pos rfl] at H; exact H
      clear H
      have H := H1
      clear H1
      replace H := Option.bind_eq_some_iff.mp H
      obtain ⟨t243, A70, H⟩ := H
      replace H : (if t243 = 0 then ((ancepsref04_Valid.f k a1).bind fun t244 => (if t244 = 0 then ((ancepsref04_Valid.f k a2).bind fun t245 => (if t245 = 0 then (if (a0.size : Int) = (a1.size : Int) then (ancepslaw04_PatternCommon.j0 k a0 a1 a2 ((a1.size : Int) != (a2.size : Int))) else (ancepslaw04_PatternCommon.j0 k a0 a1 a2 true)) else (ancepslaw04_PatternCommon.j0 k a0 a1 a2 true))) else (ancepslaw04_PatternCommon.j0 k a0 a1 a2 true))) else (ancepslaw04_PatternCommon.j0 k a0 a1 a2 true)) = some r := H
      have A7 := Aside0.mk A70
      clear A70
      by_cases c8 : t243 = 0
      · rw [if_pos c8] at H
        have c8b0 : (t243 == 0) = true := beq_iff_eq.mpr c8
        have c8b1 : (t243 != 0) = false := bne_eq_false_iff_eq.mpr c8
        clear c8
        (first | rw [c8b0] | (simp only [i64_w, i32_w]; rw [c8b0]) | skip)
        replace H := Option.bind_eq_some_iff.mp H
        obtain ⟨t244, A90, H⟩ := H
        replace H : (if t244 = 0 then ((ancepsref04_Valid.f k a2).bind fun t245 => (if t245 = 0 then (if (a0.size : Int) = (a1.size : Int) then (ancepslaw04_PatternCommon.j0 k a0 a1 a2 ((a1.size : Int) != (a2.size : Int))) else (ancepslaw04_PatternCommon.j0 k a0 a1 a2 true)) else (ancepslaw04_PatternCommon.j0 k a0 a1 a2 true))) else (ancepslaw04_PatternCommon.j0 k a0 a1 a2 true)) = some r := H
        have A9 := Aside0.mk A90
        clear A90
        by_cases c10 : t244 = 0
        · rw [if_pos c10] at H
          have c10b0 : (t244 == 0) = true := beq_iff_eq.mpr c10
          have c10b1 : (t244 != 0) = false := bne_eq_false_iff_eq.mpr c10
          clear c10
          replace H := Option.bind_eq_some_iff.mp H
          obtain ⟨t245, A110, H⟩ := H
          replace H : (if t245 = 0 then (if (a0.size : Int) = (a1.size : Int) then (ancepslaw04_PatternCommon.j0 k a0 a1 a2 ((a1.size : Int) != (a2.size : Int))) else (ancepslaw04_PatternCommon.j0 k a0 a1 a2 true)) else (ancepslaw04_PatternCommon.j0 k a0 a1 a2 true)) = some r := H
          have A11 := Aside0.mk A110
          clear A110
          by_cases c12 : t245 = 0
          · rw [if_pos c12] at H
            have c12b0 : (t245 == 0) = true := beq_iff_eq.mpr c12
            have c12b1 : (t245 != 0) = false := bne_eq_false_iff_eq.mpr c12
            clear c12
            by_cases c13 : (a0.size : Int) = (a1.size : Int)
            · rw [if_pos c13] at H
              have c13b0 : ((a0.size : Int) == (a1.size : Int)) = true := beq_iff_eq.mpr c13
              have c13b1 : ((a0.size : Int) != (a1.size : Int)) = false := bne_eq_false_iff_eq.mpr c13
              have c13b2 : (a0.size == a1.size) = true := by first | simpa using c13 | (simp at c13 ⊢; omega)
              clear c13
              have H' := Aside0.mk H
              clear H
              go_wp2_with (first | ((with_reducible refine gate_callee (f := 10) rfl ?_); refine goesL_ (some 14) rfl rfl Try.func10 (by kernel_rfl) rfl #[] rfl (by (try simp only [List.map_toArray, List.map_cons, List.map_nil]); first | done | rfl | (simp only [List.length_drop, List.length_take]; rfl)) ?_; (with_reducible refine (ancepslaw04_awake.calls k  true _ A5.out).mono ?_); rintro e w14 ⟨rfl, hb⟩; refine ⟨_, rfl, ?_⟩; have n0_ := Aside0.mk (below_step (by repeat (first | (with_reducible first | exact HB.out | apply below_alloc | apply pw_below_drewN | apply below_drew1) | exact HB.out)) hb); clear HB; have HB := n0_; clear n0_; (try clear hb); (try clear hb2); (try clear hk); (try clear hi)) | (go_at_call 20; (with_reducible refine (ancepsref04_Valid.calls k a0 t243 _ A7.out).mono ?_); rintro e w' ⟨rfl, ⟨nd, rfl⟩⟩) | (go_at_call 20; (with_reducible refine (ancepsref04_Valid.calls k a1 t244 _ A9.out).mono ?_); rintro e w' ⟨rfl, ⟨nd, rfl⟩⟩) | (go_at_call 20; (with_reducible refine (ancepsref04_Valid.calls k a2 t245 _ A11.out).mono ?_); rintro e w' ⟨rfl, ⟨nd, rfl⟩⟩))
              go_meet
              case rel => exact ⟨_, (((a1.size : Int) != (a2.size : Int))), (by first | rfl | (simp; done) | (simp [*]; done)), H', ⟨by first | omega | exact Nat.le_refl _⟩, ⟨by repeat (first | (with_reducible first | exact HB.out | apply below_alloc | apply pw_below_drewN | apply below_drew1) | exact HB.out)⟩⟩
            · rw [if_neg c13] at H
              have c13b0 : ((a0.size : Int) == (a1.size : Int)) = false := beq_eq_false_iff_ne.mpr c13
              have c13b1 : ((a0.size : Int) != (a1.size : Int)) = true := bne_iff_ne.mpr c13
              have c13b2 : (a0.size == a1.size) = false := by first | simpa using c13 | (simp at c13 ⊢; omega)
              have H' := Aside0.mk H
              clear H
              go_wp2_with (first | ((with_reducible refine gate_callee (f := 10) rfl ?_); refine goesL_ (some 14) rfl rfl Try.func10 (by kernel_rfl) rfl #[] rfl (by (try simp only [List.map_toArray, List.map_cons, List.map_nil]); first | done | rfl | (simp only [List.length_drop, List.length_take]; rfl)) ?_; (with_reducible refine (ancepslaw04_awake.calls k  true _ A5.out).mono ?_); rintro e w15 ⟨rfl, hb⟩; refine ⟨_, rfl, ?_⟩; have n0_ := Aside0.mk (below_step (by repeat (first | (with_reducible first | exact HB.out | apply below_alloc | apply pw_below_drewN | apply below_drew1) | exact HB.out)) hb); clear HB; have HB := n0_; clear n0_; (try clear hb); (try clear hb2); (try clear hk); (try clear hi)) | (go_at_call 20; (with_reducible refine (ancepsref04_Valid.calls k a0 t243 _ A7.out).mono ?_); rintro e w' ⟨rfl, ⟨nd, rfl⟩⟩) | (go_at_call 20; (with_reducible refine (ancepsref04_Valid.calls k a1 t244 _ A9.out).mono ?_); rintro e w' ⟨rfl, ⟨nd, rfl⟩⟩) | (go_at_call 20; (with_reducible refine (ancepsref04_Valid.calls k a2 t245 _ A11.out).mono ?_); rintro e w' ⟨rfl, ⟨nd, rfl⟩⟩))
              go_meet
              case rel => exact ⟨_, (true), (by first | rfl | (simp; done) | (simp [*]; done)), H', ⟨by first | omega | exact Nat.le_refl _⟩, ⟨by repeat (first | (with_reducible first | exact HB.out | apply below_alloc | apply pw_below_drewN | apply below_drew1) | exact HB.out)⟩⟩
          · rw [if_neg c12] at H
            have c12b0 : (t245 == 0) = false := beq_eq_false_iff_ne.mpr c12
            have c12b1 : (t245 != 0) = true := bne_iff_ne.mpr c12
            have H' := Aside0.mk H
            clear H
            go_wp2_with (first | ((with_reducible refine gate_callee (f := 10) rfl ?_); refine goesL_ (some 14) rfl rfl Try.func10 (by kernel_rfl) rfl #[] rfl (by (try simp only [List.map_toArray, List.map_cons, List.map_nil]); first | done | rfl | (simp only [List.length_drop, List.length_take]; rfl)) ?_; (with_reducible refine (ancepslaw04_awake.calls k  true _ A5.out).mono ?_); rintro e w16 ⟨rfl, hb⟩; refine ⟨_, rfl, ?_⟩; have n0_ := Aside0.mk (below_step (by repeat (first | (with_reducible first | exact HB.out | apply below_alloc | apply pw_below_drewN | apply below_drew1) | exact HB.out)) hb); clear HB; have HB := n0_; clear n0_; (try clear hb); (try clear hb2); (try clear hk); (try clear hi)) | (go_at_call 20; (with_reducible refine (ancepsref04_Valid.calls k a0 t243 _ A7.out).mono ?_); rintro e w' ⟨rfl, ⟨nd, rfl⟩⟩) | (go_at_call 20; (with_reducible refine (ancepsref04_Valid.calls k a1 t244 _ A9.out).mono ?_); rintro e w' ⟨rfl, ⟨nd, rfl⟩⟩) | (go_at_call 20; (with_reducible refine (ancepsref04_Valid.calls k a2 t245 _ A11.out).mono ?_); rintro e w' ⟨rfl, ⟨nd, rfl⟩⟩))
            go_meet
            case rel => exact ⟨_, (true), (by first | rfl | (simp; done) | (simp [*]; done)), H', ⟨by first | omega | exact Nat.le_refl _⟩, ⟨by repeat (first | (with_reducible first | exact HB.out | apply below_alloc | apply pw_below_drewN | apply below_drew1) | exact HB.out)⟩⟩
        · rw [if_neg c10] at H
          have c10b0 : (t244 == 0) = false := beq_eq_false_iff_ne.mpr c10
          have c10b1 : (t244 != 0) = true := bne_iff_ne.mpr c10
          have H' := Aside0.mk H
          clear H
          go_wp2_with (first | ((with_reducible refine gate_callee (f := 10) rfl ?_); refine goesL_ (some 14) rfl rfl Try.func10 (by kernel_rfl) rfl #[] rfl (by (try simp only [List.map_toArray, List.map_cons, List.map_nil]); first | done | rfl | (simp only [List.length_drop, List.length_take]; rfl)) ?_; (with_reducible refine (ancepslaw04_awake.calls k  true _ A5.out).mono ?_); rintro e w17 ⟨rfl, hb⟩; refine ⟨_, rfl, ?_⟩; have n0_ := Aside0.mk (below_step (by repeat (first | (with_reducible first | exact HB.out | apply below_alloc | apply pw_below_drewN | apply below_drew1) | exact HB.out)) hb); clear HB; have HB := n0_; clear n0_; (try clear hb); (try clear hb2); (try clear hk); (try clear hi)) | (go_at_call 20; (with_reducible refine (ancepsref04_Valid.calls k a0 t243 _ A7.out).mono ?_); rintro e w' ⟨rfl, ⟨nd, rfl⟩⟩) | (go_at_call 20; (with_reducible refine (ancepsref04_Valid.calls k a1 t244 _ A9.out).mono ?_); rintro e w' ⟨rfl, ⟨nd, rfl⟩⟩))
          go_meet
          case rel => exact ⟨_, (true), (by first | rfl | (simp; done) | (simp [*]; done)), H', ⟨by first | omega | exact Nat.le_refl _⟩, ⟨by repeat (first | (with_reducible first | exact HB.out | apply below_alloc | apply pw_below_drewN | apply below_drew1) | exact HB.out)⟩⟩
      · rw [if_neg c8] at H
        have c8b0 : (t243 == 0) = false := beq_eq_false_iff_ne.mpr c8
        have c8b1 : (t243 != 0) = true := bne_iff_ne.mpr c8
        (first | rw [c8b0] | (simp only [i64_w, i32_w]; rw [c8b0]) | skip)
        have H' := Aside0.mk H
        clear H
        go_wp2_with (first | ((with_reducible refine gate_callee (f := 10) rfl ?_); refine goesL_ (some 14) rfl rfl Try.func10 (by kernel_rfl) rfl #[] rfl (by (try simp only [List.map_toArray, List.map_cons, List.map_nil]); first | done | rfl | (simp only [List.length_drop, List.length_take]; rfl)) ?_; (with_reducible refine (ancepslaw04_awake.calls k  true _ A5.out).mono ?_); rintro e w18 ⟨rfl, hb⟩; refine ⟨_, rfl, ?_⟩; have n0_ := Aside0.mk (below_step (by repeat (first | (with_reducible first | exact HB.out | apply below_alloc | apply pw_below_drewN | apply below_drew1) | exact HB.out)) hb); clear HB; have HB := n0_; clear n0_; (try clear hb); (try clear hb2); (try clear hk); (try clear hi)) | (go_at_call 20; (with_reducible refine (ancepsref04_Valid.calls k a0 t243 _ A7.out).mono ?_); rintro e w' ⟨rfl, ⟨nd, rfl⟩⟩))
        go_meet
        case rel => exact ⟨_, (true), (by first | rfl | (simp; done) | (simp [*]; done)), H', ⟨by first | omega | exact Nat.le_refl _⟩, ⟨by repeat (first | (with_reducible first | exact HB.out | apply below_alloc | apply pw_below_drewN | apply below_drew1) | exact HB.out)⟩⟩
    · replace c6 := Bool.eq_false_iff.mpr c6
      subst c6
      have H1 : (ancepslaw04_PatternCommon.j0 k a0 a1 a2 true) = some r := by rw [if_neg (show ¬ (false = true) by decide)] at H; exact H
      clear H
      have H := H1
      clear H1
      have H' := Aside0.mk H
      clear H
      go_wp2_with (first | ((with_reducible refine gate_callee (f := 10) rfl ?_); refine goesL_ (some 14) rfl rfl Try.func10 (by kernel_rfl) rfl #[] rfl (by (try simp only [List.map_toArray, List.map_cons, List.map_nil]); first | done | rfl | (simp only [List.length_drop, List.length_take]; rfl)) ?_; (with_reducible refine (ancepslaw04_awake.calls k  false _ A5.out).mono ?_); rintro e w19 ⟨rfl, hb⟩; refine ⟨_, rfl, ?_⟩; have n0_ := Aside0.mk (below_step (by repeat (first | (with_reducible first | exact HB.out | apply below_alloc | apply pw_below_drewN | apply below_drew1) | exact HB.out)) hb); clear HB; have HB := n0_; clear n0_; (try clear hb); (try clear hb2); (try clear hk); (try clear hi)))
      go_meet
      case rel => exact ⟨_, (true), (by first | rfl | (simp; done) | (simp [*]; done)), H', ⟨by first | omega | exact Nat.le_refl _⟩, ⟨by repeat (first | (with_reducible first | exact HB.out | apply below_alloc | apply pw_below_drewN | apply below_drew1) | exact HB.out)⟩⟩
  case rest =>
    clear HC4
    try clear c1
    try clear p2
    try clear c6
    try clear c8
    try clear c8b0
    try clear c8b1
    try clear c10
    try clear c10b0
    try clear c10b1
    try clear c12
    try clear c12b0
    try clear c12b1
    try clear c13
    try clear c13b0
    try clear c13b1
    try clear c13b2
    obtain ⟨kq, x44_3, rfl, HA, HJ3, HB⟩ := hcut
    cases kq with
    | zero => exact absurd HA.out (by simp [ancepslaw04_PatternCommon.j0])
    | succ kj3 =>
      have H := HA.out
      clear HA
      simp only [ancepslaw04_PatternCommon.j0] at H
      by_cases c20 : x44_3 = true
      · subst c20
        have H1 : ((ancepslaw04_awake.f kj3).bind fun t246 => (some t246)) = some r := by rw [if_pos rfl] at H; exact H
        clear H
        have H := H1
        clear H1
        replace H := Option.bind_eq_some_iff.mp H
        obtain ⟨t246, A210, H⟩ := H
        replace H : (some t246) = some r := H
        have A21 := Aside0.mk A210
        clear A210
        obtain rfl := Option.some.inj H
        go_wp2_with (first | ((with_reducible refine gate_callee (f := 10) rfl ?_); refine goesL_ (some 45) rfl rfl Try.func10 (by kernel_rfl) rfl #[] rfl (by (try simp only [List.map_toArray, List.map_cons, List.map_nil]); first | done | rfl | (simp only [List.length_drop, List.length_take]; rfl)) ?_; (with_reducible refine (ancepslaw04_awake.calls kj3  t246 _ A21.out).mono ?_); rintro e w22 ⟨rfl, hb⟩; refine ⟨_, rfl, ?_⟩; have n0_ := Aside0.mk (below_step (by repeat (first | (with_reducible first | exact HB.out | apply below_alloc | apply pw_below_drewN | apply below_drew1) | exact HB.out)) hb); clear HB; have HB := n0_; clear n0_; (try clear hb); (try clear hb2); (try clear hk); (try clear hi)))
        go_ret
        exact ⟨by first | rfl | (simp [errW_none, errW_some] <;> rfl) | (simp [*, errW_none, errW_some] <;> rfl), by repeat (first | (with_reducible first | exact HB.out | apply below_alloc | apply pw_below_drewN | apply below_drew1) | exact HB.out)⟩
      · replace c20 := Bool.eq_false_iff.mpr c20
        subst c20
        have H1 : (ancepslaw04_PatternCommon.l0 kj3 a0 a1 a2 (a2.size : Int) 0) = some r := by rw [if_neg (show ¬ (false = true) by decide)] at H; exact H
        clear H
        have H := H1
        clear H1
        have H' := Aside0.mk H
        clear H
        go_wp2
        go_loopg [48] kj3 (fun kq v48 w' => ∃ (x48_2 : Int), v48 = .int .i64 x48_2 ∧ Aside0 (ancepslaw04_PatternCommon.l0 kq a0 a1 a2 (a2.size : Int) x48_2 = some r) ∧ Aside0 (kq ≤ kj3) ∧ Aside0 (Below w.heap.size w w'))
        case atStart => exact ⟨(0), (by first | rfl | (simp; done) | (simp [*]; done)), H', ⟨Nat.le_refl _⟩, ⟨by repeat (first | (with_reducible first | exact HB.out | apply below_alloc | apply pw_below_drewN | apply below_drew1) | exact HB.out)⟩⟩
        case round =>
          clear H'
          try clear c1
          try clear c2
          try clear p2
          try clear c6
          try clear c8
          try clear c8b0
          try clear c8b1
          try clear c10
          try clear c10b0
          try clear c10b1
          try clear c12
          try clear c12b0
          try clear c12b1
          try clear c13
          try clear c13b0
          try clear c13b1
          try clear c13b2
          try clear c20
          try clear p2
          obtain ⟨x48_2, rfl, HA, HK2, HB⟩ := hrel
          cases gk with
          | zero => exact absurd HA.out (by simp [ancepslaw04_PatternCommon.l0])
          | succ k2 =>
            have H := HA.out
            clear HA
            simp only [ancepslaw04_PatternCommon.l0] at H
            by_cases c23 : x48_2 < (a2.size : Int)
            · rw [if_pos c23] at H
              have c23b0 : decide (x48_2 < (a2.size : Int)) = true := decide_eq_true c23
              clear c23
              by_cases c24 : 0 ≤ x48_2
              · rw [if_pos c24] at H
                have c24b0 : decide (0 ≤ x48_2) = true := decide_eq_true c24
                clear c24
                by_cases c25 : x48_2 < (a2.size : Int)
                · rw [if_pos c25] at H
                  have c25b0 : decide (x48_2 < (a2.size : Int)) = true := decide_eq_true c25
                  clear c25
                  by_cases c27 : (bt a2 x48_2) = 120
                  · rw [if_pos c27] at H
                    have c27b0 : ((bt a2 x48_2) == 120) = true := beq_iff_eq.mpr c27
                    have c27b1 : ((bt a2 x48_2) != 120) = false := bne_eq_false_iff_eq.mpr c27
                    clear c27
                    obtain rfl := Option.some.inj H
                    have p26 : 0 ≤ (x48_2 : Int) := of_decide_eq_true (by first | (with_reducible assumption) | assumption)
                    have q26 : x48_2 < (a2.size : Int) := of_decide_eq_true (by first | (with_reducible assumption) | assumption)
                    have hx26 := bt_at a2 x48_2
                    replace p26 := eq_true p26
                    replace q26 := eq_true q26
                    go_wp2
                    go_ret
                    exact ⟨by first | rfl | (simp [errW_none, errW_some] <;> rfl) | (simp [*, errW_none, errW_some] <;> rfl), by repeat (first | (with_reducible first | exact HB.out | apply below_alloc | apply pw_below_drewN | apply below_drew1) | exact HB.out)⟩
                  · rw [if_neg c27] at H
                    have c27b0 : ((bt a2 x48_2) == 120) = false := beq_eq_false_iff_ne.mpr c27
                    have c27b1 : ((bt a2 x48_2) != 120) = true := bne_iff_ne.mpr c27
                    have H' := Aside0.mk H
                    clear H
                    have p26 : 0 ≤ (x48_2 : Int) := of_decide_eq_true (by first | (with_reducible assumption) | assumption)
                    have q26 : x48_2 < (a2.size : Int) := of_decide_eq_true (by first | (with_reducible assumption) | assumption)
                    have hx26 := bt_at a2 x48_2
                    replace p26 := eq_true p26
                    replace q26 := eq_true q26
                    go_wp2
                    go_roundg k2
                    case measure => have := HJ3.out; have := HK2.out; omega
                    case rel => exact ⟨(wrap64 (x48_2 + 1)), (by first | rfl | (simp; done) | (simp [*]; done)), H', ⟨by have := HJ3.out; have := HK2.out; omega⟩, ⟨by repeat (first | (with_reducible first | exact HB.out | apply below_alloc | apply pw_below_drewN | apply below_drew1) | exact HB.out)⟩⟩
                · rw [if_neg c25] at H
                  exact absurd H (by simp)
              · rw [if_neg c24] at H
                exact absurd H (by simp)
            · rw [if_neg c23] at H
              have c23b0 : decide (x48_2 < (a2.size : Int)) = false := decide_eq_false c23
              clear c23
              replace H := Option.bind_eq_some_iff.mp H
              obtain ⟨⟨t247, t248⟩, A280, H⟩ := H
              replace H : ((pattern_Join.f k2 a0 a1).bind fun bt249 => ((pattern_Match.f k2 a0 a2).bind fun t251 => ((pattern_Match.f k2 a1 a2).bind fun t252 => (if bt249.2 = 0 then (if t251 = true then ((pattern_Match.f k2 bt249.1 a2).bind fun t253 => (ancepslaw04_PatternCommon.j2 k2 a2 t247 t248 t251 t252 (!t253))) else (if t252 = true then ((pattern_Match.f k2 bt249.1 a2).bind fun t254 => (ancepslaw04_PatternCommon.j2 k2 a2 t247 t248 t251 t252 (!t254))) else (ancepslaw04_PatternCommon.j2 k2 a2 t247 t248 t251 t252 false))) else (ancepslaw04_PatternCommon.j2 k2 a2 t247 t248 t251 t252 true))))) = some r := H
              have A28 := Aside0.mk A280
              clear A280
              replace H := Option.bind_eq_some_iff.mp H
              obtain ⟨⟨t249, t250⟩, A290, H⟩ := H
              replace H : ((pattern_Match.f k2 a0 a2).bind fun t251 => ((pattern_Match.f k2 a1 a2).bind fun t252 => (if t250 = 0 then (if t251 = true then ((pattern_Match.f k2 t249 a2).bind fun t253 => (ancepslaw04_PatternCommon.j2 k2 a2 t247 t248 t251 t252 (!t253))) else (if t252 = true then ((pattern_Match.f k2 t249 a2).bind fun t254 => (ancepslaw04_PatternCommon.j2 k2 a2 t247 t248 t251 t252 (!t254))) else (ancepslaw04_PatternCommon.j2 k2 a2 t247 t248 t251 t252 false))) else (ancepslaw04_PatternCommon.j2 k2 a2 t247 t248 t251 t252 true)))) = some r := H
              have A29 := Aside0.mk A290
              clear A290
              replace H := Option.bind_eq_some_iff.mp H
              obtain ⟨t251, A300, H⟩ := H
              replace H : ((pattern_Match.f k2 a1 a2).bind fun t252 => (if t250 = 0 then (if t251 = true then ((pattern_Match.f k2 t249 a2).bind fun t253 => (ancepslaw04_PatternCommon.j2 k2 a2 t247 t248 t251 t252 (!t253))) else (if t252 = true then ((pattern_Match.f k2 t249 a2).bind fun t254 => (ancepslaw04_PatternCommon.j2 k2 a2 t247 t248 t251 t252 (!t254))) else (ancepslaw04_PatternCommon.j2 k2 a2 t247 t248 t251 t252 false))) else (ancepslaw04_PatternCommon.j2 k2 a2 t247 t248 t251 t252 true))) = some r := H
              have A30 := Aside0.mk A300
              clear A300
              replace H := Option.bind_eq_some_iff.mp H
              obtain ⟨t252, A310, H⟩ := H
              replace H : (if t250 = 0 then (if t251 = true then ((pattern_Match.f k2 t249 a2).bind fun t253 => (ancepslaw04_PatternCommon.j2 k2 a2 t247 t248 t251 t252 (!t253))) else (if t252 = true then ((pattern_Match.f k2 t249 a2).bind fun t254 => (ancepslaw04_PatternCommon.j2 k2 a2 t247 t248 t251 t252 (!t254))) else (ancepslaw04_PatternCommon.j2 k2 a2 t247 t248 t251 t252 false))) else (ancepslaw04_PatternCommon.j2 k2 a2 t247 t248 t251 t252 true)) = some r := H
              have A31 := Aside0.mk A310
              clear A310
              have HC32 := Aside0.mk H
              clear H
              go_upto_region 12 with (first | ((with_reducible refine gate_callee (f := 11) rfl ?_); refine goesL_ (some 59) rfl rfl Try.func11 (by kernel_rfl) rfl #[.string a0, .string a1] rfl (by (try simp only [List.map_toArray, List.map_cons, List.map_nil]); first | done | rfl | (simp only [List.length_drop, List.length_take]; rfl)) ?_; (with_reducible refine (pattern_Meet.calls k2 a0 a1 t247 t248 _ A28.out).mono ?_); rintro e w33 ⟨rfl, hb⟩; refine ⟨_, rfl, ?_⟩; have n0_ := Aside0.mk (below_step (by repeat (first | (with_reducible first | exact HB.out | apply below_alloc | apply pw_below_drewN | apply below_drew1) | exact HB.out)) hb); clear HB; have HB := n0_; clear n0_; (try clear hb); (try clear hb2); (try clear hk); (try clear hi)) | ((with_reducible refine gate_callee (f := 13) rfl ?_); refine goesL_ (some 65) rfl rfl Try.func13 (by kernel_rfl) rfl #[.string a0, .string a1] rfl (by (try simp only [List.map_toArray, List.map_cons, List.map_nil]); first | done | rfl | (simp only [List.length_drop, List.length_take]; rfl)) ?_; (with_reducible refine (pattern_Join.calls k2 a0 a1 t249 t250 _ A29.out).mono ?_); rintro e w34 ⟨rfl, hb⟩; refine ⟨_, rfl, ?_⟩; have n0_ := Aside0.mk (below_step (by repeat (first | (with_reducible first | exact HB.out | apply below_alloc | apply pw_below_drewN | apply below_drew1) | exact HB.out)) hb); clear HB; have HB := n0_; clear n0_; (try clear hb); (try clear hb2); (try clear hk); (try clear hi)) | ((with_reducible refine gate_callee (f := 15) rfl ?_); refine goesL_ (some 70) rfl rfl Try.func15 (by kernel_rfl) rfl #[.string a0, .string a2] rfl (by (try simp only [List.map_toArray, List.map_cons, List.map_nil]); first | done | rfl | (simp only [List.length_drop, List.length_take]; rfl)) ?_; (with_reducible refine (pattern_Match.calls k2 a0 a2 t251 _ A30.out).mono ?_); rintro e w35 ⟨rfl, hb⟩; refine ⟨_, rfl, ?_⟩; have n0_ := Aside0.mk (below_step (by repeat (first | (with_reducible first | exact HB.out | apply below_alloc | apply pw_below_drewN | apply below_drew1) | exact HB.out)) hb); clear HB; have HB := n0_; clear n0_; (try clear hb); (try clear hb2); (try clear hk); (try clear hi)) | ((with_reducible refine gate_callee (f := 15) rfl ?_); refine goesL_ (some 73) rfl rfl Try.func15 (by kernel_rfl) rfl #[.string a1, .string a2] rfl (by (try simp only [List.map_toArray, List.map_cons, List.map_nil]); first | done | rfl | (simp only [List.length_drop, List.length_take]; rfl)) ?_; (with_reducible refine (pattern_Match.calls k2 a1 a2 t252 _ A31.out).mono ?_); rintro e w36 ⟨rfl, hb⟩; refine ⟨_, rfl, ?_⟩; have n0_ := Aside0.mk (below_step (by repeat (first | (with_reducible first | exact HB.out | apply below_alloc | apply pw_below_drewN | apply below_drew1) | exact HB.out)) hb); clear HB; have HB := n0_; clear n0_; (try clear hb); (try clear hb2); (try clear hk); (try clear hi)))
              (try simp only [Act.put, List.setIfInBounds_toArray, List.set_cons_zero, List.set_cons_succ])
              go_cut [87] (fun v87 wc => ∃ (kq : Nat) (x87_31 : Bool), v87 = .bool x87_31 ∧ Aside0 (ancepslaw04_PatternCommon.j2 kq a2 t247 t248 t251 t252 x87_31 = some r) ∧ Aside0 (kq ≤ k2) ∧ Aside0 (Below w.heap.size w wc))
              case first =>
                have H := HC32.out
                clear HC32
                by_cases c37 : t250 = 0
                · rw [if_pos c37] at H
                  have c37b0 : (t250 == 0) = true := beq_iff_eq.mpr c37
                  have c37b1 : (t250 != 0) = false := bne_eq_false_iff_eq.mpr c37
                  clear c37
                  (first | rw [c37b0] | (simp only [i64_w, i32_w]; rw [c37b0]) | skip)
                  by_cases c38 : t251 = true
                  · subst c38
                    have H1 : ((pattern_Match.f k2 t249 a2).bind fun t253 => (ancepslaw04_PatternCommon.j2 k2 a2 t247 t248 true t252 (!t253))) = some r := by rw [if_pos rfl] at H; exact H
                    clear H
                    have H := H1
                    clear H1
                    replace H := Option.bind_eq_some_iff.mp H
                    obtain ⟨t253, A390, H⟩ := H
                    replace H : (ancepslaw04_PatternCommon.j2 k2 a2 t247 t248 true t252 (!t253)) = some r := H
                    have A39 := Aside0.mk A390
                    clear A390
                    have H' := Aside0.mk H
                    clear H
                    go_wp2_with (first | (go_at_call 15; (with_reducible refine (pattern_Match.calls k2 t249 a2 t253 _ A39.out).mono ?_); rintro e w40 ⟨rfl, hb⟩; have n0_ := Aside0.mk (below_step (by repeat (first | (with_reducible first | exact HB.out | apply below_alloc | apply pw_below_drewN | apply below_drew1) | exact HB.out)) hb); clear HB; have HB := n0_; clear n0_; (try clear hb); (try clear hb2); (try clear hk); (try clear hi)))
                    go_meet
                    case rel => exact ⟨_, (!t253), (by first | rfl | (simp; done) | (simp [*]; done)), H', ⟨by have := HJ3.out; have := HK2.out; first | omega | exact Nat.le_refl _⟩, ⟨by repeat (first | (with_reducible first | exact HB.out | apply below_alloc | apply pw_below_drewN | apply below_drew1) | exact HB.out)⟩⟩
                  · replace c38 := Bool.eq_false_iff.mpr c38
                    subst c38
                    have H1 : (if t252 = true then ((pattern_Match.f k2 t249 a2).bind fun t254 => (ancepslaw04_PatternCommon.j2 k2 a2 t247 t248 false t252 (!t254))) else (ancepslaw04_PatternCommon.j2 k2 a2 t247 t248 false t252 false)) = some r := by rw [if_neg (show ¬ (false = true) by decide)] at H; exact H
                    clear H
                    have H := H1
                    clear H1
                    by_cases c41 : t252 = true
                    · subst c41
                      have H1 : ((pattern_Match.f k2 t249 a2).bind fun t254 => (ancepslaw04_PatternCommon.j2 k2 a2 t247 t248 false true (!t254))) = some r := by rw [if_pos rfl] at H; exact H
                      clear H
                      have H := H1
                      clear H1
                      replace H := Option.bind_eq_some_iff.mp H
                      obtain ⟨t254, A420, H⟩ := H
                      replace H : (ancepslaw04_PatternCommon.j2 k2 a2 t247 t248 false true (!t254)) = some r := H
                      have A42 := Aside0.mk A420
                      clear A420
                      have H' := Aside0.mk H
                      clear H
                      go_wp2_with (first | (go_at_call 15; (with_reducible refine (pattern_Match.calls k2 t249 a2 t254 _ A42.out).mono ?_); rintro e w43 ⟨rfl, hb⟩; have n0_ := Aside0.mk (below_step (by repeat (first | (with_reducible first | exact HB.out | apply below_alloc | apply pw_below_drewN | apply below_drew1) | exact HB.out)) hb); clear HB; have HB := n0_; clear n0_; (try clear hb); (try clear hb2); (try clear hk); (try clear hi)))
                      go_meet
                      case rel => exact ⟨_, (!t254), (by first | rfl | (simp; done) | (simp [*]; done)), H', ⟨by have := HJ3.out; have := HK2.out; first | omega | exact Nat.le_refl _⟩, ⟨by repeat (first | (with_reducible first | exact HB.out | apply below_alloc | apply pw_below_drewN | apply below_drew1) | exact HB.out)⟩⟩
                    · replace c41 := Bool.eq_false_iff.mpr c41
                      subst c41
                      have H1 : (ancepslaw04_PatternCommon.j2 k2 a2 t247 t248 false false false) = some r := by rw [if_neg (show ¬ (false = true) by decide)] at H; exact H
                      clear H
                      have H := H1
                      clear H1
                      have H' := Aside0.mk H
                      clear H
                      go_wp2
                      go_meet
                      case rel => exact ⟨_, (false), (by first | rfl | (simp; done) | (simp [*]; done)), H', ⟨by have := HJ3.out; have := HK2.out; first | omega | exact Nat.le_refl _⟩, ⟨by repeat (first | (with_reducible first | exact HB.out | apply below_alloc | apply pw_below_drewN | apply below_drew1) | exact HB.out)⟩⟩
                · rw [if_neg c37] at H
                  have c37b0 : (t250 == 0) = false := beq_eq_false_iff_ne.mpr c37
                  have c37b1 : (t250 != 0) = true := bne_iff_ne.mpr c37
                  (first | rw [c37b0] | (simp only [i64_w, i32_w]; rw [c37b0]) | skip)
                  have H' := Aside0.mk H
                  clear H
                  go_wp2
                  go_meet
                  case rel => exact ⟨_, (true), (by first | rfl | (simp; done) | (simp [*]; done)), H', ⟨by have := HJ3.out; have := HK2.out; first | omega | exact Nat.le_refl _⟩, ⟨by repeat (first | (with_reducible first | exact HB.out | apply below_alloc | apply pw_below_drewN | apply below_drew1) | exact HB.out)⟩⟩
              case rest =>
                clear HC32
                try clear c1
                try clear c2
                try clear p2
                try clear q2
                try clear hx2
                try clear c3
                try clear c4
                try clear c6
                try clear p6
                try clear c8
                try clear c8b0
                try clear c8b1
                try clear c10
                try clear c10b0
                try clear c10b1
                try clear c11
                try clear c12
                try clear c12b0
                try clear c12b1
                try clear c13
                try clear c13b0
                try clear c13b1
                try clear c13b2
                try clear c15
                try clear c20
                try clear c23
                try clear c23b0
                try clear c24
                try clear c24b0
                try clear c25
                try clear c25b0
                try clear p26
                try clear q26
                try clear hx26
                try clear c27
                try clear c27b0
                try clear c27b1
                try clear c37
                try clear c37b0
                try clear c37b1
                try clear c38
                try clear c41
                try clear p2
                try clear p26
                try clear q26
                obtain ⟨kq, x87_31, rfl, HA, HJ31, HB⟩ := hcut
                cases kq with
                | zero => exact absurd HA.out (by simp [ancepslaw04_PatternCommon.j2])
                | succ kj31 =>
                  have H := HA.out
                  clear HA
                  simp only [ancepslaw04_PatternCommon.j2] at H
                  by_cases c44 : x87_31 = true
                  · subst c44
                    have H1 : (some false) = some r := by rw [if_pos rfl] at H; exact H
                    clear H
                    have H := H1
                    clear H1
                    obtain rfl := Option.some.inj H
                    go_wp2
                    go_ret
                    exact ⟨by first | rfl | (simp [errW_none, errW_some] <;> rfl) | (simp [*, errW_none, errW_some] <;> rfl), by repeat (first | (with_reducible first | exact HB.out | apply below_alloc | apply pw_below_drewN | apply below_drew1) | exact HB.out)⟩
                  · replace c44 := Bool.eq_false_iff.mpr c44
                    subst c44
                    have H1 : (if t248 = 0 then ((pattern_Match.f kj31 t247 a2).bind fun t255 => (if t251 = true then (some (t255 == t252)) else (some (t255 == false)))) else (if t251 = true then (some (!t252)) else (some true))) = some r := by rw [if_neg (show ¬ (false = true) by decide)] at H; exact H
                    clear H
                    have H := H1
                    clear H1
                    by_cases c45 : t248 = 0
                    · rw [if_pos c45] at H
                      have c45b0 : (t248 == 0) = true := beq_iff_eq.mpr c45
                      have c45b1 : (t248 != 0) = false := bne_eq_false_iff_eq.mpr c45
                      clear c45
                      replace H := Option.bind_eq_some_iff.mp H
                      obtain ⟨t255, A460, H⟩ := H
                      replace H : (if t251 = true then (some (t255 == t252)) else (some (t255 == false))) = some r := H
                      have A46 := Aside0.mk A460
                      clear A460
                      by_cases c47 : t251 = true
                      · subst c47
                        have H1 : (some (t255 == t252)) = some r := by rw [if_pos rfl] at H; exact H
                        clear H
                        have H := H1
                        clear H1
                        obtain rfl := Option.some.inj H
                        go_wp2_with (first | ((with_reducible refine gate_callee (f := 15) rfl ?_); refine goesL_ (some 98) rfl rfl Try.func15 (by kernel_rfl) rfl #[.string t247, .string a2] rfl (by (try simp only [List.map_toArray, List.map_cons, List.map_nil]); first | done | rfl | (simp only [List.length_drop, List.length_take]; rfl)) ?_; (with_reducible refine (pattern_Match.calls kj31 t247 a2 t255 _ A46.out).mono ?_); rintro e w48 ⟨rfl, hb⟩; refine ⟨_, rfl, ?_⟩; have n0_ := Aside0.mk (below_step (by repeat (first | (with_reducible first | exact HB.out | apply below_alloc | apply pw_below_drewN | apply below_drew1) | exact HB.out)) hb); clear HB; have HB := n0_; clear n0_; (try clear hb); (try clear hb2); (try clear hk); (try clear hi)))
                        go_ret
                        exact ⟨by first | rfl | (simp [errW_none, errW_some] <;> rfl) | (simp [*, errW_none, errW_some] <;> rfl), by repeat (first | (with_reducible first | exact HB.out | apply below_alloc | apply pw_below_drewN | apply below_drew1) | exact HB.out)⟩
                      · replace c47 := Bool.eq_false_iff.mpr c47
                        subst c47
                        have H1 : (some (t255 == false)) = some r := by rw [if_neg (show ¬ (false = true) by decide)] at H; exact H
                        clear H
                        have H := H1
                        clear H1
                        obtain rfl := Option.some.inj H
                        go_wp2_with (first | ((with_reducible refine gate_callee (f := 15) rfl ?_); refine goesL_ (some 98) rfl rfl Try.func15 (by kernel_rfl) rfl #[.string t247, .string a2] rfl (by (try simp only [List.map_toArray, List.map_cons, List.map_nil]); first | done | rfl | (simp only [List.length_drop, List.length_take]; rfl)) ?_; (with_reducible refine (pattern_Match.calls kj31 t247 a2 t255 _ A46.out).mono ?_); rintro e w49 ⟨rfl, hb⟩; refine ⟨_, rfl, ?_⟩; have n0_ := Aside0.mk (below_step (by repeat (first | (with_reducible first | exact HB.out | apply below_alloc | apply pw_below_drewN | apply below_drew1) | exact HB.out)) hb); clear HB; have HB := n0_; clear n0_; (try clear hb); (try clear hb2); (try clear hk); (try clear hi)))
                        go_ret
                        exact ⟨by first | rfl | (simp [errW_none, errW_some] <;> rfl) | (simp [*, errW_none, errW_some] <;> rfl), by repeat (first | (with_reducible first | exact HB.out | apply below_alloc | apply pw_below_drewN | apply below_drew1) | exact HB.out)⟩
                    · rw [if_neg c45] at H
                      have c45b0 : (t248 == 0) = false := beq_eq_false_iff_ne.mpr c45
                      have c45b1 : (t248 != 0) = true := bne_iff_ne.mpr c45
                      by_cases c50 : t251 = true
                      · subst c50
                        have H1 : (some (!t252)) = some r := by rw [if_pos rfl] at H; exact H
                        clear H
                        have H := H1
                        clear H1
                        obtain rfl := Option.some.inj H
                        go_wp2
                        go_ret
                        exact ⟨by first | rfl | (simp [errW_none, errW_some] <;> rfl) | (simp [*, errW_none, errW_some] <;> rfl), by repeat (first | (with_reducible first | exact HB.out | apply below_alloc | apply pw_below_drewN | apply below_drew1) | exact HB.out)⟩
                      · replace c50 := Bool.eq_false_iff.mpr c50
                        subst c50
                        have H1 : (some true) = some r := by rw [if_neg (show ¬ (false = true) by decide)] at H; exact H
                        clear H
                        have H := H1
                        clear H1
                        obtain rfl := Option.some.inj H
                        go_wp2
                        go_ret
                        exact ⟨by first | rfl | (simp [errW_none, errW_some] <;> rfl) | (simp [*, errW_none, errW_some] <;> rfl), by repeat (first | (with_reducible first | exact HB.out | apply below_alloc | apply pw_below_drewN | apply below_drew1) | exact HB.out)⟩

/-- THE ONE PURE STATEMENT of ancepslaw04_PatternCommon: yours. -/
def ancepslaw04_PatternCommon.Pure : Prop := ∀ (a0 : ByteArray) (a1 : ByteArray) (a2 : ByteArray), a0.size ≤ 140737488351232 → a1.size ≤ 140737488351232 → a2.size ≤ 140737488351232 → ∃ k, ancepslaw04_PatternCommon.f k a0 a1 a2 = some true
theorem ancepslaw04_PatternCommon.walk (P : ancepslaw04_PatternCommon.Pure) (a0 : ByteArray) (a1 : ByteArray) (a2 : ByteArray) (w : World) (w0 : a0.size ≤ 140737488351232) (w1 : a1.size ≤ 140737488351232) (w2 : a2.size ≤ 140737488351232) :
    Calls Try.prog 6 #[.string a0, .string a1, .string a2] w fun e w' => e = .returned (.bool true) ∧ Below w.heap.size w w' := by
  obtain ⟨k, h⟩ := P a0 a1 a2 w0 w1 w2
  refine (ancepslaw04_PatternCommon.calls k a0 a1 a2 true w h).mono ?_
  rintro e w' ⟨rfl, hd⟩
  exact ⟨rfl, hd⟩

end Go.Proofs.Ytbecdafbkdchkaa.X
