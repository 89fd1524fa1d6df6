-- printed by this session's xprint.py: out of the translation, by the kit's print with additions; Lean checks it
import Derived.Test.YtbecdafbkdchkaaX0
import Derived.Test.YtbecdafbkdchkaaX1
import Derived.Test.YtbecdafbkdchkaaX3
import Derived.Test.YtbecdafbkdchkaaX4
namespace Go.Proofs.Ytbecdafbkdchkaa.X
open Go.RowKit Go.Proofs.YtbecdafbkdchkaaW.PrintWords Go.Proofs.YtbecdafbkdchkaaW.PrintLast Go.Proofs.YtbecdafbkdchkaaW.PrintMore
attribute [local go_sem] max2_int min2_int max_two min_two max_three min_three max_four min_four isSome_setCell   -- for this text's walks alone
set_option linter.unusedVariables false
set_option linter.unusedSimpArgs false

/-! ### ancepslaw04_PatternLattice: function 5 -/
mutual
def ancepslaw04_PatternLattice.j0 : Nat → ByteArray → ByteArray → ByteArray → Bool → Option (Bool)
  | 0, _, _, _, _ => none
  | k + 1, x0, x1, x2, x55 => if x55 = true then ((ancepslaw04_awake.f k).bind fun t222 => (some t222)) else ((pattern_Join.f k x0 x1).bind fun bt223 => ((pattern_Join.f k x1 x0).bind fun bt225 => ((pattern_Meet.f k x0 bt223.1).bind fun bt227 => (if bt223.2 = 0 then (if bt225.2 = 0 then (if bt223.1.toList = bt225.1.toList then (if bt227.2 = 0 then (ancepslaw04_PatternLattice.j1 k x0 x1 x2 bt223.1 (bt227.1.toList != x0.toList)) else (ancepslaw04_PatternLattice.j1 k x0 x1 x2 bt223.1 true)) else (ancepslaw04_PatternLattice.j1 k x0 x1 x2 bt223.1 true)) else (ancepslaw04_PatternLattice.j1 k x0 x1 x2 bt223.1 true)) else (ancepslaw04_PatternLattice.j1 k x0 x1 x2 bt223.1 true)))))
def ancepslaw04_PatternLattice.j1 : Nat → ByteArray → ByteArray → ByteArray → ByteArray → Bool → Option (Bool)
  | 0, _, _, _, _, _ => none
  | k + 1, x0, x1, x2, x7, x94 => if x94 = true then (some false) else ((pattern_Join.f k x7 x2).bind fun bt229 => ((pattern_Join.f k x1 x2).bind fun bt231 => ((pattern_Join.f k x0 bt231.1).bind fun bt233 => (if bt229.2 = 0 then (if bt233.2 = 0 then (ancepslaw04_PatternLattice.j2 k x0 x1 (bt229.1.toList != bt233.1.toList)) else (ancepslaw04_PatternLattice.j2 k x0 x1 true)) else (ancepslaw04_PatternLattice.j2 k x0 x1 true)))))
def ancepslaw04_PatternLattice.j2 : Nat → ByteArray → ByteArray → Bool → Option (Bool)
  | 0, _, _, _ => none
  | k + 1, x0, x1, x123 => if x123 = true then (some false) else ((pattern_Meet.f k x0 x1).bind fun bt235 => ((pattern_Meet.f k x1 x0).bind fun bt237 => (if bt235.1.toList = bt237.1.toList then (ancepslaw04_PatternLattice.j3 k x0 x1 bt235.1 bt235.2 (bt235.2 != bt237.2)) else (ancepslaw04_PatternLattice.j3 k x0 x1 bt235.1 bt235.2 true))))
def ancepslaw04_PatternLattice.j3 : Nat → ByteArray → ByteArray → ByteArray → Int → Bool → Option (Bool)
  | 0, _, _, _, _, _ => none
  | k + 1, x0, x1, x19, x20, x143 => if x143 = true then (some false) else (if x20 = 0 then ((pattern_Join.f k x0 x19).bind fun bt239 => (if bt239.2 = 0 then (some (bt239.1.toList == x0.toList)) else (some false))) else (if x20 = 12 then ((pattern_Match.f k x0 x1).bind fun t241 => (some (!t241))) else (some false)))
end
def ancepslaw04_PatternLattice.f (k : Nat) (a0 : ByteArray) (a1 : ByteArray) (a2 : ByteArray) : Option (Bool) := (ancepslaw04_awake.f k).bind fun t218 => (if t218 = true then ((ancepsref04_Valid.f k a0).bind fun t219 => (if t219 = 0 then ((ancepsref04_Valid.f k a1).bind fun t220 => (if t220 = 0 then ((ancepsref04_Valid.f k a2).bind fun t221 => (if t221 = 0 then (if (a0.size : Int) = (a1.size : Int) then (ancepslaw04_PatternLattice.j0 k a0 a1 a2 ((a1.size : Int) != (a2.size : Int))) else (ancepslaw04_PatternLattice.j0 k a0 a1 a2 true)) else (ancepslaw04_PatternLattice.j0 k a0 a1 a2 true))) else (ancepslaw04_PatternLattice.j0 k a0 a1 a2 true))) else (ancepslaw04_PatternLattice.j0 k a0 a1 a2 true))) else (ancepslaw04_PatternLattice.j0 k a0 a1 a2 true))
theorem ancepslaw04_PatternLattice.mono_l : ∀ k, (∀ y0 y1 y2 y3, LeO (ancepslaw04_PatternLattice.j0 k y0 y1 y2 y3) (ancepslaw04_PatternLattice.j0 (k + 1) y0 y1 y2 y3)) ∧ (∀ y0 y1 y2 y3 y4, LeO (ancepslaw04_PatternLattice.j1 k y0 y1 y2 y3 y4) (ancepslaw04_PatternLattice.j1 (k + 1) y0 y1 y2 y3 y4)) ∧ (∀ y0 y1 y2, LeO (ancepslaw04_PatternLattice.j2 k y0 y1 y2) (ancepslaw04_PatternLattice.j2 (k + 1) y0 y1 y2)) ∧ (∀ y0 y1 y2 y3 y4, LeO (ancepslaw04_PatternLattice.j3 k y0 y1 y2 y3 y4) (ancepslaw04_PatternLattice.j3 (k + 1) y0 y1 y2 y3 y4))
  | 0 => ⟨fun _ _ _ _ r h => by simp [ancepslaw04_PatternLattice.j0] at h, fun _ _ _ _ _ r h => by simp [ancepslaw04_PatternLattice.j1] at h, fun _ _ _ r h => by simp [ancepslaw04_PatternLattice.j2] at h, fun _ _ _ _ _ r h => by simp [ancepslaw04_PatternLattice.j3] at h⟩
  | k + 1 => by
    obtain ⟨ih0, ih1, ih2, ih3⟩ := ancepslaw04_PatternLattice.mono_l k
    refine ⟨?_, ?_, ?_, ?_⟩
    · intro y0 y1 y2 y3
      unfold ancepslaw04_PatternLattice.j0
      repeat' first
      | (with_reducible exact ih0 _ _ _ _)
      | (with_reducible exact ih1 _ _ _ _ _)
      | (with_reducible exact ih2 _ _ _)
      | (with_reducible exact ih3 _ _ _ _ _)
      | (with_reducible exact ancepslaw04_awake.mono _)
      | (with_reducible exact ancepsref04_Valid.mono _ _)
      | (with_reducible exact pattern_Join.mono _ _ _)
      | (with_reducible exact pattern_Match.mono _ _ _)
      | (with_reducible exact pattern_Meet.mono _ _ _)
      | (with_reducible exact LeO.refl _)
      | (with_reducible exact LeO.none _)
      | (with_reducible refine LeO.ite ?_ ?_)
      | (with_reducible refine LeO.bind ?_ (fun _ => ?_))
      | exact ih0 _ _ _ _
      | exact ih1 _ _ _ _ _
      | exact ih2 _ _ _
      | exact ih3 _ _ _ _ _
      | exact ancepslaw04_awake.mono _
      | exact ancepsref04_Valid.mono _ _
      | exact pattern_Join.mono _ _ _
      | exact pattern_Match.mono _ _ _
      | exact pattern_Meet.mono _ _ _
      | exact LeO.none _
      | refine LeO.ite ?_ ?_
      | refine LeO.bind ?_ (fun _ => ?_)
    · intro y0 y1 y2 y3 y4
      unfold ancepslaw04_PatternLattice.j1
      repeat' first
      | (with_reducible exact ih0 _ _ _ _)
      | (with_reducible exact ih1 _ _ _ _ _)
      | (with_reducible exact ih2 _ _ _)
      | (with_reducible exact ih3 _ _ _ _ _)
      | (with_reducible exact ancepslaw04_awake.mono _)
      | (with_reducible exact ancepsref04_Valid.mono _ _)
      | (with_reducible exact pattern_Join.mono _ _ _)
      | (with_reducible exact pattern_Match.mono _ _ _)
      | (with_reducible exact pattern_Meet.mono _ _ _)
      | (with_reducible exact LeO.refl _)
      | (with_reducible exact LeO.none _)
      | (with_reducible refine LeO.ite ?_ ?_)
      | (with_reducible refine LeO.bind ?_ (fun _ => ?_))
      | exact ih0 _ _ _ _
      | exact ih1 _ _ _ _ _
      | exact ih2 _ _ _
      | exact ih3 _ _ _ _ _
      | exact ancepslaw04_awake.mono _
      | exact ancepsref04_Valid.mono _ _
      | exact pattern_Join.mono _ _ _
      | exact pattern_Match.mono _ _ _
      | exact pattern_Meet.mono _ _ _
      | exact LeO.none _
      | refine LeO.ite ?_ ?_
      | refine LeO.bind ?_ (fun _ => ?_)
    · intro y0 y1 y2
      unfold ancepslaw04_PatternLattice.j2
      repeat' first
      | (with_reducible exact ih0 _ _ _ _)
      | (with_reducible exact ih1 _ _ _ _ _)
      | (with_reducible exact ih2 _ _ _)
      | (with_reducible exact ih3 _ _ _ _ _)
      | (with_reducible exact ancepslaw04_awake.mono _)
      | (with_reducible exact ancepsref04_Valid.mono _ _)
      | (with_reducible exact pattern_Join.mono _ _ _)
      | (with_reducible exact pattern_Match.mono _ _ _)
      | (with_reducible exact pattern_Meet.mono _ _ _)
      | (with_reducible exact LeO.refl _)
      | (with_reducible exact LeO.none _)
      | (with_reducible refine LeO.ite ?_ ?_)
      | (with_reducible refine LeO.bind ?_ (fun _ => ?_))
      | exact ih0 _ _ _ _
      | exact ih1 _ _ _ _ _
      | exact ih2 _ _ _
      | exact ih3 _ _ _ _ _
      | exact ancepslaw04_awake.mono _
      | exact ancepsref04_Valid.mono _ _
      | exact pattern_Join.mono _ _ _
      | exact pattern_Match.mono _ _ _
      | exact pattern_Meet.mono _ _ _
      | exact LeO.none _
      | refine LeO.ite ?_ ?_
      | refine LeO.bind ?_ (fun _ => ?_)
    · intro y0 y1 y2 y3 y4
      unfold ancepslaw04_PatternLattice.j3
      repeat' first
      | (with_reducible exact ih0 _ _ _ _)
      | (with_reducible exact ih1 _ _ _ _ _)
      | (with_reducible exact ih2 _ _ _)
      | (with_reducible exact ih3 _ _ _ _ _)
      | (with_reducible exact ancepslaw04_awake.mono _)
      | (with_reducible exact ancepsref04_Valid.mono _ _)
      | (with_reducible exact pattern_Join.mono _ _ _)
      | (with_reducible exact pattern_Match.mono _ _ _)
      | (with_reducible exact pattern_Meet.mono _ _ _)
      | (with_reducible exact LeO.refl _)
      | (with_reducible exact LeO.none _)
      | (with_reducible refine LeO.ite ?_ ?_)
      | (with_reducible refine LeO.bind ?_ (fun _ => ?_))
      | exact ih0 _ _ _ _
      | exact ih1 _ _ _ _ _
      | exact ih2 _ _ _
      | exact ih3 _ _ _ _ _
      | exact ancepslaw04_awake.mono _
      | exact ancepsref04_Valid.mono _ _
      | exact pattern_Join.mono _ _ _
      | exact pattern_Match.mono _ _ _
      | exact pattern_Meet.mono _ _ _
      | exact LeO.none _
      | refine LeO.ite ?_ ?_
      | refine LeO.bind ?_ (fun _ => ?_)
theorem ancepslaw04_PatternLattice.mono : ∀ a0 a1 a2 k, LeO (ancepslaw04_PatternLattice.f k a0 a1 a2) (ancepslaw04_PatternLattice.f (k + 1) a0 a1 a2) := by
  intro a0 a1 a2 k
  obtain ⟨ih0, ih1, ih2, ih3⟩ := ancepslaw04_PatternLattice.mono_l k
  unfold ancepslaw04_PatternLattice.f
  repeat' first
      | (with_reducible exact ih0 _ _ _ _)
      | (with_reducible exact ih1 _ _ _ _ _)
      | (with_reducible exact ih2 _ _ _)
      | (with_reducible exact ih3 _ _ _ _ _)
      | (with_reducible exact ancepslaw04_awake.mono _)
      | (with_reducible exact ancepsref04_Valid.mono _ _)
      | (with_reducible exact pattern_Join.mono _ _ _)
      | (with_reducible exact pattern_Match.mono _ _ _)
      | (with_reducible exact pattern_Meet.mono _ _ _)
      | (with_reducible exact LeO.refl _)
      | (with_reducible exact LeO.none _)
      | (with_reducible refine LeO.ite ?_ ?_)
      | (with_reducible refine LeO.bind ?_ (fun _ => ?_))
      | exact ih0 _ _ _ _
      | exact ih1 _ _ _ _ _
      | exact ih2 _ _ _
      | exact ih3 _ _ _ _ _
      | exact ancepslaw04_awake.mono _
      | exact ancepsref04_Valid.mono _ _
      | exact pattern_Join.mono _ _ _
      | exact pattern_Match.mono _ _ _
      | exact pattern_Meet.mono _ _ _
      | exact LeO.none _
      | refine LeO.ite ?_ ?_
      | refine LeO.bind ?_ (fun _ => ?_)
set_option maxHeartbeats 8000000 in
set_option maxRecDepth 100000 in
theorem ancepslaw04_PatternLattice.calls (k : Nat) (a0 : ByteArray) (a1 : ByteArray) (a2 : ByteArray) (r : Bool) (w : World) (h : ancepslaw04_PatternLattice.f k a0 a1 a2 = some r) :
    Calls Try.prog 5 #[.string a0, .string a1, .string a2] w fun e w' => e = .returned (.bool r) ∧ Below w.heap.size w w' := by
  have HB := Aside0.mk (Below.refl w.heap.size w)
  have H : ((ancepslaw04_awake.f k).bind fun t218 => (if t218 = true then ((ancepsref04_Valid.f k a0).bind fun t219 => (if t219 = 0 then ((ancepsref04_Valid.f k a1).bind fun t220 => (if t220 = 0 then ((ancepsref04_Valid.f k a2).bind fun t221 => (if t221 = 0 then (if (a0.size : Int) = (a1.size : Int) then (ancepslaw04_PatternLattice.j0 k a0 a1 a2 ((a1.size : Int) != (a2.size : Int))) else (ancepslaw04_PatternLattice.j0 k a0 a1 a2 true)) else (ancepslaw04_PatternLattice.j0 k a0 a1 a2 true))) else (ancepslaw04_PatternLattice.j0 k a0 a1 a2 true))) else (ancepslaw04_PatternLattice.j0 k a0 a1 a2 true))) else (ancepslaw04_PatternLattice.j0 k a0 a1 a2 true))) = some r := h
  clear h
  have HC4 := Aside0.mk H
  clear H
  go_enter Try.func5, Try.ntmps5
  go_upto_region 1 with (fail)
  go_cut [55] (fun v55 wc => ∃ (kq : Nat) (x55_3 : Bool), v55 = .bool x55_3 ∧ Aside0 (ancepslaw04_PatternLattice.j0 kq a0 a1 a2 x55_3 = some r) ∧ Aside0 (kq ≤ k) ∧ Aside0 (Below w.heap.size w wc))
  case first =>
    have H := HC4.out
    clear HC4
    replace H := Option.bind_eq_some_iff.mp H
    obtain ⟨t218, A50, H⟩ := H
    replace H : (if t218 = true then ((ancepsref04_Valid.f k a0).bind fun t219 => (if t219 = 0 then ((ancepsref04_Valid.f k a1).bind fun t220 => (if t220 = 0 then ((ancepsref04_Valid.f k a2).bind fun t221 => (if t221 = 0 then (if (a0.size : Int) = (a1.size : Int) then (ancepslaw04_PatternLattice.j0 k a0 a1 a2 ((a1.size : Int) != (a2.size : Int))) else (ancepslaw04_PatternLattice.j0 k a0 a1 a2 true)) else (ancepslaw04_PatternLattice.j0 k a0 a1 a2 true))) else (ancepslaw04_PatternLattice.j0 k a0 a1 a2 true))) else (ancepslaw04_PatternLattice.j0 k a0 a1 a2 true))) else (ancepslaw04_PatternLattice.j0 k a0 a1 a2 true)) = some r := H
    have A5 := Aside0.mk A50
    clear A50
    by_cases c6 : t218 = true
    · subst c6
      have H1 : ((ancepsref04_Valid.f k a0).bind fun t219 => (if t219 = 0 then ((ancepsref04_Valid.f k a1).bind fun t220 => (if t220 = 0 then ((ancepsref04_Valid.f k a2).bind fun t221 => (if t221 = 0 then (if (a0.size : Int) = (a1.size : Int) then (ancepslaw04_PatternLattice.j0 k a0 a1 a2 ((a1.size : Int) != (a2.size : Int))) else (ancepslaw04_PatternLattice.j0 k a0 a1 a2 true)) else (ancepslaw04_PatternLattice.j0 k a0 a1 a2 true))) else (ancepslaw04_PatternLattice.j0 k a0 a1 a2 true))) else (ancepslaw04_PatternLattice.j0 k a0 a1 a2 true))) = some r := by rw [if_pos rfl] at H; exact H
      clear H
      have H := H1
      clear H1
      replace H := Option.bind_eq_some_iff.mp H
      obtain ⟨t219, A70, H⟩ := H
      replace H : (if t219 = 0 then ((ancepsref04_Valid.f k a1).bind fun t220 => (if t220 = 0 then ((ancepsref04_Valid.f k a2).bind fun t221 => (if t221 = 0 then (if (a0.size : Int) = (a1.size : Int) then (ancepslaw04_PatternLattice.j0 k a0 a1 a2 ((a1.size : Int) != (a2.size : Int))) else (ancepslaw04_PatternLattice.j0 k a0 a1 a2 true)) else (ancepslaw04_PatternLattice.j0 k a0 a1 a2 true))) else (ancepslaw04_PatternLattice.j0 k a0 a1 a2 true))) else (ancepslaw04_PatternLattice.j0 k a0 a1 a2 true)) = some r := H
      have A7 := Aside0.mk A70
      clear A70
      by_cases c8 : t219 = 0
      · rw [if_pos c8] at H
        have c8b0 : (t219 == 0) = true := beq_iff_eq.mpr c8
        have c8b1 : (t219 != 0) = false := bne_eq_false_iff_eq.mpr c8
        clear c8
        (first | rw [c8b0] | (simp only [i64_w, i32_w]; rw [c8b0]) | skip)
        replace H := Option.bind_eq_some_iff.mp H
        obtain ⟨t220, A90, H⟩ := H
        replace H : (if t220 = 0 then ((ancepsref04_Valid.f k a2).bind fun t221 => (if t221 = 0 then (if (a0.size : Int) = (a1.size : Int) then (ancepslaw04_PatternLattice.j0 k a0 a1 a2 ((a1.size : Int) != (a2.size : Int))) else (ancepslaw04_PatternLattice.j0 k a0 a1 a2 true)) else (ancepslaw04_PatternLattice.j0 k a0 a1 a2 true))) else (ancepslaw04_PatternLattice.j0 k a0 a1 a2 true)) = some r := H
        have A9 := Aside0.mk A90
        clear A90
        by_cases c10 : t220 = 0
        · rw [if_pos c10] at H
          have c10b0 : (t220 == 0) = true := beq_iff_eq.mpr c10
          have c10b1 : (t220 != 0) = false := bne_eq_false_iff_eq.mpr c10
          clear c10
          replace H := Option.bind_eq_some_iff.mp H
          obtain ⟨t221, A110, H⟩ := H
          replace H : (if t221 = 0 then (if (a0.size : Int) = (a1.size : Int) then (ancepslaw04_PatternLattice.j0 k a0 a1 a2 ((a1.size : Int) != (a2.size : Int))) else (ancepslaw04_PatternLattice.j0 k a0 a1 a2 true)) else (ancepslaw04_PatternLattice.j0 k a0 a1 a2 true)) = some r := H
          have A11 := Aside0.mk A110
          clear A110
          by_cases c12 : t221 = 0
          · rw [if_pos c12] at H
            have c12b0 : (t221 == 0) = true := beq_iff_eq.mpr c12
            have c12b1 : (t221 != 0) = false := bne_eq_false_iff_eq.mpr c12
            clear c12
            by_cases c13 : (a0.size : Int) = (a1.size : Int)
            · rw [if_pos c13] at H
              have c13b0 : ((a0.size : Int) == (a1.size : Int)) = true := beq_iff_eq.mpr c13
              have c13b1 : ((a0.size : Int) != (a1.size : Int)) = false := bne_eq_false_iff_eq.mpr c13
              have c13b2 : (a0.size == a1.size) = true := by first | simpa using c13 | (simp at c13 ⊢; omega)
              clear c13
              have H' := Aside0.mk H
              clear H
              go_wp2_with (first | ((with_reducible refine gate_callee (f := 10) rfl ?_); refine goesL_ (some 25) rfl rfl Try.func10 (by kernel_rfl) rfl #[] rfl (by (try simp only [List.map_toArray, List.map_cons, List.map_nil]); first | done | rfl | (simp only [List.length_drop, List.length_take]; rfl)) ?_; (with_reducible refine (ancepslaw04_awake.calls k  true _ A5.out).mono ?_); rintro e w14 ⟨rfl, hb⟩; refine ⟨_, rfl, ?_⟩; have n0_ := Aside0.mk (below_step (by repeat (first | (with_reducible first | exact HB.out | apply below_alloc | apply pw_below_drewN | apply below_drew1) | exact HB.out)) hb); clear HB; have HB := n0_; clear n0_; (try clear hb); (try clear hb2); (try clear hk); (try clear hi)) | (go_at_call 20; (with_reducible refine (ancepsref04_Valid.calls k a0 t219 _ A7.out).mono ?_); rintro e w' ⟨rfl, ⟨nd, rfl⟩⟩) | (go_at_call 20; (with_reducible refine (ancepsref04_Valid.calls k a1 t220 _ A9.out).mono ?_); rintro e w' ⟨rfl, ⟨nd, rfl⟩⟩) | (go_at_call 20; (with_reducible refine (ancepsref04_Valid.calls k a2 t221 _ A11.out).mono ?_); rintro e w' ⟨rfl, ⟨nd, rfl⟩⟩))
              go_meet
              case rel => exact ⟨_, (((a1.size : Int) != (a2.size : Int))), (by first | rfl | (simp; done) | (simp [*]; done)), H', ⟨by first | omega | exact Nat.le_refl _⟩, ⟨by repeat (first | (with_reducible first | exact HB.out | apply below_alloc | apply pw_below_drewN | apply below_drew1) | exact HB.out)⟩⟩
            · rw [if_neg c13] at H
              have c13b0 : ((a0.size : Int) == (a1.size : Int)) = false := beq_eq_false_iff_ne.mpr c13
              have c13b1 : ((a0.size : Int) != (a1.size : Int)) = true := bne_iff_ne.mpr c13
              have c13b2 : (a0.size == a1.size) = false := by first | simpa using c13 | (simp at c13 ⊢; omega)
              have H' := Aside0.mk H
              clear H
              go_wp2_with (first | ((with_reducible refine gate_callee (f := 10) rfl ?_); refine goesL_ (some 25) rfl rfl Try.func10 (by kernel_rfl) rfl #[] rfl (by (try simp only [List.map_toArray, List.map_cons, List.map_nil]); first | done | rfl | (simp only [List.length_drop, List.length_take]; rfl)) ?_; (with_reducible refine (ancepslaw04_awake.calls k  true _ A5.out).mono ?_); rintro e w15 ⟨rfl, hb⟩; refine ⟨_, rfl, ?_⟩; have n0_ := Aside0.mk (below_step (by repeat (first | (with_reducible first | exact HB.out | apply below_alloc | apply pw_below_drewN | apply below_drew1) | exact HB.out)) hb); clear HB; have HB := n0_; clear n0_; (try clear hb); (try clear hb2); (try clear hk); (try clear hi)) | (go_at_call 20; (with_reducible refine (ancepsref04_Valid.calls k a0 t219 _ A7.out).mono ?_); rintro e w' ⟨rfl, ⟨nd, rfl⟩⟩) | (go_at_call 20; (with_reducible refine (ancepsref04_Valid.calls k a1 t220 _ A9.out).mono ?_); rintro e w' ⟨rfl, ⟨nd, rfl⟩⟩) | (go_at_call 20; (with_reducible refine (ancepsref04_Valid.calls k a2 t221 _ A11.out).mono ?_); rintro e w' ⟨rfl, ⟨nd, rfl⟩⟩))
              go_meet
              case rel => exact ⟨_, (true), (by first | rfl | (simp; done) | (simp [*]; done)), H', ⟨by first | omega | exact Nat.le_refl _⟩, ⟨by repeat (first | (with_reducible first | exact HB.out | apply below_alloc | apply pw_below_drewN | apply below_drew1) | exact HB.out)⟩⟩
          · rw [if_neg c12] at H
            have c12b0 : (t221 == 0) = false := beq_eq_false_iff_ne.mpr c12
            have c12b1 : (t221 != 0) = true := bne_iff_ne.mpr c12
            have H' := Aside0.mk H
            clear H
            go_wp2_with (first | ((with_reducible refine gate_callee (f := 10) rfl ?_); refine goesL_ (some 25) rfl rfl Try.func10 (by kernel_rfl) rfl #[] rfl (by (try simp only [List.map_toArray, List.map_cons, List.map_nil]); first | done | rfl | (simp only [List.length_drop, List.length_take]; rfl)) ?_; (with_reducible refine (ancepslaw04_awake.calls k  true _ A5.out).mono ?_); rintro e w16 ⟨rfl, hb⟩; refine ⟨_, rfl, ?_⟩; have n0_ := Aside0.mk (below_step (by repeat (first | (with_reducible first | exact HB.out | apply below_alloc | apply pw_below_drewN | apply below_drew1) | exact HB.out)) hb); clear HB; have HB := n0_; clear n0_; (try clear hb); (try clear hb2); (try clear hk); (try clear hi)) | (go_at_call 20; (with_reducible refine (ancepsref04_Valid.calls k a0 t219 _ A7.out).mono ?_); rintro e w' ⟨rfl, ⟨nd, rfl⟩⟩) | (go_at_call 20; (with_reducible refine (ancepsref04_Valid.calls k a1 t220 _ A9.out).mono ?_); rintro e w' ⟨rfl, ⟨nd, rfl⟩⟩) | (go_at_call 20; (with_reducible refine (ancepsref04_Valid.calls k a2 t221 _ A11.out).mono ?_); rintro e w' ⟨rfl, ⟨nd, rfl⟩⟩))
            go_meet
            case rel => exact ⟨_, (true), (by first | rfl | (simp; done) | (simp [*]; done)), H', ⟨by first | omega | exact Nat.le_refl _⟩, ⟨by repeat (first | (with_reducible first | exact HB.out | apply below_alloc | apply pw_below_drewN | apply below_drew1) | exact HB.out)⟩⟩
        · rw [if_neg c10] at H
          have c10b0 : (t220 == 0) = false := beq_eq_false_iff_ne.mpr c10
          have c10b1 : (t220 != 0) = true := bne_iff_ne.mpr c10
          have H' := Aside0.mk H
          clear H
          go_wp2_with (first | ((with_reducible refine gate_callee (f := 10) rfl ?_); refine goesL_ (some 25) rfl rfl Try.func10 (by kernel_rfl) rfl #[] rfl (by (try simp only [List.map_toArray, List.map_cons, List.map_nil]); first | done | rfl | (simp only [List.length_drop, List.length_take]; rfl)) ?_; (with_reducible refine (ancepslaw04_awake.calls k  true _ A5.out).mono ?_); rintro e w17 ⟨rfl, hb⟩; refine ⟨_, rfl, ?_⟩; have n0_ := Aside0.mk (below_step (by repeat (first | (with_reducible first | exact HB.out | apply below_alloc | apply pw_below_drewN | apply below_drew1) | exact HB.out)) hb); clear HB; have HB := n0_; clear n0_; (try clear hb); (try clear hb2); (try clear hk); (try clear hi)) | (go_at_call 20; (with_reducible refine (ancepsref04_Valid.calls k a0 t219 _ A7.out).mono ?_); rintro e w' ⟨rfl, ⟨nd, rfl⟩⟩) | (go_at_call 20; (with_reducible refine (ancepsref04_Valid.calls k a1 t220 _ A9.out).mono ?_); rintro e w' ⟨rfl, ⟨nd, rfl⟩⟩))
          go_meet
          case rel => exact ⟨_, (true), (by first | rfl | (simp; done) | (simp [*]; done)), H', ⟨by first | omega | exact Nat.le_refl _⟩, ⟨by repeat (first | (with_reducible first | exact HB.out | apply below_alloc | apply pw_below_drewN | apply below_drew1) | exact HB.out)⟩⟩
      · rw [if_neg c8] at H
        have c8b0 : (t219 == 0) = false := beq_eq_false_iff_ne.mpr c8
        have c8b1 : (t219 != 0) = true := bne_iff_ne.mpr c8
        (first | rw [c8b0] | (simp only [i64_w, i32_w]; rw [c8b0]) | skip)
        have H' := Aside0.mk H
        clear H
        go_wp2_with (first | ((with_reducible refine gate_callee (f := 10) rfl ?_); refine goesL_ (some 25) rfl rfl Try.func10 (by kernel_rfl) rfl #[] rfl (by (try simp only [List.map_toArray, List.map_cons, List.map_nil]); first | done | rfl | (simp only [List.length_drop, List.length_take]; rfl)) ?_; (with_reducible refine (ancepslaw04_awake.calls k  true _ A5.out).mono ?_); rintro e w18 ⟨rfl, hb⟩; refine ⟨_, rfl, ?_⟩; have n0_ := Aside0.mk (below_step (by repeat (first | (with_reducible first | exact HB.out | apply below_alloc | apply pw_below_drewN | apply below_drew1) | exact HB.out)) hb); clear HB; have HB := n0_; clear n0_; (try clear hb); (try clear hb2); (try clear hk); (try clear hi)) | (go_at_call 20; (with_reducible refine (ancepsref04_Valid.calls k a0 t219 _ A7.out).mono ?_); rintro e w' ⟨rfl, ⟨nd, rfl⟩⟩))
        go_meet
        case rel => exact ⟨_, (true), (by first | rfl | (simp; done) | (simp [*]; done)), H', ⟨by first | omega | exact Nat.le_refl _⟩, ⟨by repeat (first | (with_reducible first | exact HB.out | apply below_alloc | apply pw_below_drewN | apply below_drew1) | exact HB.out)⟩⟩
    · replace c6 := Bool.eq_false_iff.mpr c6
      subst c6
      have H1 : (ancepslaw04_PatternLattice.j0 k a0 a1 a2 true) = some r := by rw [if_neg (show ¬ (false = true) by decide)] at H; exact H
      clear H
      have H := H1
      clear H1
      have H' := Aside0.mk H
      clear H
      go_wp2_with (first | ((with_reducible refine gate_callee (f := 10) rfl ?_); refine goesL_ (some 25) rfl rfl Try.func10 (by kernel_rfl) rfl #[] rfl (by (try simp only [List.map_toArray, List.map_cons, List.map_nil]); first | done | rfl | (simp only [List.length_drop, List.length_take]; rfl)) ?_; (with_reducible refine (ancepslaw04_awake.calls k  false _ A5.out).mono ?_); rintro e w19 ⟨rfl, hb⟩; refine ⟨_, rfl, ?_⟩; have n0_ := Aside0.mk (below_step (by repeat (first | (with_reducible first | exact HB.out | apply below_alloc | apply pw_below_drewN | apply below_drew1) | exact HB.out)) hb); clear HB; have HB := n0_; clear n0_; (try clear hb); (try clear hb2); (try clear hk); (try clear hi)))
      go_meet
      case rel => exact ⟨_, (true), (by first | rfl | (simp; done) | (simp [*]; done)), H', ⟨by first | omega | exact Nat.le_refl _⟩, ⟨by repeat (first | (with_reducible first | exact HB.out | apply below_alloc | apply pw_below_drewN | apply below_drew1) | exact HB.out)⟩⟩
  case rest =>
    clear HC4
    try clear c1
    try clear p2
    try clear c5
    try clear c6
    try clear c8
    try clear c8b0
    try clear c8b1
    try clear c10
    try clear c10b0
    try clear c10b1
    try clear c12
    try clear c12b0
    try clear c12b1
    try clear c13
    try clear c13b0
    try clear c13b1
    try clear c13b2
    obtain ⟨kq, x55_3, rfl, HA, HJ3, HB⟩ := hcut
    cases kq with
    | zero => exact absurd HA.out (by simp [ancepslaw04_PatternLattice.j0])
    | succ kj3 =>
      have H := HA.out
      clear HA
      simp only [ancepslaw04_PatternLattice.j0] at H
      by_cases c20 : x55_3 = true
      · subst c20
        have H1 : ((ancepslaw04_awake.f kj3).bind fun t222 => (some t222)) = some r := by rw [if_pos rfl] at H; exact H
        clear H
        have H := H1
        clear H1
        replace H := Option.bind_eq_some_iff.mp H
        obtain ⟨t222, A210, H⟩ := H
        replace H : (some t222) = some r := H
        have A21 := Aside0.mk A210
        clear A210
        obtain rfl := Option.some.inj H
        go_wp2_with (first | ((with_reducible refine gate_callee (f := 10) rfl ?_); refine goesL_ (some 56) rfl rfl Try.func10 (by kernel_rfl) rfl #[] rfl (by (try simp only [List.map_toArray, List.map_cons, List.map_nil]); first | done | rfl | (simp only [List.length_drop, List.length_take]; rfl)) ?_; (with_reducible refine (ancepslaw04_awake.calls kj3  t222 _ A21.out).mono ?_); rintro e w22 ⟨rfl, hb⟩; refine ⟨_, rfl, ?_⟩; have n0_ := Aside0.mk (below_step (by repeat (first | (with_reducible first | exact HB.out | apply below_alloc | apply pw_below_drewN | apply below_drew1) | exact HB.out)) hb); clear HB; have HB := n0_; clear n0_; (try clear hb); (try clear hb2); (try clear hk); (try clear hi)))
        go_ret
        exact ⟨by first | rfl | (simp [errW_none, errW_some] <;> rfl) | (simp [*, errW_none, errW_some] <;> rfl), by repeat (first | (with_reducible first | exact HB.out | apply below_alloc | apply pw_below_drewN | apply below_drew1) | exact HB.out)⟩
      · replace c20 := Bool.eq_false_iff.mpr c20
        subst c20
        have H1 : ((pattern_Join.f kj3 a0 a1).bind fun bt223 => ((pattern_Join.f kj3 a1 a0).bind fun bt225 => ((pattern_Meet.f kj3 a0 bt223.1).bind fun bt227 => (if bt223.2 = 0 then (if bt225.2 = 0 then (if bt223.1.toList = bt225.1.toList then (if bt227.2 = 0 then (ancepslaw04_PatternLattice.j1 kj3 a0 a1 a2 bt223.1 (bt227.1.toList != a0.toList)) else (ancepslaw04_PatternLattice.j1 kj3 a0 a1 a2 bt223.1 true)) else (ancepslaw04_PatternLattice.j1 kj3 a0 a1 a2 bt223.1 true)) else (ancepslaw04_PatternLattice.j1 kj3 a0 a1 a2 bt223.1 true)) else (ancepslaw04_PatternLattice.j1 kj3 a0 a1 a2 bt223.1 true))))) = some r := by rw [if_neg (show ¬ (false = true) by decide)] at H; exact H
        clear H
        have H := H1
        clear H1
        replace H := Option.bind_eq_some_iff.mp H
        obtain ⟨⟨t223, t224⟩, A230, H⟩ := H
        replace H : ((pattern_Join.f kj3 a1 a0).bind fun bt225 => ((pattern_Meet.f kj3 a0 t223).bind fun bt227 => (if t224 = 0 then (if bt225.2 = 0 then (if t223.toList = bt225.1.toList then (if bt227.2 = 0 then (ancepslaw04_PatternLattice.j1 kj3 a0 a1 a2 t223 (bt227.1.toList != a0.toList)) else (ancepslaw04_PatternLattice.j1 kj3 a0 a1 a2 t223 true)) else (ancepslaw04_PatternLattice.j1 kj3 a0 a1 a2 t223 true)) else (ancepslaw04_PatternLattice.j1 kj3 a0 a1 a2 t223 true)) else (ancepslaw04_PatternLattice.j1 kj3 a0 a1 a2 t223 true)))) = some r := H
        have A23 := Aside0.mk A230
        clear A230
        replace H := Option.bind_eq_some_iff.mp H
        obtain ⟨⟨t225, t226⟩, A240, H⟩ := H
        replace H : ((pattern_Meet.f kj3 a0 t223).bind fun bt227 => (if t224 = 0 then (if t226 = 0 then (if t223.toList = t225.toList then (if bt227.2 = 0 then (ancepslaw04_PatternLattice.j1 kj3 a0 a1 a2 t223 (bt227.1.toList != a0.toList)) else (ancepslaw04_PatternLattice.j1 kj3 a0 a1 a2 t223 true)) else (ancepslaw04_PatternLattice.j1 kj3 a0 a1 a2 t223 true)) else (ancepslaw04_PatternLattice.j1 kj3 a0 a1 a2 t223 true)) else (ancepslaw04_PatternLattice.j1 kj3 a0 a1 a2 t223 true))) = some r := H
        have A24 := Aside0.mk A240
        clear A240
        replace H := Option.bind_eq_some_iff.mp H
        obtain ⟨⟨t227, t228⟩, A250, H⟩ := H
        replace H : (if t224 = 0 then (if t226 = 0 then (if t223.toList = t225.toList then (if t228 = 0 then (ancepslaw04_PatternLattice.j1 kj3 a0 a1 a2 t223 (t227.toList != a0.toList)) else (ancepslaw04_PatternLattice.j1 kj3 a0 a1 a2 t223 true)) else (ancepslaw04_PatternLattice.j1 kj3 a0 a1 a2 t223 true)) else (ancepslaw04_PatternLattice.j1 kj3 a0 a1 a2 t223 true)) else (ancepslaw04_PatternLattice.j1 kj3 a0 a1 a2 t223 true)) = some r := H
        have A25 := Aside0.mk A250
        clear A250
        have HC26 := Aside0.mk H
        clear H
        go_upto_region 6 with (first | ((with_reducible refine gate_callee (f := 13) rfl ?_); refine goesL_ (some 60) rfl rfl Try.func13 (by kernel_rfl) rfl #[.string a0, .string a1] rfl (by (try simp only [List.map_toArray, List.map_cons, List.map_nil]); first | done | rfl | (simp only [List.length_drop, List.length_take]; rfl)) ?_; (with_reducible refine (pattern_Join.calls kj3 a0 a1 t223 t224 _ A23.out).mono ?_); rintro e w27 ⟨rfl, hb⟩; refine ⟨_, rfl, ?_⟩; have n0_ := Aside0.mk (below_step (by repeat (first | (with_reducible first | exact HB.out | apply below_alloc | apply pw_below_drewN | apply below_drew1) | exact HB.out)) hb); clear HB; have HB := n0_; clear n0_; (try clear hb); (try clear hb2); (try clear hk); (try clear hi)) | ((with_reducible refine gate_callee (f := 13) rfl ?_); refine goesL_ (some 66) rfl rfl Try.func13 (by kernel_rfl) rfl #[.string a1, .string a0] rfl (by (try simp only [List.map_toArray, List.map_cons, List.map_nil]); first | done | rfl | (simp only [List.length_drop, List.length_take]; rfl)) ?_; (with_reducible refine (pattern_Join.calls kj3 a1 a0 t225 t226 _ A24.out).mono ?_); rintro e w28 ⟨rfl, hb⟩; refine ⟨_, rfl, ?_⟩; have n0_ := Aside0.mk (below_step (by repeat (first | (with_reducible first | exact HB.out | apply below_alloc | apply pw_below_drewN | apply below_drew1) | exact HB.out)) hb); clear HB; have HB := n0_; clear n0_; (try clear hb); (try clear hb2); (try clear hk); (try clear hi)) | ((with_reducible refine gate_callee (f := 11) rfl ?_); refine goesL_ (some 72) rfl rfl Try.func11 (by kernel_rfl) rfl #[.string a0, .string t223] rfl (by (try simp only [List.map_toArray, List.map_cons, List.map_nil]); first | done | rfl | (simp only [List.length_drop, List.length_take]; rfl)) ?_; (with_reducible refine (pattern_Meet.calls kj3 a0 t223 t227 t228 _ A25.out).mono ?_); rintro e w29 ⟨rfl, hb⟩; refine ⟨_, rfl, ?_⟩; have n0_ := Aside0.mk (below_step (by repeat (first | (with_reducible first | exact HB.out | apply below_alloc | apply pw_below_drewN | apply below_drew1) | exact HB.out)) hb); clear HB; have HB := n0_; clear n0_; (try clear hb); (try clear hb2); (try clear hk); (try clear hi)))
        (try simp only [Act.put, List.setIfInBounds_toArray, List.set_cons_zero, List.set_cons_succ])
        go_cut [94] (fun v94 wc => ∃ (kq : Nat) (x94_25 : Bool), v94 = .bool x94_25 ∧ Aside0 (ancepslaw04_PatternLattice.j1 kq a0 a1 a2 t223 x94_25 = some r) ∧ Aside0 (kq ≤ kj3) ∧ Aside0 (Below w.heap.size w wc))
        case first =>
          have H := HC26.out
          clear HC26
          by_cases c30 : t224 = 0
          · rw [if_pos c30] at H
            have c30b0 : (t224 == 0) = true := beq_iff_eq.mpr c30
            have c30b1 : (t224 != 0) = false := bne_eq_false_iff_eq.mpr c30
            clear c30
            (first | rw [c30b0] | (simp only [i64_w, i32_w]; rw [c30b0]) | skip)
            by_cases c31 : t226 = 0
            · rw [if_pos c31] at H
              have c31b0 : (t226 == 0) = true := beq_iff_eq.mpr c31
              have c31b1 : (t226 != 0) = false := bne_eq_false_iff_eq.mpr c31
              clear c31
              by_cases c32 : t223.toList = t225.toList
              · rw [if_pos c32] at H
                have c32b0 : (t223.toList == t225.toList) = true := beq_iff_eq.mpr c32
                have c32b1 : (t223.toList != t225.toList) = false := bne_eq_false_iff_eq.mpr c32
                clear c32
                by_cases c33 : t228 = 0
                · rw [if_pos c33] at H
                  have c33b0 : (t228 == 0) = true := beq_iff_eq.mpr c33
                  have c33b1 : (t228 != 0) = false := bne_eq_false_iff_eq.mpr c33
                  clear c33
                  have H' := Aside0.mk H
                  clear H
                  go_wp2
                  go_meet
                  case rel => exact ⟨_, ((t227.toList != a0.toList)), (by first | rfl | (simp; done) | (simp [*]; done)), H', ⟨by have := HJ3.out; first | omega | exact Nat.le_refl _⟩, ⟨by repeat (first | (with_reducible first | exact HB.out | apply below_alloc | apply pw_below_drewN | apply below_drew1) | exact HB.out)⟩⟩
                · rw [if_neg c33] at H
                  have c33b0 : (t228 == 0) = false := beq_eq_false_iff_ne.mpr c33
                  have c33b1 : (t228 != 0) = true := bne_iff_ne.mpr c33
                  have H' := Aside0.mk H
                  clear H
                  go_wp2
                  go_meet
                  case rel => exact ⟨_, (true), (by first | rfl | (simp; done) | (simp [*]; done)), H', ⟨by have := HJ3.out; first | omega | exact Nat.le_refl _⟩, ⟨by repeat (first | (with_reducible first | exact HB.out | apply below_alloc | apply pw_below_drewN | apply below_drew1) | exact HB.out)⟩⟩
              · rw [if_neg c32] at H
                have c32b0 : (t223.toList == t225.toList) = false := beq_eq_false_iff_ne.mpr c32
                have c32b1 : (t223.toList != t225.toList) = true := bne_iff_ne.mpr c32
                have H' := Aside0.mk H
                clear H
                go_wp2
                go_meet
                case rel => exact ⟨_, (true), (by first | rfl | (simp; done) | (simp [*]; done)), H', ⟨by have := HJ3.out; first | omega | exact Nat.le_refl _⟩, ⟨by repeat (first | (with_reducible first | exact HB.out | apply below_alloc | apply pw_below_drewN | apply below_drew1) | exact HB.out)⟩⟩
            · rw [if_neg c31] at H
              have c31b0 : (t226 == 0) = false := beq_eq_false_iff_ne.mpr c31
              have c31b1 : (t226 != 0) = true := bne_iff_ne.mpr c31
              have H' := Aside0.mk H
              clear H
              go_wp2
              go_meet
              case rel => exact ⟨_, (true), (by first | rfl | (simp; done) | (simp [*]; done)), H', ⟨by have := HJ3.out; first | omega | exact Nat.le_refl _⟩, ⟨by repeat (first | (with_reducible first | exact HB.out | apply below_alloc | apply pw_below_drewN | apply below_drew1) | exact HB.out)⟩⟩
          · rw [if_neg c30] at H
            have c30b0 : (t224 == 0) = false := beq_eq_false_iff_ne.mpr c30
            have c30b1 : (t224 != 0) = true := bne_iff_ne.mpr c30
            (first | rw [c30b0] | (simp only [i64_w, i32_w]; rw [c30b0]) | skip)
            have H' := Aside0.mk H
            clear H
            go_wp2
            go_meet
            case rel => exact ⟨_, (true), (by first | rfl | (simp; done) | (simp [*]; done)), H', ⟨by have := HJ3.out; first | omega | exact Nat.le_refl _⟩, ⟨by repeat (first | (with_reducible first | exact HB.out | apply below_alloc | apply pw_below_drewN | apply below_drew1) | exact HB.out)⟩⟩
        case rest =>
          clear HC26
          try clear c1
          try clear c2
          try clear p2
          try clear c3
          try clear c5
          try clear c6
          try clear c8
          try clear c8b0
          try clear c8b1
          try clear c10
          try clear c10b0
          try clear c10b1
          try clear c11
          try clear c12
          try clear c12b0
          try clear c12b1
          try clear c13
          try clear c13b0
          try clear c13b1
          try clear c13b2
          try clear c20
          try clear c30
          try clear c30b0
          try clear c30b1
          try clear c31
          try clear c31b0
          try clear c31b1
          try clear c32
          try clear c32b0
          try clear c32b1
          try clear c33
          try clear c33b0
          try clear c33b1
          try clear p2
          obtain ⟨kq, x94_25, rfl, HA, HJ25, HB⟩ := hcut
          cases kq with
          | zero => exact absurd HA.out (by simp [ancepslaw04_PatternLattice.j1])
          | succ kj25 =>
            have H := HA.out
            clear HA
            simp only [ancepslaw04_PatternLattice.j1] at H
            by_cases c34 : x94_25 = true
            · subst c34
              have H1 : (some false) = some r := by rw [if_pos rfl] at H; exact H
              clear H
              have H := H1
              clear H1
              obtain rfl := Option.some.inj H
              go_wp2
              go_ret
              exact ⟨by first | rfl | (simp [errW_none, errW_some] <;> rfl) | (simp [*, errW_none, errW_some] <;> rfl), by repeat (first | (with_reducible first | exact HB.out | apply below_alloc | apply pw_below_drewN | apply below_drew1) | exact HB.out)⟩
            · replace c34 := Bool.eq_false_iff.mpr c34
              subst c34
              have H1 : ((pattern_Join.f kj25 t223 a2).bind fun bt229 => ((pattern_Join.f kj25 a1 a2).bind fun bt231 => ((pattern_Join.f kj25 a0 bt231.1).bind fun bt233 => (if bt229.2 = 0 then (if bt233.2 = 0 then (ancepslaw04_PatternLattice.j2 kj25 a0 a1 (bt229.1.toList != bt233.1.toList)) else (ancepslaw04_PatternLattice.j2 kj25 a0 a1 true)) else (ancepslaw04_PatternLattice.j2 kj25 a0 a1 true))))) = some r := by rw [if_neg (show ¬ (false = true) by decide)] at H; exact H
              clear H
              have H := H1
              clear H1
              replace H := Option.bind_eq_some_iff.mp H
              obtain ⟨⟨t229, t230⟩, A350, H⟩ := H
              replace H : ((pattern_Join.f kj25 a1 a2).bind fun bt231 => ((pattern_Join.f kj25 a0 bt231.1).bind fun bt233 => (if t230 = 0 then (if bt233.2 = 0 then (ancepslaw04_PatternLattice.j2 kj25 a0 a1 (t229.toList != bt233.1.toList)) else (ancepslaw04_PatternLattice.j2 kj25 a0 a1 true)) else (ancepslaw04_PatternLattice.j2 kj25 a0 a1 true)))) = some r := H
              have A35 := Aside0.mk A350
              clear A350
              replace H := Option.bind_eq_some_iff.mp H
              obtain ⟨⟨t231, t232⟩, A360, H⟩ := H
              replace H : ((pattern_Join.f kj25 a0 t231).bind fun bt233 => (if t230 = 0 then (if bt233.2 = 0 then (ancepslaw04_PatternLattice.j2 kj25 a0 a1 (t229.toList != bt233.1.toList)) else (ancepslaw04_PatternLattice.j2 kj25 a0 a1 true)) else (ancepslaw04_PatternLattice.j2 kj25 a0 a1 true))) = some r := H
              have A36 := Aside0.mk A360
              clear A360
              replace H := Option.bind_eq_some_iff.mp H
              obtain ⟨⟨t233, t234⟩, A370, H⟩ := H
              replace H : (if t230 = 0 then (if t234 = 0 then (ancepslaw04_PatternLattice.j2 kj25 a0 a1 (t229.toList != t233.toList)) else (ancepslaw04_PatternLattice.j2 kj25 a0 a1 true)) else (ancepslaw04_PatternLattice.j2 kj25 a0 a1 true)) = some r := H
              have A37 := Aside0.mk A370
              clear A370
              have HC38 := Aside0.mk H
              clear H
              go_upto_region 11 with (first | ((with_reducible refine gate_callee (f := 13) rfl ?_); refine goesL_ (some 98) rfl rfl Try.func13 (by kernel_rfl) rfl #[.string t223, .string a2] rfl (by (try simp only [List.map_toArray, List.map_cons, List.map_nil]); first | done | rfl | (simp only [List.length_drop, List.length_take]; rfl)) ?_; (with_reducible refine (pattern_Join.calls kj25 t223 a2 t229 t230 _ A35.out).mono ?_); rintro e w39 ⟨rfl, hb⟩; refine ⟨_, rfl, ?_⟩; have n0_ := Aside0.mk (below_step (by repeat (first | (with_reducible first | exact HB.out | apply below_alloc | apply pw_below_drewN | apply below_drew1) | exact HB.out)) hb); clear HB; have HB := n0_; clear n0_; (try clear hb); (try clear hb2); (try clear hk); (try clear hi)) | ((with_reducible refine gate_callee (f := 13) rfl ?_); refine goesL_ (some 104) rfl rfl Try.func13 (by kernel_rfl) rfl #[.string a1, .string a2] rfl (by (try simp only [List.map_toArray, List.map_cons, List.map_nil]); first | done | rfl | (simp only [List.length_drop, List.length_take]; rfl)) ?_; (with_reducible refine (pattern_Join.calls kj25 a1 a2 t231 t232 _ A36.out).mono ?_); rintro e w40 ⟨rfl, hb⟩; refine ⟨_, rfl, ?_⟩; have n0_ := Aside0.mk (below_step (by repeat (first | (with_reducible first | exact HB.out | apply below_alloc | apply pw_below_drewN | apply below_drew1) | exact HB.out)) hb); clear HB; have HB := n0_; clear n0_; (try clear hb); (try clear hb2); (try clear hk); (try clear hi)) | ((with_reducible refine gate_callee (f := 13) rfl ?_); refine goesL_ (some 110) rfl rfl Try.func13 (by kernel_rfl) rfl #[.string a0, .string t231] rfl (by (try simp only [List.map_toArray, List.map_cons, List.map_nil]); first | done | rfl | (simp only [List.length_drop, List.length_take]; rfl)) ?_; (with_reducible refine (pattern_Join.calls kj25 a0 t231 t233 t234 _ A37.out).mono ?_); rintro e w41 ⟨rfl, hb⟩; refine ⟨_, rfl, ?_⟩; have n0_ := Aside0.mk (below_step (by repeat (first | (with_reducible first | exact HB.out | apply below_alloc | apply pw_below_drewN | apply below_drew1) | exact HB.out)) hb); clear HB; have HB := n0_; clear n0_; (try clear hb); (try clear hb2); (try clear hk); (try clear hi)))
              (try simp only [Act.put, List.setIfInBounds_toArray, List.set_cons_zero, List.set_cons_succ])
              go_cut [123] (fun v123 wc => ∃ (kq : Nat) (x123_37 : Bool), v123 = .bool x123_37 ∧ Aside0 (ancepslaw04_PatternLattice.j2 kq a0 a1 x123_37 = some r) ∧ Aside0 (kq ≤ kj25) ∧ Aside0 (Below w.heap.size w wc))
              case first =>
                have H := HC38.out
                clear HC38
                by_cases c42 : t230 = 0
                · rw [if_pos c42] at H
                  have c42b0 : (t230 == 0) = true := beq_iff_eq.mpr c42
                  have c42b1 : (t230 != 0) = false := bne_eq_false_iff_eq.mpr c42
                  clear c42
                  (first | rw [c42b0] | (simp only [i64_w, i32_w]; rw [c42b0]) | skip)
                  by_cases c43 : t234 = 0
                  · rw [if_pos c43] at H
                    have c43b0 : (t234 == 0) = true := beq_iff_eq.mpr c43
                    have c43b1 : (t234 != 0) = false := bne_eq_false_iff_eq.mpr c43
                    clear c43
                    have H' := Aside0.mk H
                    clear H
                    go_wp2
                    go_meet
                    case rel => exact ⟨_, ((t229.toList != t233.toList)), (by first | rfl | (simp; done) | (simp [*]; done)), H', ⟨by have := HJ3.out; have := HJ25.out; first | omega | exact Nat.le_refl _⟩, ⟨by repeat (first | (with_reducible first | exact HB.out | apply below_alloc | apply pw_below_drewN | apply below_drew1) | exact HB.out)⟩⟩
                  · rw [if_neg c43] at H
                    have c43b0 : (t234 == 0) = false := beq_eq_false_iff_ne.mpr c43
                    have c43b1 : (t234 != 0) = true := bne_iff_ne.mpr c43
                    have H' := Aside0.mk H
                    clear H
                    go_wp2
                    go_meet
                    case rel => exact ⟨_, (true), (by first | rfl | (simp; done) | (simp [*]; done)), H', ⟨by have := HJ3.out; have := HJ25.out; first | omega | exact Nat.le_refl _⟩, ⟨by repeat (first | (with_reducible first | exact HB.out | apply below_alloc | apply pw_below_drewN | apply below_drew1) | exact HB.out)⟩⟩
                · rw [if_neg c42] at H
                  have c42b0 : (t230 == 0) = false := beq_eq_false_iff_ne.mpr c42
                  have c42b1 : (t230 != 0) = true := bne_iff_ne.mpr c42
                  (first | rw [c42b0] | (simp only [i64_w, i32_w]; rw [c42b0]) | skip)
                  have H' := Aside0.mk H
                  clear H
                  go_wp2
                  go_meet
                  case rel => exact ⟨_, (true), (by first | rfl | (simp; done) | (simp [*]; done)), H', ⟨by have := HJ3.out; have := HJ25.out; first | omega | exact Nat.le_refl _⟩, ⟨by repeat (first | (with_reducible first | exact HB.out | apply below_alloc | apply pw_below_drewN | apply below_drew1) | exact HB.out)⟩⟩
              case rest =>
                clear HC38
                try clear c1
                try clear c2
                try clear p2
                try clear c3
                try clear c4
                try clear c5
                try clear c6
                try clear c8
                try clear c8b0
                try clear c8b1
                try clear c10
                try clear c10b0
                try clear c10b1
                try clear c11
                try clear c12
                try clear c12b0
                try clear c12b1
                try clear c13
                try clear c13b0
                try clear c13b1
                try clear c13b2
                try clear c20
                try clear c30
                try clear c30b0
                try clear c30b1
                try clear c31
                try clear c31b0
                try clear c31b1
                try clear c32
                try clear c32b0
                try clear c32b1
                try clear c33
                try clear c33b0
                try clear c33b1
                try clear c34
                try clear c42
                try clear c42b0
                try clear c42b1
                try clear c43
                try clear c43b0
                try clear c43b1
                try clear p2
                obtain ⟨kq, x123_37, rfl, HA, HJ37, HB⟩ := hcut
                cases kq with
                | zero => exact absurd HA.out (by simp [ancepslaw04_PatternLattice.j2])
                | succ kj37 =>
                  have H := HA.out
                  clear HA
                  simp only [ancepslaw04_PatternLattice.j2] at H
                  by_cases c44 : x123_37 = true
                  · subst c44
                    have H1 : (some false) = some r := by rw [if_pos rfl] at H; exact H
                    clear H
                    have H := H1
                    clear H1
                    obtain rfl := Option.some.inj H
                    go_wp2
                    go_ret
                    exact ⟨by first | rfl | (simp [errW_none, errW_some] <;> rfl) | (simp [*, errW_none, errW_some] <;> rfl), by repeat (first | (with_reducible first | exact HB.out | apply below_alloc | apply pw_below_drewN | apply below_drew1) | exact HB.out)⟩
                  · replace c44 := Bool.eq_false_iff.mpr c44
                    subst c44
                    have H1 : ((pattern_Meet.f kj37 a0 a1).bind fun bt235 => ((pattern_Meet.f kj37 a1 a0).bind fun bt237 => (if bt235.1.toList = bt237.1.toList then (ancepslaw04_PatternLattice.j3 kj37 a0 a1 bt235.1 bt235.2 (bt235.2 != bt237.2)) else (ancepslaw04_PatternLattice.j3 kj37 a0 a1 bt235.1 bt235.2 true)))) = some r := by rw [if_neg (show ¬ (false = true) by decide)] at H; exact H
                    clear H
                    have H := H1
                    clear H1
                    replace H := Option.bind_eq_some_iff.mp H
                    obtain ⟨⟨t235, t236⟩, A450, H⟩ := H
                    replace H : ((pattern_Meet.f kj37 a1 a0).bind fun bt237 => (if t235.toList = bt237.1.toList then (ancepslaw04_PatternLattice.j3 kj37 a0 a1 t235 t236 (t236 != bt237.2)) else (ancepslaw04_PatternLattice.j3 kj37 a0 a1 t235 t236 true))) = some r := H
                    have A45 := Aside0.mk A450
                    clear A450
                    replace H := Option.bind_eq_some_iff.mp H
                    obtain ⟨⟨t237, t238⟩, A460, H⟩ := H
                    replace H : (if t235.toList = t237.toList then (ancepslaw04_PatternLattice.j3 kj37 a0 a1 t235 t236 (t236 != t238)) else (ancepslaw04_PatternLattice.j3 kj37 a0 a1 t235 t236 true)) = some r := H
                    have A46 := Aside0.mk A460
                    clear A460
                    have HC47 := Aside0.mk H
                    clear H
                    go_upto_region 15 with (first | ((with_reducible refine gate_callee (f := 11) rfl ?_); refine goesL_ (some 127) rfl rfl Try.func11 (by kernel_rfl) rfl #[.string a0, .string a1] rfl (by (try simp only [List.map_toArray, List.map_cons, List.map_nil]); first | done | rfl | (simp only [List.length_drop, List.length_take]; rfl)) ?_; (with_reducible refine (pattern_Meet.calls kj37 a0 a1 t235 t236 _ A45.out).mono ?_); rintro e w48 ⟨rfl, hb⟩; refine ⟨_, rfl, ?_⟩; have n0_ := Aside0.mk (below_step (by repeat (first | (with_reducible first | exact HB.out | apply below_alloc | apply pw_below_drewN | apply below_drew1) | exact HB.out)) hb); clear HB; have HB := n0_; clear n0_; (try clear hb); (try clear hb2); (try clear hk); (try clear hi)) | ((with_reducible refine gate_callee (f := 11) rfl ?_); refine goesL_ (some 133) rfl rfl Try.func11 (by kernel_rfl) rfl #[.string a1, .string a0] rfl (by (try simp only [List.map_toArray, List.map_cons, List.map_nil]); first | done | rfl | (simp only [List.length_drop, List.length_take]; rfl)) ?_; (with_reducible refine (pattern_Meet.calls kj37 a1 a0 t237 t238 _ A46.out).mono ?_); rintro e w49 ⟨rfl, hb⟩; refine ⟨_, rfl, ?_⟩; have n0_ := Aside0.mk (below_step (by repeat (first | (with_reducible first | exact HB.out | apply below_alloc | apply pw_below_drewN | apply below_drew1) | exact HB.out)) hb); clear HB; have HB := n0_; clear n0_; (try clear hb); (try clear hb2); (try clear hk); (try clear hi)))
                    (try simp only [Act.put, List.setIfInBounds_toArray, List.set_cons_zero, List.set_cons_succ])
                    go_cut [143] (fun v143 wc => ∃ (kq : Nat) (x143_46 : Bool), v143 = .bool x143_46 ∧ Aside0 (ancepslaw04_PatternLattice.j3 kq a0 a1 t235 t236 x143_46 = some r) ∧ Aside0 (kq ≤ kj37) ∧ Aside0 (Below w.heap.size w wc))
                    case first =>
                      have H := HC47.out
                      clear HC47
                      by_cases c50 : t235.toList = t237.toList
                      · rw [if_pos c50] at H
                        have c50b0 : (t235.toList == t237.toList) = true := beq_iff_eq.mpr c50
                        have c50b1 : (t235.toList != t237.toList) = false := bne_eq_false_iff_eq.mpr c50
                        clear c50
                        (first | rw [c50b0] | (simp only [i64_w, i32_w]; rw [c50b0]) | skip)
                        have H' := Aside0.mk H
                        clear H
                        go_wp2
                        go_meet
                        case rel => exact ⟨_, ((t236 != t238)), (by first | rfl | (simp; done) | (simp [*]; done)), H', ⟨by have := HJ3.out; have := HJ25.out; have := HJ37.out; first | omega | exact Nat.le_refl _⟩, ⟨by repeat (first | (with_reducible first | exact HB.out | apply below_alloc | apply pw_below_drewN | apply below_drew1) | exact HB.out)⟩⟩
                      · rw [if_neg c50] at H
                        have c50b0 : (t235.toList == t237.toList) = false := beq_eq_false_iff_ne.mpr c50
                        have c50b1 : (t235.toList != t237.toList) = true := bne_iff_ne.mpr c50
                        (first | rw [c50b0] | (simp only [i64_w, i32_w]; rw [c50b0]) | skip)
                        have H' := Aside0.mk H
                        clear H
                        go_wp2
                        go_meet
                        case rel => exact ⟨_, (true), (by first | rfl | (simp; done) | (simp [*]; done)), H', ⟨by have := HJ3.out; have := HJ25.out; have := HJ37.out; first | omega | exact Nat.le_refl _⟩, ⟨by repeat (first | (with_reducible first | exact HB.out | apply below_alloc | apply pw_below_drewN | apply below_drew1) | exact HB.out)⟩⟩
                    case rest =>
                      clear HC47
                      try clear c1
                      try clear c2
                      try clear p2
                      try clear c3
                      try clear c4
                      try clear c5
                      try clear c6
                      try clear c8
                      try clear c8b0
                      try clear c8b1
                      try clear c10
                      try clear c10b0
                      try clear c10b1
                      try clear c11
                      try clear c12
                      try clear c12b0
                      try clear c12b1
                      try clear c13
                      try clear c13b0
                      try clear c13b1
                      try clear c13b2
                      try clear c20
                      try clear c30
                      try clear c30b0
                      try clear c30b1
                      try clear c31
                      try clear c31b0
                      try clear c31b1
                      try clear c32
                      try clear c32b0
                      try clear c32b1
                      try clear c33
                      try clear c33b0
                      try clear c33b1
                      try clear c34
                      try clear c42
                      try clear c42b0
                      try clear c42b1
                      try clear c43
                      try clear c43b0
                      try clear c43b1
                      try clear c44
                      try clear c50
                      try clear c50b0
                      try clear c50b1
                      try clear p2
                      obtain ⟨kq, x143_46, rfl, HA, HJ46, HB⟩ := hcut
                      cases kq with
                      | zero => exact absurd HA.out (by simp [ancepslaw04_PatternLattice.j3])
                      | succ kj46 =>
                        have H := HA.out
                        clear HA
                        simp only [ancepslaw04_PatternLattice.j3] at H
                        by_cases c51 : x143_46 = true
                        · subst c51
                          have H1 : (some false) = some r := by rw [if_pos rfl] at H; exact H
                          clear H
                          have H := H1
                          clear H1
                          obtain rfl := Option.some.inj H
                          go_wp2
                          go_ret
                          exact ⟨by first | rfl | (simp [errW_none, errW_some] <;> rfl) | (simp [*, errW_none, errW_some] <;> rfl), by repeat (first | (with_reducible first | exact HB.out | apply below_alloc | apply pw_below_drewN | apply below_drew1) | exact HB.out)⟩
                        · replace c51 := Bool.eq_false_iff.mpr c51
                          subst c51
                          have H1 : (if t236 = 0 then ((pattern_Join.f kj46 a0 t235).bind fun bt239 => (if bt239.2 = 0 then (some (bt239.1.toList == a0.toList)) else (some false))) else (if t236 = 12 then ((pattern_Match.f kj46 a0 a1).bind fun t241 => (some (!t241))) else (some false))) = some r := by rw [if_neg (show ¬ (false = true) by decide)] at H; exact H
                          clear H
                          have H := H1
                          clear H1
                          by_cases c52 : t236 = 0
                          · rw [if_pos c52] at H
                            have c52b0 : (t236 == 0) = true := beq_iff_eq.mpr c52
                            have c52b1 : (t236 != 0) = false := bne_eq_false_iff_eq.mpr c52
                            clear c52
                            replace H := Option.bind_eq_some_iff.mp H
                            obtain ⟨⟨t239, t240⟩, A530, H⟩ := H
                            replace H : (if t240 = 0 then (some (t239.toList == a0.toList)) else (some false)) = some r := H
                            have A53 := Aside0.mk A530
                            clear A530
                            by_cases c54 : t240 = 0
                            · rw [if_pos c54] at H
                              have c54b0 : (t240 == 0) = true := beq_iff_eq.mpr c54
                              have c54b1 : (t240 != 0) = false := bne_eq_false_iff_eq.mpr c54
                              clear c54
                              obtain rfl := Option.some.inj H
                              go_wp2_with (first | ((with_reducible refine gate_callee (f := 13) rfl ?_); refine goesL_ (some 157) rfl rfl Try.func13 (by kernel_rfl) rfl #[.string a0, .string t235] rfl (by (try simp only [List.map_toArray, List.map_cons, List.map_nil]); first | done | rfl | (simp only [List.length_drop, List.length_take]; rfl)) ?_; (with_reducible refine (pattern_Join.calls kj46 a0 t235 t239 t240 _ A53.out).mono ?_); rintro e w55 ⟨rfl, hb⟩; refine ⟨_, rfl, ?_⟩; have n0_ := Aside0.mk (below_step (by repeat (first | (with_reducible first | exact HB.out | apply below_alloc | apply pw_below_drewN | apply below_drew1) | exact HB.out)) hb); clear HB; have HB := n0_; clear n0_; (try clear hb); (try clear hb2); (try clear hk); (try clear hi)))
                              go_ret
                              exact ⟨by first | rfl | (simp [errW_none, errW_some] <;> rfl) | (simp [*, errW_none, errW_some] <;> rfl), by repeat (first | (with_reducible first | exact HB.out | apply below_alloc | apply pw_below_drewN | apply below_drew1) | exact HB.out)⟩
                            · rw [if_neg c54] at H
                              have c54b0 : (t240 == 0) = false := beq_eq_false_iff_ne.mpr c54
                              have c54b1 : (t240 != 0) = true := bne_iff_ne.mpr c54
                              obtain rfl := Option.some.inj H
                              go_wp2_with (first | ((with_reducible refine gate_callee (f := 13) rfl ?_); refine goesL_ (some 157) rfl rfl Try.func13 (by kernel_rfl) rfl #[.string a0, .string t235] rfl (by (try simp only [List.map_toArray, List.map_cons, List.map_nil]); first | done | rfl | (simp only [List.length_drop, List.length_take]; rfl)) ?_; (with_reducible refine (pattern_Join.calls kj46 a0 t235 t239 t240 _ A53.out).mono ?_); rintro e w56 ⟨rfl, hb⟩; refine ⟨_, rfl, ?_⟩; have n0_ := Aside0.mk (below_step (by repeat (first | (with_reducible first | exact HB.out | apply below_alloc | apply pw_below_drewN | apply below_drew1) | exact HB.out)) hb); clear HB; have HB := n0_; clear n0_; (try clear hb); (try clear hb2); (try clear hk); (try clear hi)))
                              go_ret
                              exact ⟨by first | rfl | (simp [errW_none, errW_some] <;> rfl) | (simp [*, errW_none, errW_some] <;> rfl), by repeat (first | (with_reducible first | exact HB.out | apply below_alloc | apply pw_below_drewN | apply below_drew1) | exact HB.out)⟩
                          · rw [if_neg c52] at H
                            have c52b0 : (t236 == 0) = false := beq_eq_false_iff_ne.mpr c52
                            have c52b1 : (t236 != 0) = true := bne_iff_ne.mpr c52
                            by_cases c57 : t236 = 12
                            · rw [if_pos c57] at H
                              have c57b0 : (t236 == 12) = true := beq_iff_eq.mpr c57
                              have c57b1 : (t236 != 12) = false := bne_eq_false_iff_eq.mpr c57
                              clear c57
                              replace H := Option.bind_eq_some_iff.mp H
                              obtain ⟨t241, A580, H⟩ := H
                              replace H : (some (!t241)) = some r := H
                              have A58 := Aside0.mk A580
                              clear A580
                              obtain rfl := Option.some.inj H
                              go_wp2_with (first | (go_at_call 15; (with_reducible refine (pattern_Match.calls kj46 a0 a1 t241 _ A58.out).mono ?_); rintro e w59 ⟨rfl, hb⟩; have n0_ := Aside0.mk (below_step (by repeat (first | (with_reducible first | exact HB.out | apply below_alloc | apply pw_below_drewN | apply below_drew1) | exact HB.out)) hb); clear HB; have HB := n0_; clear n0_; (try clear hb); (try clear hb2); (try clear hk); (try clear hi)))
                              go_ret
                              exact ⟨by first | rfl | (simp [errW_none, errW_some] <;> rfl) | (simp [*, errW_none, errW_some] <;> rfl), by repeat (first | (with_reducible first | exact HB.out | apply below_alloc | apply pw_below_drewN | apply below_drew1) | exact HB.out)⟩
                            · rw [if_neg c57] at H
                              have c57b0 : (t236 == 12) = false := beq_eq_false_iff_ne.mpr c57
                              have c57b1 : (t236 != 12) = true := bne_iff_ne.mpr c57
                              obtain rfl := Option.some.inj H
                              go_wp2
                              go_ret
                              exact ⟨by first | rfl | (simp [errW_none, errW_some] <;> rfl) | (simp [*, errW_none, errW_some] <;> rfl), by repeat (first | (with_reducible first | exact HB.out | apply below_alloc | apply pw_below_drewN | apply below_drew1) | exact HB.out)⟩

/-- THE ONE PURE STATEMENT of ancepslaw04_PatternLattice: yours. -/
def ancepslaw04_PatternLattice.Pure : Prop := ∀ (a0 : ByteArray) (a1 : ByteArray) (a2 : ByteArray), a0.size ≤ 140737488351232 → a1.size ≤ 140737488351232 → a2.size ≤ 140737488351232 → ∃ k, ancepslaw04_PatternLattice.f k a0 a1 a2 = some true
theorem ancepslaw04_PatternLattice.walk (P : ancepslaw04_PatternLattice.Pure) (a0 : ByteArray) (a1 : ByteArray) (a2 : ByteArray) (w : World) (w0 : a0.size ≤ 140737488351232) (w1 : a1.size ≤ 140737488351232) (w2 : a2.size ≤ 140737488351232) :
    Calls Try.prog 5 #[.string a0, .string a1, .string a2] w fun e w' => e = .returned (.bool true) ∧ Below w.heap.size w w' := by
  obtain ⟨k, h⟩ := P a0 a1 a2 w0 w1 w2
  refine (ancepslaw04_PatternLattice.calls k a0 a1 a2 true w h).mono ?_
  rintro e w' ⟨rfl, hd⟩
  exact ⟨rfl, hd⟩

end Go.Proofs.Ytbecdafbkdchkaa.X
