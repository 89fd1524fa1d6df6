-- printed by this session's xprint.py: out of the translation, by the kit's print with additions; Lean checks it
import Derived.Test.YtkkgacoecimlpaaX0
import Derived.Test.YtkkgacoecimlpaaX2
import Derived.Test.YtkkgacoecimlpaaX4
import Derived.Test.YtkkgacoecimlpaaX5
namespace Go.Proofs.Ytkkgacoecimlpaa.X
open Go.RowKit Go.Proofs.YtkkgacoecimlpaaW.PrintWords Go.Proofs.YtkkgacoecimlpaaW.PrintLast Go.Proofs.YtkkgacoecimlpaaW.PrintMore
attribute [local go_sem] max2_int min2_int max_two min_two max_three min_three max_four min_four isSome_setCell   -- for this text's walks alone
set_option linter.unusedVariables false
set_option linter.unusedSimpArgs false

/-! ### ancepslaw05_TokenNames: function 3 -/
mutual
def ancepslaw05_TokenNames.j0 : Nat → ByteArray → Bool → Option (Bool)
  | 0, _, _ => none
  | k + 1, x0, x17 => if x17 = true then ((ancepslaw05_awake.f k).bind fun t170 => (some t170)) else ((token_Number.f k x0).bind fun bt171 => ((ancepsref05_Number.f k x0).bind fun bt173 => ((token_IsName.f k x0).bind fun t175 => ((ancepsref05_IsName.f k x0).bind fun t176 => (if (t175 != t176) = true then (ancepslaw05_TokenNames.j1 k x0 true) else (if bt171.1 = bt173.1 then (ancepslaw05_TokenNames.j1 k x0 (bt171.2 != bt173.2)) else (ancepslaw05_TokenNames.j1 k x0 true)))))))
def ancepslaw05_TokenNames.j1 : Nat → ByteArray → Bool → Option (Bool)
  | 0, _, _ => none
  | k + 1, x0, x43 => if x43 = true then (some false) else ((token_Tokens.f k x0).bind fun bt177 => (if bt177.2.2 = 0 then (if (bt177.1.length : Int) = 1 then (if 0 < (bt177.1.length : Int) then ((ancepsref05_IsName.f k x0).bind fun t183 => (if t183 = true then (if ((rd_T31 bt177.1 0).f1).toList = x0.toList then (some (((rd_T31 bt177.1 0).f0) == 1)) else (some false)) else (some true))) else (none)) else ((ancepsref05_IsName.f k x0).bind fun t185 => (if t185 = true then (some false) else (some true)))) else ((ancepsref05_IsName.f k x0).bind fun t186 => (if t186 = true then (some false) else (some true)))))
end
def ancepslaw05_TokenNames.f (k : Nat) (a0 : ByteArray) : Option (Bool) := (ancepslaw05_awake.f k).bind fun t169 => (if t169 = true then (ancepslaw05_TokenNames.j0 k a0 (decide ((a0.size : Int) > 100))) else (ancepslaw05_TokenNames.j0 k a0 true))
theorem ancepslaw05_TokenNames.mono_l : ∀ k, (∀ y0 y1, LeO (ancepslaw05_TokenNames.j0 k y0 y1) (ancepslaw05_TokenNames.j0 (k + 1) y0 y1)) ∧ (∀ y0 y1, LeO (ancepslaw05_TokenNames.j1 k y0 y1) (ancepslaw05_TokenNames.j1 (k + 1) y0 y1))
  | 0 => ⟨fun _ _ r h => by simp [ancepslaw05_TokenNames.j0] at h, fun _ _ r h => by simp [ancepslaw05_TokenNames.j1] at h⟩
  | k + 1 => by
    obtain ⟨ih0, ih1⟩ := ancepslaw05_TokenNames.mono_l k
    refine ⟨?_, ?_⟩
    · intro y0 y1
      unfold ancepslaw05_TokenNames.j0
      repeat' first
      | (with_reducible exact ih0 _ _)
      | (with_reducible exact ih1 _ _)
      | (with_reducible exact ancepslaw05_awake.mono _)
      | (with_reducible exact ancepsref05_IsName.mono _ _)
      | (with_reducible exact ancepsref05_Number.mono _ _)
      | (with_reducible exact token_IsName.mono _ _)
      | (with_reducible exact token_Number.mono _ _)
      | (with_reducible exact token_Tokens.mono _ _)
      | (with_reducible exact LeO.refl _)
      | (with_reducible exact LeO.none _)
      | (with_reducible refine LeO.ite ?_ ?_)
      | (with_reducible refine LeO.bind ?_ (fun _ => ?_))
      | exact ih0 _ _
      | exact ih1 _ _
      | exact ancepslaw05_awake.mono _
      | exact ancepsref05_IsName.mono _ _
      | exact ancepsref05_Number.mono _ _
      | exact token_IsName.mono _ _
      | exact token_Number.mono _ _
      | exact token_Tokens.mono _ _
      | exact LeO.none _
      | refine LeO.ite ?_ ?_
      | refine LeO.bind ?_ (fun _ => ?_)
    · intro y0 y1
      unfold ancepslaw05_TokenNames.j1
      repeat' first
      | (with_reducible exact ih0 _ _)
      | (with_reducible exact ih1 _ _)
      | (with_reducible exact ancepslaw05_awake.mono _)
      | (with_reducible exact ancepsref05_IsName.mono _ _)
      | (with_reducible exact ancepsref05_Number.mono _ _)
      | (with_reducible exact token_IsName.mono _ _)
      | (with_reducible exact token_Number.mono _ _)
      | (with_reducible exact token_Tokens.mono _ _)
      | (with_reducible exact LeO.refl _)
      | (with_reducible exact LeO.none _)
      | (with_reducible refine LeO.ite ?_ ?_)
      | (with_reducible refine LeO.bind ?_ (fun _ => ?_))
      | exact ih0 _ _
      | exact ih1 _ _
      | exact ancepslaw05_awake.mono _
      | exact ancepsref05_IsName.mono _ _
      | exact ancepsref05_Number.mono _ _
      | exact token_IsName.mono _ _
      | exact token_Number.mono _ _
      | exact token_Tokens.mono _ _
      | exact LeO.none _
      | refine LeO.ite ?_ ?_
      | refine LeO.bind ?_ (fun _ => ?_)
theorem ancepslaw05_TokenNames.mono : ∀ a0 k, LeO (ancepslaw05_TokenNames.f k a0) (ancepslaw05_TokenNames.f (k + 1) a0) := by
  intro a0 k
  obtain ⟨ih0, ih1⟩ := ancepslaw05_TokenNames.mono_l k
  unfold ancepslaw05_TokenNames.f
  repeat' first
      | (with_reducible exact ih0 _ _)
      | (with_reducible exact ih1 _ _)
      | (with_reducible exact ancepslaw05_awake.mono _)
      | (with_reducible exact ancepsref05_IsName.mono _ _)
      | (with_reducible exact ancepsref05_Number.mono _ _)
      | (with_reducible exact token_IsName.mono _ _)
      | (with_reducible exact token_Number.mono _ _)
      | (with_reducible exact token_Tokens.mono _ _)
      | (with_reducible exact LeO.refl _)
      | (with_reducible exact LeO.none _)
      | (with_reducible refine LeO.ite ?_ ?_)
      | (with_reducible refine LeO.bind ?_ (fun _ => ?_))
      | exact ih0 _ _
      | exact ih1 _ _
      | exact ancepslaw05_awake.mono _
      | exact ancepsref05_IsName.mono _ _
      | exact ancepsref05_Number.mono _ _
      | exact token_IsName.mono _ _
      | exact token_Number.mono _ _
      | exact token_Tokens.mono _ _
      | exact LeO.none _
      | refine LeO.ite ?_ ?_
      | refine LeO.bind ?_ (fun _ => ?_)
set_option maxHeartbeats 8000000 in
set_option maxRecDepth 100000 in
theorem ancepslaw05_TokenNames.calls (k : Nat) (a0 : ByteArray) (r : Bool) (w : World) (h : ancepslaw05_TokenNames.f k a0 = some r) :
    Calls Try.prog 3 #[.string a0] w fun e w' => e = .returned (.bool r) ∧ Below w.heap.size w w' := by
  have HB := Aside0.mk (Below.refl w.heap.size w)
  have H : ((ancepslaw05_awake.f k).bind fun t169 => (if t169 = true then (ancepslaw05_TokenNames.j0 k a0 (decide ((a0.size : Int) > 100))) else (ancepslaw05_TokenNames.j0 k a0 true))) = some r := h
  clear h
  have HC2 := Aside0.mk H
  clear H
  go_enter Try.func3, Try.ntmps3
  go_upto_region 1 with (fail)
  go_cut [17] (fun v17 wc => ∃ (kq : Nat) (x17_1 : Bool), v17 = .bool x17_1 ∧ Aside0 (ancepslaw05_TokenNames.j0 kq a0 x17_1 = some r) ∧ Aside0 (kq ≤ k) ∧ Aside0 (Below w.heap.size w wc))
  case first =>
    have H := HC2.out
    clear HC2
    replace H := Option.bind_eq_some_iff.mp H
    obtain ⟨t169, A30, H⟩ := H
    replace H : (if t169 = true then (ancepslaw05_TokenNames.j0 k a0 (decide ((a0.size : Int) > 100))) else (ancepslaw05_TokenNames.j0 k a0 true)) = some r := H
    have A3 := Aside0.mk A30
    clear A30
    by_cases c4 : t169 = true
    · subst c4
      have H1 : (ancepslaw05_TokenNames.j0 k a0 (decide ((a0.size : Int) > 100))) = some r := by rw [if_pos rfl] at H; exact H
      clear H
      have H := H1
      clear H1
      have H' := Aside0.mk H
      clear H
      go_wp2_with (first | ((with_reducible refine gate_callee (f := 11) rfl ?_); refine goesL_ (some 11) rfl rfl Try.func11 (by kernel_rfl) rfl #[] rfl (by (try simp only [List.map_toArray, List.map_cons, List.map_nil]); first | done | rfl | (simp only [List.length_drop, List.length_take]; rfl)) ?_; (with_reducible refine (ancepslaw05_awake.calls k  true _ A3.out).mono ?_); rintro e w5 ⟨rfl, hb⟩; refine ⟨_, rfl, ?_⟩; have n0_ := Aside0.mk (below_step (by repeat (first | (with_reducible first | exact HB.out | apply below_alloc | apply pw_below_drewN | apply below_drew1) | exact HB.out)) hb); clear HB; have HB := n0_; clear n0_; (try clear hb); (try clear hb2); (try clear hk); (try clear hi)))
      go_meet
      case rel => exact ⟨_, (decide ((a0.size : Int) > 100)), (by first | rfl | (simp; done) | (simp [*]; done)), H', ⟨by first | omega | exact Nat.le_refl _⟩, ⟨by repeat (first | (with_reducible first | exact HB.out | apply below_alloc | apply pw_below_drewN | apply below_drew1) | exact HB.out)⟩⟩
    · replace c4 := Bool.eq_false_iff.mpr c4
      subst c4
      have H1 : (ancepslaw05_TokenNames.j0 k a0 true) = some r := by rw [if_neg (show ¬ (false = true) by decide)] at H; exact H
      clear H
      have H := H1
      clear H1
      have H' := Aside0.mk H
      clear H
      go_wp2_with (first | ((with_reducible refine gate_callee (f := 11) rfl ?_); refine goesL_ (some 11) rfl rfl Try.func11 (by kernel_rfl) rfl #[] rfl (by (try simp only [List.map_toArray, List.map_cons, List.map_nil]); first | done | rfl | (simp only [List.length_drop, List.length_take]; rfl)) ?_; (with_reducible refine (ancepslaw05_awake.calls k  false _ A3.out).mono ?_); rintro e w6 ⟨rfl, hb⟩; refine ⟨_, rfl, ?_⟩; have n0_ := Aside0.mk (below_step (by repeat (first | (with_reducible first | exact HB.out | apply below_alloc | apply pw_below_drewN | apply below_drew1) | exact HB.out)) hb); clear HB; have HB := n0_; clear n0_; (try clear hb); (try clear hb2); (try clear hk); (try clear hi)))
      go_meet
      case rel => exact ⟨_, (true), (by first | rfl | (simp; done) | (simp [*]; done)), H', ⟨by first | omega | exact Nat.le_refl _⟩, ⟨by repeat (first | (with_reducible first | exact HB.out | apply below_alloc | apply pw_below_drewN | apply below_drew1) | exact HB.out)⟩⟩
  case rest =>
    clear HC2
    try clear c1
    try clear p2
    try clear c3
    try clear c4
    obtain ⟨kq, x17_1, rfl, HA, HJ1, HB⟩ := hcut
    cases kq with
    | zero => exact absurd HA.out (by simp [ancepslaw05_TokenNames.j0])
    | succ kj1 =>
      have H := HA.out
      clear HA
      simp only [ancepslaw05_TokenNames.j0] at H
      by_cases c7 : x17_1 = true
      · subst c7
        have H1 : ((ancepslaw05_awake.f kj1).bind fun t170 => (some t170)) = some r := by rw [if_pos rfl] at H; exact H
        clear H
        have H := H1
        clear H1
        replace H := Option.bind_eq_some_iff.mp H
        obtain ⟨t170, A80, H⟩ := H
        replace H : (some t170) = some r := H
        have A8 := Aside0.mk A80
        clear A80
        obtain rfl := Option.some.inj H
        go_wp2_with (first | ((with_reducible refine gate_callee (f := 11) rfl ?_); refine goesL_ (some 18) rfl rfl Try.func11 (by kernel_rfl) rfl #[] rfl (by (try simp only [List.map_toArray, List.map_cons, List.map_nil]); first | done | rfl | (simp only [List.length_drop, List.length_take]; rfl)) ?_; (with_reducible refine (ancepslaw05_awake.calls kj1  t170 _ A8.out).mono ?_); rintro e w9 ⟨rfl, hb⟩; refine ⟨_, rfl, ?_⟩; have n0_ := Aside0.mk (below_step (by repeat (first | (with_reducible first | exact HB.out | apply below_alloc | apply pw_below_drewN | apply below_drew1) | exact HB.out)) hb); clear HB; have HB := n0_; clear n0_; (try clear hb); (try clear hb2); (try clear hk); (try clear hi)))
        go_ret
        exact ⟨by first | rfl | (simp [errW_none, errW_some] <;> rfl) | (simp [*, errW_none, errW_some] <;> rfl), by repeat (first | (with_reducible first | exact HB.out | apply below_alloc | apply pw_below_drewN | apply below_drew1) | exact HB.out)⟩
      · replace c7 := Bool.eq_false_iff.mpr c7
        subst c7
        have H1 : ((token_Number.f kj1 a0).bind fun bt171 => ((ancepsref05_Number.f kj1 a0).bind fun bt173 => ((token_IsName.f kj1 a0).bind fun t175 => ((ancepsref05_IsName.f kj1 a0).bind fun t176 => (if (t175 != t176) = true then (ancepslaw05_TokenNames.j1 kj1 a0 true) else (if bt171.1 = bt173.1 then (ancepslaw05_TokenNames.j1 kj1 a0 (bt171.2 != bt173.2)) else (ancepslaw05_TokenNames.j1 kj1 a0 true))))))) = some r := by rw [if_neg (show ¬ (false = true) by decide)] at H; exact H
        clear H
        have H := H1
        clear H1
        replace H := Option.bind_eq_some_iff.mp H
        obtain ⟨⟨t171, t172⟩, A100, H⟩ := H
        replace H : ((ancepsref05_Number.f kj1 a0).bind fun bt173 => ((token_IsName.f kj1 a0).bind fun t175 => ((ancepsref05_IsName.f kj1 a0).bind fun t176 => (if (t175 != t176) = true then (ancepslaw05_TokenNames.j1 kj1 a0 true) else (if t171 = bt173.1 then (ancepslaw05_TokenNames.j1 kj1 a0 (t172 != bt173.2)) else (ancepslaw05_TokenNames.j1 kj1 a0 true)))))) = some r := H
        have A10 := Aside0.mk A100
        clear A100
        replace H := Option.bind_eq_some_iff.mp H
        obtain ⟨⟨t173, t174⟩, A110, H⟩ := H
        replace H : ((token_IsName.f kj1 a0).bind fun t175 => ((ancepsref05_IsName.f kj1 a0).bind fun t176 => (if (t175 != t176) = true then (ancepslaw05_TokenNames.j1 kj1 a0 true) else (if t171 = t173 then (ancepslaw05_TokenNames.j1 kj1 a0 (t172 != t174)) else (ancepslaw05_TokenNames.j1 kj1 a0 true))))) = some r := H
        have A11 := Aside0.mk A110
        clear A110
        have HC12 := Aside0.mk H
        clear H
        go_upto_region 5 with (first | ((with_reducible refine gate_callee (f := 12) rfl ?_); refine goesL_ (some 21) rfl rfl Try.func12 (by kernel_rfl) rfl #[.string a0] rfl (by (try simp only [List.map_toArray, List.map_cons, List.map_nil]); first | done | rfl | (simp only [List.length_drop, List.length_take]; rfl)) ?_; (with_reducible refine (token_Number.calls kj1 a0 t171 t172 _ A10.out).mono ?_); rintro e w13 ⟨rfl, hb⟩; refine ⟨_, rfl, ?_⟩; have n0_ := Aside0.mk (below_step (by repeat (first | (with_reducible first | exact HB.out | apply below_alloc | apply pw_below_drewN | apply below_drew1) | exact HB.out)) hb); clear HB; have HB := n0_; clear n0_; (try clear hb); (try clear hb2); (try clear hk); (try clear hi)) | ((with_reducible refine gate_callee (f := 13) rfl ?_); refine goesL_ (some 26) rfl rfl Try.func13 (by kernel_rfl) rfl #[.string a0] rfl (by (try simp only [List.map_toArray, List.map_cons, List.map_nil]); first | done | rfl | (simp only [List.length_drop, List.length_take]; rfl)) ?_; (with_reducible refine (ancepsref05_Number.calls kj1 a0 t173 t174 _ A11.out).mono ?_); rintro e w' ⟨rfl, ⟨nd, rfl⟩⟩; refine ⟨_, rfl, ?_⟩))
        (try simp only [Act.put, List.setIfInBounds_toArray, List.set_cons_zero, List.set_cons_succ])
        go_cut [43] (fun v43 wc => ∃ (kq : Nat) (x43_11 : Bool), v43 = .bool x43_11 ∧ Aside0 (ancepslaw05_TokenNames.j1 kq a0 x43_11 = some r) ∧ Aside0 (kq ≤ kj1) ∧ Aside0 (Below w.heap.size w wc))
        case first =>
          have H := HC12.out
          clear HC12
          replace H := Option.bind_eq_some_iff.mp H
          obtain ⟨t175, A140, H⟩ := H
          replace H : ((ancepsref05_IsName.f kj1 a0).bind fun t176 => (if (t175 != t176) = true then (ancepslaw05_TokenNames.j1 kj1 a0 true) else (if t171 = t173 then (ancepslaw05_TokenNames.j1 kj1 a0 (t172 != t174)) else (ancepslaw05_TokenNames.j1 kj1 a0 true)))) = some r := H
          have A14 := Aside0.mk A140
          clear A140
          replace H := Option.bind_eq_some_iff.mp H
          obtain ⟨t176, A150, H⟩ := H
          replace H : (if (t175 != t176) = true then (ancepslaw05_TokenNames.j1 kj1 a0 true) else (if t171 = t173 then (ancepslaw05_TokenNames.j1 kj1 a0 (t172 != t174)) else (ancepslaw05_TokenNames.j1 kj1 a0 true))) = some r := H
          have A15 := Aside0.mk A150
          clear A150
          by_cases c16 : (t175 != t176) = true
          · rw [if_pos c16] at H
            have c16b0 : (t175 != t176) = true := c16
            (try (have c16b1 : decide (t175 = t176) = false := by simpa using c16))
            (try (have c16b2 : (t175 == t176) = false := by simpa using c16))
            (try (have c16b3 : ¬ (t175 = t176) := by simpa using c16))
            clear c16
            (first | rw [c16b0] | (simp only [i64_w, i32_w]; rw [c16b0]) | skip)
            have H' := Aside0.mk H
            clear H
            go_wp2_with (first | ((with_reducible refine gate_callee (f := 14) rfl ?_); refine goesL_ (some 30) rfl rfl Try.func14 (by kernel_rfl) rfl #[.string a0] rfl (by (try simp only [List.map_toArray, List.map_cons, List.map_nil]); first | done | rfl | (simp only [List.length_drop, List.length_take]; rfl)) ?_; (with_reducible refine (token_IsName.calls kj1 a0 t175 _ A14.out).mono ?_); rintro e w' ⟨rfl, ⟨nd, rfl⟩⟩; refine ⟨_, rfl, ?_⟩) | ((with_reducible refine gate_callee (f := 15) rfl ?_); refine goesL_ (some 32) rfl rfl Try.func15 (by kernel_rfl) rfl #[.string a0] rfl (by (try simp only [List.map_toArray, List.map_cons, List.map_nil]); first | done | rfl | (simp only [List.length_drop, List.length_take]; rfl)) ?_; (with_reducible refine (ancepsref05_IsName.calls kj1 a0 t176 _ A15.out).mono ?_); rintro e w' ⟨rfl, ⟨nd, rfl⟩⟩; refine ⟨_, rfl, ?_⟩))
            go_meet
            case rel => exact ⟨_, (true), (by first | rfl | (simp; done) | (simp [*]; done)), H', ⟨by have := HJ1.out; first | omega | exact Nat.le_refl _⟩, ⟨by repeat (first | (with_reducible first | exact HB.out | apply below_alloc | apply pw_below_drewN | apply below_drew1) | exact HB.out)⟩⟩
          · rw [if_neg c16] at H
            have c16b0 : (t175 != t176) = false := by simpa using c16
            (try (have c16b1 : decide (t175 = t176) = true := by simpa using c16))
            (try (have c16b2 : (t175 == t176) = true := by simpa using c16))
            clear c16
            (first | rw [c16b0] | (simp only [i64_w, i32_w]; rw [c16b0]) | skip)
            by_cases c17 : t171 = t173
            · rw [if_pos c17] at H
              have c17b0 : (t171 == t173) = true := beq_iff_eq.mpr c17
              have c17b1 : (t171 != t173) = false := bne_eq_false_iff_eq.mpr c17
              clear c17
              have H' := Aside0.mk H
              clear H
              go_wp2_with (first | ((with_reducible refine gate_callee (f := 14) rfl ?_); refine goesL_ (some 30) rfl rfl Try.func14 (by kernel_rfl) rfl #[.string a0] rfl (by (try simp only [List.map_toArray, List.map_cons, List.map_nil]); first | done | rfl | (simp only [List.length_drop, List.length_take]; rfl)) ?_; (with_reducible refine (token_IsName.calls kj1 a0 t175 _ A14.out).mono ?_); rintro e w' ⟨rfl, ⟨nd, rfl⟩⟩; refine ⟨_, rfl, ?_⟩) | ((with_reducible refine gate_callee (f := 15) rfl ?_); refine goesL_ (some 32) rfl rfl Try.func15 (by kernel_rfl) rfl #[.string a0] rfl (by (try simp only [List.map_toArray, List.map_cons, List.map_nil]); first | done | rfl | (simp only [List.length_drop, List.length_take]; rfl)) ?_; (with_reducible refine (ancepsref05_IsName.calls kj1 a0 t176 _ A15.out).mono ?_); rintro e w' ⟨rfl, ⟨nd, rfl⟩⟩; refine ⟨_, rfl, ?_⟩))
              go_meet
              case rel => exact ⟨_, ((t172 != t174)), (by first | rfl | (simp; done) | (simp [*]; done)), H', ⟨by have := HJ1.out; first | omega | exact Nat.le_refl _⟩, ⟨by repeat (first | (with_reducible first | exact HB.out | apply below_alloc | apply pw_below_drewN | apply below_drew1) | exact HB.out)⟩⟩
            · rw [if_neg c17] at H
              have c17b0 : (t171 == t173) = false := beq_eq_false_iff_ne.mpr c17
              have c17b1 : (t171 != t173) = true := bne_iff_ne.mpr c17
              have H' := Aside0.mk H
              clear H
              go_wp2_with (first | ((with_reducible refine gate_callee (f := 14) rfl ?_); refine goesL_ (some 30) rfl rfl Try.func14 (by kernel_rfl) rfl #[.string a0] rfl (by (try simp only [List.map_toArray, List.map_cons, List.map_nil]); first | done | rfl | (simp only [List.length_drop, List.length_take]; rfl)) ?_; (with_reducible refine (token_IsName.calls kj1 a0 t175 _ A14.out).mono ?_); rintro e w' ⟨rfl, ⟨nd, rfl⟩⟩; refine ⟨_, rfl, ?_⟩) | ((with_reducible refine gate_callee (f := 15) rfl ?_); refine goesL_ (some 32) rfl rfl Try.func15 (by kernel_rfl) rfl #[.string a0] rfl (by (try simp only [List.map_toArray, List.map_cons, List.map_nil]); first | done | rfl | (simp only [List.length_drop, List.length_take]; rfl)) ?_; (with_reducible refine (ancepsref05_IsName.calls kj1 a0 t176 _ A15.out).mono ?_); rintro e w' ⟨rfl, ⟨nd, rfl⟩⟩; refine ⟨_, rfl, ?_⟩))
              go_meet
              case rel => exact ⟨_, (true), (by first | rfl | (simp; done) | (simp [*]; done)), H', ⟨by have := HJ1.out; first | omega | exact Nat.le_refl _⟩, ⟨by repeat (first | (with_reducible first | exact HB.out | apply below_alloc | apply pw_below_drewN | apply below_drew1) | exact HB.out)⟩⟩
        case rest =>
          clear HC12
          try clear c1
          try clear p2
          try clear c3
          try clear c4
          try clear c7
          try clear c11
          try clear c12
          try clear c13
          try clear c14
          try clear c15
          try clear c16
          try clear c16b0
          try clear c16b1
          try clear c16b2
          try clear c17
          try clear c17b0
          try clear c17b1
          try clear p2
          obtain ⟨kq, x43_11, rfl, HA, HJ11, HB⟩ := hcut
          cases kq with
          | zero => exact absurd HA.out (by simp [ancepslaw05_TokenNames.j1])
          | succ kj11 =>
            have H := HA.out
            clear HA
            simp only [ancepslaw05_TokenNames.j1] at H
            by_cases c18 : x43_11 = true
            · subst c18
              have H1 : (some false) = some r := by rw [if_pos rfl] at H; exact H
              clear H
              have H := H1
              clear H1
              obtain rfl := Option.some.inj H
              go_wp2
              go_ret
              exact ⟨by first | rfl | (simp [errW_none, errW_some] <;> rfl) | (simp [*, errW_none, errW_some] <;> rfl), by repeat (first | (with_reducible first | exact HB.out | apply below_alloc | apply pw_below_drewN | apply below_drew1) | exact HB.out)⟩
            · replace c18 := Bool.eq_false_iff.mpr c18
              subst c18
              have H1 : ((token_Tokens.f kj11 a0).bind fun bt177 => (if bt177.2.2 = 0 then (if (bt177.1.length : Int) = 1 then (if 0 < (bt177.1.length : Int) then ((ancepsref05_IsName.f kj11 a0).bind fun t183 => (if t183 = true then (if ((rd_T31 bt177.1 0).f1).toList = a0.toList then (some (((rd_T31 bt177.1 0).f0) == 1)) else (some false)) else (some true))) else (none)) else ((ancepsref05_IsName.f kj11 a0).bind fun t185 => (if t185 = true then (some false) else (some true)))) else ((ancepsref05_IsName.f kj11 a0).bind fun t186 => (if t186 = true then (some false) else (some true))))) = some r := by rw [if_neg (show ¬ (false = true) by decide)] at H; exact H
              clear H
              have H := H1
              clear H1
              replace H := Option.bind_eq_some_iff.mp H
              obtain ⟨⟨t177, t178, t179⟩, A190, H⟩ := H
              replace H : (if t179 = 0 then (if (t177.length : Int) = 1 then (if 0 < (t177.length : Int) then ((ancepsref05_IsName.f kj11 a0).bind fun t183 => (if t183 = true then (if ((rd_T31 t177 0).f1).toList = a0.toList then (some (((rd_T31 t177 0).f0) == 1)) else (some false)) else (some true))) else (none)) else ((ancepsref05_IsName.f kj11 a0).bind fun t185 => (if t185 = true then (some false) else (some true)))) else ((ancepsref05_IsName.f kj11 a0).bind fun t186 => (if t186 = true then (some false) else (some true)))) = some r := H
              have A19 := Aside0.mk A190
              clear A190
              by_cases c20 : t179 = 0
              · rw [if_pos c20] at H
                have c20b0 : (t179 == 0) = true := beq_iff_eq.mpr c20
                have c20b1 : (t179 != 0) = false := bne_eq_false_iff_eq.mpr c20
                clear c20
                by_cases c21 : (t177.length : Int) = 1
                · rw [if_pos c21] at H
                  have c21b0 : ((t177.length : Int) == 1) = true := beq_iff_eq.mpr c21
                  have c21b1 : ((t177.length : Int) != 1) = false := bne_eq_false_iff_eq.mpr c21
                  clear c21
                  by_cases c22 : 0 < (t177.length : Int)
                  · rw [if_pos c22] at H
                    have c22b0 : decide (0 < (t177.length : Int)) = true := decide_eq_true c22
                    have c22b1 : decide (0 < t177.length) = true := decide_eq_true (by omega)
                    clear c22
                    replace H := Option.bind_eq_some_iff.mp H
                    obtain ⟨t183, A230, H⟩ := H
                    replace H : (if t183 = true then (if ((rd_T31 t177 0).f1).toList = a0.toList then (some (((rd_T31 t177 0).f0) == 1)) else (some false)) else (some true)) = some r := H
                    have A23 := Aside0.mk A230
                    clear A230
                    by_cases c24 : t183 = true
                    · subst c24
                      have H1 : (if ((rd_T31 t177 0).f1).toList = a0.toList then (some (((rd_T31 t177 0).f0) == 1)) else (some false)) = some r := by rw [if_pos rfl] at H; exact H
                      clear H
                      have H := H1
                      clear H1
                      by_cases c25 : ((rd_T31 t177 0).f1).toList = a0.toList
                      · rw [if_pos c25] at H
                        have c25b0 : (((rd_T31 t177 0).f1).toList == a0.toList) = true := beq_iff_eq.mpr c25
                        have c25b1 : (((rd_T31 t177 0).f1).toList != a0.toList) = false := bne_eq_false_iff_eq.mpr c25
                        clear c25
                        obtain rfl := Option.some.inj H
                        go_wp2_with (first | ((with_reducible refine gate_callee (f := 16) rfl ?_); refine goesL_ (some 46) rfl rfl Try.func16 (by kernel_rfl) rfl #[.string a0] rfl (by (try simp only [List.map_toArray, List.map_cons, List.map_nil]); first | done | rfl | (simp only [List.length_drop, List.length_take]; rfl)) ?_; (with_reducible refine (token_Tokens.calls kj11 a0 t177 t178 t179 _ A19.out).mono ?_); rintro e w26 ⟨v180, rfl, ho0, hb⟩; refine ⟨_, rfl, ?_⟩; have n0_ := Aside0.mk (Kd.R_lower ho0 (below_size (by repeat (first | (with_reducible first | exact HB.out | apply below_alloc | apply pw_below_drewN | apply below_drew1) | exact HB.out)))); have n1_ := Aside0.mk (below_step (by repeat (first | (with_reducible first | exact HB.out | apply below_alloc | apply pw_below_drewN | apply below_drew1) | exact HB.out)) hb); clear HB; have HO181 := n0_; have HB := n1_; clear n0_ n1_; (try clear hb); (try clear hb2); (try clear hk); (try clear hi); (try clear ho0); obtain ⟨Ao27, co27, eo27⟩ := Kd.R_slice HO181.out; subst eo27; have p182 : 0 ≤ (0 : Int) := (by omega); have q182 : 0 < (t177.length : Int) := of_decide_eq_true (by first | (with_reducible assumption) | assumption); obtain ⟨ad182, e182, hx182_0, hx182_1, hx182_2⟩ := at_T31 (Kd.R_reads' HO181.out).2.2 0 p182 q182; cases e182; have qi182 : (0 < t177.length) = True := eq_true (by omega); (try rw [show ((0 : Int)).toNat = 0 from rfl] at hx182_0); (try rw [show 0 * 3 = 0 from rfl] at hx182_0); (try rw [Addr.add_zero'] at hx182_0); (try rw [show ((0 : Int)).toNat = 0 from rfl] at hx182_1); (try rw [show 0 * 3 = 0 from rfl] at hx182_1); (try rw [Addr.add_zero'] at hx182_1); (try rw [show ((0 : Int)).toNat = 0 from rfl] at hx182_2); (try rw [show 0 * 3 = 0 from rfl] at hx182_2); (try rw [Addr.add_zero'] at hx182_2); replace p182 := eq_true p182; replace q182 := eq_true q182) | ((with_reducible refine gate_callee (f := 15) rfl ?_); refine goesL_ (some 66) rfl rfl Try.func15 (by kernel_rfl) rfl #[.string a0] rfl (by (try simp only [List.map_toArray, List.map_cons, List.map_nil]); first | done | rfl | (simp only [List.length_drop, List.length_take]; rfl)) ?_; (with_reducible refine (ancepsref05_IsName.calls kj11 a0 true _ A23.out).mono ?_); rintro e w' ⟨rfl, ⟨nd, rfl⟩⟩; refine ⟨_, rfl, ?_⟩; have p184 : 0 ≤ (0 : Int) := (by omega); have q184 : 0 < (t177.length : Int) := of_decide_eq_true (by first | (with_reducible assumption) | assumption); obtain ⟨ad184, e184, hx184_0, hx184_1, hx184_2⟩ := at_T31 (Kd.R_reads' HO181.out).2.2 0 p184 q184; obtain rfl : ad182 = ad184 := (by injection e184); have qi184 : (0 < t177.length) = True := eq_true (by omega); (try rw [show ((0 : Int)).toNat = 0 from rfl] at hx184_0); (try rw [show 0 * 3 = 0 from rfl] at hx184_0); (try rw [Addr.add_zero'] at hx184_0); (try rw [show ((0 : Int)).toNat = 0 from rfl] at hx184_1); (try rw [show 0 * 3 = 0 from rfl] at hx184_1); (try rw [Addr.add_zero'] at hx184_1); (try rw [show ((0 : Int)).toNat = 0 from rfl] at hx184_2); (try rw [show 0 * 3 = 0 from rfl] at hx184_2); (try rw [Addr.add_zero'] at hx184_2); replace p184 := eq_true p184; replace q184 := eq_true q184))
                        go_ret
                        exact ⟨by first | rfl | (simp [errW_none, errW_some] <;> rfl) | (simp [*, errW_none, errW_some] <;> rfl), by repeat (first | (with_reducible first | exact HB.out | apply below_alloc | apply pw_below_drewN | apply below_drew1) | exact HB.out)⟩
                      · rw [if_neg c25] at H
                        have c25b0 : (((rd_T31 t177 0).f1).toList == a0.toList) = false := beq_eq_false_iff_ne.mpr c25
                        have c25b1 : (((rd_T31 t177 0).f1).toList != a0.toList) = true := bne_iff_ne.mpr c25
                        obtain rfl := Option.some.inj H
                        go_wp2_with (first | ((with_reducible refine gate_callee (f := 16) rfl ?_); refine goesL_ (some 46) rfl rfl Try.func16 (by kernel_rfl) rfl #[.string a0] rfl (by (try simp only [List.map_toArray, List.map_cons, List.map_nil]); first | done | rfl | (simp only [List.length_drop, List.length_take]; rfl)) ?_; (with_reducible refine (token_Tokens.calls kj11 a0 t177 t178 t179 _ A19.out).mono ?_); rintro e w28 ⟨v180, rfl, ho0, hb⟩; refine ⟨_, rfl, ?_⟩; have n0_ := Aside0.mk (Kd.R_lower ho0 (below_size (by repeat (first | (with_reducible first | exact HB.out | apply below_alloc | apply pw_below_drewN | apply below_drew1) | exact HB.out)))); have n1_ := Aside0.mk (below_step (by repeat (first | (with_reducible first | exact HB.out | apply below_alloc | apply pw_below_drewN | apply below_drew1) | exact HB.out)) hb); clear HB; have HO181 := n0_; have HB := n1_; clear n0_ n1_; (try clear hb); (try clear hb2); (try clear hk); (try clear hi); (try clear ho0); obtain ⟨Ao29, co29, eo29⟩ := Kd.R_slice HO181.out; subst eo29; have p182 : 0 ≤ (0 : Int) := (by omega); have q182 : 0 < (t177.length : Int) := of_decide_eq_true (by first | (with_reducible assumption) | assumption); obtain ⟨ad182, e182, hx182_0, hx182_1, hx182_2⟩ := at_T31 (Kd.R_reads' HO181.out).2.2 0 p182 q182; cases e182; have qi182 : (0 < t177.length) = True := eq_true (by omega); (try rw [show ((0 : Int)).toNat = 0 from rfl] at hx182_0); (try rw [show 0 * 3 = 0 from rfl] at hx182_0); (try rw [Addr.add_zero'] at hx182_0); (try rw [show ((0 : Int)).toNat = 0 from rfl] at hx182_1); (try rw [show 0 * 3 = 0 from rfl] at hx182_1); (try rw [Addr.add_zero'] at hx182_1); (try rw [show ((0 : Int)).toNat = 0 from rfl] at hx182_2); (try rw [show 0 * 3 = 0 from rfl] at hx182_2); (try rw [Addr.add_zero'] at hx182_2); replace p182 := eq_true p182; replace q182 := eq_true q182) | ((with_reducible refine gate_callee (f := 15) rfl ?_); refine goesL_ (some 66) rfl rfl Try.func15 (by kernel_rfl) rfl #[.string a0] rfl (by (try simp only [List.map_toArray, List.map_cons, List.map_nil]); first | done | rfl | (simp only [List.length_drop, List.length_take]; rfl)) ?_; (with_reducible refine (ancepsref05_IsName.calls kj11 a0 true _ A23.out).mono ?_); rintro e w' ⟨rfl, ⟨nd, rfl⟩⟩; refine ⟨_, rfl, ?_⟩))
                        go_ret
                        exact ⟨by first | rfl | (simp [errW_none, errW_some] <;> rfl) | (simp [*, errW_none, errW_some] <;> rfl), by repeat (first | (with_reducible first | exact HB.out | apply below_alloc | apply pw_below_drewN | apply below_drew1) | exact HB.out)⟩
                    · replace c24 := Bool.eq_false_iff.mpr c24
                      subst c24
                      have H1 : (some true) = some r := by rw [if_neg (show ¬ (false = true) by decide)] at H; exact H
                      clear H
                      have H := H1
                      clear H1
                      obtain rfl := Option.some.inj H
                      go_wp2_with (first | ((with_reducible refine gate_callee (f := 16) rfl ?_); refine goesL_ (some 46) rfl rfl Try.func16 (by kernel_rfl) rfl #[.string a0] rfl (by (try simp only [List.map_toArray, List.map_cons, List.map_nil]); first | done | rfl | (simp only [List.length_drop, List.length_take]; rfl)) ?_; (with_reducible refine (token_Tokens.calls kj11 a0 t177 t178 t179 _ A19.out).mono ?_); rintro e w30 ⟨v180, rfl, ho0, hb⟩; refine ⟨_, rfl, ?_⟩; have n0_ := Aside0.mk (Kd.R_lower ho0 (below_size (by repeat (first | (with_reducible first | exact HB.out | apply below_alloc | apply pw_below_drewN | apply below_drew1) | exact HB.out)))); have n1_ := Aside0.mk (below_step (by repeat (first | (with_reducible first | exact HB.out | apply below_alloc | apply pw_below_drewN | apply below_drew1) | exact HB.out)) hb); clear HB; have HO181 := n0_; have HB := n1_; clear n0_ n1_; (try clear hb); (try clear hb2); (try clear hk); (try clear hi); (try clear ho0); obtain ⟨Ao31, co31, eo31⟩ := Kd.R_slice HO181.out; subst eo31; have p182 : 0 ≤ (0 : Int) := (by omega); have q182 : 0 < (t177.length : Int) := of_decide_eq_true (by first | (with_reducible assumption) | assumption); obtain ⟨ad182, e182, hx182_0, hx182_1, hx182_2⟩ := at_T31 (Kd.R_reads' HO181.out).2.2 0 p182 q182; cases e182; have qi182 : (0 < t177.length) = True := eq_true (by omega); (try rw [show ((0 : Int)).toNat = 0 from rfl] at hx182_0); (try rw [show 0 * 3 = 0 from rfl] at hx182_0); (try rw [Addr.add_zero'] at hx182_0); (try rw [show ((0 : Int)).toNat = 0 from rfl] at hx182_1); (try rw [show 0 * 3 = 0 from rfl] at hx182_1); (try rw [Addr.add_zero'] at hx182_1); (try rw [show ((0 : Int)).toNat = 0 from rfl] at hx182_2); (try rw [show 0 * 3 = 0 from rfl] at hx182_2); (try rw [Addr.add_zero'] at hx182_2); replace p182 := eq_true p182; replace q182 := eq_true q182) | ((with_reducible refine gate_callee (f := 15) rfl ?_); refine goesL_ (some 66) rfl rfl Try.func15 (by kernel_rfl) rfl #[.string a0] rfl (by (try simp only [List.map_toArray, List.map_cons, List.map_nil]); first | done | rfl | (simp only [List.length_drop, List.length_take]; rfl)) ?_; (with_reducible refine (ancepsref05_IsName.calls kj11 a0 false _ A23.out).mono ?_); rintro e w' ⟨rfl, ⟨nd, rfl⟩⟩; refine ⟨_, rfl, ?_⟩))
                      go_ret
                      exact ⟨by first | rfl | (simp [errW_none, errW_some] <;> rfl) | (simp [*, errW_none, errW_some] <;> rfl), by repeat (first | (with_reducible first | exact HB.out | apply below_alloc | apply pw_below_drewN | apply below_drew1) | exact HB.out)⟩
                  · rw [if_neg c22] at H
                    exact absurd H (by simp)
                · rw [if_neg c21] at H
                  have c21b0 : ((t177.length : Int) == 1) = false := beq_eq_false_iff_ne.mpr c21
                  have c21b1 : ((t177.length : Int) != 1) = true := bne_iff_ne.mpr c21
                  replace H := Option.bind_eq_some_iff.mp H
                  obtain ⟨t185, A320, H⟩ := H
                  replace H : (if t185 = true then (some false) else (some true)) = some r := H
                  have A32 := Aside0.mk A320
                  clear A320
                  by_cases c33 : t185 = true
                  · subst c33
                    have H1 : (some false) = some r := by rw [if_pos rfl] at H; exact H
                    clear H
                    have H := H1
                    clear H1
                    obtain rfl := Option.some.inj H
                    go_wp2_with (first | ((with_reducible refine gate_callee (f := 16) rfl ?_); refine goesL_ (some 46) rfl rfl Try.func16 (by kernel_rfl) rfl #[.string a0] rfl (by (try simp only [List.map_toArray, List.map_cons, List.map_nil]); first | done | rfl | (simp only [List.length_drop, List.length_take]; rfl)) ?_; (with_reducible refine (token_Tokens.calls kj11 a0 t177 t178 t179 _ A19.out).mono ?_); rintro e w34 ⟨v180, rfl, ho0, hb⟩; refine ⟨_, rfl, ?_⟩; have n0_ := Aside0.mk (Kd.R_lower ho0 (below_size (by repeat (first | (with_reducible first | exact HB.out | apply below_alloc | apply pw_below_drewN | apply below_drew1) | exact HB.out)))); have n1_ := Aside0.mk (below_step (by repeat (first | (with_reducible first | exact HB.out | apply below_alloc | apply pw_below_drewN | apply below_drew1) | exact HB.out)) hb); clear HB; have HO181 := n0_; have HB := n1_; clear n0_ n1_; (try clear hb); (try clear hb2); (try clear hk); (try clear hi); (try clear ho0); obtain ⟨Ao35, co35, eo35⟩ := Kd.R_slice HO181.out; subst eo35) | ((with_reducible refine gate_callee (f := 15) rfl ?_); refine goesL_ (some 66) rfl rfl Try.func15 (by kernel_rfl) rfl #[.string a0] rfl (by (try simp only [List.map_toArray, List.map_cons, List.map_nil]); first | done | rfl | (simp only [List.length_drop, List.length_take]; rfl)) ?_; (with_reducible refine (ancepsref05_IsName.calls kj11 a0 true _ A32.out).mono ?_); rintro e w' ⟨rfl, ⟨nd, rfl⟩⟩; refine ⟨_, rfl, ?_⟩))
                    go_ret
                    exact ⟨by first | rfl | (simp [errW_none, errW_some] <;> rfl) | (simp [*, errW_none, errW_some] <;> rfl), by repeat (first | (with_reducible first | exact HB.out | apply below_alloc | apply pw_below_drewN | apply below_drew1) | exact HB.out)⟩
                  · replace c33 := Bool.eq_false_iff.mpr c33
                    subst c33
                    have H1 : (some true) = some r := by rw [if_neg (show ¬ (false = true) by decide)] at H; exact H
                    clear H
                    have H := H1
                    clear H1
                    obtain rfl := Option.some.inj H
                    go_wp2_with (first | ((with_reducible refine gate_callee (f := 16) rfl ?_); refine goesL_ (some 46) rfl rfl Try.func16 (by kernel_rfl) rfl #[.string a0] rfl (by (try simp only [List.map_toArray, List.map_cons, List.map_nil]); first | done | rfl | (simp only [List.length_drop, List.length_take]; rfl)) ?_; (with_reducible refine (token_Tokens.calls kj11 a0 t177 t178 t179 _ A19.out).mono ?_); rintro e w36 ⟨v180, rfl, ho0, hb⟩; refine ⟨_, rfl, ?_⟩; have n0_ := Aside0.mk (Kd.R_lower ho0 (below_size (by repeat (first | (with_reducible first | exact HB.out | apply below_alloc | apply pw_below_drewN | apply below_drew1) | exact HB.out)))); have n1_ := Aside0.mk (below_step (by repeat (first | (with_reducible first | exact HB.out | apply below_alloc | apply pw_below_drewN | apply below_drew1) | exact HB.out)) hb); clear HB; have HO181 := n0_; have HB := n1_; clear n0_ n1_; (try clear hb); (try clear hb2); (try clear hk); (try clear hi); (try clear ho0); obtain ⟨Ao37, co37, eo37⟩ := Kd.R_slice HO181.out; subst eo37) | ((with_reducible refine gate_callee (f := 15) rfl ?_); refine goesL_ (some 66) rfl rfl Try.func15 (by kernel_rfl) rfl #[.string a0] rfl (by (try simp only [List.map_toArray, List.map_cons, List.map_nil]); first | done | rfl | (simp only [List.length_drop, List.length_take]; rfl)) ?_; (with_reducible refine (ancepsref05_IsName.calls kj11 a0 false _ A32.out).mono ?_); rintro e w' ⟨rfl, ⟨nd, rfl⟩⟩; refine ⟨_, rfl, ?_⟩))
                    go_ret
                    exact ⟨by first | rfl | (simp [errW_none, errW_some] <;> rfl) | (simp [*, errW_none, errW_some] <;> rfl), by repeat (first | (with_reducible first | exact HB.out | apply below_alloc | apply pw_below_drewN | apply below_drew1) | exact HB.out)⟩
              · rw [if_neg c20] at H
                have c20b0 : (t179 == 0) = false := beq_eq_false_iff_ne.mpr c20
                have c20b1 : (t179 != 0) = true := bne_iff_ne.mpr c20
                replace H := Option.bind_eq_some_iff.mp H
                obtain ⟨t186, A380, H⟩ := H
                replace H : (if t186 = true then (some false) else (some true)) = some r := H
                have A38 := Aside0.mk A380
                clear A380
                by_cases c39 : t186 = true
                · subst c39
                  have H1 : (some false) = some r := by rw [if_pos rfl] at H; exact H
                  clear H
                  have H := H1
                  clear H1
                  obtain rfl := Option.some.inj H
                  go_wp2_with (first | ((with_reducible refine gate_callee (f := 16) rfl ?_); refine goesL_ (some 46) rfl rfl Try.func16 (by kernel_rfl) rfl #[.string a0] rfl (by (try simp only [List.map_toArray, List.map_cons, List.map_nil]); first | done | rfl | (simp only [List.length_drop, List.length_take]; rfl)) ?_; (with_reducible refine (token_Tokens.calls kj11 a0 t177 t178 t179 _ A19.out).mono ?_); rintro e w40 ⟨v180, rfl, ho0, hb⟩; refine ⟨_, rfl, ?_⟩; have n0_ := Aside0.mk (Kd.R_lower ho0 (below_size (by repeat (first | (with_reducible first | exact HB.out | apply below_alloc | apply pw_below_drewN | apply below_drew1) | exact HB.out)))); have n1_ := Aside0.mk (below_step (by repeat (first | (with_reducible first | exact HB.out | apply below_alloc | apply pw_below_drewN | apply below_drew1) | exact HB.out)) hb); clear HB; have HO181 := n0_; have HB := n1_; clear n0_ n1_; (try clear hb); (try clear hb2); (try clear hk); (try clear hi); (try clear ho0)) | ((with_reducible refine gate_callee (f := 15) rfl ?_); refine goesL_ (some 66) rfl rfl Try.func15 (by kernel_rfl) rfl #[.string a0] rfl (by (try simp only [List.map_toArray, List.map_cons, List.map_nil]); first | done | rfl | (simp only [List.length_drop, List.length_take]; rfl)) ?_; (with_reducible refine (ancepsref05_IsName.calls kj11 a0 true _ A38.out).mono ?_); rintro e w' ⟨rfl, ⟨nd, rfl⟩⟩; refine ⟨_, rfl, ?_⟩))
                  go_ret
                  exact ⟨by first | rfl | (simp [errW_none, errW_some] <;> rfl) | (simp [*, errW_none, errW_some] <;> rfl), by repeat (first | (with_reducible first | exact HB.out | apply below_alloc | apply pw_below_drewN | apply below_drew1) | exact HB.out)⟩
                · replace c39 := Bool.eq_false_iff.mpr c39
                  subst c39
                  have H1 : (some true) = some r := by rw [if_neg (show ¬ (false = true) by decide)] at H; exact H
                  clear H
                  have H := H1
                  clear H1
                  obtain rfl := Option.some.inj H
                  go_wp2_with (first | ((with_reducible refine gate_callee (f := 16) rfl ?_); refine goesL_ (some 46) rfl rfl Try.func16 (by kernel_rfl) rfl #[.string a0] rfl (by (try simp only [List.map_toArray, List.map_cons, List.map_nil]); first | done | rfl | (simp only [List.length_drop, List.length_take]; rfl)) ?_; (with_reducible refine (token_Tokens.calls kj11 a0 t177 t178 t179 _ A19.out).mono ?_); rintro e w41 ⟨v180, rfl, ho0, hb⟩; refine ⟨_, rfl, ?_⟩; have n0_ := Aside0.mk (Kd.R_lower ho0 (below_size (by repeat (first | (with_reducible first | exact HB.out | apply below_alloc | apply pw_below_drewN | apply below_drew1) | exact HB.out)))); have n1_ := Aside0.mk (below_step (by repeat (first | (with_reducible first | exact HB.out | apply below_alloc | apply pw_below_drewN | apply below_drew1) | exact HB.out)) hb); clear HB; have HO181 := n0_; have HB := n1_; clear n0_ n1_; (try clear hb); (try clear hb2); (try clear hk); (try clear hi); (try clear ho0)) | ((with_reducible refine gate_callee (f := 15) rfl ?_); refine goesL_ (some 66) rfl rfl Try.func15 (by kernel_rfl) rfl #[.string a0] rfl (by (try simp only [List.map_toArray, List.map_cons, List.map_nil]); first | done | rfl | (simp only [List.length_drop, List.length_take]; rfl)) ?_; (with_reducible refine (ancepsref05_IsName.calls kj11 a0 false _ A38.out).mono ?_); rintro e w' ⟨rfl, ⟨nd, rfl⟩⟩; refine ⟨_, rfl, ?_⟩))
                  go_ret
                  exact ⟨by first | rfl | (simp [errW_none, errW_some] <;> rfl) | (simp [*, errW_none, errW_some] <;> rfl), by repeat (first | (with_reducible first | exact HB.out | apply below_alloc | apply pw_below_drewN | apply below_drew1) | exact HB.out)⟩

/-- THE ONE PURE STATEMENT of ancepslaw05_TokenNames: yours. -/
def ancepslaw05_TokenNames.Pure : Prop := ∀ (a0 : ByteArray), a0.size ≤ 140737488351232 → ∃ k, ancepslaw05_TokenNames.f k a0 = some true
theorem ancepslaw05_TokenNames.walk (P : ancepslaw05_TokenNames.Pure) (a0 : ByteArray) (w : World) (w0 : a0.size ≤ 140737488351232) :
    Calls Try.prog 3 #[.string a0] w fun e w' => e = .returned (.bool true) ∧ Below w.heap.size w w' := by
  obtain ⟨k, h⟩ := P a0 w0
  refine (ancepslaw05_TokenNames.calls k a0 true w h).mono ?_
  rintro e w' ⟨rfl, hd⟩
  exact ⟨rfl, hd⟩

/-! ### ancepsref05_space: function 34 -/
mutual
def ancepsref05_space.l0 : Nat → ByteArray → Int → Option (Int)
  | 0, _, _ => none
  | k + 1, x0, x3 => if x3 < (x0.size : Int) then (if 0 ≤ x3 then (if (bt x0 x3) = 32 then (ancepsref05_space.j1 k x0 x3 (bt x0 x3) ((bt x0 x3) == 32)) else (if (bt x0 x3) = 9 then (ancepsref05_space.j1 k x0 x3 (bt x0 x3) ((bt x0 x3) == 9)) else (if (bt x0 x3) = 10 then (ancepsref05_space.j1 k x0 x3 (bt x0 x3) ((bt x0 x3) == 10)) else (ancepsref05_space.j1 k x0 x3 (bt x0 x3) ((bt x0 x3) == 13))))) else (none)) else (some x3)
def ancepsref05_space.j1 : Nat → ByteArray → Int → Int → Bool → Option (Int)
  | 0, _, _, _, _ => none
  | k + 1, x0, x3, x10, x12 => if x12 = true then (ancepsref05_space.l0 k x0 (wrap64 (x3 + 1))) else (if x10 = 35 then (ancepsref05_space.l1 k x0 x3) else (some x3))
def ancepsref05_space.l1 : Nat → ByteArray → Int → Option (Int)
  | 0, _, _ => none
  | k + 1, x0, x3 => if x3 < (x0.size : Int) then (if 0 ≤ x3 then (if (bt x0 x3) = 10 then (ancepsref05_space.l0 k x0 x3) else (ancepsref05_space.l1 k x0 (wrap64 (x3 + 1)))) else (none)) else (ancepsref05_space.l0 k x0 x3)
end
def ancepsref05_space.f (k : Nat) (a0 : ByteArray) : Option (Int) := ancepsref05_space.l0 k a0 0
theorem ancepsref05_space.mono_l : ∀ k, (∀ y0 y1, LeO (ancepsref05_space.l0 k y0 y1) (ancepsref05_space.l0 (k + 1) y0 y1)) ∧ (∀ y0 y1 y2 y3, LeO (ancepsref05_space.j1 k y0 y1 y2 y3) (ancepsref05_space.j1 (k + 1) y0 y1 y2 y3)) ∧ (∀ y0 y1, LeO (ancepsref05_space.l1 k y0 y1) (ancepsref05_space.l1 (k + 1) y0 y1))
  | 0 => ⟨fun _ _ r h => by simp [ancepsref05_space.l0] at h, fun _ _ _ _ r h => by simp [ancepsref05_space.j1] at h, fun _ _ r h => by simp [ancepsref05_space.l1] at h⟩
  | k + 1 => by
    obtain ⟨ih0, ih1, ih2⟩ := ancepsref05_space.mono_l k
    refine ⟨?_, ?_, ?_⟩
    · intro y0 y1
      unfold ancepsref05_space.l0
      repeat' first
      | (with_reducible exact ih0 _ _)
      | (with_reducible exact ih1 _ _ _ _)
      | (with_reducible exact ih2 _ _)
      | (with_reducible exact LeO.refl _)
      | (with_reducible exact LeO.none _)
      | (with_reducible refine LeO.ite ?_ ?_)
      | (with_reducible refine LeO.bind ?_ (fun _ => ?_))
      | exact ih0 _ _
      | exact ih1 _ _ _ _
      | exact ih2 _ _
      | exact LeO.none _
      | refine LeO.ite ?_ ?_
      | refine LeO.bind ?_ (fun _ => ?_)
    · intro y0 y1 y2 y3
      unfold ancepsref05_space.j1
      repeat' first
      | (with_reducible exact ih0 _ _)
      | (with_reducible exact ih1 _ _ _ _)
      | (with_reducible exact ih2 _ _)
      | (with_reducible exact LeO.refl _)
      | (with_reducible exact LeO.none _)
      | (with_reducible refine LeO.ite ?_ ?_)
      | (with_reducible refine LeO.bind ?_ (fun _ => ?_))
      | exact ih0 _ _
      | exact ih1 _ _ _ _
      | exact ih2 _ _
      | exact LeO.none _
      | refine LeO.ite ?_ ?_
      | refine LeO.bind ?_ (fun _ => ?_)
    · intro y0 y1
      unfold ancepsref05_space.l1
      repeat' first
      | (with_reducible exact ih0 _ _)
      | (with_reducible exact ih1 _ _ _ _)
      | (with_reducible exact ih2 _ _)
      | (with_reducible exact LeO.refl _)
      | (with_reducible exact LeO.none _)
      | (with_reducible refine LeO.ite ?_ ?_)
      | (with_reducible refine LeO.bind ?_ (fun _ => ?_))
      | exact ih0 _ _
      | exact ih1 _ _ _ _
      | exact ih2 _ _
      | exact LeO.none _
      | refine LeO.ite ?_ ?_
      | refine LeO.bind ?_ (fun _ => ?_)
theorem ancepsref05_space.mono : ∀ a0 k, LeO (ancepsref05_space.f k a0) (ancepsref05_space.f (k + 1) a0) := by
  intro a0 k
  obtain ⟨ih0, ih1, ih2⟩ := ancepsref05_space.mono_l k
  unfold ancepsref05_space.f
  repeat' first
      | (with_reducible exact ih0 _ _)
      | (with_reducible exact ih1 _ _ _ _)
      | (with_reducible exact ih2 _ _)
      | (with_reducible exact LeO.refl _)
      | (with_reducible exact LeO.none _)
      | (with_reducible refine LeO.ite ?_ ?_)
      | (with_reducible refine LeO.bind ?_ (fun _ => ?_))
      | exact ih0 _ _
      | exact ih1 _ _ _ _
      | exact ih2 _ _
      | exact LeO.none _
      | refine LeO.ite ?_ ?_
      | refine LeO.bind ?_ (fun _ => ?_)
set_option maxHeartbeats 8000000 in
set_option maxRecDepth 100000 in
theorem ancepsref05_space.calls (k : Nat) (a0 : ByteArray) (r : Int) (w : World) (h : ancepsref05_space.f k a0 = some r) :
    Calls Try.prog 34 #[.string a0] w fun e w' => e = .returned (.int .i64 r) ∧ Drawn0 w w' := by
  have H : (ancepsref05_space.l0 k a0 0) = some r := h
  clear h
  have H' := Aside0.mk H
  clear H
  go_enter Try.func34, Try.ntmps34
  go_wp2
  go_loopg [3] k (fun kq v3 w' => ∃ (x3_1 : Int), v3 = .int .i64 x3_1 ∧ Aside0 (ancepsref05_space.l0 kq a0 x3_1 = some r) ∧ Aside0 (kq ≤ k) ∧ Drawn0 w w')
  case atStart => exact ⟨(0), (by first | rfl | (simp; done) | (simp [*]; done)), H', ⟨Nat.le_refl _⟩, by repeat (first | exact Drawn0.refl _ | apply Drawn0.step)⟩
  case round =>
    clear H'
    obtain ⟨x3_1, rfl, HA, HK1, ⟨m1, rfl⟩⟩ := hrel
    cases gk with
    | zero => exact absurd HA.out (by simp [ancepsref05_space.l0])
    | succ k1 =>
      have H := HA.out
      clear HA
      simp only [ancepsref05_space.l0] at H
      by_cases c2 : x3_1 < (a0.size : Int)
      · rw [if_pos c2] at H
        have c2b0 : decide (x3_1 < (a0.size : Int)) = true := decide_eq_true c2
        clear c2
        by_cases c3 : 0 ≤ x3_1
        · rw [if_pos c3] at H
          have c3b0 : decide (0 ≤ x3_1) = true := decide_eq_true c3
          clear c3
          have HC5 := Aside0.mk H
          clear H
          have p4 : 0 ≤ (x3_1 : Int) := of_decide_eq_true (by first | (with_reducible assumption) | assumption)
          have q4 : x3_1 < (a0.size : Int) := of_decide_eq_true (by first | (with_reducible assumption) | assumption)
          have hx4 := bt_at a0 x3_1
          replace p4 := eq_true p4
          replace q4 := eq_true q4
          go_upto_if 12 with (fail)
          go_cut [12] (fun v12 wc => ∃ (kq : Nat) (x12_4 : Bool), v12 = .bool x12_4 ∧ Aside0 (ancepsref05_space.j1 kq a0 x3_1 (bt a0 x3_1) x12_4 = some r) ∧ Aside0 (kq ≤ k1) ∧ Drawn0 w wc)
          case first =>
            have H := HC5.out
            clear HC5
            by_cases c6 : (bt a0 x3_1) = 32
            · rw [if_pos c6] at H
              have c6b0 : ((bt a0 x3_1) == 32) = true := beq_iff_eq.mpr c6
              have c6b1 : ((bt a0 x3_1) != 32) = false := bne_eq_false_iff_eq.mpr c6
              clear c6
              (first | rw [c6b0] | (simp only [i64_w, i32_w]; rw [c6b0]) | skip)
              have H' := Aside0.mk H
              clear H
              go_wp2
              go_meet
              case rel => exact ⟨_, (((bt a0 x3_1) == 32)), (by first | rfl | (simp; done) | (simp [*]; done)), H', ⟨by have := HK1.out; first | omega | exact Nat.le_refl _⟩, by repeat (first | exact Drawn0.refl _ | apply Drawn0.step)⟩
            · rw [if_neg c6] at H
              have c6b0 : ((bt a0 x3_1) == 32) = false := beq_eq_false_iff_ne.mpr c6
              have c6b1 : ((bt a0 x3_1) != 32) = true := bne_iff_ne.mpr c6
              (first | rw [c6b0] | (simp only [i64_w, i32_w]; rw [c6b0]) | skip)
              by_cases c7 : (bt a0 x3_1) = 9
              · rw [if_pos c7] at H
                have c7b0 : ((bt a0 x3_1) == 9) = true := beq_iff_eq.mpr c7
                have c7b1 : ((bt a0 x3_1) != 9) = false := bne_eq_false_iff_eq.mpr c7
                clear c7
                have H' := Aside0.mk H
                clear H
                go_wp2
                go_meet
                case rel => exact ⟨_, (((bt a0 x3_1) == 9)), (by first | rfl | (simp; done) | (simp [*]; done)), H', ⟨by have := HK1.out; first | omega | exact Nat.le_refl _⟩, by repeat (first | exact Drawn0.refl _ | apply Drawn0.step)⟩
              · rw [if_neg c7] at H
                have c7b0 : ((bt a0 x3_1) == 9) = false := beq_eq_false_iff_ne.mpr c7
                have c7b1 : ((bt a0 x3_1) != 9) = true := bne_iff_ne.mpr c7
                by_cases c8 : (bt a0 x3_1) = 10
                · rw [if_pos c8] at H
                  have c8b0 : ((bt a0 x3_1) == 10) = true := beq_iff_eq.mpr c8
                  have c8b1 : ((bt a0 x3_1) != 10) = false := bne_eq_false_iff_eq.mpr c8
                  clear c8
                  have H' := Aside0.mk H
                  clear H
                  go_wp2
                  go_meet
                  case rel => exact ⟨_, (((bt a0 x3_1) == 10)), (by first | rfl | (simp; done) | (simp [*]; done)), H', ⟨by have := HK1.out; first | omega | exact Nat.le_refl _⟩, by repeat (first | exact Drawn0.refl _ | apply Drawn0.step)⟩
                · rw [if_neg c8] at H
                  have c8b0 : ((bt a0 x3_1) == 10) = false := beq_eq_false_iff_ne.mpr c8
                  have c8b1 : ((bt a0 x3_1) != 10) = true := bne_iff_ne.mpr c8
                  have H' := Aside0.mk H
                  clear H
                  go_wp2
                  go_meet
                  case rel => exact ⟨_, (((bt a0 x3_1) == 13)), (by first | rfl | (simp; done) | (simp [*]; done)), H', ⟨by have := HK1.out; first | omega | exact Nat.le_refl _⟩, by repeat (first | exact Drawn0.refl _ | apply Drawn0.step)⟩
          case rest =>
            clear HC5
            try clear c2
            try clear c2b0
            try clear p2
            try clear c3
            try clear c3b0
            try clear p4
            try clear q4
            try clear hx4
            try clear c6
            try clear c6b0
            try clear c6b1
            try clear c7
            try clear c7b0
            try clear c7b1
            try clear c8
            try clear c8b0
            try clear c8b1
            try clear p4
            try clear q4
            obtain ⟨kq, x12_4, rfl, HA, HJ4, ⟨mc4, rfl⟩⟩ := hcut
            cases kq with
            | zero => exact absurd HA.out (by simp [ancepsref05_space.j1])
            | succ kj4 =>
              have H := HA.out
              clear HA
              simp only [ancepsref05_space.j1] at H
              by_cases c9 : x12_4 = true
              · subst c9
                have H1 : (ancepsref05_space.l0 kj4 a0 (wrap64 (x3_1 + 1))) = some r := by rw [if_pos rfl] at H; exact H
                clear H
                have H := H1
                clear H1
                have H' := Aside0.mk H
                clear H
                go_wp2
                go_roundg kj4
                case measure => have := HK1.out; have := HJ4.out; omega
                case rel => exact ⟨(wrap64 (x3_1 + 1)), (by first | rfl | (simp; done) | (simp [*]; done)), H', ⟨by have := HK1.out; have := HJ4.out; omega⟩, by repeat (first | exact Drawn0.refl _ | apply Drawn0.step)⟩
              · replace c9 := Bool.eq_false_iff.mpr c9
                subst c9
                have H1 : (if (bt a0 x3_1) = 35 then (ancepsref05_space.l1 kj4 a0 x3_1) else (some x3_1)) = some r := by rw [if_neg (show ¬ (false = true) by decide)] at H; exact H
                clear H
                have H := H1
                clear H1
                by_cases c10 : (bt a0 x3_1) = 35
                · rw [if_pos c10] at H
                  have c10b0 : ((bt a0 x3_1) == 35) = true := beq_iff_eq.mpr c10
                  have c10b1 : ((bt a0 x3_1) != 35) = false := bne_eq_false_iff_eq.mpr c10
                  clear c10
                  have H' := Aside0.mk H
                  clear H
                  go_wp2
                  go_loopg [3] kj4 (fun kq v3 w' => ∃ (x3_3 : Int), v3 = .int .i64 x3_3 ∧ Aside0 (ancepsref05_space.l1 kq a0 x3_3 = some r) ∧ Aside0 (kq ≤ kj4) ∧ Drawn0 w w')
                  case atStart => exact ⟨(x3_1), (by first | rfl | (simp; done) | (simp [*]; done)), H', ⟨Nat.le_refl _⟩, by repeat (first | exact Drawn0.refl _ | apply Drawn0.step)⟩
                  case round =>
                    clear H'
                    try clear c1
                    try clear c2
                    try clear c2b0
                    try clear p2
                    try clear c3
                    try clear c3b0
                    try clear c4
                    try clear p4
                    try clear q4
                    try clear hx4
                    try clear c6
                    try clear c6b0
                    try clear c6b1
                    try clear p6
                    try clear c7
                    try clear c7b0
                    try clear c7b1
                    try clear c8
                    try clear c8b0
                    try clear c8b1
                    try clear c9
                    try clear c10
                    try clear c10b0
                    try clear c10b1
                    try clear p2
                    try clear p4
                    try clear q4
                    obtain ⟨x3_3, rfl, HA, HK3, ⟨m3, rfl⟩⟩ := hrel
                    cases gk with
                    | zero => exact absurd HA.out (by simp [ancepsref05_space.l1])
                    | succ k3 =>
                      have H := HA.out
                      clear HA
                      simp only [ancepsref05_space.l1] at H
                      by_cases c11 : x3_3 < (a0.size : Int)
                      · rw [if_pos c11] at H
                        have c11b0 : decide (x3_3 < (a0.size : Int)) = true := decide_eq_true c11
                        clear c11
                        by_cases c12 : 0 ≤ x3_3
                        · rw [if_pos c12] at H
                          have c12b0 : decide (0 ≤ x3_3) = true := decide_eq_true c12
                          clear c12
                          by_cases c14 : (bt a0 x3_3) = 10
                          · rw [if_pos c14] at H
                            have c14b0 : ((bt a0 x3_3) == 10) = true := beq_iff_eq.mpr c14
                            have c14b1 : ((bt a0 x3_3) != 10) = false := bne_eq_false_iff_eq.mpr c14
                            clear c14
                            have H' := Aside0.mk H
                            clear H
                            have p13 : 0 ≤ (x3_3 : Int) := of_decide_eq_true (by first | (with_reducible assumption) | assumption)
                            have q13 : x3_3 < (a0.size : Int) := of_decide_eq_true (by first | (with_reducible assumption) | assumption)
                            have hx13 := bt_at a0 x3_3
                            replace p13 := eq_true p13
                            replace q13 := eq_true q13
                            go_wp2
                            go_roundg k3
                            case measure => have := HK1.out; have := HJ4.out; have := HK3.out; omega
                            case rel => exact ⟨(x3_3), (by first | rfl | (simp; done) | (simp [*]; done)), H', ⟨by have := HK1.out; have := HJ4.out; have := HK3.out; omega⟩, by repeat (first | exact Drawn0.refl _ | apply Drawn0.step)⟩
                          · rw [if_neg c14] at H
                            have c14b0 : ((bt a0 x3_3) == 10) = false := beq_eq_false_iff_ne.mpr c14
                            have c14b1 : ((bt a0 x3_3) != 10) = true := bne_iff_ne.mpr c14
                            have H' := Aside0.mk H
                            clear H
                            have p13 : 0 ≤ (x3_3 : Int) := of_decide_eq_true (by first | (with_reducible assumption) | assumption)
                            have q13 : x3_3 < (a0.size : Int) := of_decide_eq_true (by first | (with_reducible assumption) | assumption)
                            have hx13 := bt_at a0 x3_3
                            replace p13 := eq_true p13
                            replace q13 := eq_true q13
                            go_wp2
                            go_roundg k3
                            case measure => have := HK1.out; have := HJ4.out; have := HK3.out; omega
                            case rel => exact ⟨(wrap64 (x3_3 + 1)), (by first | rfl | (simp; done) | (simp [*]; done)), H', ⟨by have := HK1.out; have := HJ4.out; have := HK3.out; omega⟩, by repeat (first | exact Drawn0.refl _ | apply Drawn0.step)⟩
                        · rw [if_neg c12] at H
                          exact absurd H (by simp)
                      · rw [if_neg c11] at H
                        have c11b0 : decide (x3_3 < (a0.size : Int)) = false := decide_eq_false c11
                        clear c11
                        have H' := Aside0.mk H
                        clear H
                        go_wp2
                        go_roundg k3
                        case measure => have := HK1.out; have := HJ4.out; have := HK3.out; omega
                        case rel => exact ⟨(x3_3), (by first | rfl | (simp; done) | (simp [*]; done)), H', ⟨by have := HK1.out; have := HJ4.out; have := HK3.out; omega⟩, by repeat (first | exact Drawn0.refl _ | apply Drawn0.step)⟩
                · rw [if_neg c10] at H
                  have c10b0 : ((bt a0 x3_1) == 35) = false := beq_eq_false_iff_ne.mpr c10
                  have c10b1 : ((bt a0 x3_1) != 35) = true := bne_iff_ne.mpr c10
                  obtain rfl := Option.some.inj H
                  go_wp2
                  go_ret
                  exact ⟨by first | rfl | (simp; done) | (simp [*]; done), by repeat (first | exact Drawn0.refl _ | apply Drawn0.step)⟩
        · rw [if_neg c3] at H
          exact absurd H (by simp)
      · rw [if_neg c2] at H
        have c2b0 : decide (x3_1 < (a0.size : Int)) = false := decide_eq_false c2
        clear c2
        obtain rfl := Option.some.inj H
        go_wp2
        go_ret
        exact ⟨by first | rfl | (simp; done) | (simp [*]; done), by repeat (first | exact Drawn0.refl _ | apply Drawn0.step)⟩

/-! ### ancepsref05_feeds: function 35 -/
def ancepsref05_feeds.l0 : Nat → ByteArray → Int → Int → Option (Int)
  | 0, _, _, _ => none
  | k + 1, x0, x3, x4 => if x4 < (x0.size : Int) then (if 0 ≤ x4 then (if (bt x0 x4) = 10 then (ancepsref05_feeds.l0 k x0 (wrap64 (x3 + 1)) (wrap64 (x4 + 1))) else (ancepsref05_feeds.l0 k x0 x3 (wrap64 (x4 + 1)))) else (none)) else (some x3)
def ancepsref05_feeds.f (k : Nat) (a0 : ByteArray) : Option (Int) := ancepsref05_feeds.l0 k a0 0 0
theorem ancepsref05_feeds.mono_l : ∀ k, (∀ y0 y1 y2, LeO (ancepsref05_feeds.l0 k y0 y1 y2) (ancepsref05_feeds.l0 (k + 1) y0 y1 y2))
  | 0 => fun _ _ _ r h => by simp [ancepsref05_feeds.l0] at h
  | k + 1 => by
    have ih0 := ancepsref05_feeds.mono_l k
    · intro y0 y1 y2
      unfold ancepsref05_feeds.l0
      repeat' first
      | (with_reducible exact ih0 _ _ _)
      | (with_reducible exact LeO.refl _)
      | (with_reducible exact LeO.none _)
      | (with_reducible refine LeO.ite ?_ ?_)
      | (with_reducible refine LeO.bind ?_ (fun _ => ?_))
      | exact ih0 _ _ _
      | exact LeO.none _
      | refine LeO.ite ?_ ?_
      | refine LeO.bind ?_ (fun _ => ?_)
theorem ancepsref05_feeds.mono : ∀ a0 k, LeO (ancepsref05_feeds.f k a0) (ancepsref05_feeds.f (k + 1) a0) := by
  intro a0 k
  have ih0 := ancepsref05_feeds.mono_l k
  unfold ancepsref05_feeds.f
  repeat' first
      | (with_reducible exact ih0 _ _ _)
      | (with_reducible exact LeO.refl _)
      | (with_reducible exact LeO.none _)
      | (with_reducible refine LeO.ite ?_ ?_)
      | (with_reducible refine LeO.bind ?_ (fun _ => ?_))
      | exact ih0 _ _ _
      | exact LeO.none _
      | refine LeO.ite ?_ ?_
      | refine LeO.bind ?_ (fun _ => ?_)
set_option maxHeartbeats 8000000 in
set_option maxRecDepth 100000 in
theorem ancepsref05_feeds.calls (k : Nat) (a0 : ByteArray) (r : Int) (w : World) (h : ancepsref05_feeds.f k a0 = some r) :
    Calls Try.prog 35 #[.string a0] w fun e w' => e = .returned (.int .i64 r) ∧ Drawn0 w w' := by
  have H : (ancepsref05_feeds.l0 k a0 0 0) = some r := h
  clear h
  have H' := Aside0.mk H
  clear H
  go_enter Try.func35, Try.ntmps35
  go_wp2
  go_loopg [3, 4] k (fun kq v3 v4 w' => ∃ (x3_1 : Int) (x4_1 : Int), v3 = .int .i64 x3_1 ∧ v4 = .int .i64 x4_1 ∧ Aside0 (ancepsref05_feeds.l0 kq a0 x3_1 x4_1 = some r) ∧ Aside0 (kq ≤ k) ∧ Drawn0 w w')
  case atStart => exact ⟨(0), (0), (by first | rfl | (simp; done) | (simp [*]; done)), (by first | rfl | (simp; done) | (simp [*]; done)), H', ⟨Nat.le_refl _⟩, by repeat (first | exact Drawn0.refl _ | apply Drawn0.step)⟩
  case round =>
    clear H'
    obtain ⟨x3_1, x4_1, rfl, rfl, HA, HK1, ⟨m1, rfl⟩⟩ := hrel
    cases gk with
    | zero => exact absurd HA.out (by simp [ancepsref05_feeds.l0])
    | succ k1 =>
      have H := HA.out
      clear HA
      simp only [ancepsref05_feeds.l0] at H
      by_cases c2 : x4_1 < (a0.size : Int)
      · rw [if_pos c2] at H
        have c2b0 : decide (x4_1 < (a0.size : Int)) = true := decide_eq_true c2
        clear c2
        by_cases c3 : 0 ≤ x4_1
        · rw [if_pos c3] at H
          have c3b0 : decide (0 ≤ x4_1) = true := decide_eq_true c3
          clear c3
          by_cases c5 : (bt a0 x4_1) = 10
          · rw [if_pos c5] at H
            have c5b0 : ((bt a0 x4_1) == 10) = true := beq_iff_eq.mpr c5
            have c5b1 : ((bt a0 x4_1) != 10) = false := bne_eq_false_iff_eq.mpr c5
            clear c5
            have H' := Aside0.mk H
            clear H
            have p4 : 0 ≤ (x4_1 : Int) := of_decide_eq_true (by first | (with_reducible assumption) | assumption)
            have q4 : x4_1 < (a0.size : Int) := of_decide_eq_true (by first | (with_reducible assumption) | assumption)
            have hx4 := bt_at a0 x4_1
            replace p4 := eq_true p4
            replace q4 := eq_true q4
            go_wp2
            go_roundg k1
            case measure => have := HK1.out; omega
            case rel => exact ⟨(wrap64 (x3_1 + 1)), (wrap64 (x4_1 + 1)), (by first | rfl | (simp; done) | (simp [*]; done)), (by first | rfl | (simp; done) | (simp [*]; done)), H', ⟨by have := HK1.out; omega⟩, by repeat (first | exact Drawn0.refl _ | apply Drawn0.step)⟩
          · rw [if_neg c5] at H
            have c5b0 : ((bt a0 x4_1) == 10) = false := beq_eq_false_iff_ne.mpr c5
            have c5b1 : ((bt a0 x4_1) != 10) = true := bne_iff_ne.mpr c5
            have H' := Aside0.mk H
            clear H
            have p4 : 0 ≤ (x4_1 : Int) := of_decide_eq_true (by first | (with_reducible assumption) | assumption)
            have q4 : x4_1 < (a0.size : Int) := of_decide_eq_true (by first | (with_reducible assumption) | assumption)
            have hx4 := bt_at a0 x4_1
            replace p4 := eq_true p4
            replace q4 := eq_true q4
            go_wp2
            go_roundg k1
            case measure => have := HK1.out; omega
            case rel => exact ⟨(x3_1), (wrap64 (x4_1 + 1)), (by first | rfl | (simp; done) | (simp [*]; done)), (by first | rfl | (simp; done) | (simp [*]; done)), H', ⟨by have := HK1.out; omega⟩, by repeat (first | exact Drawn0.refl _ | apply Drawn0.step)⟩
        · rw [if_neg c3] at H
          exact absurd H (by simp)
      · rw [if_neg c2] at H
        have c2b0 : decide (x4_1 < (a0.size : Int)) = false := decide_eq_false c2
        clear c2
        obtain rfl := Option.some.inj H
        go_wp2
        go_ret
        exact ⟨by first | rfl | (simp; done) | (simp [*]; done), by repeat (first | exact Drawn0.refl _ | apply Drawn0.step)⟩

/-! ### ancepsref05_quoted: function 40 -/
def ancepsref05_quoted.f (a0 : Int) : Option (Bool) := if a0 ≥ 32 then (if a0 ≤ 126 then (some (a0 != 34)) else (some false)) else (some false)
set_option maxHeartbeats 8000000 in
set_option maxRecDepth 100000 in
theorem ancepsref05_quoted.calls (a0 : Int) (r : Bool) (w : World) (h : ancepsref05_quoted.f a0 = some r) :
    Calls Try.prog 40 #[.int .u8 a0] w fun e w' => e = .returned (.bool r) ∧ Drawn0 w w' := by
  have H : (if a0 ≥ 32 then (if a0 ≤ 126 then (some (a0 != 34)) else (some false)) else (some false)) = some r := h
  clear h
  by_cases c2 : a0 ≥ 32
  · rw [if_pos c2] at H
    have c2b0 : decide (32 ≤ a0) = true := decide_eq_true c2
    clear c2
    by_cases c3 : a0 ≤ 126
    · rw [if_pos c3] at H
      have c3b0 : decide (a0 ≤ 126) = true := decide_eq_true c3
      clear c3
      obtain rfl := Option.some.inj H
      go_enter Try.func40, Try.ntmps40
      go_wp2
      go_ret
      exact ⟨by first | rfl | (simp; done) | (simp [*]; done), by repeat (first | exact Drawn0.refl _ | apply Drawn0.step)⟩
    · rw [if_neg c3] at H
      have c3b0 : decide (a0 ≤ 126) = false := decide_eq_false c3
      clear c3
      obtain rfl := Option.some.inj H
      go_enter Try.func40, Try.ntmps40
      go_wp2
      go_ret
      exact ⟨by first | rfl | (simp; done) | (simp [*]; done), by repeat (first | exact Drawn0.refl _ | apply Drawn0.step)⟩
  · rw [if_neg c2] at H
    have c2b0 : decide (32 ≤ a0) = false := decide_eq_false c2
    clear c2
    obtain rfl := Option.some.inj H
    go_enter Try.func40, Try.ntmps40
    go_wp2
    go_ret
    exact ⟨by first | rfl | (simp; done) | (simp [*]; done), by repeat (first | exact Drawn0.refl _ | apply Drawn0.step)⟩

end Go.Proofs.Ytkkgacoecimlpaa.X
