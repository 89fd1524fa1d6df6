-- printed by this session's xprint.py: out of the translation, by the kit's print with additions; Lean checks it
import Derived.Test.YtkkgacoecimlpaaX0
import Derived.Test.YtkkgacoecimlpaaX1
import Derived.Test.YtkkgacoecimlpaaX4
import Derived.Test.YtkkgacoecimlpaaX19
import Derived.Test.YtkkgacoecimlpaaX20
namespace Go.Proofs.Ytkkgacoecimlpaa.X
open Go.RowKit Go.Proofs.YtkkgacoecimlpaaW.PrintWords Go.Proofs.YtkkgacoecimlpaaW.PrintLast Go.Proofs.YtkkgacoecimlpaaW.PrintMore
attribute [local go_sem] max2_int min2_int max_two min_two max_three min_three max_four min_four isSome_setCell   -- for this text's walks alone
set_option linter.unusedVariables false
set_option linter.unusedSimpArgs false

attribute [local go_sem high] eqA31
/-! ### ancepslaw05_TokenQuote: function 6 -/
def ancepslaw05_TokenQuote.j0 : Nat → ByteArray → Bool → Option (Bool)
  | 0, _, _ => none
  | k + 1, x0, x16 => if x16 = true then ((ancepslaw05_awake.f k).bind fun t259 => (some t259)) else ((token_Quote.f k x0).bind fun bt260 => ((ancepsref05_Quote.f k x0).bind fun bt262 => (if bt260.2 = bt262.2 then (if bt260.1.toList = bt262.1.toList then (if bt260.2 = 0 then ((token_Tokens.f k bt260.1).bind fun bt264 => (if bt264.2.2 = 0 then (if (bt264.1.length : Int) = 1 then (if 0 < (bt264.1.length : Int) then (some (((rd_T31 bt264.1 0).f0) == 3 && ((((rd_T31 bt264.1 0).f1).toList) == x0.toList && (((rd_T31 bt264.1 0).f2) == 1)))) else (none)) else (some false)) else (some false))) else (some (bt260.1.toList == bt262.1.toList))) else (some (bt260.1.toList == bt262.1.toList))) else (some false))))
def ancepslaw05_TokenQuote.f (k : Nat) (a0 : ByteArray) : Option (Bool) := (ancepslaw05_awake.f k).bind fun t258 => (if t258 = true then (ancepslaw05_TokenQuote.j0 k a0 (decide ((a0.size : Int) > 100))) else (ancepslaw05_TokenQuote.j0 k a0 true))
theorem ancepslaw05_TokenQuote.mono_l : ∀ k, (∀ y0 y1, LeO (ancepslaw05_TokenQuote.j0 k y0 y1) (ancepslaw05_TokenQuote.j0 (k + 1) y0 y1))
  | 0 => fun _ _ r h => by simp [ancepslaw05_TokenQuote.j0] at h
  | k + 1 => by
    have ih0 := ancepslaw05_TokenQuote.mono_l k
    · intro y0 y1
      unfold ancepslaw05_TokenQuote.j0
      repeat' first
      | (with_reducible exact ih0 _ _)
      | (with_reducible exact ancepslaw05_awake.mono _)
      | (with_reducible exact ancepsref05_Quote.mono _ _)
      | (with_reducible exact token_Quote.mono _ _)
      | (with_reducible exact token_Tokens.mono _ _)
      | (with_reducible exact LeO.refl _)
      | (with_reducible exact LeO.none _)
      | (with_reducible refine LeO.ite ?_ ?_)
      | (with_reducible refine LeO.bind ?_ (fun _ => ?_))
      | exact ih0 _ _
      | exact ancepslaw05_awake.mono _
      | exact ancepsref05_Quote.mono _ _
      | exact token_Quote.mono _ _
      | exact token_Tokens.mono _ _
      | exact LeO.none _
      | refine LeO.ite ?_ ?_
      | refine LeO.bind ?_ (fun _ => ?_)
theorem ancepslaw05_TokenQuote.mono : ∀ a0 k, LeO (ancepslaw05_TokenQuote.f k a0) (ancepslaw05_TokenQuote.f (k + 1) a0) := by
  intro a0 k
  have ih0 := ancepslaw05_TokenQuote.mono_l k
  unfold ancepslaw05_TokenQuote.f
  repeat' first
      | (with_reducible exact ih0 _ _)
      | (with_reducible exact ancepslaw05_awake.mono _)
      | (with_reducible exact ancepsref05_Quote.mono _ _)
      | (with_reducible exact token_Quote.mono _ _)
      | (with_reducible exact token_Tokens.mono _ _)
      | (with_reducible exact LeO.refl _)
      | (with_reducible exact LeO.none _)
      | (with_reducible refine LeO.ite ?_ ?_)
      | (with_reducible refine LeO.bind ?_ (fun _ => ?_))
      | exact ih0 _ _
      | exact ancepslaw05_awake.mono _
      | exact ancepsref05_Quote.mono _ _
      | exact token_Quote.mono _ _
      | exact token_Tokens.mono _ _
      | exact LeO.none _
      | refine LeO.ite ?_ ?_
      | refine LeO.bind ?_ (fun _ => ?_)
set_option maxHeartbeats 8000000 in
set_option maxRecDepth 100000 in
theorem ancepslaw05_TokenQuote.calls (k : Nat) (a0 : ByteArray) (r : Bool) (w : World) (h : ancepslaw05_TokenQuote.f k a0 = some r) :
    Calls Try.prog 6 #[.string a0] w fun e w' => e = .returned (.bool r) ∧ Below w.heap.size w w' := by
  have hu31 := Try.underlying31
  have HB := Aside0.mk (Below.refl w.heap.size w)
  have H : ((ancepslaw05_awake.f k).bind fun t258 => (if t258 = true then (ancepslaw05_TokenQuote.j0 k a0 (decide ((a0.size : Int) > 100))) else (ancepslaw05_TokenQuote.j0 k a0 true))) = some r := h
  clear h
  have HC2 := Aside0.mk H
  clear H
  go_enter Try.func6, Try.ntmps6
  go_upto_region 1 with (fail)
  go_cut [16] (fun v16 wc => ∃ (kq : Nat) (x16_1 : Bool), v16 = .bool x16_1 ∧ Aside0 (ancepslaw05_TokenQuote.j0 kq a0 x16_1 = some r) ∧ Aside0 (kq ≤ k) ∧ Aside0 (Below w.heap.size w wc))
  case first =>
    have H := HC2.out
    clear HC2
    replace H := Option.bind_eq_some_iff.mp H
    obtain ⟨t258, A30, H⟩ := H
    replace H : (if t258 = true then (ancepslaw05_TokenQuote.j0 k a0 (decide ((a0.size : Int) > 100))) else (ancepslaw05_TokenQuote.j0 k a0 true)) = some r := H
    have A3 := Aside0.mk A30
    clear A30
    by_cases c4 : t258 = true
    · subst c4
      have H1 : (ancepslaw05_TokenQuote.j0 k a0 (decide ((a0.size : Int) > 100))) = some r := by rw [if_pos rfl] at H; exact H
      clear H
      have H := H1
      clear H1
      have H' := Aside0.mk H
      clear H
      go_wp2_with (first | ((with_reducible refine gate_callee (f := 11) rfl ?_); refine goesL_ (some 10) rfl rfl Try.func11 (by kernel_rfl) rfl #[] rfl (by (try simp only [List.map_toArray, List.map_cons, List.map_nil]); first | done | rfl | (simp only [List.length_drop, List.length_take]; rfl)) ?_; (with_reducible refine (ancepslaw05_awake.calls k  true _ A3.out).mono ?_); rintro e w5 ⟨rfl, hb⟩; refine ⟨_, rfl, ?_⟩; have n0_ := Aside0.mk (below_step (by repeat (first | (with_reducible first | exact HB.out | apply below_alloc | apply pw_below_drewN | apply below_drew1) | exact HB.out)) hb); clear HB; have HB := n0_; clear n0_; (try clear hb); (try clear hb2); (try clear hk); (try clear hi)))
      go_meet
      case rel => exact ⟨_, (decide ((a0.size : Int) > 100)), (by first | rfl | (simp; done) | (simp [*]; done)), H', ⟨by first | omega | exact Nat.le_refl _⟩, ⟨by repeat (first | (with_reducible first | exact HB.out | apply below_alloc | apply pw_below_drewN | apply below_drew1) | exact HB.out)⟩⟩
    · replace c4 := Bool.eq_false_iff.mpr c4
      subst c4
      have H1 : (ancepslaw05_TokenQuote.j0 k a0 true) = some r := by rw [if_neg (show ¬ (false = true) by decide)] at H; exact H
      clear H
      have H := H1
      clear H1
      have H' := Aside0.mk H
      clear H
      go_wp2_with (first | ((with_reducible refine gate_callee (f := 11) rfl ?_); refine goesL_ (some 10) rfl rfl Try.func11 (by kernel_rfl) rfl #[] rfl (by (try simp only [List.map_toArray, List.map_cons, List.map_nil]); first | done | rfl | (simp only [List.length_drop, List.length_take]; rfl)) ?_; (with_reducible refine (ancepslaw05_awake.calls k  false _ A3.out).mono ?_); rintro e w6 ⟨rfl, hb⟩; refine ⟨_, rfl, ?_⟩; have n0_ := Aside0.mk (below_step (by repeat (first | (with_reducible first | exact HB.out | apply below_alloc | apply pw_below_drewN | apply below_drew1) | exact HB.out)) hb); clear HB; have HB := n0_; clear n0_; (try clear hb); (try clear hb2); (try clear hk); (try clear hi)))
      go_meet
      case rel => exact ⟨_, (true), (by first | rfl | (simp; done) | (simp [*]; done)), H', ⟨by first | omega | exact Nat.le_refl _⟩, ⟨by repeat (first | (with_reducible first | exact HB.out | apply below_alloc | apply pw_below_drewN | apply below_drew1) | exact HB.out)⟩⟩
  case rest =>
    clear HC2
    try clear c1
    try clear p2
    try clear c4
    try clear c6
    obtain ⟨kq, x16_1, rfl, HA, HJ1, HB⟩ := hcut
    cases kq with
    | zero => exact absurd HA.out (by simp [ancepslaw05_TokenQuote.j0])
    | succ kj1 =>
      have H := HA.out
      clear HA
      simp only [ancepslaw05_TokenQuote.j0] at H
      by_cases c7 : x16_1 = true
      · subst c7
        have H1 : ((ancepslaw05_awake.f kj1).bind fun t259 => (some t259)) = some r := by rw [if_pos rfl] at H; exact H
        clear H
        have H := H1
        clear H1
        replace H := Option.bind_eq_some_iff.mp H
        obtain ⟨t259, A80, H⟩ := H
        replace H : (some t259) = some r := H
        have A8 := Aside0.mk A80
        clear A80
        obtain rfl := Option.some.inj H
        go_wp2_with (first | ((with_reducible refine gate_callee (f := 11) rfl ?_); refine goesL_ (some 17) rfl rfl Try.func11 (by kernel_rfl) rfl #[] rfl (by (try simp only [List.map_toArray, List.map_cons, List.map_nil]); first | done | rfl | (simp only [List.length_drop, List.length_take]; rfl)) ?_; (with_reducible refine (ancepslaw05_awake.calls kj1  t259 _ A8.out).mono ?_); rintro e w9 ⟨rfl, hb⟩; refine ⟨_, rfl, ?_⟩; have n0_ := Aside0.mk (below_step (by repeat (first | (with_reducible first | exact HB.out | apply below_alloc | apply pw_below_drewN | apply below_drew1) | exact HB.out)) hb); clear HB; have HB := n0_; clear n0_; (try clear hb); (try clear hb2); (try clear hk); (try clear hi)))
        go_ret
        exact ⟨by first | rfl | (simp [errW_none, errW_some] <;> rfl) | (simp [*, errW_none, errW_some] <;> rfl), by repeat (first | (with_reducible first | exact HB.out | apply below_alloc | apply pw_below_drewN | apply below_drew1) | exact HB.out)⟩
      · replace c7 := Bool.eq_false_iff.mpr c7
        subst c7
        have H1 : ((token_Quote.f kj1 a0).bind fun bt260 => ((ancepsref05_Quote.f kj1 a0).bind fun bt262 => (if bt260.2 = bt262.2 then (if bt260.1.toList = bt262.1.toList then (if bt260.2 = 0 then ((token_Tokens.f kj1 bt260.1).bind fun bt264 => (if bt264.2.2 = 0 then (if (bt264.1.length : Int) = 1 then (if 0 < (bt264.1.length : Int) then (some (((rd_T31 bt264.1 0).f0) == 3 && ((((rd_T31 bt264.1 0).f1).toList) == a0.toList && (((rd_T31 bt264.1 0).f2) == 1)))) else (none)) else (some false)) else (some false))) else (some (bt260.1.toList == bt262.1.toList))) else (some (bt260.1.toList == bt262.1.toList))) else (some false)))) = some r := by rw [if_neg (show ¬ (false = true) by decide)] at H; exact H
        clear H
        have H := H1
        clear H1
        replace H := Option.bind_eq_some_iff.mp H
        obtain ⟨⟨t260, t261⟩, A100, H⟩ := H
        replace H : ((ancepsref05_Quote.f kj1 a0).bind fun bt262 => (if t261 = bt262.2 then (if t260.toList = bt262.1.toList then (if t261 = 0 then ((token_Tokens.f kj1 t260).bind fun bt264 => (if bt264.2.2 = 0 then (if (bt264.1.length : Int) = 1 then (if 0 < (bt264.1.length : Int) then (some (((rd_T31 bt264.1 0).f0) == 3 && ((((rd_T31 bt264.1 0).f1).toList) == a0.toList && (((rd_T31 bt264.1 0).f2) == 1)))) else (none)) else (some false)) else (some false))) else (some (t260.toList == bt262.1.toList))) else (some (t260.toList == bt262.1.toList))) else (some false))) = some r := H
        have A10 := Aside0.mk A100
        clear A100
        replace H := Option.bind_eq_some_iff.mp H
        obtain ⟨⟨t262, t263⟩, A110, H⟩ := H
        replace H : (if t261 = t263 then (if t260.toList = t262.toList then (if t261 = 0 then ((token_Tokens.f kj1 t260).bind fun bt264 => (if bt264.2.2 = 0 then (if (bt264.1.length : Int) = 1 then (if 0 < (bt264.1.length : Int) then (some (((rd_T31 bt264.1 0).f0) == 3 && ((((rd_T31 bt264.1 0).f1).toList) == a0.toList && (((rd_T31 bt264.1 0).f2) == 1)))) else (none)) else (some false)) else (some false))) else (some (t260.toList == t262.toList))) else (some (t260.toList == t262.toList))) else (some false)) = some r := H
        have A11 := Aside0.mk A110
        clear A110
        by_cases c12 : t261 = t263
        · rw [if_pos c12] at H
          have c12b0 : (t261 == t263) = true := beq_iff_eq.mpr c12
          have c12b1 : (t261 != t263) = false := bne_eq_false_iff_eq.mpr c12
          clear c12
          by_cases c13 : t260.toList = t262.toList
          · rw [if_pos c13] at H
            have c13b0 : (t260.toList == t262.toList) = true := beq_iff_eq.mpr c13
            have c13b1 : (t260.toList != t262.toList) = false := bne_eq_false_iff_eq.mpr c13
            clear c13
            by_cases c14 : t261 = 0
            · rw [if_pos c14] at H
              have c14b0 : (t261 == 0) = true := beq_iff_eq.mpr c14
              have c14b1 : (t261 != 0) = false := bne_eq_false_iff_eq.mpr c14
              clear c14
              replace H := Option.bind_eq_some_iff.mp H
              obtain ⟨⟨t264, t265, t266⟩, A150, H⟩ := H
              replace H : (if t266 = 0 then (if (t264.length : Int) = 1 then (if 0 < (t264.length : Int) then (some (((rd_T31 t264 0).f0) == 3 && ((((rd_T31 t264 0).f1).toList) == a0.toList && (((rd_T31 t264 0).f2) == 1)))) else (none)) else (some false)) else (some false)) = some r := H
              have A15 := Aside0.mk A150
              clear A150
              by_cases c16 : t266 = 0
              · rw [if_pos c16] at H
                have c16b0 : (t266 == 0) = true := beq_iff_eq.mpr c16
                have c16b1 : (t266 != 0) = false := bne_eq_false_iff_eq.mpr c16
                clear c16
                by_cases c17 : (t264.length : Int) = 1
                · rw [if_pos c17] at H
                  have c17b0 : ((t264.length : Int) == 1) = true := beq_iff_eq.mpr c17
                  have c17b1 : ((t264.length : Int) != 1) = false := bne_eq_false_iff_eq.mpr c17
                  clear c17
                  by_cases c18 : 0 < (t264.length : Int)
                  · rw [if_pos c18] at H
                    have c18b0 : decide (0 < (t264.length : Int)) = true := decide_eq_true c18
                    have c18b1 : decide (0 < t264.length) = true := decide_eq_true (by omega)
                    clear c18
                    obtain rfl := Option.some.inj H
                    go_wp2_with (first | ((with_reducible refine gate_callee (f := 22) rfl ?_); refine goesL_ (some 20) rfl rfl Try.func22 (by kernel_rfl) rfl #[.string a0] rfl (by (try simp only [List.map_toArray, List.map_cons, List.map_nil]); first | done | rfl | (simp only [List.length_drop, List.length_take]; rfl)) ?_; (with_reducible refine (token_Quote.calls kj1 a0 t260 t261 _ A10.out).mono ?_); rintro e w19 ⟨rfl, hb⟩; refine ⟨_, rfl, ?_⟩; have n0_ := Aside0.mk (below_step (by repeat (first | (with_reducible first | exact HB.out | apply below_alloc | apply pw_below_drewN | apply below_drew1) | exact HB.out)) hb); clear HB; have HB := n0_; clear n0_; (try clear hb); (try clear hb2); (try clear hk); (try clear hi)) | ((with_reducible refine gate_callee (f := 23) rfl ?_); refine goesL_ (some 25) rfl rfl Try.func23 (by kernel_rfl) rfl #[.string a0] rfl (by (try simp only [List.map_toArray, List.map_cons, List.map_nil]); first | done | rfl | (simp only [List.length_drop, List.length_take]; rfl)) ?_; (with_reducible refine (ancepsref05_Quote.calls kj1 a0 t262 t263 _ A11.out).mono ?_); rintro e w' ⟨rfl, ⟨nd, rfl⟩⟩; refine ⟨_, rfl, ?_⟩) | ((with_reducible refine gate_callee (f := 16) rfl ?_); refine goesL_ (some 50) rfl rfl Try.func16 (by kernel_rfl) rfl #[.string t260] rfl (by (try simp only [List.map_toArray, List.map_cons, List.map_nil]); first | done | rfl | (simp only [List.length_drop, List.length_take]; rfl)) ?_; (with_reducible refine (token_Tokens.calls kj1 t260 t264 t265 t266 _ A15.out).mono ?_); rintro e w20 ⟨v267, rfl, ho0, hb⟩; refine ⟨_, rfl, ?_⟩; have n0_ := Aside0.mk (Kd.R_lower ho0 (below_size (by repeat (first | (with_reducible first | exact HB.out | apply below_alloc | apply pw_below_drewN | apply below_drew1) | exact HB.out)))); have n1_ := Aside0.mk (below_step (by repeat (first | (with_reducible first | exact HB.out | apply below_alloc | apply pw_below_drewN | apply below_drew1) | exact HB.out)) hb); clear HB; have HO268 := n0_; have HB := n1_; clear n0_ n1_; (try clear hb); (try clear hb2); (try clear hk); (try clear hi); (try clear ho0); obtain ⟨Ao21, co21, eo21⟩ := Kd.R_slice HO268.out; subst eo21; have p269 : 0 ≤ (0 : Int) := (by omega); have q269 : 0 < (t264.length : Int) := of_decide_eq_true (by first | (with_reducible assumption) | assumption); obtain ⟨ad269, e269, hx269_0, hx269_1, hx269_2⟩ := at_T31 (Kd.R_reads' HO268.out).2.2 0 p269 q269; cases e269; have qi269 : (0 < t264.length) = True := eq_true (by omega); (try rw [show ((0 : Int)).toNat = 0 from rfl] at hx269_0); (try rw [show 0 * 3 = 0 from rfl] at hx269_0); (try rw [Addr.add_zero'] at hx269_0); (try rw [show ((0 : Int)).toNat = 0 from rfl] at hx269_1); (try rw [show 0 * 3 = 0 from rfl] at hx269_1); (try rw [Addr.add_zero'] at hx269_1); (try rw [show ((0 : Int)).toNat = 0 from rfl] at hx269_2); (try rw [show 0 * 3 = 0 from rfl] at hx269_2); (try rw [Addr.add_zero'] at hx269_2); replace p269 := eq_true p269; replace q269 := eq_true q269))
                    go_ret
                    exact ⟨by first | rfl | (simp [errW_none, errW_some] <;> rfl) | (simp [*, errW_none, errW_some] <;> rfl), by repeat (first | (with_reducible first | exact HB.out | apply below_alloc | apply pw_below_drewN | apply below_drew1) | exact HB.out)⟩
                  · rw [if_neg c18] at H
                    exact absurd H (by simp)
                · rw [if_neg c17] at H
                  have c17b0 : ((t264.length : Int) == 1) = false := beq_eq_false_iff_ne.mpr c17
                  have c17b1 : ((t264.length : Int) != 1) = true := bne_iff_ne.mpr c17
                  obtain rfl := Option.some.inj H
                  go_wp2_with (first | ((with_reducible refine gate_callee (f := 22) rfl ?_); refine goesL_ (some 20) rfl rfl Try.func22 (by kernel_rfl) rfl #[.string a0] rfl (by (try simp only [List.map_toArray, List.map_cons, List.map_nil]); first | done | rfl | (simp only [List.length_drop, List.length_take]; rfl)) ?_; (with_reducible refine (token_Quote.calls kj1 a0 t260 t261 _ A10.out).mono ?_); rintro e w22 ⟨rfl, hb⟩; refine ⟨_, rfl, ?_⟩; have n0_ := Aside0.mk (below_step (by repeat (first | (with_reducible first | exact HB.out | apply below_alloc | apply pw_below_drewN | apply below_drew1) | exact HB.out)) hb); clear HB; have HB := n0_; clear n0_; (try clear hb); (try clear hb2); (try clear hk); (try clear hi)) | ((with_reducible refine gate_callee (f := 23) rfl ?_); refine goesL_ (some 25) rfl rfl Try.func23 (by kernel_rfl) rfl #[.string a0] rfl (by (try simp only [List.map_toArray, List.map_cons, List.map_nil]); first | done | rfl | (simp only [List.length_drop, List.length_take]; rfl)) ?_; (with_reducible refine (ancepsref05_Quote.calls kj1 a0 t262 t263 _ A11.out).mono ?_); rintro e w' ⟨rfl, ⟨nd, rfl⟩⟩; refine ⟨_, rfl, ?_⟩) | ((with_reducible refine gate_callee (f := 16) rfl ?_); refine goesL_ (some 50) rfl rfl Try.func16 (by kernel_rfl) rfl #[.string t260] rfl (by (try simp only [List.map_toArray, List.map_cons, List.map_nil]); first | done | rfl | (simp only [List.length_drop, List.length_take]; rfl)) ?_; (with_reducible refine (token_Tokens.calls kj1 t260 t264 t265 t266 _ A15.out).mono ?_); rintro e w23 ⟨v267, rfl, ho0, hb⟩; refine ⟨_, rfl, ?_⟩; have n0_ := Aside0.mk (Kd.R_lower ho0 (below_size (by repeat (first | (with_reducible first | exact HB.out | apply below_alloc | apply pw_below_drewN | apply below_drew1) | exact HB.out)))); have n1_ := Aside0.mk (below_step (by repeat (first | (with_reducible first | exact HB.out | apply below_alloc | apply pw_below_drewN | apply below_drew1) | exact HB.out)) hb); clear HB; have HO268 := n0_; have HB := n1_; clear n0_ n1_; (try clear hb); (try clear hb2); (try clear hk); (try clear hi); (try clear ho0); obtain ⟨Ao24, co24, eo24⟩ := Kd.R_slice HO268.out; subst eo24))
                  go_ret
                  exact ⟨by first | rfl | (simp [errW_none, errW_some] <;> rfl) | (simp [*, errW_none, errW_some] <;> rfl), by repeat (first | (with_reducible first | exact HB.out | apply below_alloc | apply pw_below_drewN | apply below_drew1) | exact HB.out)⟩
              · rw [if_neg c16] at H
                have c16b0 : (t266 == 0) = false := beq_eq_false_iff_ne.mpr c16
                have c16b1 : (t266 != 0) = true := bne_iff_ne.mpr c16
                obtain rfl := Option.some.inj H
                go_wp2_with (first | ((with_reducible refine gate_callee (f := 22) rfl ?_); refine goesL_ (some 20) rfl rfl Try.func22 (by kernel_rfl) rfl #[.string a0] rfl (by (try simp only [List.map_toArray, List.map_cons, List.map_nil]); first | done | rfl | (simp only [List.length_drop, List.length_take]; rfl)) ?_; (with_reducible refine (token_Quote.calls kj1 a0 t260 t261 _ A10.out).mono ?_); rintro e w25 ⟨rfl, hb⟩; refine ⟨_, rfl, ?_⟩; have n0_ := Aside0.mk (below_step (by repeat (first | (with_reducible first | exact HB.out | apply below_alloc | apply pw_below_drewN | apply below_drew1) | exact HB.out)) hb); clear HB; have HB := n0_; clear n0_; (try clear hb); (try clear hb2); (try clear hk); (try clear hi)) | ((with_reducible refine gate_callee (f := 23) rfl ?_); refine goesL_ (some 25) rfl rfl Try.func23 (by kernel_rfl) rfl #[.string a0] rfl (by (try simp only [List.map_toArray, List.map_cons, List.map_nil]); first | done | rfl | (simp only [List.length_drop, List.length_take]; rfl)) ?_; (with_reducible refine (ancepsref05_Quote.calls kj1 a0 t262 t263 _ A11.out).mono ?_); rintro e w' ⟨rfl, ⟨nd, rfl⟩⟩; refine ⟨_, rfl, ?_⟩) | ((with_reducible refine gate_callee (f := 16) rfl ?_); refine goesL_ (some 50) rfl rfl Try.func16 (by kernel_rfl) rfl #[.string t260] rfl (by (try simp only [List.map_toArray, List.map_cons, List.map_nil]); first | done | rfl | (simp only [List.length_drop, List.length_take]; rfl)) ?_; (with_reducible refine (token_Tokens.calls kj1 t260 t264 t265 t266 _ A15.out).mono ?_); rintro e w26 ⟨v267, rfl, ho0, hb⟩; refine ⟨_, rfl, ?_⟩; have n0_ := Aside0.mk (Kd.R_lower ho0 (below_size (by repeat (first | (with_reducible first | exact HB.out | apply below_alloc | apply pw_below_drewN | apply below_drew1) | exact HB.out)))); have n1_ := Aside0.mk (below_step (by repeat (first | (with_reducible first | exact HB.out | apply below_alloc | apply pw_below_drewN | apply below_drew1) | exact HB.out)) hb); clear HB; have HO268 := n0_; have HB := n1_; clear n0_ n1_; (try clear hb); (try clear hb2); (try clear hk); (try clear hi); (try clear ho0)))
                go_ret
                exact ⟨by first | rfl | (simp [errW_none, errW_some] <;> rfl) | (simp [*, errW_none, errW_some] <;> rfl), by repeat (first | (with_reducible first | exact HB.out | apply below_alloc | apply pw_below_drewN | apply below_drew1) | exact HB.out)⟩
            · rw [if_neg c14] at H
              have c14b0 : (t261 == 0) = false := beq_eq_false_iff_ne.mpr c14
              have c14b1 : (t261 != 0) = true := bne_iff_ne.mpr c14
              obtain rfl := Option.some.inj H
              go_wp2_with (first | ((with_reducible refine gate_callee (f := 22) rfl ?_); refine goesL_ (some 20) rfl rfl Try.func22 (by kernel_rfl) rfl #[.string a0] rfl (by (try simp only [List.map_toArray, List.map_cons, List.map_nil]); first | done | rfl | (simp only [List.length_drop, List.length_take]; rfl)) ?_; (with_reducible refine (token_Quote.calls kj1 a0 t260 t261 _ A10.out).mono ?_); rintro e w27 ⟨rfl, hb⟩; refine ⟨_, rfl, ?_⟩; have n0_ := Aside0.mk (below_step (by repeat (first | (with_reducible first | exact HB.out | apply below_alloc | apply pw_below_drewN | apply below_drew1) | exact HB.out)) hb); clear HB; have HB := n0_; clear n0_; (try clear hb); (try clear hb2); (try clear hk); (try clear hi)) | ((with_reducible refine gate_callee (f := 23) rfl ?_); refine goesL_ (some 25) rfl rfl Try.func23 (by kernel_rfl) rfl #[.string a0] rfl (by (try simp only [List.map_toArray, List.map_cons, List.map_nil]); first | done | rfl | (simp only [List.length_drop, List.length_take]; rfl)) ?_; (with_reducible refine (ancepsref05_Quote.calls kj1 a0 t262 t263 _ A11.out).mono ?_); rintro e w' ⟨rfl, ⟨nd, rfl⟩⟩; refine ⟨_, rfl, ?_⟩))
              go_ret
              exact ⟨by first | rfl | (simp [errW_none, errW_some] <;> rfl) | (simp [*, errW_none, errW_some] <;> rfl), by repeat (first | (with_reducible first | exact HB.out | apply below_alloc | apply pw_below_drewN | apply below_drew1) | exact HB.out)⟩
          · rw [if_neg c13] at H
            have c13b0 : (t260.toList == t262.toList) = false := beq_eq_false_iff_ne.mpr c13
            have c13b1 : (t260.toList != t262.toList) = true := bne_iff_ne.mpr c13
            obtain rfl := Option.some.inj H
            go_wp2_with (first | ((with_reducible refine gate_callee (f := 22) rfl ?_); refine goesL_ (some 20) rfl rfl Try.func22 (by kernel_rfl) rfl #[.string a0] rfl (by (try simp only [List.map_toArray, List.map_cons, List.map_nil]); first | done | rfl | (simp only [List.length_drop, List.length_take]; rfl)) ?_; (with_reducible refine (token_Quote.calls kj1 a0 t260 t261 _ A10.out).mono ?_); rintro e w28 ⟨rfl, hb⟩; refine ⟨_, rfl, ?_⟩; have n0_ := Aside0.mk (below_step (by repeat (first | (with_reducible first | exact HB.out | apply below_alloc | apply pw_below_drewN | apply below_drew1) | exact HB.out)) hb); clear HB; have HB := n0_; clear n0_; (try clear hb); (try clear hb2); (try clear hk); (try clear hi)) | ((with_reducible refine gate_callee (f := 23) rfl ?_); refine goesL_ (some 25) rfl rfl Try.func23 (by kernel_rfl) rfl #[.string a0] rfl (by (try simp only [List.map_toArray, List.map_cons, List.map_nil]); first | done | rfl | (simp only [List.length_drop, List.length_take]; rfl)) ?_; (with_reducible refine (ancepsref05_Quote.calls kj1 a0 t262 t263 _ A11.out).mono ?_); rintro e w' ⟨rfl, ⟨nd, rfl⟩⟩; refine ⟨_, rfl, ?_⟩))
            go_ret
            exact ⟨by first | rfl | (simp [errW_none, errW_some] <;> rfl) | (simp [*, errW_none, errW_some] <;> rfl), by repeat (first | (with_reducible first | exact HB.out | apply below_alloc | apply pw_below_drewN | apply below_drew1) | exact HB.out)⟩
        · rw [if_neg c12] at H
          have c12b0 : (t261 == t263) = false := beq_eq_false_iff_ne.mpr c12
          have c12b1 : (t261 != t263) = true := bne_iff_ne.mpr c12
          obtain rfl := Option.some.inj H
          go_wp2_with (first | ((with_reducible refine gate_callee (f := 22) rfl ?_); refine goesL_ (some 20) rfl rfl Try.func22 (by kernel_rfl) rfl #[.string a0] rfl (by (try simp only [List.map_toArray, List.map_cons, List.map_nil]); first | done | rfl | (simp only [List.length_drop, List.length_take]; rfl)) ?_; (with_reducible refine (token_Quote.calls kj1 a0 t260 t261 _ A10.out).mono ?_); rintro e w29 ⟨rfl, hb⟩; refine ⟨_, rfl, ?_⟩; have n0_ := Aside0.mk (below_step (by repeat (first | (with_reducible first | exact HB.out | apply below_alloc | apply pw_below_drewN | apply below_drew1) | exact HB.out)) hb); clear HB; have HB := n0_; clear n0_; (try clear hb); (try clear hb2); (try clear hk); (try clear hi)) | ((with_reducible refine gate_callee (f := 23) rfl ?_); refine goesL_ (some 25) rfl rfl Try.func23 (by kernel_rfl) rfl #[.string a0] rfl (by (try simp only [List.map_toArray, List.map_cons, List.map_nil]); first | done | rfl | (simp only [List.length_drop, List.length_take]; rfl)) ?_; (with_reducible refine (ancepsref05_Quote.calls kj1 a0 t262 t263 _ A11.out).mono ?_); rintro e w' ⟨rfl, ⟨nd, rfl⟩⟩; refine ⟨_, rfl, ?_⟩))
          go_ret
          exact ⟨by first | rfl | (simp [errW_none, errW_some] <;> rfl) | (simp [*, errW_none, errW_some] <;> rfl), by repeat (first | (with_reducible first | exact HB.out | apply below_alloc | apply pw_below_drewN | apply below_drew1) | exact HB.out)⟩

/-- THE ONE PURE STATEMENT of ancepslaw05_TokenQuote: yours. -/
def ancepslaw05_TokenQuote.Pure : Prop := ∀ (a0 : ByteArray), a0.size ≤ 140737488351232 → ∃ k, ancepslaw05_TokenQuote.f k a0 = some true
theorem ancepslaw05_TokenQuote.walk (P : ancepslaw05_TokenQuote.Pure) (a0 : ByteArray) (w : World) (w0 : a0.size ≤ 140737488351232) :
    Calls Try.prog 6 #[.string a0] w fun e w' => e = .returned (.bool true) ∧ Below w.heap.size w w' := by
  obtain ⟨k, h⟩ := P a0 w0
  refine (ancepslaw05_TokenQuote.calls k a0 true w h).mono ?_
  rintro e w' ⟨rfl, hd⟩
  exact ⟨rfl, hd⟩

end Go.Proofs.Ytkkgacoecimlpaa.X
