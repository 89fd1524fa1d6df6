-- printed by this session's xprint.py: out of the translation, by the kit's print with additions; Lean checks it
import Derived.Test.YteokimhjojppcaaX0
import Derived.Test.YteokimhjojppcaaX4
import Derived.Test.YteokimhjojppcaaX6
namespace Go.Proofs.Yteokimhjojppcaa.X
open Go.RowKit Go.Proofs.YteokimhjojppcaaW.PrintWords Go.Proofs.YteokimhjojppcaaW.PrintLast Go.Proofs.YteokimhjojppcaaW.PrintMore
attribute [local go_sem] max2_int min2_int max_two min_two max_three min_three max_four min_four isSome_setCell   -- for this text's walks alone
set_option linter.unusedVariables false
set_option linter.unusedSimpArgs false

/-! ### ancepsref01_Words: function 13 -/
def ancepsref01_Words.l0 : Nat → ByteArray → List (S31) → Int → Option ((List (S31)) × Int)
  | 0, _, _, _ => none
  | k + 1, x0, x5, x6 => if x6 < (x0.size : Int) then (if 0 ≤ x6 then ((ancepsref01_Letter.f k (bt x0 x6)).bind fun t173 => (if t173 = true then (if x6 > 0 then (if 0 ≤ (wrap64 (x6 - 1)) then (if (wrap64 (x6 - 1)) < (x0.size : Int) then ((ancepsref01_Letter.f k (bt x0 (wrap64 (x6 - 1)))).bind fun t174 => (if t174 = true then (if 0 ≤ (wrap64 ((x5.length : Int) - 1)) then (if (wrap64 ((x5.length : Int) - 1)) < (x5.length : Int) then (ancepsref01_Words.l0 k x0 (x5.set ((wrap64 ((x5.length : Int) - 1)) : Int).toNat (⟨(rd_T31 x5 (wrap64 ((x5.length : Int) - 1))).f0, wrap64 (x6 + 1)⟩ : S31)) (wrap64 (x6 + 1))) else (none)) else (none)) else (if x5.length < 8796093022208 then (ancepsref01_Words.l0 k x0 (x5 ++ [(⟨x6, wrap64 (x6 + 1)⟩ : S31)]) (wrap64 (x6 + 1))) else (none)))) else (none)) else (none)) else (if x5.length < 8796093022208 then (ancepsref01_Words.l0 k x0 (x5 ++ [(⟨x6, wrap64 (x6 + 1)⟩ : S31)]) (wrap64 (x6 + 1))) else (none))) else (ancepsref01_Words.l0 k x0 x5 (wrap64 (x6 + 1))))) else (none)) else (some (x5, 0))
def ancepsref01_Words.f (k : Nat) (a0 : ByteArray) : Option ((List (S31)) × Int) := (ancepsref01_Valid.f k a0).bind fun t172 => (if t172 = 0 then (ancepsref01_Words.l0 k a0 ([] : List (S31)) 0) else (some (([] : List (S31)), t172)))
theorem ancepsref01_Words.mono_l : ∀ k, (∀ y0 y1 y2, LeO (ancepsref01_Words.l0 k y0 y1 y2) (ancepsref01_Words.l0 (k + 1) y0 y1 y2))
  | 0 => fun _ _ _ r h => by simp [ancepsref01_Words.l0] at h
  | k + 1 => by
    have ih0 := ancepsref01_Words.mono_l k
    · intro y0 y1 y2
      unfold ancepsref01_Words.l0
      repeat' first
      | (with_reducible exact ih0 _ _ _)
      | (with_reducible exact ancepsref01_Letter.mono _ _)
      | (with_reducible exact ancepsref01_Valid.mono _ _)
      | (with_reducible exact LeO.refl _)
      | (with_reducible exact LeO.none _)
      | (with_reducible refine LeO.ite ?_ ?_)
      | (with_reducible refine LeO.bind ?_ (fun _ => ?_))
      | exact ih0 _ _ _
      | exact ancepsref01_Letter.mono _ _
      | exact ancepsref01_Valid.mono _ _
      | exact LeO.none _
      | refine LeO.ite ?_ ?_
      | refine LeO.bind ?_ (fun _ => ?_)
theorem ancepsref01_Words.mono : ∀ a0 k, LeO (ancepsref01_Words.f k a0) (ancepsref01_Words.f (k + 1) a0) := by
  intro a0 k
  have ih0 := ancepsref01_Words.mono_l k
  unfold ancepsref01_Words.f
  repeat' first
      | (with_reducible exact ih0 _ _ _)
      | (with_reducible exact ancepsref01_Letter.mono _ _)
      | (with_reducible exact ancepsref01_Valid.mono _ _)
      | (with_reducible exact LeO.refl _)
      | (with_reducible exact LeO.none _)
      | (with_reducible refine LeO.ite ?_ ?_)
      | (with_reducible refine LeO.bind ?_ (fun _ => ?_))
      | exact ih0 _ _ _
      | exact ancepsref01_Letter.mono _ _
      | exact ancepsref01_Valid.mono _ _
      | exact LeO.none _
      | refine LeO.ite ?_ ?_
      | refine LeO.bind ?_ (fun _ => ?_)
set_option maxHeartbeats 8000000 in
set_option maxRecDepth 100000 in
theorem ancepsref01_Words.calls (k : Nat) (a0 : ByteArray) (r1 : List (S31)) (r2 : Int) (w : World) (h : ancepsref01_Words.f k a0 = some (r1, r2)) :
    Calls Try.prog 13 #[.string a0] w fun e w' => ∃ v0_ : Value, e = .returned (.tuple #[v0_, .int .i64 r2]) ∧ Kd.R k31 31 w' w.heap.size (fun _ => True) v0_ r1 ∧ Below w.heap.size w w' := by
  have hu31 := Try.underlying31
  have HB := Aside0.mk (Below.refl w.heap.size w)
  have H : ((ancepsref01_Valid.f k a0).bind fun t172 => (if t172 = 0 then (ancepsref01_Words.l0 k a0 ([] : List (S31)) 0) else (some (([] : List (S31)), t172)))) = some (r1, r2) := h
  clear h
  replace H := Option.bind_eq_some_iff.mp H
  obtain ⟨t172, A20, H⟩ := H
  replace H : (if t172 = 0 then (ancepsref01_Words.l0 k a0 ([] : List (S31)) 0) else (some (([] : List (S31)), t172))) = some (r1, r2) := H
  have A2 := Aside0.mk A20
  clear A20
  by_cases c3 : t172 = 0
  · rw [if_pos c3] at H
    have c3b0 : (t172 == 0) = true := beq_iff_eq.mpr c3
    have c3b1 : (t172 != 0) = false := bne_eq_false_iff_eq.mpr c3
    clear c3
    have H' := Aside0.mk H
    clear H
    go_enter Try.func13, Try.ntmps13
    go_wp2_with (first | ((with_reducible refine gate_callee (f := 11) rfl ?_); refine goesL_ (some 8) rfl rfl Try.func11 (by kernel_rfl) rfl #[.string a0] rfl (by (try simp only [List.map_toArray, List.map_cons, List.map_nil]); first | done | rfl | (simp only [List.length_drop, List.length_take]; rfl)) ?_; (with_reducible refine (ancepsref01_Valid.calls k a0 t172 _ A2.out).mono ?_); rintro e w' ⟨rfl, ⟨nd, rfl⟩⟩; refine ⟨_, rfl, ?_⟩))
    go_loopg [5, 6] k (fun kq v5 v6 w' => ∃ (x5_1 : List (S31)) (x6_1 : Int), v6 = .int .i64 x6_1 ∧ Aside0 (ancepsref01_Words.l0 kq a0 x5_1 x6_1 = some (r1, r2)) ∧ Aside0 (kq ≤ k) ∧ Aside0 (Kd.R k31 31 w' w.heap.size (fun _ => True) v5 x5_1) ∧ Aside0 (Below w.heap.size w w'))
    case atStart => exact ⟨(([] : List (S31))), (0), (by first | rfl | (simp; done) | (simp [*]; done)), H', ⟨Nat.le_refl _⟩, ⟨by first | exact Kd.R_nil _ _ _ _ _ | exact Kd.N_nil _ _ _ _ _ | exact Kd.V_nil _ _ _ _ _ | exact Kd.Q_nil _ _ _ _ _ | exact Kd.S_nil _ _ _ _ _⟩, ⟨by repeat (first | (with_reducible first | exact HB.out | apply below_alloc | apply pw_below_drewN | apply below_drew1) | exact HB.out)⟩⟩
    case round =>
      clear H'
      try clear c1
      try clear p2
      try clear c3
      try clear c3b0
      try clear c3b1
      obtain ⟨x5_1, x6_1, rfl, HA, HK1, HO_5, HB⟩ := hrel
      cases gk with
      | zero => exact absurd HA.out (by simp [ancepsref01_Words.l0])
      | succ k1 =>
        have H := HA.out
        clear HA
        simp only [ancepsref01_Words.l0] at H
        by_cases c4 : x6_1 < (a0.size : Int)
        · rw [if_pos c4] at H
          have c4b0 : decide (x6_1 < (a0.size : Int)) = true := decide_eq_true c4
          clear c4
          by_cases c5 : 0 ≤ x6_1
          · rw [if_pos c5] at H
            have c5b0 : decide (0 ≤ x6_1) = true := decide_eq_true c5
            clear c5
            replace H := Option.bind_eq_some_iff.mp H
            obtain ⟨t173, A70, H⟩ := H
            replace H : (if t173 = true then (if x6_1 > 0 then (if 0 ≤ (wrap64 (x6_1 - 1)) then (if (wrap64 (x6_1 - 1)) < (a0.size : Int) then ((ancepsref01_Letter.f k1 (bt a0 (wrap64 (x6_1 - 1)))).bind fun t174 => (if t174 = true then (if 0 ≤ (wrap64 ((x5_1.length : Int) - 1)) then (if (wrap64 ((x5_1.length : Int) - 1)) < (x5_1.length : Int) then (ancepsref01_Words.l0 k1 a0 (x5_1.set ((wrap64 ((x5_1.length : Int) - 1)) : Int).toNat (⟨(rd_T31 x5_1 (wrap64 ((x5_1.length : Int) - 1))).f0, wrap64 (x6_1 + 1)⟩ : S31)) (wrap64 (x6_1 + 1))) else (none)) else (none)) else (if x5_1.length < 8796093022208 then (ancepsref01_Words.l0 k1 a0 (x5_1 ++ [(⟨x6_1, wrap64 (x6_1 + 1)⟩ : S31)]) (wrap64 (x6_1 + 1))) else (none)))) else (none)) else (none)) else (if x5_1.length < 8796093022208 then (ancepsref01_Words.l0 k1 a0 (x5_1 ++ [(⟨x6_1, wrap64 (x6_1 + 1)⟩ : S31)]) (wrap64 (x6_1 + 1))) else (none))) else (ancepsref01_Words.l0 k1 a0 x5_1 (wrap64 (x6_1 + 1)))) = some (r1, r2) := H
            have A7 := Aside0.mk A70
            clear A70
            by_cases c8 : t173 = true
            · subst c8
              have H1 : (if x6_1 > 0 then (if 0 ≤ (wrap64 (x6_1 - 1)) then (if (wrap64 (x6_1 - 1)) < (a0.size : Int) then ((ancepsref01_Letter.f k1 (bt a0 (wrap64 (x6_1 - 1)))).bind fun t174 => (if t174 = true then (if 0 ≤ (wrap64 ((x5_1.length : Int) - 1)) then (if (wrap64 ((x5_1.length : Int) - 1)) < (x5_1.length : Int) then (ancepsref01_Words.l0 k1 a0 (x5_1.set ((wrap64 ((x5_1.length : Int) - 1)) : Int).toNat (⟨(rd_T31 x5_1 (wrap64 ((x5_1.length : Int) - 1))).f0, wrap64 (x6_1 + 1)⟩ : S31)) (wrap64 (x6_1 + 1))) else (none)) else (none)) else (if x5_1.length < 8796093022208 then (ancepsref01_Words.l0 k1 a0 (x5_1 ++ [(⟨x6_1, wrap64 (x6_1 + 1)⟩ : S31)]) (wrap64 (x6_1 + 1))) else (none)))) else (none)) else (none)) else (if x5_1.length < 8796093022208 then (ancepsref01_Words.l0 k1 a0 (x5_1 ++ [(⟨x6_1, wrap64 (x6_1 + 1)⟩ : S31)]) (wrap64 (x6_1 + 1))) else (none))) = some (r1, r2) := by rw [if_pos rfl] at H; exact H
              clear H
              have H := H1
              clear H1
              by_cases c9 : x6_1 > 0
              · rw [if_pos c9] at H
                have c9b0 : decide (0 < x6_1) = true := decide_eq_true c9
                clear c9
                obtain ⟨ji10, hji10⟩ : ∃ j_ : Int, (wrap64 (x6_1 - 1)) = j_ := ⟨_, rfl⟩
                replace H : (if 0 ≤ (ji10) then (if (ji10) < (a0.size : Int) then ((ancepsref01_Letter.f k1 (bt a0 (ji10))).bind fun t174 => (if t174 = true then (if 0 ≤ (wrap64 ((x5_1.length : Int) - 1)) then (if (wrap64 ((x5_1.length : Int) - 1)) < (x5_1.length : Int) then (ancepsref01_Words.l0 k1 a0 (x5_1.set ((wrap64 ((x5_1.length : Int) - 1)) : Int).toNat (⟨(rd_T31 x5_1 (wrap64 ((x5_1.length : Int) - 1))).f0, wrap64 (x6_1 + 1)⟩ : S31)) (wrap64 (x6_1 + 1))) else (none)) else (none)) else (if x5_1.length < 8796093022208 then (ancepsref01_Words.l0 k1 a0 (x5_1 ++ [(⟨x6_1, wrap64 (x6_1 + 1)⟩ : S31)]) (wrap64 (x6_1 + 1))) else (none)))) else (none)) else (none)) = some (r1, r2) := by first | (rw [hji10] at H; exact H) | (simp only [hji10] at H ⊢; exact H)
                (try rw [hji10] at A7)
                have hji10w : (IntKind.i64.wrap (x6_1 - 1)) = ji10 := (i64_w _).trans hji10
                by_cases c11 : 0 ≤ (ji10)
                · rw [if_pos c11] at H
                  have c11b0 : decide (0 ≤ (ji10)) = true := decide_eq_true c11
                  clear c11
                  by_cases c12 : (ji10) < (a0.size : Int)
                  · rw [if_pos c12] at H
                    have c12b0 : decide ((ji10) < (a0.size : Int)) = true := decide_eq_true c12
                    clear c12
                    replace H := Option.bind_eq_some_iff.mp H
                    obtain ⟨t174, A140, H⟩ := H
                    replace H : (if t174 = true then (if 0 ≤ (wrap64 ((x5_1.length : Int) - 1)) then (if (wrap64 ((x5_1.length : Int) - 1)) < (x5_1.length : Int) then (ancepsref01_Words.l0 k1 a0 (x5_1.set ((wrap64 ((x5_1.length : Int) - 1)) : Int).toNat (⟨(rd_T31 x5_1 (wrap64 ((x5_1.length : Int) - 1))).f0, wrap64 (x6_1 + 1)⟩ : S31)) (wrap64 (x6_1 + 1))) else (none)) else (none)) else (if x5_1.length < 8796093022208 then (ancepsref01_Words.l0 k1 a0 (x5_1 ++ [(⟨x6_1, wrap64 (x6_1 + 1)⟩ : S31)]) (wrap64 (x6_1 + 1))) else (none))) = some (r1, r2) := H
                    have A14 := Aside0.mk A140
                    clear A140
                    by_cases c15 : t174 = true
                    · subst c15
                      have H1 : (if 0 ≤ (wrap64 ((x5_1.length : Int) - 1)) then (if (wrap64 ((x5_1.length : Int) - 1)) < (x5_1.length : Int) then (ancepsref01_Words.l0 k1 a0 (x5_1.set ((wrap64 ((x5_1.length : Int) - 1)) : Int).toNat (⟨(rd_T31 x5_1 (wrap64 ((x5_1.length : Int) - 1))).f0, wrap64 (x6_1 + 1)⟩ : S31)) (wrap64 (x6_1 + 1))) else (none)) else (none)) = some (r1, r2) := by rw [if_pos rfl] at H; exact H
                      clear H
                      have H := H1
                      clear H1
                      obtain ⟨ji16, hji16⟩ : ∃ j_ : Int, (wrap64 ((x5_1.length : Int) - 1)) = j_ := ⟨_, rfl⟩
                      replace H : (if 0 ≤ (ji16) then (if (ji16) < (x5_1.length : Int) then (ancepsref01_Words.l0 k1 a0 (x5_1.set ((ji16) : Int).toNat (⟨(rd_T31 x5_1 (ji16)).f0, wrap64 (x6_1 + 1)⟩ : S31)) (wrap64 (x6_1 + 1))) else (none)) else (none)) = some (r1, r2) := by first | (rw [hji16] at H; exact H) | (simp only [hji16] at H ⊢; exact H)
                      (try rw [hji16] at A7)
                      (try rw [hji16] at A14)
                      have hji16w : (IntKind.i64.wrap ((x5_1.length : Int) - 1)) = ji16 := (i64_w _).trans hji16
                      by_cases c17 : 0 ≤ (ji16)
                      · rw [if_pos c17] at H
                        have c17b0 : decide (0 ≤ (ji16)) = true := decide_eq_true c17
                        clear c17
                        by_cases c18 : (ji16) < (x5_1.length : Int)
                        · rw [if_pos c18] at H
                          have c18b0 : decide ((ji16) < (x5_1.length : Int)) = true := decide_eq_true c18
                          clear c18
                          obtain ⟨y175, hy175⟩ : ∃ y_ : List (S31), y_ = (x5_1.set ((ji16) : Int).toNat (⟨(rd_T31 x5_1 (ji16)).f0, wrap64 (x6_1 + 1)⟩ : S31)) := ⟨_, rfl⟩
                          replace H : (ancepsref01_Words.l0 k1 a0 y175 (wrap64 (x6_1 + 1))) = some (r1, r2) := by first | (rw [hy175]; with_reducible exact H) | (have H2_ := (Option.bind_some _ _).symm.trans H; rw [hy175]; with_reducible exact H2_) | (have H2_ := (Option.bind_some _ _).symm.trans H; with_reducible exact H2_) | with_reducible exact H | (rw [hy175]; exact H) | exact H
                          have Ny175 := Aside0.mk hy175
                          clear hy175
                          have H' := Aside0.mk H
                          clear H
                          have p6 : 0 ≤ (x6_1 : Int) := of_decide_eq_true (by first | (with_reducible assumption) | assumption)
                          have q6 : x6_1 < (a0.size : Int) := of_decide_eq_true (by first | (with_reducible assumption) | assumption)
                          have hx6 := bt_at a0 x6_1
                          replace p6 := eq_true p6
                          replace q6 := eq_true q6
                          go_wp2_with (first | ((with_reducible refine gate_callee (f := 26) rfl ?_); refine goesL_ (some 21) rfl rfl Try.func26 (by kernel_rfl) rfl #[.int .u8 (bt a0 x6_1)] rfl (by (try simp only [List.map_toArray, List.map_cons, List.map_nil]); first | done | rfl | (simp only [List.length_drop, List.length_take]; rfl)) ?_; (with_reducible refine (ancepsref01_Letter.calls k1 (bt a0 x6_1) true _ A7.out).mono ?_); rintro e w' ⟨rfl, ⟨nd, rfl⟩⟩; refine ⟨_, rfl, ?_⟩; (try (rw [drewN_self wr]; generalize hq_ : World.drewN wr _ = wr; have n0_ : Aside0 (Kd.R k31 31 wr w.heap.size (fun _ => True) u5 x5_1) := ⟨by rw [← hq_]; exact (by (with_reducible repeat (first | apply Kd.R_alloc | apply Kd.R_drewN | apply Kd.R_drew)); exact HO_5.out)⟩; have n1_ : Aside0 (Below w.heap.size w wr) := ⟨by rw [← hq_]; exact (by repeat (first | (with_reducible first | exact HB.out | apply below_alloc | apply pw_below_drewN | apply below_drew1) | exact HB.out))⟩; clear HO_5 HB hq_; have HO_5 := n0_; have HB := n1_; clear n0_ n1_)); have p13 : 0 ≤ ((ji10) : Int) := of_decide_eq_true (by first | (with_reducible assumption) | assumption); have q13 : (ji10) < (a0.size : Int) := of_decide_eq_true (by first | (with_reducible assumption) | assumption); have hx13 := bt_at a0 (ji10); replace p13 := eq_true p13; replace q13 := eq_true q13) | (go_at_call 26; (with_reducible refine (ancepsref01_Letter.calls k1 (bt a0 (ji10)) true _ A14.out).mono ?_); rintro e w' ⟨rfl, ⟨nd, rfl⟩⟩; (try (rw [drewN_self wr]; generalize hq_ : World.drewN wr _ = wr; have n0_ : Aside0 (Kd.R k31 31 wr w.heap.size (fun _ => True) u5 x5_1) := ⟨by rw [← hq_]; exact (by (with_reducible repeat (first | apply Kd.R_alloc | apply Kd.R_drewN | apply Kd.R_drew)); exact HO_5.out)⟩; have n1_ : Aside0 (Below w.heap.size w wr) := ⟨by rw [← hq_]; exact (by repeat (first | (with_reducible first | exact HB.out | apply below_alloc | apply pw_below_drewN | apply below_drew1) | exact HB.out))⟩; clear HO_5 HB hq_; have HO_5 := n0_; have HB := n1_; clear n0_ n1_)); obtain ⟨Ao20, co20, eo20⟩ := Kd.R_slice HO_5.out; subst eo20; have p19 : 0 ≤ ((ji16) : Int) := of_decide_eq_true (by first | (with_reducible assumption) | assumption); have q19 : ((ji16) : Int) < ((x5_1.length : Int) : Int) := of_decide_eq_true (by first | (with_reducible assumption) | assumption); obtain ⟨go19, co19, eo19, gb19, gl19, cl19, HG19⟩ := Kd.R_form HO_5.out (by omega); (first | cases eo19 | (injection eo19 with ea_ en_ ec_; (first | subst ea_ | (injection ea_ with ea_; subst ea_)); subst ec_; clear en_)); have GB19 := Aside0.mk gb19; have GG19 := Aside0.mk HG19; clear gb19 gl19 HG19; obtain ⟨ce19, hcl19, hM19, hcc19, hfr19⟩ := Kd.R_elem HO_5.out z31 ((ji16) : Int) p19 q19; obtain rfl := k31_openM hM19; have hx19_0 : wr.cell? ⟨go19, ((ji16) : Int).toNat * 2, none⟩ = some (.int .i64 ((rd_T31 x5_1 (ji16)).f0)) := hcc19 0 _ rfl; have hx19_1 : wr.cell? ⟨go19, ((ji16) : Int).toNat * 2 + 1, none⟩ = some (.int .i64 ((rd_T31 x5_1 (ji16)).f1)) := hcc19 1 _ rfl; have hf19_0 : wr.frozen? ⟨go19, ((ji16) : Int).toNat * 2, none⟩ = false := hfr19 0; have hf19_1 : wr.frozen? ⟨go19, ((ji16) : Int).toNat * 2 + 1, none⟩ = false := hfr19 1; clear hcl19 hcc19 hfr19 hM19; replace p19 := eq_true p19; replace q19 := eq_true q19; have HX21 := Aside0.mk (show Kd.R k31 31 wr w.heap.size (fun _ => True) (.slice (some ⟨go19, 0, none⟩) x5_1.length co20) x5_1 from (by (with_reducible repeat (first | apply Kd.R_alloc | apply Kd.R_drewN | apply Kd.R_drew)); exact HO_5.out)); obtain ⟨ce21, hcl21, hM21, hcc21, hfr21⟩ := Kd.R_elem HX21.out z31 ((ji16) : Int) (of_decide_eq_true (by first | (with_reducible assumption) | assumption)) (by have h_ : ((ji16) : Int) < ((x5_1.length : Int) : Int) := of_decide_eq_true (by first | (with_reducible assumption) | assumption); first | exact h_ | (have e_ := (Kd.R_reads' HO_5.out).1; omega) | simpa using h_); obtain rfl := k31_openM hM21; have HP21 := Kd.R_seg HX21.out ((ji16) : Int) (of_decide_eq_true (by first | (with_reducible assumption) | assumption)) (by have h_ : ((ji16) : Int) < ((x5_1.length : Int) : Int) := of_decide_eq_true (by first | (with_reducible assumption) | assumption); first | exact h_ | (have e_ := (Kd.R_reads' HO_5.out).1; omega) | simpa using h_) (seg := [.int .i64 (wrap64 (x6_1 + 1))]) (j := 1) hcl21 hcc21 (show 2 ≤ 2 from by decide) (x' := (⟨(rd_T31 x5_1 (ji16)).f0, wrap64 (x6_1 + 1)⟩ : S31)) (k31_mkM _ _ _ (⟨(rd_T31 x5_1 (ji16)).f0, wrap64 (x6_1 + 1)⟩ : S31) ) (fun _ hk => hk); have hx21_1 := hcc21 1 _ rfl; (try simp only [show (k31).sz = 2 from rfl, Nat.mul_one, Nat.add_zero] at hx21_1); have hf21_1 := hfr21 1; (try simp only [show (k31).sz = 2 from rfl, Nat.mul_one, Nat.add_zero] at hf21_1); clear hcl21 hcc21 hfr21 hM21) | ((with_reducible refine gate_store (t := 3) (p := 39) rfl ?_); refine store_event (t := 3) (p := 39) (v := ?vo_w22) (w1 := (wr.setCell ⟨go19, ((ji16) : Int).toNat * 2 + 1, none⟩ (.int .i64 (wrap64 (x6_1 + 1))))) ?hg ?ho ?hn ?hr ?_; (case ho => rfl); (case hg => rfl); (case hn => rfl); (case hr => first | (go_simp; done) | (go_simp; rfl)); intro w22 hw; have hg : wr.grownBy w22 (some go19) := (by rw [hw]; exact HP21.2); have hp_ : Kd.R k31 31 w22 w.heap.size (fun _ => True) (.slice (some ⟨go19, 0, none⟩) x5_1.length co20) y175 := (by rw [hw, Ny175.out]; exact HP21.1); clear HP21; have n0_ := Aside0.mk (hp_); have n1_ := Aside0.mk ((by rw [hw]; exact below_set (HB.out) GB19.out : Below w.heap.size w w22)); clear HO_5; clear HB; have HO_5 := n0_; have HB := n1_; clear n0_ n1_; clear hg hw hp_))
                          go_roundg k1
                          case measure => have := HK1.out; omega
                          case rel => exact ⟨(y175), (wrap64 (x6_1 + 1)), (by first | rfl | (simp; done) | (simp [*]; done)), H', ⟨by have := HK1.out; omega⟩, ⟨by (with_reducible repeat (first | apply Kd.R_alloc | apply Kd.R_drewN | apply Kd.R_drew)); exact HO_5.out⟩, ⟨by repeat (first | (with_reducible first | exact HB.out | apply below_alloc | apply pw_below_drewN | apply below_drew1) | exact HB.out)⟩⟩
                        · rw [if_neg c18] at H
                          exact absurd H (by simp)
                      · rw [if_neg c17] at H
                        exact absurd H (by simp)
                    · replace c15 := Bool.eq_false_iff.mpr c15
                      subst c15
                      have H1 : (if x5_1.length < 8796093022208 then (ancepsref01_Words.l0 k1 a0 (x5_1 ++ [(⟨x6_1, wrap64 (x6_1 + 1)⟩ : S31)]) (wrap64 (x6_1 + 1))) else (none)) = some (r1, r2) := by rw [if_neg (show ¬ (false = true) by decide)] at H; exact H
                      clear H
                      have H := H1
                      clear H1
                      by_cases c23 : x5_1.length < 8796093022208
                      · rw [if_pos c23] at H
                        have LMc23 := Aside0.mk c23
                        clear c23
                        obtain ⟨y176, hy176⟩ : ∃ y_ : List (S31), y_ = (x5_1 ++ [(⟨x6_1, wrap64 (x6_1 + 1)⟩ : S31)]) := ⟨_, rfl⟩
                        replace H : (ancepsref01_Words.l0 k1 a0 y176 (wrap64 (x6_1 + 1))) = some (r1, r2) := by first | (rw [hy176]; with_reducible exact H) | (have H2_ := (Option.bind_some _ _).symm.trans H; rw [hy176]; with_reducible exact H2_) | (have H2_ := (Option.bind_some _ _).symm.trans H; with_reducible exact H2_) | with_reducible exact H | (rw [hy176]; exact H) | exact H
                        have Ny176 := Aside0.mk hy176
                        clear hy176
                        have H' := Aside0.mk H
                        clear H
                        have p6 : 0 ≤ (x6_1 : Int) := of_decide_eq_true (by first | (with_reducible assumption) | assumption)
                        have q6 : x6_1 < (a0.size : Int) := of_decide_eq_true (by first | (with_reducible assumption) | assumption)
                        have hx6 := bt_at a0 x6_1
                        replace p6 := eq_true p6
                        replace q6 := eq_true q6
                        go_wp2_with (first | ((with_reducible refine gate_callee (f := 26) rfl ?_); refine goesL_ (some 21) rfl rfl Try.func26 (by kernel_rfl) rfl #[.int .u8 (bt a0 x6_1)] rfl (by (try simp only [List.map_toArray, List.map_cons, List.map_nil]); first | done | rfl | (simp only [List.length_drop, List.length_take]; rfl)) ?_; (with_reducible refine (ancepsref01_Letter.calls k1 (bt a0 x6_1) true _ A7.out).mono ?_); rintro e w' ⟨rfl, ⟨nd, rfl⟩⟩; refine ⟨_, rfl, ?_⟩; have p13 : 0 ≤ ((ji10) : Int) := of_decide_eq_true (by first | (with_reducible assumption) | assumption); have q13 : (ji10) < (a0.size : Int) := of_decide_eq_true (by first | (with_reducible assumption) | assumption); have hx13 := bt_at a0 (ji10); replace p13 := eq_true p13; replace q13 := eq_true q13) | (go_at_call 26; (with_reducible refine (ancepsref01_Letter.calls k1 (bt a0 (ji10)) false _ A14.out).mono ?_); rintro e w' ⟨rfl, ⟨nd, rfl⟩⟩) | ((with_reducible refine gate_builtin (b := .append) (xs := #[.tmp 40, .tmp 45]) rfl ?_); at_builtin; refine Kd.R_append k31 (w0 := w) w.heap.size rfl (.tmp 40) (.tmp 45) 26 31 (.agg #[(.int .i64 0), (.int .i64 0)]) 16 rfl Try.underlying26 info31 rfl (by decide) (by omega) u5 x5_1 (⟨x6_1, wrap64 (x6_1 + 1)⟩ : S31) [.int .i64 x6_1, .int .i64 (wrap64 (x6_1 + 1))] (fun _ => True) (fun _ => False) rfl rfl ?aP (fun _ hk => hk.elim) ?aF ?aO ?aB ?aS ?aL ?_; (case aP => exact k31_mkM _ _ _ (⟨x6_1, wrap64 (x6_1 + 1)⟩ : S31)); (case aB => exact (by repeat (first | (with_reducible first | exact HB.out | apply below_alloc | apply pw_below_drewN | apply below_drew1) | exact HB.out))); (case aF => exact (fun _ _ => trivial)); (case aO => exact (by (with_reducible repeat (first | apply Kd.R_alloc | apply Kd.R_drewN | apply Kd.R_drew)); exact HO_5.out)); (case aS => exact (below_size (by repeat (first | (with_reducible first | exact HB.out | apply below_alloc | apply pw_below_drewN | apply below_drew1) | exact HB.out)))); (case aL => have := LMc23.out; omega); intro v177 w24 ho hb hg hat; rw [← Ny176.out] at ho; have n0_ := Aside0.mk (hb); have n1_ := Aside0.mk (ho); clear HB; clear HO_5; have HB := n0_; have HO178 := n1_; clear n0_ n1_; clear ho hb hg hat))
                        go_roundg k1
                        case measure => have := HK1.out; omega
                        case rel => exact ⟨(y176), (wrap64 (x6_1 + 1)), (by first | rfl | (simp; done) | (simp [*]; done)), H', ⟨by have := HK1.out; omega⟩, ⟨by (with_reducible repeat (first | apply Kd.R_alloc | apply Kd.R_drewN | apply Kd.R_drew)); exact HO178.out⟩, ⟨by repeat (first | (with_reducible first | exact HB.out | apply below_alloc | apply pw_below_drewN | apply below_drew1) | exact HB.out)⟩⟩
                      · rw [if_neg c23] at H
                        exact absurd H (by simp)
                  · rw [if_neg c12] at H
                    exact absurd H (by simp)
                · rw [if_neg c11] at H
                  exact absurd H (by simp)
              · rw [if_neg c9] at H
                have c9b0 : decide (0 < x6_1) = false := decide_eq_false c9
                clear c9
                by_cases c25 : x5_1.length < 8796093022208
                · rw [if_pos c25] at H
                  have LMc25 := Aside0.mk c25
                  clear c25
                  obtain ⟨y179, hy179⟩ : ∃ y_ : List (S31), y_ = (x5_1 ++ [(⟨x6_1, wrap64 (x6_1 + 1)⟩ : S31)]) := ⟨_, rfl⟩
                  replace H : (ancepsref01_Words.l0 k1 a0 y179 (wrap64 (x6_1 + 1))) = some (r1, r2) := by first | (rw [hy179]; with_reducible exact H) | (have H2_ := (Option.bind_some _ _).symm.trans H; rw [hy179]; with_reducible exact H2_) | (have H2_ := (Option.bind_some _ _).symm.trans H; with_reducible exact H2_) | with_reducible exact H | (rw [hy179]; exact H) | exact H
                  have Ny179 := Aside0.mk hy179
                  clear hy179
                  have H' := Aside0.mk H
                  clear H
                  have p6 : 0 ≤ (x6_1 : Int) := of_decide_eq_true (by first | (with_reducible assumption) | assumption)
                  have q6 : x6_1 < (a0.size : Int) := of_decide_eq_true (by first | (with_reducible assumption) | assumption)
                  have hx6 := bt_at a0 x6_1
                  replace p6 := eq_true p6
                  replace q6 := eq_true q6
                  go_wp2_with (first | ((with_reducible refine gate_callee (f := 26) rfl ?_); refine goesL_ (some 21) rfl rfl Try.func26 (by kernel_rfl) rfl #[.int .u8 (bt a0 x6_1)] rfl (by (try simp only [List.map_toArray, List.map_cons, List.map_nil]); first | done | rfl | (simp only [List.length_drop, List.length_take]; rfl)) ?_; (with_reducible refine (ancepsref01_Letter.calls k1 (bt a0 x6_1) true _ A7.out).mono ?_); rintro e w' ⟨rfl, ⟨nd, rfl⟩⟩; refine ⟨_, rfl, ?_⟩) | ((with_reducible refine gate_builtin (b := .append) (xs := #[.tmp 40, .tmp 45]) rfl ?_); at_builtin; refine Kd.R_append k31 (w0 := w) w.heap.size rfl (.tmp 40) (.tmp 45) 26 31 (.agg #[(.int .i64 0), (.int .i64 0)]) 16 rfl Try.underlying26 info31 rfl (by decide) (by omega) u5 x5_1 (⟨x6_1, wrap64 (x6_1 + 1)⟩ : S31) [.int .i64 x6_1, .int .i64 (wrap64 (x6_1 + 1))] (fun _ => True) (fun _ => False) rfl rfl ?aP (fun _ hk => hk.elim) ?aF ?aO ?aB ?aS ?aL ?_; (case aP => exact k31_mkM _ _ _ (⟨x6_1, wrap64 (x6_1 + 1)⟩ : S31)); (case aB => exact (by repeat (first | (with_reducible first | exact HB.out | apply below_alloc | apply pw_below_drewN | apply below_drew1) | exact HB.out))); (case aF => exact (fun _ _ => trivial)); (case aO => exact (by (with_reducible repeat (first | apply Kd.R_alloc | apply Kd.R_drewN | apply Kd.R_drew)); exact HO_5.out)); (case aS => exact (below_size (by repeat (first | (with_reducible first | exact HB.out | apply below_alloc | apply pw_below_drewN | apply below_drew1) | exact HB.out)))); (case aL => have := LMc25.out; omega); intro v180 w26 ho hb hg hat; rw [← Ny179.out] at ho; have n0_ := Aside0.mk (hb); have n1_ := Aside0.mk (ho); clear HB; clear HO_5; have HB := n0_; have HO181 := n1_; clear n0_ n1_; clear ho hb hg hat))
                  go_roundg k1
                  case measure => have := HK1.out; omega
                  case rel => exact ⟨(y179), (wrap64 (x6_1 + 1)), (by first | rfl | (simp; done) | (simp [*]; done)), H', ⟨by have := HK1.out; omega⟩, ⟨by (with_reducible repeat (first | apply Kd.R_alloc | apply Kd.R_drewN | apply Kd.R_drew)); exact HO181.out⟩, ⟨by repeat (first | (with_reducible first | exact HB.out | apply below_alloc | apply pw_below_drewN | apply below_drew1) | exact HB.out)⟩⟩
                · rw [if_neg c25] at H
                  exact absurd H (by simp)
            · replace c8 := Bool.eq_false_iff.mpr c8
              subst c8
              have H1 : (ancepsref01_Words.l0 k1 a0 x5_1 (wrap64 (x6_1 + 1))) = some (r1, r2) := by rw [if_neg (show ¬ (false = true) by decide)] at H; exact H
              clear H
              have H := H1
              clear H1
              have H' := Aside0.mk H
              clear H
              have p6 : 0 ≤ (x6_1 : Int) := of_decide_eq_true (by first | (with_reducible assumption) | assumption)
              have q6 : x6_1 < (a0.size : Int) := of_decide_eq_true (by first | (with_reducible assumption) | assumption)
              have hx6 := bt_at a0 x6_1
              replace p6 := eq_true p6
              replace q6 := eq_true q6
              go_wp2_with (first | ((with_reducible refine gate_callee (f := 26) rfl ?_); refine goesL_ (some 21) rfl rfl Try.func26 (by kernel_rfl) rfl #[.int .u8 (bt a0 x6_1)] rfl (by (try simp only [List.map_toArray, List.map_cons, List.map_nil]); first | done | rfl | (simp only [List.length_drop, List.length_take]; rfl)) ?_; (with_reducible refine (ancepsref01_Letter.calls k1 (bt a0 x6_1) false _ A7.out).mono ?_); rintro e w' ⟨rfl, ⟨nd, rfl⟩⟩; refine ⟨_, rfl, ?_⟩))
              go_roundg k1
              case measure => have := HK1.out; omega
              case rel => exact ⟨(x5_1), (wrap64 (x6_1 + 1)), (by first | rfl | (simp; done) | (simp [*]; done)), H', ⟨by have := HK1.out; omega⟩, ⟨by (with_reducible repeat (first | apply Kd.R_alloc | apply Kd.R_drewN | apply Kd.R_drew)); exact HO_5.out⟩, ⟨by repeat (first | (with_reducible first | exact HB.out | apply below_alloc | apply pw_below_drewN | apply below_drew1) | exact HB.out)⟩⟩
          · rw [if_neg c5] at H
            exact absurd H (by simp)
        · rw [if_neg c4] at H
          have c4b0 : decide (x6_1 < (a0.size : Int)) = false := decide_eq_false c4
          clear c4
          simp only [Option.some.injEq, Prod.mk.injEq] at H
          obtain ⟨rfl, rfl⟩ := H
          go_wp2
          go_ret2
          exact ⟨_, by first | rfl | (simp [errW_none, errW_some] <;> rfl) | (simp [*, errW_none, errW_some] <;> rfl), by (with_reducible repeat (first | apply Kd.R_alloc | apply Kd.R_drewN | apply Kd.R_drew)); exact HO_5.out, by repeat (first | (with_reducible first | exact HB.out | apply below_alloc | apply pw_below_drewN | apply below_drew1) | exact HB.out)⟩
  · rw [if_neg c3] at H
    have c3b0 : (t172 == 0) = false := beq_eq_false_iff_ne.mpr c3
    have c3b1 : (t172 != 0) = true := bne_iff_ne.mpr c3
    simp only [Option.some.injEq, Prod.mk.injEq] at H
    obtain ⟨rfl, rfl⟩ := H
    go_enter Try.func13, Try.ntmps13
    go_wp2_with (first | ((with_reducible refine gate_callee (f := 11) rfl ?_); refine goesL_ (some 8) rfl rfl Try.func11 (by kernel_rfl) rfl #[.string a0] rfl (by (try simp only [List.map_toArray, List.map_cons, List.map_nil]); first | done | rfl | (simp only [List.length_drop, List.length_take]; rfl)) ?_; (with_reducible refine (ancepsref01_Valid.calls k a0 t172 _ A2.out).mono ?_); rintro e w' ⟨rfl, ⟨nd, rfl⟩⟩; refine ⟨_, rfl, ?_⟩))
    go_ret2
    exact ⟨_, by first | rfl | (simp [errW_none, errW_some] <;> rfl) | (simp [*, errW_none, errW_some] <;> rfl), by first | exact Kd.R_nil _ _ _ _ _ | exact Kd.N_nil _ _ _ _ _ | exact Kd.V_nil _ _ _ _ _ | exact Kd.Q_nil _ _ _ _ _ | exact Kd.S_nil _ _ _ _ _, by repeat (first | (with_reducible first | exact HB.out | apply below_alloc | apply pw_below_drewN | apply below_drew1) | exact HB.out)⟩

end Go.Proofs.Yteokimhjojppcaa.X
