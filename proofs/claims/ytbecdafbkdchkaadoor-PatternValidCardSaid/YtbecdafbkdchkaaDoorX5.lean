-- printed by this session's xprint.py: out of the translation, by the kit's print with additions; Lean checks it
import Derived.Test.YtbecdafbkdchkaaDoorWN
import Derived.Test.YtbecdafbkdchkaaDoorWShare
import Derived.Test.YtbecdafbkdchkaaDoorWRepsOne
import Derived.Test.YtbecdafbkdchkaaDoorX0
import Derived.Test.YtbecdafbkdchkaaDoorX4
namespace Go.Proofs.YtbecdafbkdchkaaDoor.X
open Go.RowKit Go.Proofs.YtbecdafbkdchkaaDoorW.PrintWords Go.Proofs.YtbecdafbkdchkaaDoorW.PrintLast Go.Proofs.YtbecdafbkdchkaaDoorW.PrintMore
attribute [local go_sem] max2_int min2_int max_two min_two max_three min_three max_four min_four isSome_setCell binOp_gtr_str binOp_leq_str   -- for this text's walks alone
set_option linter.unusedVariables false
set_option linter.unusedSimpArgs false

/-! ### ancepsref04_Letters: function 8 -/
def ancepsref04_Letters.l0 : Nat → ByteArray → List Int → Int → Option (List Int × Int)
  | 0, _, _, _ => none
  | k + 1, x0, x5, x6 => if x6 < (x0.size : Int) then (if 0 ≤ x6 then (if (bt x0 x6) = 117 then (if x5.length < 17592186044416 then (ancepsref04_Letters.l0 k x0 (x5 ++ [0]) (wrap64 (x6 + 1))) else (none)) else (if (bt x0 x6) = 45 then (if x5.length < 17592186044416 then (ancepsref04_Letters.l0 k x0 (x5 ++ [1]) (wrap64 (x6 + 1))) else (none)) else (if (bt x0 x6) = 120 then (some (([] : List Int), 13)) else (if (bt x0 x6) = 46 then (if 0 ≤ (wrap64 ((x5.length : Int) - 1)) then (if (wrap64 ((x5.length : Int) - 1)) < (x5.length : Int) then (ancepsref04_Letters.l0 k x0 (x5.set ((wrap64 ((x5.length : Int) - 1)) : Int).toNat (wrap64 ((rd x5 (wrap64 ((x5.length : Int) - 1))) + 2))) (wrap64 (x6 + 1))) else (none)) else (none)) else (ancepsref04_Letters.l0 k x0 x5 (wrap64 (x6 + 1))))))) else (none)) else (some (x5, 0))
def ancepsref04_Letters.f (k : Nat) (a0 : ByteArray) : Option (List Int × Int) := (ancepsref04_Marked.f k a0).bind fun t182 => (if t182 = 0 then (ancepsref04_Letters.l0 k a0 ([] : List Int) 0) else (some (([] : List Int), t182)))
theorem ancepsref04_Letters.mono_l : ∀ k, (∀ y0 y1 y2, LeO (ancepsref04_Letters.l0 k y0 y1 y2) (ancepsref04_Letters.l0 (k + 1) y0 y1 y2))
  | 0 => fun _ _ _ r h => by simp [ancepsref04_Letters.l0] at h
  | k + 1 => by
    have ih0 := ancepsref04_Letters.mono_l k
    · intro y0 y1 y2
      unfold ancepsref04_Letters.l0
      repeat' first
      | (with_reducible exact ih0 _ _ _)
      | (with_reducible exact ancepsref04_Marked.mono _ _)
      | (with_reducible exact LeO.refl _)
      | (with_reducible exact LeO.none _)
      | (with_reducible refine LeO.ite ?_ ?_)
      | (with_reducible refine LeO.bind ?_ (fun _ => ?_))
      | exact ih0 _ _ _
      | exact ancepsref04_Marked.mono _ _
      | exact LeO.none _
      | refine LeO.ite ?_ ?_
      | refine LeO.bind ?_ (fun _ => ?_)
theorem ancepsref04_Letters.mono : ∀ a0 k, LeO (ancepsref04_Letters.f k a0) (ancepsref04_Letters.f (k + 1) a0) := by
  intro a0 k
  have ih0 := ancepsref04_Letters.mono_l k
  unfold ancepsref04_Letters.f
  repeat' first
      | (with_reducible exact ih0 _ _ _)
      | (with_reducible exact ancepsref04_Marked.mono _ _)
      | (with_reducible exact LeO.refl _)
      | (with_reducible exact LeO.none _)
      | (with_reducible refine LeO.ite ?_ ?_)
      | (with_reducible refine LeO.bind ?_ (fun _ => ?_))
      | exact ih0 _ _ _
      | exact ancepsref04_Marked.mono _ _
      | exact LeO.none _
      | refine LeO.ite ?_ ?_
      | refine LeO.bind ?_ (fun _ => ?_)
set_option maxHeartbeats 8000000 in
set_option maxRecDepth 100000 in
theorem ancepsref04_Letters.calls (k : Nat) (a0 : ByteArray) (r1 : List Int) (r2 : Int) (w : World) (h : ancepsref04_Letters.f k a0 = some (r1, r2)) :
    Calls Tryd.prog 8 #[.string a0] w fun e w' => ∃ v0_ : Value, e = .returned (.tuple #[v0_, .int .i64 r2]) ∧ Kd.R (Kd.int .i64) 3 w' w.heap.size (fun _ => True) v0_ r1 ∧ Below w.heap.size w w' := by
  have HB := Aside0.mk (Below.refl w.heap.size w)
  have H : ((ancepsref04_Marked.f k a0).bind fun t182 => (if t182 = 0 then (ancepsref04_Letters.l0 k a0 ([] : List Int) 0) else (some (([] : List Int), t182)))) = some (r1, r2) := h
  clear h
  replace H := Option.bind_eq_some_iff.mp H
  obtain ⟨t182, A20, H⟩ := H
  replace H : (if t182 = 0 then (ancepsref04_Letters.l0 k a0 ([] : List Int) 0) else (some (([] : List Int), t182))) = some (r1, r2) := H
  have A2 := Aside0.mk A20
  clear A20
  by_cases c3 : t182 = 0
  · rw [if_pos c3] at H
    have c3b0 : (t182 == 0) = true := beq_iff_eq.mpr c3
    have c3b1 : (t182 != 0) = false := bne_eq_false_iff_eq.mpr c3
    clear c3
    have H' := Aside0.mk H
    clear H
    go_enter Tryd.func8, Tryd.ntmps8
    go_wp2_with (first | ((with_reducible refine gate_callee (f := 12) rfl ?_); refine goesL_ (some 8) rfl rfl Tryd.func12 (by kernel_rfl) rfl #[.string a0] rfl (by (try simp only [List.map_toArray, List.map_cons, List.map_nil]); first | done | rfl | (simp only [List.length_drop, List.length_take]; rfl)) ?_; (with_reducible refine (ancepsref04_Marked.calls k a0 t182 _ A2.out).mono ?_); rintro e w' ⟨rfl, ⟨nd, rfl⟩⟩; refine ⟨_, rfl, ?_⟩))
    go_loopg [5, 6] k (fun kq v5 v6 w' => ∃ (x5_1 : List Int) (x6_1 : Int), v6 = .int .i64 x6_1 ∧ Aside0 (ancepsref04_Letters.l0 kq a0 x5_1 x6_1 = some (r1, r2)) ∧ Aside0 (kq ≤ k) ∧ Aside0 (Kd.R (Kd.int .i64) 3 w' w.heap.size (fun _ => True) v5 x5_1) ∧ Aside0 (Below w.heap.size w w'))
    case atStart => exact ⟨(([] : List Int)), (0), (by first | rfl | (simp; done) | (simp [*]; done)), H', ⟨Nat.le_refl _⟩, ⟨by first | exact Kd.R_nil _ _ _ _ _ | exact Kd.N_nil _ _ _ _ _ | exact Kd.V_nil _ _ _ _ _ | exact Kd.Q_nil _ _ _ _ _ | exact Kd.S_nil _ _ _ _ _⟩, ⟨by repeat (first | (with_reducible first | exact HB.out | apply below_alloc | apply pw_below_drewN | apply below_drew1) | exact HB.out)⟩⟩
    case round =>
      clear H'
      try clear c1
      try clear p2
      try clear c3
      try clear c3b0
      try clear c3b1
      obtain ⟨x5_1, x6_1, rfl, HA, HK1, HO_5, HB⟩ := hrel
      cases gk with
      | zero => exact absurd HA.out (by simp [ancepsref04_Letters.l0])
      | succ k1 =>
        have H := HA.out
        clear HA
        simp only [ancepsref04_Letters.l0] at H
        by_cases c4 : x6_1 < (a0.size : Int)
        · rw [if_pos c4] at H
          have c4b0 : decide (x6_1 < (a0.size : Int)) = true := decide_eq_true c4
          clear c4
          by_cases c5 : 0 ≤ x6_1
          · rw [if_pos c5] at H
            have c5b0 : decide (0 ≤ x6_1) = true := decide_eq_true c5
            clear c5
            by_cases c7 : (bt a0 x6_1) = 117
            · rw [if_pos c7] at H
              have c7b0 : ((bt a0 x6_1) == 117) = true := beq_iff_eq.mpr c7
              have c7b1 : ((bt a0 x6_1) != 117) = false := bne_eq_false_iff_eq.mpr c7
              clear c7
              by_cases c8 : x5_1.length < 17592186044416
              · rw [if_pos c8] at H
                have LMc8 := Aside0.mk c8
                clear c8
                obtain ⟨y183, hy183⟩ : ∃ y_ : List Int, y_ = (x5_1 ++ [0]) := ⟨_, rfl⟩
                replace H : (ancepsref04_Letters.l0 k1 a0 y183 (wrap64 (x6_1 + 1))) = some (r1, r2) := by first | (rw [hy183]; with_reducible exact H) | (have H2_ := (Option.bind_some _ _).symm.trans H; rw [hy183]; with_reducible exact H2_) | (have H2_ := (Option.bind_some _ _).symm.trans H; with_reducible exact H2_) | with_reducible exact H | (rw [hy183]; exact H) | exact H
                have Ny183 := Aside0.mk hy183
                clear hy183
                have H' := Aside0.mk H
                clear H
                have p6 : 0 ≤ (x6_1 : Int) := of_decide_eq_true (by first | (with_reducible assumption) | assumption)
                have q6 : x6_1 < (a0.size : Int) := of_decide_eq_true (by first | (with_reducible assumption) | assumption)
                have hx6 := bt_at a0 x6_1
                replace p6 := eq_true p6
                replace q6 := eq_true q6
                go_wp2_with (first | ((with_reducible refine gate_builtin (b := .append) (xs := #[.tmp 23, .tmp 24]) rfl ?_); at_builtin; refine Kd.R_append (Kd.int .i64) (w0 := w) w.heap.size rfl (.tmp 23) (.tmp 24) 26 3 (.int .i64 0) 8 rfl Tryd.underlying26 info3 rfl (by decide) (by omega) u5 x5_1 0 [.int .i64 0] (fun _ => True) (fun _ => False) rfl rfl ?aP (fun _ hk => hk.elim) ?aF ?aO ?aB ?aS ?aL ?_; (case aP => exact rfl); (case aB => exact (by repeat (first | (with_reducible first | exact HB.out | apply below_alloc | apply pw_below_drewN | apply below_drew1) | exact HB.out))); (case aF => exact (fun _ _ => trivial)); (case aO => exact (by (with_reducible repeat (first | apply Kd.R_alloc | apply Kd.R_drewN | apply Kd.R_drew)); exact HO_5.out)); (case aS => exact (below_size (by repeat (first | (with_reducible first | exact HB.out | apply below_alloc | apply pw_below_drewN | apply below_drew1) | exact HB.out)))); (case aL => have := LMc8.out; omega); intro v184 w9 ho hb hg hat; rw [← Ny183.out] at ho; have n0_ := Aside0.mk (hb); have n1_ := Aside0.mk (ho); clear HB; clear HO_5; have HB := n0_; have HO185 := n1_; clear n0_ n1_; clear ho hb hg hat))
                go_roundg k1
                case measure => have := HK1.out; omega
                case rel => exact ⟨(y183), (wrap64 (x6_1 + 1)), (by first | rfl | (simp; done) | (simp [*]; done)), H', ⟨by have := HK1.out; omega⟩, ⟨by (with_reducible repeat (first | apply Kd.R_alloc | apply Kd.R_drewN | apply Kd.R_drew)); exact HO185.out⟩, ⟨by repeat (first | (with_reducible first | exact HB.out | apply below_alloc | apply pw_below_drewN | apply below_drew1) | exact HB.out)⟩⟩
              · rw [if_neg c8] at H
                exact absurd H (by simp)
            · rw [if_neg c7] at H
              have c7b0 : ((bt a0 x6_1) == 117) = false := beq_eq_false_iff_ne.mpr c7
              have c7b1 : ((bt a0 x6_1) != 117) = true := bne_iff_ne.mpr c7
              by_cases c10 : (bt a0 x6_1) = 45
              · rw [if_pos c10] at H
                have c10b0 : ((bt a0 x6_1) == 45) = true := beq_iff_eq.mpr c10
                have c10b1 : ((bt a0 x6_1) != 45) = false := bne_eq_false_iff_eq.mpr c10
                clear c10
                by_cases c11 : x5_1.length < 17592186044416
                · rw [if_pos c11] at H
                  have LMc11 := Aside0.mk c11
                  clear c11
                  obtain ⟨y186, hy186⟩ : ∃ y_ : List Int, y_ = (x5_1 ++ [1]) := ⟨_, rfl⟩
                  replace H : (ancepsref04_Letters.l0 k1 a0 y186 (wrap64 (x6_1 + 1))) = some (r1, r2) := by first | (rw [hy186]; with_reducible exact H) | (have H2_ := (Option.bind_some _ _).symm.trans H; rw [hy186]; with_reducible exact H2_) | (have H2_ := (Option.bind_some _ _).symm.trans H; with_reducible exact H2_) | with_reducible exact H | (rw [hy186]; exact H) | exact H
                  have Ny186 := Aside0.mk hy186
                  clear hy186
                  have H' := Aside0.mk H
                  clear H
                  have p6 : 0 ≤ (x6_1 : Int) := of_decide_eq_true (by first | (with_reducible assumption) | assumption)
                  have q6 : x6_1 < (a0.size : Int) := of_decide_eq_true (by first | (with_reducible assumption) | assumption)
                  have hx6 := bt_at a0 x6_1
                  replace p6 := eq_true p6
                  replace q6 := eq_true q6
                  go_wp2_with (first | ((with_reducible refine gate_builtin (b := .append) (xs := #[.tmp 28, .tmp 29]) rfl ?_); at_builtin; refine Kd.R_append (Kd.int .i64) (w0 := w) w.heap.size rfl (.tmp 28) (.tmp 29) 26 3 (.int .i64 0) 8 rfl Tryd.underlying26 info3 rfl (by decide) (by omega) u5 x5_1 1 [.int .i64 1] (fun _ => True) (fun _ => False) rfl rfl ?aP (fun _ hk => hk.elim) ?aF ?aO ?aB ?aS ?aL ?_; (case aP => exact rfl); (case aB => exact (by repeat (first | (with_reducible first | exact HB.out | apply below_alloc | apply pw_below_drewN | apply below_drew1) | exact HB.out))); (case aF => exact (fun _ _ => trivial)); (case aO => exact (by (with_reducible repeat (first | apply Kd.R_alloc | apply Kd.R_drewN | apply Kd.R_drew)); exact HO_5.out)); (case aS => exact (below_size (by repeat (first | (with_reducible first | exact HB.out | apply below_alloc | apply pw_below_drewN | apply below_drew1) | exact HB.out)))); (case aL => have := LMc11.out; omega); intro v187 w12 ho hb hg hat; rw [← Ny186.out] at ho; have n0_ := Aside0.mk (hb); have n1_ := Aside0.mk (ho); clear HB; clear HO_5; have HB := n0_; have HO188 := n1_; clear n0_ n1_; clear ho hb hg hat))
                  go_roundg k1
                  case measure => have := HK1.out; omega
                  case rel => exact ⟨(y186), (wrap64 (x6_1 + 1)), (by first | rfl | (simp; done) | (simp [*]; done)), H', ⟨by have := HK1.out; omega⟩, ⟨by (with_reducible repeat (first | apply Kd.R_alloc | apply Kd.R_drewN | apply Kd.R_drew)); exact HO188.out⟩, ⟨by repeat (first | (with_reducible first | exact HB.out | apply below_alloc | apply pw_below_drewN | apply below_drew1) | exact HB.out)⟩⟩
                · rw [if_neg c11] at H
                  exact absurd H (by simp)
              · rw [if_neg c10] at H
                have c10b0 : ((bt a0 x6_1) == 45) = false := beq_eq_false_iff_ne.mpr c10
                have c10b1 : ((bt a0 x6_1) != 45) = true := bne_iff_ne.mpr c10
                by_cases c13 : (bt a0 x6_1) = 120
                · rw [if_pos c13] at H
                  have c13b0 : ((bt a0 x6_1) == 120) = true := beq_iff_eq.mpr c13
                  have c13b1 : ((bt a0 x6_1) != 120) = false := bne_eq_false_iff_eq.mpr c13
                  clear c13
                  simp only [Option.some.injEq, Prod.mk.injEq] at H
                  obtain ⟨rfl, rfl⟩ := H
                  have p6 : 0 ≤ (x6_1 : Int) := of_decide_eq_true (by first | (with_reducible assumption) | assumption)
                  have q6 : x6_1 < (a0.size : Int) := of_decide_eq_true (by first | (with_reducible assumption) | assumption)
                  have hx6 := bt_at a0 x6_1
                  replace p6 := eq_true p6
                  replace q6 := eq_true q6
                  go_wp2
                  go_ret2
                  exact ⟨_, by first | rfl | (simp [errW_none, errW_some] <;> rfl) | (simp [*, errW_none, errW_some] <;> rfl), by first | exact Kd.R_nil _ _ _ _ _ | exact Kd.N_nil _ _ _ _ _ | exact Kd.V_nil _ _ _ _ _ | exact Kd.Q_nil _ _ _ _ _ | exact Kd.S_nil _ _ _ _ _, by repeat (first | (with_reducible first | exact HB.out | apply below_alloc | apply pw_below_drewN | apply below_drew1) | exact HB.out)⟩
                · rw [if_neg c13] at H
                  have c13b0 : ((bt a0 x6_1) == 120) = false := beq_eq_false_iff_ne.mpr c13
                  have c13b1 : ((bt a0 x6_1) != 120) = true := bne_iff_ne.mpr c13
                  by_cases c14 : (bt a0 x6_1) = 46
                  · rw [if_pos c14] at H
                    have c14b0 : ((bt a0 x6_1) == 46) = true := beq_iff_eq.mpr c14
                    have c14b1 : ((bt a0 x6_1) != 46) = false := bne_eq_false_iff_eq.mpr c14
                    clear c14
                    obtain ⟨ji15, hji15⟩ : ∃ j_ : Int, (wrap64 ((x5_1.length : Int) - 1)) = j_ := ⟨_, rfl⟩
                    replace H : (if 0 ≤ (ji15) then (if (ji15) < (x5_1.length : Int) then (ancepsref04_Letters.l0 k1 a0 (x5_1.set ((ji15) : Int).toNat (wrap64 ((rd x5_1 (ji15)) + 2))) (wrap64 (x6_1 + 1))) else (none)) else (none)) = some (r1, r2) := by first | (rw [hji15] at H; exact H) | (simp only [hji15] at H ⊢; exact H)
                    have hji15w : (IntKind.i64.wrap ((x5_1.length : Int) - 1)) = ji15 := (i64_w _).trans hji15
                    by_cases c16 : 0 ≤ (ji15)
                    · rw [if_pos c16] at H
                      have c16b0 : decide (0 ≤ (ji15)) = true := decide_eq_true c16
                      clear c16
                      by_cases c17 : (ji15) < (x5_1.length : Int)
                      · rw [if_pos c17] at H
                        have c17b0 : decide ((ji15) < (x5_1.length : Int)) = true := decide_eq_true c17
                        clear c17
                        obtain ⟨y190, hy190⟩ : ∃ y_ : List Int, y_ = (x5_1.set ((ji15) : Int).toNat (wrap64 ((rd x5_1 (ji15)) + 2))) := ⟨_, rfl⟩
                        replace H : (ancepsref04_Letters.l0 k1 a0 y190 (wrap64 (x6_1 + 1))) = some (r1, r2) := by first | (rw [hy190]; with_reducible exact H) | (have H2_ := (Option.bind_some _ _).symm.trans H; rw [hy190]; with_reducible exact H2_) | (have H2_ := (Option.bind_some _ _).symm.trans H; with_reducible exact H2_) | with_reducible exact H | (rw [hy190]; exact H) | exact H
                        have Ny190 := Aside0.mk hy190
                        clear hy190
                        have H' := Aside0.mk H
                        clear H
                        have p6 : 0 ≤ (x6_1 : Int) := of_decide_eq_true (by first | (with_reducible assumption) | assumption)
                        have q6 : x6_1 < (a0.size : Int) := of_decide_eq_true (by first | (with_reducible assumption) | assumption)
                        have hx6 := bt_at a0 x6_1
                        replace p6 := eq_true p6
                        replace q6 := eq_true q6
                        obtain ⟨Ao19, co19, eo19⟩ := Kd.R_slice HO_5.out
                        subst eo19
                        have p189 : 0 ≤ ((ji15) : Int) := of_decide_eq_true (by first | (with_reducible assumption) | assumption)
                        have q189 : (ji15) < (x5_1.length : Int) := of_decide_eq_true (by first | (with_reducible assumption) | assumption)
                        obtain ⟨ad189, e189, hx189_0⟩ := Kd.at_int (Kd.R_reads' HO_5.out).2.2 (ji15) p189 q189
                        cases e189
                        replace p189 := eq_true p189
                        replace q189 := eq_true q189
                        have p18 : 0 ≤ ((ji15) : Int) := of_decide_eq_true (by first | (with_reducible assumption) | assumption)
                        have q18 : ((ji15) : Int) < ((x5_1.length : Int) : Int) := of_decide_eq_true (by first | (with_reducible assumption) | assumption)
                        obtain ⟨go18, co18, eo18, gb18, gl18, cl18, HG18⟩ := Kd.R_form HO_5.out (by omega)
                        (first | cases eo18 | (injection eo18 with ea_ en_ ec_; (first | subst ea_ | (injection ea_ with ea_; subst ea_)); subst ec_; clear en_))
                        have GB18 := Aside0.mk gb18
                        have GG18 := Aside0.mk HG18
                        clear gb18 gl18 HG18
                        (first | simp only [add_plain] at hx189_0 | skip)
                        obtain ⟨hx18_0, hf18_0⟩ := Kd.R_celln 0 HO_5.out ((ji15) : Int) p18 q18
                        replace p18 := eq_true p18
                        replace q18 := eq_true q18
                        have HP20 := Kd.R_putg HO_5.out ((ji15) : Int) (wrap64 ((rd x5_1 (ji15)) + 2))
                        go_wp2_with (first | ((with_reducible refine gate_store (t := 3) (p := 42) rfl ?_); refine store_event (t := 3) (p := 42) (v := ?vo_w21) (w1 := (wr.setCell ⟨go18, ((ji15) : Int).toNat, none⟩ (.int .i64 (wrap64 ((rd x5_1 (ji15)) + 2))))) ?hg ?ho ?hn ?hr ?_; (case ho => rfl); (case hg => rfl); (case hn => rfl); (case hr => first | (go_simp; done) | (go_simp; rfl)); intro w21 hw; have hg : wr.grownBy w21 (some go18) := (by rw [hw]; exact HP20.2); have hp_ : Kd.R (Kd.int .i64) 3 w21 w.heap.size (fun _ => True) (.slice (some ⟨go18, 0, none⟩) x5_1.length co19) y190 := (by rw [hw, Ny190.out]; exact HP20.1); clear HP20; have n0_ := Aside0.mk (hp_); have n1_ := Aside0.mk ((by rw [hw]; exact below_set (HB.out) GB18.out : Below w.heap.size w w21)); clear HO_5; clear HB; have HO_5 := n0_; have HB := n1_; clear n0_ n1_; clear hg hw hp_))
                        go_roundg k1
                        case measure => have := HK1.out; omega
                        case rel => exact ⟨(y190), (wrap64 (x6_1 + 1)), (by first | rfl | (simp; done) | (simp [*]; done)), H', ⟨by have := HK1.out; omega⟩, ⟨by (with_reducible repeat (first | apply Kd.R_alloc | apply Kd.R_drewN | apply Kd.R_drew)); exact HO_5.out⟩, ⟨by repeat (first | (with_reducible first | exact HB.out | apply below_alloc | apply pw_below_drewN | apply below_drew1) | exact HB.out)⟩⟩
                      · rw [if_neg c17] at H
                        exact absurd H (by simp)
                    · rw [if_neg c16] at H
                      exact absurd H (by simp)
                  · rw [if_neg c14] at H
                    have c14b0 : ((bt a0 x6_1) == 46) = false := beq_eq_false_iff_ne.mpr c14
                    have c14b1 : ((bt a0 x6_1) != 46) = true := bne_iff_ne.mpr c14
                    have H' := Aside0.mk H
                    clear H
                    have p6 : 0 ≤ (x6_1 : Int) := of_decide_eq_true (by first | (with_reducible assumption) | assumption)
                    have q6 : x6_1 < (a0.size : Int) := of_decide_eq_true (by first | (with_reducible assumption) | assumption)
                    have hx6 := bt_at a0 x6_1
                    replace p6 := eq_true p6
                    replace q6 := eq_true q6
                    go_wp2
                    go_roundg k1
                    case measure => have := HK1.out; omega
                    case rel => exact ⟨(x5_1), (wrap64 (x6_1 + 1)), (by first | rfl | (simp; done) | (simp [*]; done)), H', ⟨by have := HK1.out; omega⟩, ⟨by (with_reducible repeat (first | apply Kd.R_alloc | apply Kd.R_drewN | apply Kd.R_drew)); exact HO_5.out⟩, ⟨by repeat (first | (with_reducible first | exact HB.out | apply below_alloc | apply pw_below_drewN | apply below_drew1) | exact HB.out)⟩⟩
          · rw [if_neg c5] at H
            exact absurd H (by simp)
        · rw [if_neg c4] at H
          have c4b0 : decide (x6_1 < (a0.size : Int)) = false := decide_eq_false c4
          clear c4
          simp only [Option.some.injEq, Prod.mk.injEq] at H
          obtain ⟨rfl, rfl⟩ := H
          go_wp2
          go_ret2
          exact ⟨_, by first | rfl | (simp [errW_none, errW_some] <;> rfl) | (simp [*, errW_none, errW_some] <;> rfl), by (with_reducible repeat (first | apply Kd.R_alloc | apply Kd.R_drewN | apply Kd.R_drew)); exact HO_5.out, by repeat (first | (with_reducible first | exact HB.out | apply below_alloc | apply pw_below_drewN | apply below_drew1) | exact HB.out)⟩
  · rw [if_neg c3] at H
    have c3b0 : (t182 == 0) = false := beq_eq_false_iff_ne.mpr c3
    have c3b1 : (t182 != 0) = true := bne_iff_ne.mpr c3
    simp only [Option.some.injEq, Prod.mk.injEq] at H
    obtain ⟨rfl, rfl⟩ := H
    go_enter Tryd.func8, Tryd.ntmps8
    go_wp2_with (first | ((with_reducible refine gate_callee (f := 12) rfl ?_); refine goesL_ (some 8) rfl rfl Tryd.func12 (by kernel_rfl) rfl #[.string a0] rfl (by (try simp only [List.map_toArray, List.map_cons, List.map_nil]); first | done | rfl | (simp only [List.length_drop, List.length_take]; rfl)) ?_; (with_reducible refine (ancepsref04_Marked.calls k a0 t182 _ A2.out).mono ?_); rintro e w' ⟨rfl, ⟨nd, rfl⟩⟩; refine ⟨_, rfl, ?_⟩))
    go_ret2
    exact ⟨_, by first | rfl | (simp [errW_none, errW_some] <;> rfl) | (simp [*, errW_none, errW_some] <;> rfl), by first | exact Kd.R_nil _ _ _ _ _ | exact Kd.N_nil _ _ _ _ _ | exact Kd.V_nil _ _ _ _ _ | exact Kd.Q_nil _ _ _ _ _ | exact Kd.S_nil _ _ _ _ _, by repeat (first | (with_reducible first | exact HB.out | apply below_alloc | apply pw_below_drewN | apply below_drew1) | exact HB.out)⟩

/-! ### ancepsref04_Valid: function 10 -/
def ancepsref04_Valid.l0 : Nat → ByteArray → Int → Option (Int)
  | 0, _, _ => none
  | k + 1, x0, x3 => if x3 < (x0.size : Int) then (if 0 ≤ x3 then ((ancepsref04_Is.f (bt x0 x3)).bind fun t191 => (if t191 = true then (ancepsref04_Valid.l0 k x0 (wrap64 (x3 + 1))) else (some 2))) else (none)) else (some 0)
def ancepsref04_Valid.f (k : Nat) (a0 : ByteArray) : Option (Int) := if (a0.size : Int) > 60 then (some 3) else (ancepsref04_Valid.l0 k a0 0)
theorem ancepsref04_Valid.mono_l : ∀ k, (∀ y0 y1, LeO (ancepsref04_Valid.l0 k y0 y1) (ancepsref04_Valid.l0 (k + 1) y0 y1))
  | 0 => fun _ _ r h => by simp [ancepsref04_Valid.l0] at h
  | k + 1 => by
    have ih0 := ancepsref04_Valid.mono_l k
    · intro y0 y1
      unfold ancepsref04_Valid.l0
      repeat' first
      | (with_reducible exact ih0 _ _)
      | (with_reducible exact LeO.refl _)
      | (with_reducible exact LeO.none _)
      | (with_reducible refine LeO.ite ?_ ?_)
      | (with_reducible refine LeO.bind ?_ (fun _ => ?_))
      | exact ih0 _ _
      | exact LeO.none _
      | refine LeO.ite ?_ ?_
      | refine LeO.bind ?_ (fun _ => ?_)
theorem ancepsref04_Valid.mono : ∀ a0 k, LeO (ancepsref04_Valid.f k a0) (ancepsref04_Valid.f (k + 1) a0) := by
  intro a0 k
  have ih0 := ancepsref04_Valid.mono_l k
  unfold ancepsref04_Valid.f
  repeat' first
      | (with_reducible exact ih0 _ _)
      | (with_reducible exact LeO.refl _)
      | (with_reducible exact LeO.none _)
      | (with_reducible refine LeO.ite ?_ ?_)
      | (with_reducible refine LeO.bind ?_ (fun _ => ?_))
      | exact ih0 _ _
      | exact LeO.none _
      | refine LeO.ite ?_ ?_
      | refine LeO.bind ?_ (fun _ => ?_)
set_option maxHeartbeats 8000000 in
set_option maxRecDepth 100000 in
theorem ancepsref04_Valid.calls (k : Nat) (a0 : ByteArray) (r : Int) (w : World) (h : ancepsref04_Valid.f k a0 = some r) :
    Calls Tryd.prog 10 #[.string a0] w fun e w' => e = .returned (.int .i64 r) ∧ Drawn0 w w' := by
  have H : (if (a0.size : Int) > 60 then (some 3) else (ancepsref04_Valid.l0 k a0 0)) = some r := h
  clear h
  by_cases c2 : (a0.size : Int) > 60
  · rw [if_pos c2] at H
    have c2b0 : decide (60 < (a0.size : Int)) = true := decide_eq_true c2
    have c2b1 : decide (60 < a0.size) = true := decide_eq_true (by omega)
    clear c2
    obtain rfl := Option.some.inj H
    go_enter Tryd.func10, Tryd.ntmps10
    go_wp2
    go_ret
    exact ⟨by first | rfl | (simp; done) | (simp [*]; done), by repeat (first | exact Drawn0.refl _ | apply Drawn0.step)⟩
  · rw [if_neg c2] at H
    have c2b0 : decide (60 < (a0.size : Int)) = false := decide_eq_false c2
    have c2b1 : decide (60 < a0.size) = false := decide_eq_false (by omega)
    clear c2
    have H' := Aside0.mk H
    clear H
    go_enter Tryd.func10, Tryd.ntmps10
    go_wp2
    go_loopg [3] k (fun kq v3 w' => ∃ (x3_1 : Int), v3 = .int .i64 x3_1 ∧ Aside0 (ancepsref04_Valid.l0 kq a0 x3_1 = some r) ∧ Aside0 (kq ≤ k) ∧ Drawn0 w w')
    case atStart => exact ⟨(0), (by first | rfl | (simp; done) | (simp [*]; done)), H', ⟨Nat.le_refl _⟩, by repeat (first | exact Drawn0.refl _ | apply Drawn0.step)⟩
    case round =>
      clear H'
      try clear c1
      try clear c2
      try clear c2b0
      try clear c2b1
      try clear p2
      obtain ⟨x3_1, rfl, HA, HK1, ⟨m1, rfl⟩⟩ := hrel
      cases gk with
      | zero => exact absurd HA.out (by simp [ancepsref04_Valid.l0])
      | succ k1 =>
        have H := HA.out
        clear HA
        simp only [ancepsref04_Valid.l0] at H
        by_cases c3 : x3_1 < (a0.size : Int)
        · rw [if_pos c3] at H
          have c3b0 : decide (x3_1 < (a0.size : Int)) = true := decide_eq_true c3
          clear c3
          by_cases c4 : 0 ≤ x3_1
          · rw [if_pos c4] at H
            have c4b0 : decide (0 ≤ x3_1) = true := decide_eq_true c4
            clear c4
            replace H := Option.bind_eq_some_iff.mp H
            obtain ⟨t191, A60, H⟩ := H
            replace H : (if t191 = true then (ancepsref04_Valid.l0 k1 a0 (wrap64 (x3_1 + 1))) else (some 2)) = some r := H
            have A6 := Aside0.mk A60
            clear A60
            by_cases c7 : t191 = true
            · subst c7
              have H1 : (ancepsref04_Valid.l0 k1 a0 (wrap64 (x3_1 + 1))) = some r := by rw [if_pos rfl] at H; exact H
              clear H
              have H := H1
              clear H1
              have H' := Aside0.mk H
              clear H
              have p5 : 0 ≤ (x3_1 : Int) := of_decide_eq_true (by first | (with_reducible assumption) | assumption)
              have q5 : x3_1 < (a0.size : Int) := of_decide_eq_true (by first | (with_reducible assumption) | assumption)
              have hx5 := bt_at a0 x3_1
              replace p5 := eq_true p5
              replace q5 := eq_true q5
              go_wp2_with (first | ((with_reducible refine gate_callee (f := 25) rfl ?_); refine goesL_ (some 16) rfl rfl Tryd.func25 (by kernel_rfl) rfl #[.int .u8 (bt a0 x3_1)] rfl (by (try simp only [List.map_toArray, List.map_cons, List.map_nil]); first | done | rfl | (simp only [List.length_drop, List.length_take]; rfl)) ?_; (with_reducible refine (ancepsref04_Is.calls (bt a0 x3_1) true _ A6.out).mono ?_); rintro e w' ⟨rfl, ⟨nd, rfl⟩⟩; refine ⟨_, rfl, ?_⟩))
              go_roundg k1
              case measure => have := HK1.out; omega
              case rel => exact ⟨(wrap64 (x3_1 + 1)), (by first | rfl | (simp; done) | (simp [*]; done)), H', ⟨by have := HK1.out; omega⟩, by repeat (first | exact Drawn0.refl _ | apply Drawn0.step)⟩
            · replace c7 := Bool.eq_false_iff.mpr c7
              subst c7
              have H1 : (some 2) = some r := by rw [if_neg (show ¬ (false = true) by decide)] at H; exact H
              clear H
              have H := H1
              clear H1
              obtain rfl := Option.some.inj H
              have p5 : 0 ≤ (x3_1 : Int) := of_decide_eq_true (by first | (with_reducible assumption) | assumption)
              have q5 : x3_1 < (a0.size : Int) := of_decide_eq_true (by first | (with_reducible assumption) | assumption)
              have hx5 := bt_at a0 x3_1
              replace p5 := eq_true p5
              replace q5 := eq_true q5
              go_wp2_with (first | ((with_reducible refine gate_callee (f := 25) rfl ?_); refine goesL_ (some 16) rfl rfl Tryd.func25 (by kernel_rfl) rfl #[.int .u8 (bt a0 x3_1)] rfl (by (try simp only [List.map_toArray, List.map_cons, List.map_nil]); first | done | rfl | (simp only [List.length_drop, List.length_take]; rfl)) ?_; (with_reducible refine (ancepsref04_Is.calls (bt a0 x3_1) false _ A6.out).mono ?_); rintro e w' ⟨rfl, ⟨nd, rfl⟩⟩; refine ⟨_, rfl, ?_⟩))
              go_ret
              exact ⟨by first | rfl | (simp; done) | (simp [*]; done), by repeat (first | exact Drawn0.refl _ | apply Drawn0.step)⟩
          · rw [if_neg c4] at H
            exact absurd H (by simp)
        · rw [if_neg c3] at H
          have c3b0 : decide (x3_1 < (a0.size : Int)) = false := decide_eq_false c3
          clear c3
          obtain rfl := Option.some.inj H
          go_wp2
          go_ret
          exact ⟨by first | rfl | (simp; done) | (simp [*]; done), by repeat (first | exact Drawn0.refl _ | apply Drawn0.step)⟩

/-! ### pattern_Text: function 14 -/
def pattern_Text.letter (l : Int) : List UInt8 := (if l % 2 = 0 then [117] else [45]) ++ (if 2 ≤ l then [46] else [])
theorem pattern_Text.letter_len (l : Int) : (pattern_Text.letter l).length ≤ 2 := by
  unfold pattern_Text.letter
  split <;> split <;> simp
theorem pattern_Text.flat_len (l : List Int) : (l.flatMap pattern_Text.letter).length ≤ 2 * l.length := by
  induction l with
  | nil => simp
  | cons x r ih =>
    have := pattern_Text.letter_len x
    rw [List.flatMap_cons, List.length_append, List.length_cons]
    omega
def pattern_Text.f (l0 : List Int) : Option (ByteArray × Int) :=
  if 60 < l0.length then some (⟨#[]⟩, 3) else if l0.all (fun l => decide (0 ≤ l ∧ l ≤ 3)) then some (⟨(l0.flatMap pattern_Text.letter).toArray⟩, 0) else some (⟨#[]⟩, 6)
set_option maxHeartbeats 4000000 in
set_option maxRecDepth 100000 in
theorem pattern_Text.calls (A0 : Option Addr) (c0 : Nat) (l0 : List Int) (r1 : ByteArray) (r2 : Int) (w : World) (hr0 : Kd.C (Kd.int .i64) w A0 l0.length l0) (hc0 : l0.length ≤ c0) (h : pattern_Text.f l0 = some (r1, r2)) :
    Calls Tryd.prog 14 #[.slice A0 l0.length c0] w fun e w' => e = .returned (.tuple #[.string r1, .int .i64 r2]) ∧ Below w.heap.size w w' := by
  unfold pattern_Text.f at h
  by_cases hl : 60 < l0.length
  · rw [if_pos hl] at h
    obtain ⟨rfl, rfl⟩ := Prod.mk.inj (Option.some.inj h)
    clear h
    have hm := hr0.2.1
    go_enter Tryd.func14, Tryd.ntmps14
    go_wp2
    go_ret2
    exact ⟨rfl, Below.refl _ _⟩
  rw [if_neg hl] at h
  obtain ⟨ad, had⟩ : ∃ ad, 0 < l0.length → A0 = some ad := by
    rcases Nat.eq_zero_or_pos l0.length with h0 | h0
    · exact ⟨⟨0, 0, none⟩, fun h => absurd h (by omega)⟩
    · obtain ⟨ad, he, _⟩ := Kd.at_int hr0 0 (by omega) (by omega)
      exact ⟨ad, fun _ => he⟩
  have H := Lib.hid h
  have HA := Lib.hid had
  have HR := Lib.hid hr0
  clear h had hr0
  go_enter Tryd.func14, Tryd.ntmps14
  go_wp2
  go_loopw [12] (fun i wr => ∃ k : Nat, k ≤ l0.length ∧ i = .int .i64 k ∧ Hid ((l0.take k).all (fun l => decide (0 ≤ l ∧ l ≤ 3)) = true) ∧ ∃ r, Hid (Bld.Bd wr w.heap.size r ((l0.take k).flatMap pattern_Text.letter)) ∧ Hid (∀ g, r = some g → w.heap.size ≤ g) ∧ Below w.heap.size w wr)
    (fun i _ => l0.length - (intOf i).toNat)
  case atStart => exact ⟨0, Nat.zero_le _, rfl, Lib.hid rfl, none, Lib.hid (Bld.Bd.new w), Lib.hid (fun g hg => by cases hg), (Below.refl _ _).alloc (Nat.le_refl _) _⟩
  case round =>
    obtain ⟨k, hk, rfl, hall, r, hB, hrg, hbel⟩ := hrel
    have hlt : w.heap.size < wr.heap.size := (Bld.Bd.lt hB.out).1
    have hbl := pattern_Text.flat_len (l0.take k)
    have htl : (l0.take k).length = k := by rw [List.length_take]; omega
    rw [htl] at hbl
    have HBL := Lib.hid hbl
    clear hbl htl
    by_cases hkl : k < l0.length
    · have hA := HA.out (by omega)
      subst hA
      obtain ⟨ad', he, hc⟩ := Kd.at_int HR.out (k : Int) (by omega) (by omega)
      injection he with he
      subst he
      have hx : rd l0 (k : Int) = l0[k] := by unfold rd; rw [Int.toNat_natCast, List.getD_eq_getElem?_getD, List.getElem?_eq_getElem hkl]; rfl
      rw [hx, Int.toNat_natCast] at hc
      have hcell := pw_cell_below hbel hc
      have hts : l0.take (k + 1) = l0.take k ++ [l0[k]] := by rw [List.take_succ_eq_append_getElem hkl]
      obtain ⟨x, hxe⟩ : ∃ x, l0[k] = x := ⟨_, rfl⟩
      rw [hxe] at hcell hts
      have HT := Lib.hid hts
      have HX := Lib.hid hxe
      clear hc hx hts hxe
      by_cases hbad : x < 0 ∨ 3 < x
      · have hr : (⟨#[]⟩ : ByteArray) = r1 ∧ (6 : Int) = r2 := by
          have h2 := H.out
          have hnot : ¬ l0.all (fun l => decide (0 ≤ l ∧ l ≤ 3)) = true := by
            intro ha
            have := of_decide_eq_true (List.all_eq_true.1 ha l0[k] (List.getElem_mem hkl))
            rw [HX.out] at this
            omega
          rw [if_neg hnot] at h2
          exact Prod.mk.inj (Option.some.inj h2)
        obtain ⟨rfl, rfl⟩ := hr
        rcases hbad with hbad | hbad
        · have hnb : decide (x < 0) = true := decide_eq_true hbad
          go_wp2
          go_ret2
          exact ⟨rfl, hbel⟩
        · have hnb : decide (x < 0) = false := decide_eq_false (by omega)
          go_wp2
          go_ret2
          exact ⟨rfl, hbel⟩
      · have h0 : 0 ≤ x := by omega
        have h3 : x ≤ 3 := by omega
        have hnb : decide (x < 0) = false := decide_eq_false (by omega)
        have hnc : decide (3 < x) = false := decide_eq_false (by omega)
        have hx4 : x = 0 ∨ x = 1 ∨ x = 2 ∨ x = 3 := by omega
        rcases hx4 with rfl | rfl | rfl | rfl
        · go_wp2_with (go_at_call 26; refine (Bld.writeByte' _ _ _ _ 117 117 rfl hB.out (by have := HBL.out; omega)).mono ?_)
          (first | rintro e w1 rfl hwr | rintro e w1 ⟨rfl, hwr⟩)
          obtain ⟨r', hb1, hr1, hf1⟩ := hwr
          obtain ⟨hg1, hbe1⟩ := Bld.carry (Nat.le_refl _) hrg.out (Nat.le_of_lt hlt) hr1 hf1
          have R1 : Bld.Bd w1 w.heap.size r' ((l0.take (k + 1)).flatMap pattern_Text.letter) := by
            rw [HT.out, List.flatMap_append, show [(0 : Int)].flatMap pattern_Text.letter = [117] by decide]
            exact hb1
          have R2 : (l0.take (k + 1)).all (fun l => decide (0 ≤ l ∧ l ≤ 3)) = true := by
            rw [HT.out, List.all_append, hall.out]; rfl
          have HE := Lib.hid (hbel.trans hbe1)
          have HR1 := Lib.hid R1; have HR2 := Lib.hid R2; have HG := Lib.hid hg1
          clear R1 R2 hb1 hr1 hf1 hbe1 hg1
          go_wp2
          go_roundw
          case rel => exact ⟨k + 1, by omega, by go_num, HR2, _, HR1, HG, HE.out⟩
          case measure => simp [intOf]; omega
        · go_wp2_with (go_at_call 26; refine (Bld.writeByte' _ _ _ _ 45 45 rfl hB.out (by have := HBL.out; omega)).mono ?_)
          (first | rintro e w1 rfl hwr | rintro e w1 ⟨rfl, hwr⟩)
          obtain ⟨r', hb1, hr1, hf1⟩ := hwr
          obtain ⟨hg1, hbe1⟩ := Bld.carry (Nat.le_refl _) hrg.out (Nat.le_of_lt hlt) hr1 hf1
          have R1 : Bld.Bd w1 w.heap.size r' ((l0.take (k + 1)).flatMap pattern_Text.letter) := by
            rw [HT.out, List.flatMap_append, show [(1 : Int)].flatMap pattern_Text.letter = [45] by decide]
            exact hb1
          have R2 : (l0.take (k + 1)).all (fun l => decide (0 ≤ l ∧ l ≤ 3)) = true := by
            rw [HT.out, List.all_append, hall.out]; rfl
          have HE := Lib.hid (hbel.trans hbe1)
          have HR1 := Lib.hid R1; have HR2 := Lib.hid R2; have HG := Lib.hid hg1
          clear R1 R2 hb1 hr1 hf1 hbe1 hg1
          go_wp2
          go_roundw
          case rel => exact ⟨k + 1, by omega, by go_num, HR2, _, HR1, HG, HE.out⟩
          case measure => simp [intOf]; omega
        · go_wp2_with (go_at_call 26; refine (Bld.writeByte' _ _ _ _ 117 117 rfl hB.out (by have := HBL.out; omega)).mono ?_)
          (first | rintro e w1 rfl hwr | rintro e w1 ⟨rfl, hwr⟩)
          obtain ⟨r', hb1, hr1, hf1⟩ := hwr
          obtain ⟨hg1, hbe1⟩ := Bld.carry (Nat.le_refl _) hrg.out (Nat.le_of_lt hlt) hr1 hf1
          have HB1 := Lib.hid hb1; have HS1 := Lib.hid hbe1.size; have HG1 := Lib.hid hg1; have HE1 := Lib.hid (hbel.trans hbe1); clear hb1 hr1 hf1 hbe1 hg1 hcell
          go_wp2_with (go_at_call 26; refine (Bld.writeByte' _ _ _ _ 46 46 rfl HB1.out (by have := HBL.out; rw [List.length_append, List.length_singleton]; omega)).mono ?_)
          (first | rintro e w2 rfl hwr | rintro e w2 ⟨rfl, hwr⟩)
          obtain ⟨r2', hb1, hr1, hf1⟩ := hwr
          obtain ⟨hg1, hbe1⟩ := Bld.carry (Nat.le_refl _) HG1.out (by have := HS1.out; omega) hr1 hf1
          have hbel := HE1.out
          have r' := r2'
          have R1 : Bld.Bd w2 w.heap.size r2' ((l0.take (k + 1)).flatMap pattern_Text.letter) := by
            rw [HT.out, List.flatMap_append, show [(2 : Int)].flatMap pattern_Text.letter = [117, 46] by decide]
            rw [show ([117, 46] : List UInt8) = [117] ++ [46] from rfl, ← List.append_assoc]; exact hb1
          have R2 : (l0.take (k + 1)).all (fun l => decide (0 ≤ l ∧ l ≤ 3)) = true := by
            rw [HT.out, List.all_append, hall.out]; rfl
          have HE := Lib.hid (hbel.trans hbe1)
          have HR1 := Lib.hid R1; have HR2 := Lib.hid R2; have HG := Lib.hid hg1
          clear R1 R2 hb1 hr1 hf1 hbe1 hg1
          go_wp2
          go_roundw
          case rel => exact ⟨k + 1, by omega, by go_num, HR2, _, HR1, HG, HE.out⟩
          case measure => simp [intOf]; omega
        · go_wp2_with (go_at_call 26; refine (Bld.writeByte' _ _ _ _ 45 45 rfl hB.out (by have := HBL.out; omega)).mono ?_)
          (first | rintro e w1 rfl hwr | rintro e w1 ⟨rfl, hwr⟩)
          obtain ⟨r', hb1, hr1, hf1⟩ := hwr
          obtain ⟨hg1, hbe1⟩ := Bld.carry (Nat.le_refl _) hrg.out (Nat.le_of_lt hlt) hr1 hf1
          have HB1 := Lib.hid hb1; have HS1 := Lib.hid hbe1.size; have HG1 := Lib.hid hg1; have HE1 := Lib.hid (hbel.trans hbe1); clear hb1 hr1 hf1 hbe1 hg1 hcell
          go_wp2_with (go_at_call 26; refine (Bld.writeByte' _ _ _ _ 46 46 rfl HB1.out (by have := HBL.out; rw [List.length_append, List.length_singleton]; omega)).mono ?_)
          (first | rintro e w2 rfl hwr | rintro e w2 ⟨rfl, hwr⟩)
          obtain ⟨r2', hb1, hr1, hf1⟩ := hwr
          obtain ⟨hg1, hbe1⟩ := Bld.carry (Nat.le_refl _) HG1.out (by have := HS1.out; omega) hr1 hf1
          have hbel := HE1.out
          have r' := r2'
          have R1 : Bld.Bd w2 w.heap.size r2' ((l0.take (k + 1)).flatMap pattern_Text.letter) := by
            rw [HT.out, List.flatMap_append, show [(3 : Int)].flatMap pattern_Text.letter = [45, 46] by decide]
            rw [show ([45, 46] : List UInt8) = [45] ++ [46] from rfl, ← List.append_assoc]; exact hb1
          have R2 : (l0.take (k + 1)).all (fun l => decide (0 ≤ l ∧ l ≤ 3)) = true := by
            rw [HT.out, List.all_append, hall.out]; rfl
          have HE := Lib.hid (hbel.trans hbe1)
          have HR1 := Lib.hid R1; have HR2 := Lib.hid R2; have HG := Lib.hid hg1
          clear R1 R2 hb1 hr1 hf1 hbe1 hg1
          go_wp2
          go_roundw
          case rel => exact ⟨k + 1, by omega, by go_num, HR2, _, HR1, HG, HE.out⟩
          case measure => simp [intOf]; omega
    · have hke : k = l0.length := by omega
      subst hke
      have hr : (⟨(l0.flatMap pattern_Text.letter).toArray⟩ : ByteArray) = r1 ∧ (0 : Int) = r2 := by
        have h2 := H.out
        have h3 := hall.out
        rw [List.take_length] at h3
        rw [if_pos h3] at h2
        exact Prod.mk.inj (Option.some.inj h2)
      obtain ⟨rfl, rfl⟩ := hr
      have hB2 : Bld.Bd wr w.heap.size r (l0.flatMap pattern_Text.letter) := by have := hB.out; rwa [List.take_length] at this
      have HB2 := Lib.hid hB2
      clear hB2
      go_wp2_with (go_at_call 27; refine (Bld.string_ _ _ _ _ HB2.out).mono ?_)
      rintro e w1 ⟨rfl, hf1⟩
      have hb1 := hf1.below (Nat.le_of_lt hlt) (fun g hg => hrg.out g hg.symm)
      go_wp2
      go_ret2
      exact ⟨rfl, hbel.trans hb1⟩

end Go.Proofs.YtbecdafbkdchkaaDoor.X
