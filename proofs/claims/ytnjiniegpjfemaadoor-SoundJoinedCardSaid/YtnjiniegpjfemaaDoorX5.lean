-- printed by this session's xprint.py: out of the translation, by the kit's print with additions; Lean checks it
import Derived.Test.YtnjiniegpjfemaaDoorWN
import Derived.Test.YtnjiniegpjfemaaDoorWShare
import Derived.Test.YtnjiniegpjfemaaDoorWRepsOne
import Derived.Test.YtnjiniegpjfemaaDoorX0
import Derived.Test.YtnjiniegpjfemaaDoorX1
import Derived.Test.YtnjiniegpjfemaaDoorX2
import Derived.Test.YtnjiniegpjfemaaDoorX4
namespace Go.Proofs.YtnjiniegpjfemaaDoor.X
open Go.RowKit Go.Proofs.YtnjiniegpjfemaaDoorW.PrintWords Go.Proofs.YtnjiniegpjfemaaDoorW.PrintLast Go.Proofs.YtnjiniegpjfemaaDoorW.PrintMore
attribute [local go_sem] max2_int min2_int max_two min_two max_three min_three max_four min_four isSome_setCell binOp_gtr_str binOp_leq_str binOp_geq_str   -- for this text's walks alone
set_option linter.unusedVariables false
set_option linter.unusedSimpArgs false

/-! ### ancepsref11_SameLists: function 26 -/
def ancepsref11_SameLists.l0 : Nat → List (List (S23)) → List (List (S23)) → Int → Option (Bool)
  | 0, _, _, _ => none
  | k + 1, x0, x1, x5 => if x5 < (x0.length : Int) then (if 0 ≤ x5 then (if x5 < (x1.length : Int) then ((ancepsref11_Same.f k (rd_L3 x0 x5) (rd_L3 x1 x5)).bind fun t206 => (if t206 = true then (ancepsref11_SameLists.l0 k x0 x1 (wrap64 (x5 + 1))) else (some false))) else (none)) else (none)) else (some true)
def ancepsref11_SameLists.f (k : Nat) (l0 : List (List (S23))) (l1 : List (List (S23))) : Option (Bool) := if (l0.length : Int) = (l1.length : Int) then (ancepsref11_SameLists.l0 k l0 l1 0) else (some false)
theorem ancepsref11_SameLists.mono_l : ∀ k, (∀ y0 y1 y2, LeO (ancepsref11_SameLists.l0 k y0 y1 y2) (ancepsref11_SameLists.l0 (k + 1) y0 y1 y2))
  | 0 => fun _ _ _ r h => by simp [ancepsref11_SameLists.l0] at h
  | k + 1 => by
    have ih0 := ancepsref11_SameLists.mono_l k
    · intro y0 y1 y2
      unfold ancepsref11_SameLists.l0
      repeat' first
      | (with_reducible exact ih0 _ _ _)
      | (with_reducible exact ancepsref11_Same.mono _ _ _)
      | (with_reducible exact LeO.refl _)
      | (with_reducible exact LeO.none _)
      | (with_reducible refine LeO.ite ?_ ?_)
      | (with_reducible refine LeO.bind ?_ (fun _ => ?_))
      | exact ih0 _ _ _
      | exact ancepsref11_Same.mono _ _ _
      | exact LeO.none _
      | refine LeO.ite ?_ ?_
      | refine LeO.bind ?_ (fun _ => ?_)
theorem ancepsref11_SameLists.mono : ∀ a0 a1 k, LeO (ancepsref11_SameLists.f k a0 a1) (ancepsref11_SameLists.f (k + 1) a0 a1) := by
  intro a0 a1 k
  have ih0 := ancepsref11_SameLists.mono_l k
  unfold ancepsref11_SameLists.f
  repeat' first
      | (with_reducible exact ih0 _ _ _)
      | (with_reducible exact ancepsref11_Same.mono _ _ _)
      | (with_reducible exact LeO.refl _)
      | (with_reducible exact LeO.none _)
      | (with_reducible refine LeO.ite ?_ ?_)
      | (with_reducible refine LeO.bind ?_ (fun _ => ?_))
      | exact ih0 _ _ _
      | exact ancepsref11_Same.mono _ _ _
      | exact LeO.none _
      | refine LeO.ite ?_ ?_
      | refine LeO.bind ?_ (fun _ => ?_)
def ancepsref11_SameLists.T6 : Bool × List (List Nat × List Nat) := (true, [([], []), ([], []), ([0, 1], [0, 1]), ([2], [2]), ([], []), ([], []), ([4, 5], [4, 5]), ([6], [6]), ([3, 7], [3, 7]), ([8], [8])])
def ancepsref11_SameLists.B6 : List Nat := [0, 0, 3, 7, 0, 0, 48, 112, 255, 511]
theorem ancepsref11_SameLists.tab6 : rtab .any (opsOf Tryd.f26 6) = ancepsref11_SameLists.T6 := by kernel_rfl
theorem ancepsref11_SameLists.bits6 : waitsOk ancepsref11_SameLists.T6.2 ancepsref11_SameLists.B6 = true := by kernel_rfl
set_option maxHeartbeats 8000000 in
set_option maxRecDepth 100000 in
theorem ancepsref11_SameLists.calls (k : Nat) (A0 : Option Addr) (c0 : Nat) (l0 : List (List (S23))) (A1 : Option Addr) (c1 : Nat) (l1 : List (List (S23))) (r : Bool) (w : World) (hr0 : Kd.C (Kd.slice 23 k23) w A0 l0.length l0) (hc0 : l0.length ≤ c0) (hr1 : Kd.C (Kd.slice 23 k23) w A1 l1.length l1) (hc1 : l1.length ≤ c1) (h : ancepsref11_SameLists.f k l0 l1 = some r) :
    Calls Tryd.prog 26 #[.slice A0 l0.length c0, .slice A1 l1.length c1] w fun e w' => e = .returned (.bool r) ∧ Below w.heap.size w w' := by
  have HR0 := Aside0.mk hr0
  have HC0 := Aside0.mk hc0
  clear hr0 hc0
  have HR1 := Aside0.mk hr1
  have HC1 := Aside0.mk hc1
  clear hr1 hc1
  have HB := Aside0.mk (Below.refl w.heap.size w)
  have H : (if (l0.length : Int) = (l1.length : Int) then (ancepsref11_SameLists.l0 k l0 l1 0) else (some false)) = some r := h
  clear h
  by_cases c3 : (l0.length : Int) = (l1.length : Int)
  · rw [if_pos c3] at H
    have c3b0 : ((l0.length : Int) == (l1.length : Int)) = true := beq_iff_eq.mpr c3
    have c3b1 : ((l0.length : Int) != (l1.length : Int)) = false := bne_eq_false_iff_eq.mpr c3
    have c3b2 : (l0.length == l1.length) = true := by first | simpa using c3 | (simp at c3 ⊢; omega)
    clear c3
    have H' := Aside0.mk H
    clear H
    go_enter Tryd.func26, Tryd.ntmps26
    go_wp2
    go_loopg [5] k (fun kq v5 w' => ∃ (x5_1 : Int), v5 = .int .i64 x5_1 ∧ Aside0 (ancepsref11_SameLists.l0 kq l0 l1 x5_1 = some r) ∧ Aside0 (kq ≤ k) ∧ Aside0 (Below w.heap.size w w'))
    case atStart => exact ⟨(0), (by first | rfl | (simp; done) | (simp [*]; done)), H', ⟨Nat.le_refl _⟩, ⟨by repeat (first | (with_reducible first | exact HB.out | apply below_alloc | apply pw_below_drewN | apply below_drew1) | exact HB.out)⟩⟩
    case round =>
      clear H'
      try clear c1
      try clear c2
      try clear p2
      try clear c3
      try clear c3b0
      try clear c3b1
      try clear c3b2
      obtain ⟨x5_1, rfl, HA, HK1, HB⟩ := hrel
      cases gk with
      | zero => exact absurd HA.out (by simp [ancepsref11_SameLists.l0])
      | succ k1 =>
        have H := HA.out
        clear HA
        simp only [ancepsref11_SameLists.l0] at H
        by_cases c4 : x5_1 < (l0.length : Int)
        · rw [if_pos c4] at H
          have c4b0 : decide (x5_1 < (l0.length : Int)) = true := decide_eq_true c4
          clear c4
          by_cases c5 : 0 ≤ x5_1
          · rw [if_pos c5] at H
            have c5b0 : decide (0 ≤ x5_1) = true := decide_eq_true c5
            clear c5
            by_cases c6 : x5_1 < (l1.length : Int)
            · rw [if_pos c6] at H
              have c6b0 : decide (x5_1 < (l1.length : Int)) = true := decide_eq_true c6
              clear c6
              replace H := Option.bind_eq_some_iff.mp H
              obtain ⟨t206, A70, H⟩ := H
              replace H : (if t206 = true then (ancepsref11_SameLists.l0 k1 l0 l1 (wrap64 (x5_1 + 1))) else (some false)) = some r := H
              have A7 := Aside0.mk A70
              clear A70
              by_cases c8 : t206 = true
              · subst c8
                have H1 : (ancepsref11_SameLists.l0 k1 l0 l1 (wrap64 (x5_1 + 1))) = some r := by rw [if_pos rfl] at H; exact H
                clear H
                have H := H1
                clear H1
                have H' := Aside0.mk H
                clear H
                try go_wp2
                have n0_ := Aside0.mk (below_drew1 HB.out)
                clear HB
                have HB := n0_
                clear n0_
                have p204 : 0 ≤ (x5_1 : Int) := of_decide_eq_true (by first | (with_reducible assumption) | assumption)
                have q204 : x5_1 < (l0.length : Int) := of_decide_eq_true (by first | (with_reducible assumption) | assumption)
                obtain ⟨ad204, A204_0, c204_0, e204, hx204_0, hl204_0, hi204_0⟩ := at_L3 HR0.out x5_1 p204 q204
                have hw204_0 := hx204_0
                cases e204
                replace hx204_0 := (HB.out.cell (World.block_lt_of_cell? w _ hx204_0)).trans hx204_0
                have HR204_0 := Aside0.mk hi204_0
                have HC204_0 := Aside0.mk hl204_0
                clear hi204_0 hl204_0
                replace p204 := eq_true p204
                replace q204 := eq_true q204
                have p205 : 0 ≤ (x5_1 : Int) := of_decide_eq_true (by first | (with_reducible assumption) | assumption)
                have q205 : x5_1 < (l1.length : Int) := of_decide_eq_true (by first | (with_reducible assumption) | assumption)
                obtain ⟨ad205, A205_0, c205_0, e205, hx205_0, hl205_0, hi205_0⟩ := at_L3 HR1.out x5_1 p205 q205
                have hw205_0 := hx205_0
                cases e205
                replace hx205_0 := (HB.out.cell (World.block_lt_of_cell? w _ hx205_0)).trans hx205_0
                have HR205_0 := Aside0.mk hi205_0
                have HC205_0 := Aside0.mk hl205_0
                clear hi205_0 hl205_0
                replace p205 := eq_true p205
                replace q205 := eq_true q205
                refine start_ (n := 10) (S := fun w' => w'.cell? (ad204.add (x5_1).toNat) = some (.slice A204_0 (rd_L3 l0 x5_1).length c204_0) ∧ w'.cell? (ad205.add (x5_1).toNat) = some (.slice A205_0 (rd_L3 l1 x5_1).length c205_0)) (ds := []) #[false, false, false, false, false, false, false, false, false, false] (by kernel_rfl) rfl rfl ⟨((HB.out.cell (World.block_lt_of_cell? w _ hw204_0)).trans hw204_0), ((HB.out.cell (World.block_lt_of_cell? w _ hw205_0)).trans hw205_0)⟩ (fun hHeld => ?_); refine with_tabW ancepsref11_SameLists.tab6 ancepsref11_SameLists.bits6 (fun HT_ HW_ => ?_)
                generalize wr.drew = w9 at HB HR204_0 HR205_0 hx204_0 hx205_0 hHeld ⊢
                refine pure_ (i := 0) (N := some 17) (v := ?_) (a' := ?_) #[true, false, false, false, false, false, false, false, false, false] rfl rfl (any_of HT_.out (by kernel_rfl)) (fun _ _ _ h => h) (Or.inl ⟨by rfl, ?_⟩) ?_ ?_
                rotate_left
                · intro w'
                  go_simp
                  with_reducible rfl
                rotate_left
                · simp only [Act.put, List.setIfInBounds_toArray, List.set_cons_zero, List.set_cons_succ, i64_w, i32_w]
                  rfl
                refine pure_ (i := 1) (N := some 18) (v := ?_) (a' := ?_) #[true, true, false, false, false, false, false, false, false, false] rfl rfl (any_of HT_.out (by kernel_rfl)) (fun _ _ _ h => h) (Or.inl ⟨by rfl, ?_⟩) ?_ ?_
                rotate_left
                · intro w'
                  go_simp
                  with_reducible rfl
                rotate_left
                · simp only [Act.put, List.setIfInBounds_toArray, List.set_cons_zero, List.set_cons_succ, i64_w, i32_w]
                  rfl
                refine pure_ (i := 2) (N := some 19) (v := ?_) (a' := ?_) #[true, true, true, false, false, false, false, false, false, false] rfl rfl (any_of HT_.out (by kernel_rfl)) (fun _ _ _ h => h) (Or.inl ⟨by rfl, ?_⟩) ?_ ?_
                rotate_left
                · intro w'
                  go_simp
                  with_reducible rfl
                rotate_left
                · simp only [Act.put, List.setIfInBounds_toArray, List.set_cons_zero, List.set_cons_succ, i64_w, i32_w]
                  rfl
                refine pure_ (i := 4) (N := some 21) (v := ?_) (a' := ?_) #[true, true, true, false, true, false, false, false, false, false] rfl rfl (any_of HT_.out (by kernel_rfl)) (fun _ _ _ h => h) (Or.inl ⟨by rfl, ?_⟩) ?_ ?_
                rotate_left
                · intro w'
                  go_simp
                  with_reducible rfl
                rotate_left
                · simp only [Act.put, List.setIfInBounds_toArray, List.set_cons_zero, List.set_cons_succ, i64_w, i32_w]
                  rfl
                refine pure_ (i := 5) (N := some 22) (v := ?_) (a' := ?_) #[true, true, true, false, true, true, false, false, false, false] rfl rfl (any_of HT_.out (by kernel_rfl)) (fun _ _ _ h => h) (Or.inl ⟨by rfl, ?_⟩) ?_ ?_
                rotate_left
                · intro w'
                  go_simp
                  with_reducible rfl
                rotate_left
                · simp only [Act.put, List.setIfInBounds_toArray, List.set_cons_zero, List.set_cons_succ, i64_w, i32_w]
                  rfl
                refine pure_ (i := 6) (N := some 23) (v := ?_) (a' := ?_) #[true, true, true, false, true, true, true, false, false, false] rfl rfl (any_of HT_.out (by kernel_rfl)) (fun _ _ _ h => h) (Or.inl ⟨by rfl, ?_⟩) ?_ ?_
                rotate_left
                · intro w'
                  go_simp
                  with_reducible rfl
                rotate_left
                · simp only [Act.put, List.setIfInBounds_toArray, List.set_cons_zero, List.set_cons_succ, i64_w, i32_w]
                  rfl
                refine take_ (i := 3) (N := some 20) (v := ?_) (a' := ?_) #[true, true, true, true, true, true, true, false, false, false] rfl rfl (take_ofW HT_.out HW_.out (by kernel_rfl)) (fun _ _ _ h => h) (Or.inl ⟨by rfl, ?_⟩) hHeld ?_ ?_
                rotate_left
                · rintro w' ⟨s0, s1⟩
                  go_simp
                  with_reducible rfl
                rotate_left
                · simp only [Act.put, List.setIfInBounds_toArray, List.set_cons_zero, List.set_cons_succ, i64_w, i32_w]
                  rfl
                refine take_ (i := 7) (N := some 24) (v := ?_) (a' := ?_) #[true, true, true, true, true, true, true, true, false, false] rfl rfl (take_ofW HT_.out HW_.out (by kernel_rfl)) (fun _ _ _ h => h) (Or.inl ⟨by rfl, ?_⟩) hHeld ?_ ?_
                rotate_left
                · rintro w' ⟨s0, s1⟩
                  go_simp
                  with_reducible rfl
                rotate_left
                · simp only [Act.put, List.setIfInBounds_toArray, List.set_cons_zero, List.set_cons_succ, i64_w, i32_w]
                  rfl
                refine one_ (i := 8) (N := some 25) #[true, true, true, true, true, true, true, true, true, false] rfl rfl (one_of HT_.out (by kernel_rfl)) (by decide) (fun K hK => ?_)
                refine goes_ Tryd.func21 (by kernel_rfl) rfl #[.slice A204_0 (rd_L3 l0 x5_1).length c204_0, .slice A205_0 (rd_L3 l1 x5_1).length c205_0] (by rfl) rfl rfl (by (try simp only [List.map_toArray, List.map_cons, List.map_nil]); first | done | rfl | (simp only [List.length_drop, List.length_take]; rfl)) ?_
                with_reducible refine (ancepsref11_Same.calls k1 _ _ (rd_L3 l0 x5_1) _ _ (rd_L3 l1 x5_1) true _ ?side1 ?side2 ?side3 ?side4 A7.out).mono ?_
                (case side1 => repeat (first | exact (Kd.C_below HR204_0.out HB.out) | (with_reducible refine Kd.C_alloc ?_ _) | (with_reducible refine Kd.C_drewN ?_ _) | (with_reducible refine Kd.C_drew ?_)))
                (case side2 => exact HC204_0.out)
                (case side3 => repeat (first | exact (Kd.C_below HR205_0.out HB.out) | (with_reducible refine Kd.C_alloc ?_ _) | (with_reducible refine Kd.C_drewN ?_ _) | (with_reducible refine Kd.C_drew ?_)))
                (case side4 => exact HC205_0.out)
                rintro e w10 ⟨rfl, hb⟩
                refine ⟨_, rfl, ?_⟩
                have n0_ := Aside0.mk (below_step (by repeat (first | (with_reducible first | exact HB.out | apply below_alloc | apply pw_below_drewN | apply below_drew1) | exact HB.out)) hb)
                clear HB
                have HB := n0_
                clear n0_
                (try clear hb)
                (try clear hb2)
                (try clear hk)
                (try clear hi)
                refine hK.out _ _ ⟨((HB.out.cell (World.block_lt_of_cell? w _ hw204_0)).trans hw204_0), ((HB.out.cell (World.block_lt_of_cell? w _ hw205_0)).trans hw205_0)⟩ (fun hHeld => ?_)
                clear hK K
                refine norm_ (a' := ?_) ?_ ?_
                rotate_left
                · show Act.put _ (some 25) _ = _
                  simp only [Act.put, List.setIfInBounds_toArray, List.set_cons_zero, List.set_cons_succ, i64_w, i32_w]
                  rfl
                refine pure_ (i := 9) (N := some 26) (v := ?_) (a' := ?_) #[true, true, true, true, true, true, true, true, true, true] rfl rfl (any_of HT_.out (by kernel_rfl)) (fun _ _ _ h => h) (Or.inl ⟨by rfl, ?_⟩) ?_ ?_
                rotate_left
                · intro w'
                  go_simp
                  with_reducible rfl
                rotate_left
                · simp only [Act.put, List.setIfInBounds_toArray, List.set_cons_zero, List.set_cons_succ, i64_w, i32_w]
                  rfl
                refine done_ (done_of HT_.out (by kernel_rfl)) ?_
                try go_wp2
                go_roundg k1
                case measure => have := HK1.out; omega
                case rel => exact ⟨(wrap64 (x5_1 + 1)), (by first | rfl | (simp; done) | (simp [*]; done)), H', ⟨by have := HK1.out; omega⟩, ⟨by repeat (first | (with_reducible first | exact HB.out | apply below_alloc | apply pw_below_drewN | apply below_drew1) | exact HB.out)⟩⟩
              · replace c8 := Bool.eq_false_iff.mpr c8
                subst c8
                have H1 : (some false) = some r := by rw [if_neg (show ¬ (false = true) by decide)] at H; exact H
                clear H
                have H := H1
                clear H1
                obtain rfl := Option.some.inj H
                try go_wp2
                have n0_ := Aside0.mk (below_drew1 HB.out)
                clear HB
                have HB := n0_
                clear n0_
                have p204 : 0 ≤ (x5_1 : Int) := of_decide_eq_true (by first | (with_reducible assumption) | assumption)
                have q204 : x5_1 < (l0.length : Int) := of_decide_eq_true (by first | (with_reducible assumption) | assumption)
                obtain ⟨ad204, A204_0, c204_0, e204, hx204_0, hl204_0, hi204_0⟩ := at_L3 HR0.out x5_1 p204 q204
                have hw204_0 := hx204_0
                cases e204
                replace hx204_0 := (HB.out.cell (World.block_lt_of_cell? w _ hx204_0)).trans hx204_0
                have HR204_0 := Aside0.mk hi204_0
                have HC204_0 := Aside0.mk hl204_0
                clear hi204_0 hl204_0
                replace p204 := eq_true p204
                replace q204 := eq_true q204
                have p205 : 0 ≤ (x5_1 : Int) := of_decide_eq_true (by first | (with_reducible assumption) | assumption)
                have q205 : x5_1 < (l1.length : Int) := of_decide_eq_true (by first | (with_reducible assumption) | assumption)
                obtain ⟨ad205, A205_0, c205_0, e205, hx205_0, hl205_0, hi205_0⟩ := at_L3 HR1.out x5_1 p205 q205
                have hw205_0 := hx205_0
                cases e205
                replace hx205_0 := (HB.out.cell (World.block_lt_of_cell? w _ hx205_0)).trans hx205_0
                have HR205_0 := Aside0.mk hi205_0
                have HC205_0 := Aside0.mk hl205_0
                clear hi205_0 hl205_0
                replace p205 := eq_true p205
                replace q205 := eq_true q205
                refine start_ (n := 10) (S := fun w' => w'.cell? (ad204.add (x5_1).toNat) = some (.slice A204_0 (rd_L3 l0 x5_1).length c204_0) ∧ w'.cell? (ad205.add (x5_1).toNat) = some (.slice A205_0 (rd_L3 l1 x5_1).length c205_0)) (ds := []) #[false, false, false, false, false, false, false, false, false, false] (by kernel_rfl) rfl rfl ⟨((HB.out.cell (World.block_lt_of_cell? w _ hw204_0)).trans hw204_0), ((HB.out.cell (World.block_lt_of_cell? w _ hw205_0)).trans hw205_0)⟩ (fun hHeld => ?_); refine with_tabW ancepsref11_SameLists.tab6 ancepsref11_SameLists.bits6 (fun HT_ HW_ => ?_)
                generalize wr.drew = w11 at HB HR204_0 HR205_0 hx204_0 hx205_0 hHeld ⊢
                refine pure_ (i := 0) (N := some 17) (v := ?_) (a' := ?_) #[true, false, false, false, false, false, false, false, false, false] rfl rfl (any_of HT_.out (by kernel_rfl)) (fun _ _ _ h => h) (Or.inl ⟨by rfl, ?_⟩) ?_ ?_
                rotate_left
                · intro w'
                  go_simp
                  with_reducible rfl
                rotate_left
                · simp only [Act.put, List.setIfInBounds_toArray, List.set_cons_zero, List.set_cons_succ, i64_w, i32_w]
                  rfl
                refine pure_ (i := 1) (N := some 18) (v := ?_) (a' := ?_) #[true, true, false, false, false, false, false, false, false, false] rfl rfl (any_of HT_.out (by kernel_rfl)) (fun _ _ _ h => h) (Or.inl ⟨by rfl, ?_⟩) ?_ ?_
                rotate_left
                · intro w'
                  go_simp
                  with_reducible rfl
                rotate_left
                · simp only [Act.put, List.setIfInBounds_toArray, List.set_cons_zero, List.set_cons_succ, i64_w, i32_w]
                  rfl
                refine pure_ (i := 2) (N := some 19) (v := ?_) (a' := ?_) #[true, true, true, false, false, false, false, false, false, false] rfl rfl (any_of HT_.out (by kernel_rfl)) (fun _ _ _ h => h) (Or.inl ⟨by rfl, ?_⟩) ?_ ?_
                rotate_left
                · intro w'
                  go_simp
                  with_reducible rfl
                rotate_left
                · simp only [Act.put, List.setIfInBounds_toArray, List.set_cons_zero, List.set_cons_succ, i64_w, i32_w]
                  rfl
                refine pure_ (i := 4) (N := some 21) (v := ?_) (a' := ?_) #[true, true, true, false, true, false, false, false, false, false] rfl rfl (any_of HT_.out (by kernel_rfl)) (fun _ _ _ h => h) (Or.inl ⟨by rfl, ?_⟩) ?_ ?_
                rotate_left
                · intro w'
                  go_simp
                  with_reducible rfl
                rotate_left
                · simp only [Act.put, List.setIfInBounds_toArray, List.set_cons_zero, List.set_cons_succ, i64_w, i32_w]
                  rfl
                refine pure_ (i := 5) (N := some 22) (v := ?_) (a' := ?_) #[true, true, true, false, true, true, false, false, false, false] rfl rfl (any_of HT_.out (by kernel_rfl)) (fun _ _ _ h => h) (Or.inl ⟨by rfl, ?_⟩) ?_ ?_
                rotate_left
                · intro w'
                  go_simp
                  with_reducible rfl
                rotate_left
                · simp only [Act.put, List.setIfInBounds_toArray, List.set_cons_zero, List.set_cons_succ, i64_w, i32_w]
                  rfl
                refine pure_ (i := 6) (N := some 23) (v := ?_) (a' := ?_) #[true, true, true, false, true, true, true, false, false, false] rfl rfl (any_of HT_.out (by kernel_rfl)) (fun _ _ _ h => h) (Or.inl ⟨by rfl, ?_⟩) ?_ ?_
                rotate_left
                · intro w'
                  go_simp
                  with_reducible rfl
                rotate_left
                · simp only [Act.put, List.setIfInBounds_toArray, List.set_cons_zero, List.set_cons_succ, i64_w, i32_w]
                  rfl
                refine take_ (i := 3) (N := some 20) (v := ?_) (a' := ?_) #[true, true, true, true, true, true, true, false, false, false] rfl rfl (take_ofW HT_.out HW_.out (by kernel_rfl)) (fun _ _ _ h => h) (Or.inl ⟨by rfl, ?_⟩) hHeld ?_ ?_
                rotate_left
                · rintro w' ⟨s0, s1⟩
                  go_simp
                  with_reducible rfl
                rotate_left
                · simp only [Act.put, List.setIfInBounds_toArray, List.set_cons_zero, List.set_cons_succ, i64_w, i32_w]
                  rfl
                refine take_ (i := 7) (N := some 24) (v := ?_) (a' := ?_) #[true, true, true, true, true, true, true, true, false, false] rfl rfl (take_ofW HT_.out HW_.out (by kernel_rfl)) (fun _ _ _ h => h) (Or.inl ⟨by rfl, ?_⟩) hHeld ?_ ?_
                rotate_left
                · rintro w' ⟨s0, s1⟩
                  go_simp
                  with_reducible rfl
                rotate_left
                · simp only [Act.put, List.setIfInBounds_toArray, List.set_cons_zero, List.set_cons_succ, i64_w, i32_w]
                  rfl
                refine one_ (i := 8) (N := some 25) #[true, true, true, true, true, true, true, true, true, false] rfl rfl (one_of HT_.out (by kernel_rfl)) (by decide) (fun K hK => ?_)
                refine goes_ Tryd.func21 (by kernel_rfl) rfl #[.slice A204_0 (rd_L3 l0 x5_1).length c204_0, .slice A205_0 (rd_L3 l1 x5_1).length c205_0] (by rfl) rfl rfl (by (try simp only [List.map_toArray, List.map_cons, List.map_nil]); first | done | rfl | (simp only [List.length_drop, List.length_take]; rfl)) ?_
                with_reducible refine (ancepsref11_Same.calls k1 _ _ (rd_L3 l0 x5_1) _ _ (rd_L3 l1 x5_1) false _ ?side1 ?side2 ?side3 ?side4 A7.out).mono ?_
                (case side1 => repeat (first | exact (Kd.C_below HR204_0.out HB.out) | (with_reducible refine Kd.C_alloc ?_ _) | (with_reducible refine Kd.C_drewN ?_ _) | (with_reducible refine Kd.C_drew ?_)))
                (case side2 => exact HC204_0.out)
                (case side3 => repeat (first | exact (Kd.C_below HR205_0.out HB.out) | (with_reducible refine Kd.C_alloc ?_ _) | (with_reducible refine Kd.C_drewN ?_ _) | (with_reducible refine Kd.C_drew ?_)))
                (case side4 => exact HC205_0.out)
                rintro e w12 ⟨rfl, hb⟩
                refine ⟨_, rfl, ?_⟩
                have n0_ := Aside0.mk (below_step (by repeat (first | (with_reducible first | exact HB.out | apply below_alloc | apply pw_below_drewN | apply below_drew1) | exact HB.out)) hb)
                clear HB
                have HB := n0_
                clear n0_
                (try clear hb)
                (try clear hb2)
                (try clear hk)
                (try clear hi)
                refine hK.out _ _ ⟨((HB.out.cell (World.block_lt_of_cell? w _ hw204_0)).trans hw204_0), ((HB.out.cell (World.block_lt_of_cell? w _ hw205_0)).trans hw205_0)⟩ (fun hHeld => ?_)
                clear hK K
                refine norm_ (a' := ?_) ?_ ?_
                rotate_left
                · show Act.put _ (some 25) _ = _
                  simp only [Act.put, List.setIfInBounds_toArray, List.set_cons_zero, List.set_cons_succ, i64_w, i32_w]
                  rfl
                refine pure_ (i := 9) (N := some 26) (v := ?_) (a' := ?_) #[true, true, true, true, true, true, true, true, true, true] rfl rfl (any_of HT_.out (by kernel_rfl)) (fun _ _ _ h => h) (Or.inl ⟨by rfl, ?_⟩) ?_ ?_
                rotate_left
                · intro w'
                  go_simp
                  with_reducible rfl
                rotate_left
                · simp only [Act.put, List.setIfInBounds_toArray, List.set_cons_zero, List.set_cons_succ, i64_w, i32_w]
                  rfl
                refine done_ (done_of HT_.out (by kernel_rfl)) ?_
                try go_wp2
                go_ret
                exact ⟨by first | rfl | (simp [errW_none, errW_some] <;> rfl) | (simp [*, errW_none, errW_some] <;> rfl), by repeat (first | (with_reducible first | exact HB.out | apply below_alloc | apply pw_below_drewN | apply below_drew1) | exact HB.out)⟩
            · rw [if_neg c6] at H
              exact absurd H (by simp)
          · rw [if_neg c5] at H
            exact absurd H (by simp)
        · rw [if_neg c4] at H
          have c4b0 : decide (x5_1 < (l0.length : Int)) = false := decide_eq_false c4
          clear c4
          obtain rfl := Option.some.inj H
          go_wp2
          go_ret
          exact ⟨by first | rfl | (simp [errW_none, errW_some] <;> rfl) | (simp [*, errW_none, errW_some] <;> rfl), by repeat (first | (with_reducible first | exact HB.out | apply below_alloc | apply pw_below_drewN | apply below_drew1) | exact HB.out)⟩
  · rw [if_neg c3] at H
    have c3b0 : ((l0.length : Int) == (l1.length : Int)) = false := beq_eq_false_iff_ne.mpr c3
    have c3b1 : ((l0.length : Int) != (l1.length : Int)) = true := bne_iff_ne.mpr c3
    have c3b2 : (l0.length == l1.length) = false := by first | simpa using c3 | (simp at c3 ⊢; omega)
    obtain rfl := Option.some.inj H
    go_enter Tryd.func26, Tryd.ntmps26
    go_wp2
    go_ret
    exact ⟨by first | rfl | (simp [errW_none, errW_some] <;> rfl) | (simp [*, errW_none, errW_some] <;> rfl), by repeat (first | (with_reducible first | exact HB.out | apply below_alloc | apply pw_below_drewN | apply below_drew1) | exact HB.out)⟩

/-! ### strings_Join: function 51 -/
def strings_Join.f (l0 : List ByteArray) (a1 : ByteArray) : Option (ByteArray) := if l0.length ≤ 140737488355328 ∧ (Lib.join (l0.map (·.data.toList)) a1.data.toList).length ≤ 140737488355328 then some ⟨(Lib.join (l0.map (·.data.toList)) a1.data.toList).toArray⟩ else none
theorem strings_Join.calls (A0 : Option Addr) (c0 : Nat) (l0 : List ByteArray) (a1 : ByteArray) (r : ByteArray) (w : World) (hr0 : Kd.C Kd.string w A0 l0.length l0) (hc0 : l0.length ≤ c0) (h : strings_Join.f l0 a1 = some r) :
    Calls Tryd.prog 51 #[.slice A0 l0.length c0, .string a1] w fun e w' => e = .returned (.string r) ∧ Below w.heap.size w w' := by
  unfold strings_Join.f at h
  split at h
  · rename_i hg
    obtain rfl := Option.some.inj h
    rcases Nat.eq_zero_or_pos l0.length with h0 | h0
    · obtain rfl := List.eq_nil_of_length_eq_zero h0
      exact (Tryd.strings_Join_none A0 c0 a1 w).mono fun e w' ⟨he, hw⟩ => ⟨he, hw ▸ Below.refl _ _⟩
    · obtain ⟨bk, o, rfl, hb, hc⟩ := Kd.C_form (enc := Value.string) (h1 := fun _ => rfl) hr0 h0
      exact Tryd.strings_Join bk o c0 l0 a1 w hc hb hg.1 hc0 hg.2
  · cases h

/-! ### sound_Format: function 32 -/
def sound_Format.l0 : Nat → List ByteArray → List (S23) → Int → Int → Option (ByteArray × Int)
  | 0, _, _, _, _ => none
  | k + 1, x4, x12, x13, x14 => if x14 < x13 then (if 0 ≤ x14 then (if x14 < (x12.length : Int) then ((sound_Valid.f k ((rd_T23 x12 x14).f0) ((rd_T23 x12 x14).f1) ((rd_T23 x12 x14).f2)).bind fun t210 => (if t210 = 0 then (if ((rd_T23 x12 x14).f2).size + 1 ≤ 9223372036854775807 then (if 0 ≤ (wrap64 (((rd_T23 x12 x14).f0) - 1)) then (if (wrap64 (((rd_T23 x12 x14).f0) - 1)) ≤ ((rd_T23 x12 x14).f0) then (if ((rd_T23 x12 x14).f0) ≤ 9 then (if (((rd_T23 x12 x14).f2) ++ (⟨#[47]⟩ : ByteArray)).size + ((⟨#[118, 100, 109, 108, 110, 115, 120, 103, 98]⟩ : ByteArray).extract ((wrap64 (((rd_T23 x12 x14).f0) - 1)) : Int).toNat (((rd_T23 x12 x14).f0) : Int).toNat).size ≤ 9223372036854775807 then ((sound_Nucleus.f ((rd_T23 x12 x14).f0) ((rd_T23 x12 x14).f1) ((rd_T23 x12 x14).f2)).bind fun t211 => (if t211 = true then (if 0 ≤ ((rd_T23 x12 x14).f1) then (if ((rd_T23 x12 x14).f1) ≤ (wrap64 (((rd_T23 x12 x14).f1) + 1)) then (if (wrap64 (((rd_T23 x12 x14).f1) + 1)) ≤ 4 then (if ((((rd_T23 x12 x14).f2) ++ (⟨#[47]⟩ : ByteArray)) ++ ((⟨#[118, 100, 109, 108, 110, 115, 120, 103, 98]⟩ : ByteArray).extract ((wrap64 (((rd_T23 x12 x14).f0) - 1)) : Int).toNat (((rd_T23 x12 x14).f0) : Int).toNat)).size + ((⟨#[48, 49, 50, 51]⟩ : ByteArray).extract (((rd_T23 x12 x14).f1) : Int).toNat ((wrap64 (((rd_T23 x12 x14).f1) + 1)) : Int).toNat).size ≤ 9223372036854775807 then (if x4.length < 8796093022208 then (sound_Format.l0 k (x4 ++ [((((rd_T23 x12 x14).f2) ++ (⟨#[47]⟩ : ByteArray)) ++ ((⟨#[118, 100, 109, 108, 110, 115, 120, 103, 98]⟩ : ByteArray).extract ((wrap64 (((rd_T23 x12 x14).f0) - 1)) : Int).toNat (((rd_T23 x12 x14).f0) : Int).toNat)) ++ ((⟨#[48, 49, 50, 51]⟩ : ByteArray).extract (((rd_T23 x12 x14).f1) : Int).toNat ((wrap64 (((rd_T23 x12 x14).f1) + 1)) : Int).toNat)]) x12 x13 (wrap64 (x14 + 1))) else (none)) else (none)) else (none)) else (none)) else (none)) else (if x4.length < 8796093022208 then (sound_Format.l0 k (x4 ++ [(((rd_T23 x12 x14).f2) ++ (⟨#[47]⟩ : ByteArray)) ++ ((⟨#[118, 100, 109, 108, 110, 115, 120, 103, 98]⟩ : ByteArray).extract ((wrap64 (((rd_T23 x12 x14).f0) - 1)) : Int).toNat (((rd_T23 x12 x14).f0) : Int).toNat)]) x12 x13 (wrap64 (x14 + 1))) else (none)))) else (none)) else (none)) else (none)) else (none)) else (none)) else (some ((⟨#[]⟩ : ByteArray), t210)))) else (none)) else (none)) else ((strings_Join.f x4 (⟨#[32]⟩ : ByteArray)).bind fun t207 => (some (t207, 0)))
def sound_Format.f (k : Nat) (l0 : List (S23)) : Option (ByteArray × Int) := if (l0.length : Int) > 200 then (some ((⟨#[]⟩ : ByteArray), 3)) else (sound_Format.l0 k ([] : List ByteArray) l0 (l0.length : Int) 0)
theorem sound_Format.mono_l : ∀ k, (∀ y0 y1 y2 y3, LeO (sound_Format.l0 k y0 y1 y2 y3) (sound_Format.l0 (k + 1) y0 y1 y2 y3))
  | 0 => fun _ _ _ _ r h => by simp [sound_Format.l0] at h
  | k + 1 => by
    have ih0 := sound_Format.mono_l k
    · intro y0 y1 y2 y3
      unfold sound_Format.l0
      repeat' first
      | (with_reducible exact ih0 _ _ _ _)
      | (with_reducible exact sound_Valid.mono _ _ _ _)
      | (with_reducible exact LeO.refl _)
      | (with_reducible exact LeO.none _)
      | (with_reducible refine LeO.ite ?_ ?_)
      | (with_reducible refine LeO.bind ?_ (fun _ => ?_))
      | exact ih0 _ _ _ _
      | exact sound_Valid.mono _ _ _ _
      | exact LeO.none _
      | refine LeO.ite ?_ ?_
      | refine LeO.bind ?_ (fun _ => ?_)
theorem sound_Format.mono : ∀ a0 k, LeO (sound_Format.f k a0) (sound_Format.f (k + 1) a0) := by
  intro a0 k
  have ih0 := sound_Format.mono_l k
  unfold sound_Format.f
  repeat' first
      | (with_reducible exact ih0 _ _ _ _)
      | (with_reducible exact sound_Valid.mono _ _ _ _)
      | (with_reducible exact LeO.refl _)
      | (with_reducible exact LeO.none _)
      | (with_reducible refine LeO.ite ?_ ?_)
      | (with_reducible refine LeO.bind ?_ (fun _ => ?_))
      | exact ih0 _ _ _ _
      | exact sound_Valid.mono _ _ _ _
      | exact LeO.none _
      | refine LeO.ite ?_ ?_
      | refine LeO.bind ?_ (fun _ => ?_)
set_option maxHeartbeats 8000000 in
set_option maxRecDepth 100000 in
theorem sound_Format.calls (k : Nat) (A0 : Option Addr) (c0 : Nat) (l0 : List (S23)) (r1 : ByteArray) (r2 : Int) (w : World) (hr0 : Kd.C k23 w A0 l0.length l0) (hc0 : l0.length ≤ c0) (h : sound_Format.f k l0 = some (r1, r2)) :
    Calls Tryd.prog 32 #[.slice A0 l0.length c0] w fun e w' => e = .returned (.tuple #[.string r1, .int .i64 r2]) ∧ Below w.heap.size w w' := by
  have hu23 := Tryd.underlying23
  have HR0 := Aside0.mk hr0
  have HC0 := Aside0.mk hc0
  clear hr0 hc0
  have HB := Aside0.mk (Below.refl w.heap.size w)
  have H : (if (l0.length : Int) > 200 then (some ((⟨#[]⟩ : ByteArray), 3)) else (sound_Format.l0 k ([] : List ByteArray) l0 (l0.length : Int) 0)) = some (r1, r2) := h
  clear h
  by_cases c2 : (l0.length : Int) > 200
  · rw [if_pos c2] at H
    have c2b0 : decide (200 < (l0.length : Int)) = true := decide_eq_true c2
    have c2b1 : decide (200 < l0.length) = true := decide_eq_true (by omega)
    clear c2
    simp only [Option.some.injEq, Prod.mk.injEq] at H
    obtain ⟨rfl, rfl⟩ := H
    go_enter Tryd.func32, Tryd.ntmps32
    go_wp2
    repeat (go_quiet (fail); try go_wp2)
    go_ret2
    exact ⟨by first | rfl | (simp [errW_none, errW_some] <;> rfl) | (simp [*, errW_none, errW_some] <;> rfl), by repeat (first | (with_reducible first | exact HB.out | apply below_alloc | apply pw_below_drewN | apply below_drew1) | exact HB.out)⟩
  · rw [if_neg c2] at H
    have c2b0 : decide (200 < (l0.length : Int)) = false := decide_eq_false c2
    have c2b1 : decide (200 < l0.length) = false := decide_eq_false (by omega)
    clear c2
    have H' := Aside0.mk H
    clear H
    go_enter Tryd.func32, Tryd.ntmps32
    go_wp2
    repeat (go_quiet (fail); try go_wp2)
    go_loopg [4, 14] k (fun kq v4 v14 w' => ∃ (x4_1 : List ByteArray) (x14_1 : Int), v14 = .int .i64 x14_1 ∧ Aside0 (sound_Format.l0 kq x4_1 l0 (l0.length : Int) x14_1 = some (r1, r2)) ∧ Aside0 (kq ≤ k) ∧ Aside0 (Kd.R Kd.string 9 w' w.heap.size (fun _ => True) v4 x4_1) ∧ Aside0 (Below w.heap.size w w'))
    case atStart => exact ⟨(([] : List ByteArray)), (0), (by first | rfl | (simp; done) | (simp [*]; done)), H', ⟨Nat.le_refl _⟩, ⟨by first | exact Kd.R_nil _ _ _ _ _ | exact Kd.N_nil _ _ _ _ _ | exact Kd.V_nil _ _ _ _ _ | exact Kd.Q_nil _ _ _ _ _ | exact Kd.S_nil _ _ _ _ _⟩, ⟨by repeat (first | (with_reducible first | exact HB.out | apply below_alloc | apply pw_below_drewN | apply below_drew1) | exact HB.out)⟩⟩
    case round =>
      clear H'
      try clear c2
      try clear c2b0
      try clear c2b1
      try clear p2
      obtain ⟨x4_1, x14_1, rfl, HA, HK1, HO_4, HB⟩ := hrel
      cases gk with
      | zero => exact absurd HA.out (by simp [sound_Format.l0])
      | succ k1 =>
        have H := HA.out
        clear HA
        simp only [sound_Format.l0] at H
        by_cases c3 : x14_1 < (l0.length : Int)
        · rw [if_pos c3] at H
          have c3b0 : decide (x14_1 < (l0.length : Int)) = true := decide_eq_true c3
          clear c3
          by_cases c4 : 0 ≤ x14_1
          · rw [if_pos c4] at H
            have c4b0 : decide (0 ≤ x14_1) = true := decide_eq_true c4
            clear c4
            by_cases c5 : x14_1 < (l0.length : Int)
            · rw [if_pos c5] at H
              have c5b0 : decide (x14_1 < (l0.length : Int)) = true := decide_eq_true c5
              clear c5
              replace H := Option.bind_eq_some_iff.mp H
              obtain ⟨t210, A60, H⟩ := H
              replace H : (if t210 = 0 then (if ((rd_T23 l0 x14_1).f2).size + 1 ≤ 9223372036854775807 then (if 0 ≤ (wrap64 (((rd_T23 l0 x14_1).f0) - 1)) then (if (wrap64 (((rd_T23 l0 x14_1).f0) - 1)) ≤ ((rd_T23 l0 x14_1).f0) then (if ((rd_T23 l0 x14_1).f0) ≤ 9 then (if (((rd_T23 l0 x14_1).f2) ++ (⟨#[47]⟩ : ByteArray)).size + ((⟨#[118, 100, 109, 108, 110, 115, 120, 103, 98]⟩ : ByteArray).extract ((wrap64 (((rd_T23 l0 x14_1).f0) - 1)) : Int).toNat (((rd_T23 l0 x14_1).f0) : Int).toNat).size ≤ 9223372036854775807 then ((sound_Nucleus.f ((rd_T23 l0 x14_1).f0) ((rd_T23 l0 x14_1).f1) ((rd_T23 l0 x14_1).f2)).bind fun t211 => (if t211 = true then (if 0 ≤ ((rd_T23 l0 x14_1).f1) then (if ((rd_T23 l0 x14_1).f1) ≤ (wrap64 (((rd_T23 l0 x14_1).f1) + 1)) then (if (wrap64 (((rd_T23 l0 x14_1).f1) + 1)) ≤ 4 then (if ((((rd_T23 l0 x14_1).f2) ++ (⟨#[47]⟩ : ByteArray)) ++ ((⟨#[118, 100, 109, 108, 110, 115, 120, 103, 98]⟩ : ByteArray).extract ((wrap64 (((rd_T23 l0 x14_1).f0) - 1)) : Int).toNat (((rd_T23 l0 x14_1).f0) : Int).toNat)).size + ((⟨#[48, 49, 50, 51]⟩ : ByteArray).extract (((rd_T23 l0 x14_1).f1) : Int).toNat ((wrap64 (((rd_T23 l0 x14_1).f1) + 1)) : Int).toNat).size ≤ 9223372036854775807 then (if x4_1.length < 8796093022208 then (sound_Format.l0 k1 (x4_1 ++ [((((rd_T23 l0 x14_1).f2) ++ (⟨#[47]⟩ : ByteArray)) ++ ((⟨#[118, 100, 109, 108, 110, 115, 120, 103, 98]⟩ : ByteArray).extract ((wrap64 (((rd_T23 l0 x14_1).f0) - 1)) : Int).toNat (((rd_T23 l0 x14_1).f0) : Int).toNat)) ++ ((⟨#[48, 49, 50, 51]⟩ : ByteArray).extract (((rd_T23 l0 x14_1).f1) : Int).toNat ((wrap64 (((rd_T23 l0 x14_1).f1) + 1)) : Int).toNat)]) l0 (l0.length : Int) (wrap64 (x14_1 + 1))) else (none)) else (none)) else (none)) else (none)) else (none)) else (if x4_1.length < 8796093022208 then (sound_Format.l0 k1 (x4_1 ++ [(((rd_T23 l0 x14_1).f2) ++ (⟨#[47]⟩ : ByteArray)) ++ ((⟨#[118, 100, 109, 108, 110, 115, 120, 103, 98]⟩ : ByteArray).extract ((wrap64 (((rd_T23 l0 x14_1).f0) - 1)) : Int).toNat (((rd_T23 l0 x14_1).f0) : Int).toNat)]) l0 (l0.length : Int) (wrap64 (x14_1 + 1))) else (none)))) else (none)) else (none)) else (none)) else (none)) else (none)) else (some ((⟨#[]⟩ : ByteArray), t210))) = some (r1, r2) := H
              have A6 := Aside0.mk A60
              clear A60
              by_cases c7 : t210 = 0
              · rw [if_pos c7] at H
                have c7b0 : (t210 == 0) = true := beq_iff_eq.mpr c7
                have c7b1 : (t210 != 0) = false := bne_eq_false_iff_eq.mpr c7
                clear c7
                by_cases c8 : ((rd_T23 l0 x14_1).f2).size + 1 ≤ 9223372036854775807
                · rw [if_pos c8] at H
                  have c8b0 := eq_true c8
                  have c8b1 : decide (((rd_T23 l0 x14_1).f2).size + 1 ≤ 9223372036854775807) = true := decide_eq_true c8
                  try have c8b2 : (9223372036854775807 < ((rd_T23 l0 x14_1).f2).size + 1) = False := eq_false (Nat.not_lt.2 c8)
                  obtain ⟨ji9, hji9⟩ : ∃ j_ : Int, (wrap64 (((rd_T23 l0 x14_1).f0) - 1)) = j_ := ⟨_, rfl⟩
                  replace H : (if 0 ≤ (ji9) then (if (ji9) ≤ ((rd_T23 l0 x14_1).f0) then (if ((rd_T23 l0 x14_1).f0) ≤ 9 then (if (((rd_T23 l0 x14_1).f2) ++ (⟨#[47]⟩ : ByteArray)).size + ((⟨#[118, 100, 109, 108, 110, 115, 120, 103, 98]⟩ : ByteArray).extract ((ji9) : Int).toNat (((rd_T23 l0 x14_1).f0) : Int).toNat).size ≤ 9223372036854775807 then ((sound_Nucleus.f ((rd_T23 l0 x14_1).f0) ((rd_T23 l0 x14_1).f1) ((rd_T23 l0 x14_1).f2)).bind fun t211 => (if t211 = true then (if 0 ≤ ((rd_T23 l0 x14_1).f1) then (if ((rd_T23 l0 x14_1).f1) ≤ (wrap64 (((rd_T23 l0 x14_1).f1) + 1)) then (if (wrap64 (((rd_T23 l0 x14_1).f1) + 1)) ≤ 4 then (if ((((rd_T23 l0 x14_1).f2) ++ (⟨#[47]⟩ : ByteArray)) ++ ((⟨#[118, 100, 109, 108, 110, 115, 120, 103, 98]⟩ : ByteArray).extract ((ji9) : Int).toNat (((rd_T23 l0 x14_1).f0) : Int).toNat)).size + ((⟨#[48, 49, 50, 51]⟩ : ByteArray).extract (((rd_T23 l0 x14_1).f1) : Int).toNat ((wrap64 (((rd_T23 l0 x14_1).f1) + 1)) : Int).toNat).size ≤ 9223372036854775807 then (if x4_1.length < 8796093022208 then (sound_Format.l0 k1 (x4_1 ++ [((((rd_T23 l0 x14_1).f2) ++ (⟨#[47]⟩ : ByteArray)) ++ ((⟨#[118, 100, 109, 108, 110, 115, 120, 103, 98]⟩ : ByteArray).extract ((ji9) : Int).toNat (((rd_T23 l0 x14_1).f0) : Int).toNat)) ++ ((⟨#[48, 49, 50, 51]⟩ : ByteArray).extract (((rd_T23 l0 x14_1).f1) : Int).toNat ((wrap64 (((rd_T23 l0 x14_1).f1) + 1)) : Int).toNat)]) l0 (l0.length : Int) (wrap64 (x14_1 + 1))) else (none)) else (none)) else (none)) else (none)) else (none)) else (if x4_1.length < 8796093022208 then (sound_Format.l0 k1 (x4_1 ++ [(((rd_T23 l0 x14_1).f2) ++ (⟨#[47]⟩ : ByteArray)) ++ ((⟨#[118, 100, 109, 108, 110, 115, 120, 103, 98]⟩ : ByteArray).extract ((ji9) : Int).toNat (((rd_T23 l0 x14_1).f0) : Int).toNat)]) l0 (l0.length : Int) (wrap64 (x14_1 + 1))) else (none)))) else (none)) else (none)) else (none)) else (none)) = some (r1, r2) := by first | (rw [hji9] at H; exact H) | (simp only [hji9] at H ⊢; exact H)
                  (try rw [hji9] at A6)
                  have hji9w : (IntKind.i64.wrap (((rd_T23 l0 x14_1).f0) - 1)) = ji9 := (i64_w _).trans hji9
                  by_cases c10 : 0 ≤ (ji9)
                  · rw [if_pos c10] at H
                    have c10b0 := eq_true c10
                    have c10b1 : decide (0 ≤ (ji9)) = true := decide_eq_true c10
                    clear c10
                    by_cases c11 : (ji9) ≤ ((rd_T23 l0 x14_1).f0)
                    · rw [if_pos c11] at H
                      have c11b0 := eq_true c11
                      have c11b1 : decide ((ji9) ≤ ((rd_T23 l0 x14_1).f0)) = true := decide_eq_true c11
                      clear c11
                      by_cases c12 : ((rd_T23 l0 x14_1).f0) ≤ 9
                      · rw [if_pos c12] at H
                        have c12b0 := eq_true c12
                        have c12b1 : decide (((rd_T23 l0 x14_1).f0) ≤ 9) = true := decide_eq_true c12
                        clear c12
                        by_cases c13 : (((rd_T23 l0 x14_1).f2) ++ (⟨#[47]⟩ : ByteArray)).size + ((⟨#[118, 100, 109, 108, 110, 115, 120, 103, 98]⟩ : ByteArray).extract ((ji9) : Int).toNat (((rd_T23 l0 x14_1).f0) : Int).toNat).size ≤ 9223372036854775807
                        · rw [if_pos c13] at H
                          have c13b0 := eq_true c13
                          have c13b1 : decide ((((rd_T23 l0 x14_1).f2) ++ (⟨#[47]⟩ : ByteArray)).size + ((⟨#[118, 100, 109, 108, 110, 115, 120, 103, 98]⟩ : ByteArray).extract ((ji9) : Int).toNat (((rd_T23 l0 x14_1).f0) : Int).toNat).size ≤ 9223372036854775807) = true := decide_eq_true c13
                          try have c13b2 : (9223372036854775807 < (((rd_T23 l0 x14_1).f2) ++ (⟨#[47]⟩ : ByteArray)).size + ((⟨#[118, 100, 109, 108, 110, 115, 120, 103, 98]⟩ : ByteArray).extract ((ji9) : Int).toNat (((rd_T23 l0 x14_1).f0) : Int).toNat).size) = False := eq_false (Nat.not_lt.2 c13)
                          have c13b3 : ((rd_T23 l0 x14_1).f2).size + 1 + ((⟨#[118, 100, 109, 108, 110, 115, 120, 103, 98]⟩ : ByteArray).extract ((ji9) : Int).toNat (((rd_T23 l0 x14_1).f0) : Int).toNat).size ≤ 9223372036854775807 := by have h_ := c13; simp only [ByteArray.size_append] at h_; exact h_
                          have c13b4 : (9223372036854775807 < ((rd_T23 l0 x14_1).f2).size + 1 + ((⟨#[118, 100, 109, 108, 110, 115, 120, 103, 98]⟩ : ByteArray).extract ((ji9) : Int).toNat (((rd_T23 l0 x14_1).f0) : Int).toNat).size) = False := eq_false (Nat.not_lt.2 c13b3)
                          have c13b5 : decide (((rd_T23 l0 x14_1).f2).size + 1 + ((⟨#[118, 100, 109, 108, 110, 115, 120, 103, 98]⟩ : ByteArray).extract ((ji9) : Int).toNat (((rd_T23 l0 x14_1).f0) : Int).toNat).size ≤ 9223372036854775807) = true := decide_eq_true c13b3
                          replace c13b3 := eq_true c13b3
                          try have c13b6 : (9223372036854775807 < (((rd_T23 l0 x14_1).f2) ++ (⟨#[47]⟩ : ByteArray)).size + ((((rd_T23 l0 x14_1).f0) : Int).toNat - ((ji9) : Int).toNat)) = False := eq_false (by have h_ := c13; (try simp only [ByteArray.size_append] at h_); (try simp only [ByteArray.size_extract] at h_); first | omega | (simp only [decide_eq_true_eq] at *; omega))
                          try have c13b7 : (9223372036854775807 < ((rd_T23 l0 x14_1).f2).size + 1 + ((((rd_T23 l0 x14_1).f0) : Int).toNat - ((ji9) : Int).toNat)) = False := eq_false (by have h_ := of_eq_true c13b3; (try simp only [ByteArray.size_extract] at h_); first | omega | (simp only [decide_eq_true_eq] at *; omega))
                          replace H := Option.bind_eq_some_iff.mp H
                          obtain ⟨t211, A140, H⟩ := H
                          replace H : (if t211 = true then (if 0 ≤ ((rd_T23 l0 x14_1).f1) then (if ((rd_T23 l0 x14_1).f1) ≤ (wrap64 (((rd_T23 l0 x14_1).f1) + 1)) then (if (wrap64 (((rd_T23 l0 x14_1).f1) + 1)) ≤ 4 then (if ((((rd_T23 l0 x14_1).f2) ++ (⟨#[47]⟩ : ByteArray)) ++ ((⟨#[118, 100, 109, 108, 110, 115, 120, 103, 98]⟩ : ByteArray).extract ((ji9) : Int).toNat (((rd_T23 l0 x14_1).f0) : Int).toNat)).size + ((⟨#[48, 49, 50, 51]⟩ : ByteArray).extract (((rd_T23 l0 x14_1).f1) : Int).toNat ((wrap64 (((rd_T23 l0 x14_1).f1) + 1)) : Int).toNat).size ≤ 9223372036854775807 then (if x4_1.length < 8796093022208 then (sound_Format.l0 k1 (x4_1 ++ [((((rd_T23 l0 x14_1).f2) ++ (⟨#[47]⟩ : ByteArray)) ++ ((⟨#[118, 100, 109, 108, 110, 115, 120, 103, 98]⟩ : ByteArray).extract ((ji9) : Int).toNat (((rd_T23 l0 x14_1).f0) : Int).toNat)) ++ ((⟨#[48, 49, 50, 51]⟩ : ByteArray).extract (((rd_T23 l0 x14_1).f1) : Int).toNat ((wrap64 (((rd_T23 l0 x14_1).f1) + 1)) : Int).toNat)]) l0 (l0.length : Int) (wrap64 (x14_1 + 1))) else (none)) else (none)) else (none)) else (none)) else (none)) else (if x4_1.length < 8796093022208 then (sound_Format.l0 k1 (x4_1 ++ [(((rd_T23 l0 x14_1).f2) ++ (⟨#[47]⟩ : ByteArray)) ++ ((⟨#[118, 100, 109, 108, 110, 115, 120, 103, 98]⟩ : ByteArray).extract ((ji9) : Int).toNat (((rd_T23 l0 x14_1).f0) : Int).toNat)]) l0 (l0.length : Int) (wrap64 (x14_1 + 1))) else (none))) = some (r1, r2) := H
                          have A14 := Aside0.mk A140
                          clear A140
                          by_cases c15 : t211 = true
                          · subst c15
                            have H1 : (if 0 ≤ ((rd_T23 l0 x14_1).f1) then (if ((rd_T23 l0 x14_1).f1) ≤ (wrap64 (((rd_T23 l0 x14_1).f1) + 1)) then (if (wrap64 (((rd_T23 l0 x14_1).f1) + 1)) ≤ 4 then (if ((((rd_T23 l0 x14_1).f2) ++ (⟨#[47]⟩ : ByteArray)) ++ ((⟨#[118, 100, 109, 108, 110, 115, 120, 103, 98]⟩ : ByteArray).extract ((ji9) : Int).toNat (((rd_T23 l0 x14_1).f0) : Int).toNat)).size + ((⟨#[48, 49, 50, 51]⟩ : ByteArray).extract (((rd_T23 l0 x14_1).f1) : Int).toNat ((wrap64 (((rd_T23 l0 x14_1).f1) + 1)) : Int).toNat).size ≤ 9223372036854775807 then (if x4_1.length < 8796093022208 then (sound_Format.l0 k1 (x4_1 ++ [((((rd_T23 l0 x14_1).f2) ++ (⟨#[47]⟩ : ByteArray)) ++ ((⟨#[118, 100, 109, 108, 110, 115, 120, 103, 98]⟩ : ByteArray).extract ((ji9) : Int).toNat (((rd_T23 l0 x14_1).f0) : Int).toNat)) ++ ((⟨#[48, 49, 50, 51]⟩ : ByteArray).extract (((rd_T23 l0 x14_1).f1) : Int).toNat ((wrap64 (((rd_T23 l0 x14_1).f1) + 1)) : Int).toNat)]) l0 (l0.length : Int) (wrap64 (x14_1 + 1))) else (none)) else (none)) else (none)) else (none)) else (none)) = some (r1, r2) := by rw [if_pos rfl] at H; exact H
                            clear H
                            have H := H1
                            clear H1
                            by_cases c16 : 0 ≤ ((rd_T23 l0 x14_1).f1)
                            · rw [if_pos c16] at H
                              have c16b0 := eq_true c16
                              have c16b1 : decide (0 ≤ ((rd_T23 l0 x14_1).f1)) = true := decide_eq_true c16
                              clear c16
                              obtain ⟨ji17, hji17⟩ : ∃ j_ : Int, (wrap64 (((rd_T23 l0 x14_1).f1) + 1)) = j_ := ⟨_, rfl⟩
                              replace H : (if ((rd_T23 l0 x14_1).f1) ≤ (ji17) then (if (ji17) ≤ 4 then (if ((((rd_T23 l0 x14_1).f2) ++ (⟨#[47]⟩ : ByteArray)) ++ ((⟨#[118, 100, 109, 108, 110, 115, 120, 103, 98]⟩ : ByteArray).extract ((ji9) : Int).toNat (((rd_T23 l0 x14_1).f0) : Int).toNat)).size + ((⟨#[48, 49, 50, 51]⟩ : ByteArray).extract (((rd_T23 l0 x14_1).f1) : Int).toNat ((ji17) : Int).toNat).size ≤ 9223372036854775807 then (if x4_1.length < 8796093022208 then (sound_Format.l0 k1 (x4_1 ++ [((((rd_T23 l0 x14_1).f2) ++ (⟨#[47]⟩ : ByteArray)) ++ ((⟨#[118, 100, 109, 108, 110, 115, 120, 103, 98]⟩ : ByteArray).extract ((ji9) : Int).toNat (((rd_T23 l0 x14_1).f0) : Int).toNat)) ++ ((⟨#[48, 49, 50, 51]⟩ : ByteArray).extract (((rd_T23 l0 x14_1).f1) : Int).toNat ((ji17) : Int).toNat)]) l0 (l0.length : Int) (wrap64 (x14_1 + 1))) else (none)) else (none)) else (none)) else (none)) = some (r1, r2) := by first | (rw [hji17] at H; exact H) | (simp only [hji17] at H ⊢; exact H)
                              (try rw [hji17] at A6)
                              (try rw [hji17] at A14)
                              have hji17w : (IntKind.i64.wrap (((rd_T23 l0 x14_1).f1) + 1)) = ji17 := (i64_w _).trans hji17
                              by_cases c18 : ((rd_T23 l0 x14_1).f1) ≤ (ji17)
                              · rw [if_pos c18] at H
                                have c18b0 := eq_true c18
                                have c18b1 : decide (((rd_T23 l0 x14_1).f1) ≤ (ji17)) = true := decide_eq_true c18
                                clear c18
                                by_cases c19 : (ji17) ≤ 4
                                · rw [if_pos c19] at H
                                  have c19b0 := eq_true c19
                                  have c19b1 : decide ((ji17) ≤ 4) = true := decide_eq_true c19
                                  clear c19
                                  by_cases c20 : ((((rd_T23 l0 x14_1).f2) ++ (⟨#[47]⟩ : ByteArray)) ++ ((⟨#[118, 100, 109, 108, 110, 115, 120, 103, 98]⟩ : ByteArray).extract ((ji9) : Int).toNat (((rd_T23 l0 x14_1).f0) : Int).toNat)).size + ((⟨#[48, 49, 50, 51]⟩ : ByteArray).extract (((rd_T23 l0 x14_1).f1) : Int).toNat ((ji17) : Int).toNat).size ≤ 9223372036854775807
                                  · rw [if_pos c20] at H
                                    have c20b0 := eq_true c20
                                    have c20b1 : decide (((((rd_T23 l0 x14_1).f2) ++ (⟨#[47]⟩ : ByteArray)) ++ ((⟨#[118, 100, 109, 108, 110, 115, 120, 103, 98]⟩ : ByteArray).extract ((ji9) : Int).toNat (((rd_T23 l0 x14_1).f0) : Int).toNat)).size + ((⟨#[48, 49, 50, 51]⟩ : ByteArray).extract (((rd_T23 l0 x14_1).f1) : Int).toNat ((ji17) : Int).toNat).size ≤ 9223372036854775807) = true := decide_eq_true c20
                                    try have c20b2 : (9223372036854775807 < ((((rd_T23 l0 x14_1).f2) ++ (⟨#[47]⟩ : ByteArray)) ++ ((⟨#[118, 100, 109, 108, 110, 115, 120, 103, 98]⟩ : ByteArray).extract ((ji9) : Int).toNat (((rd_T23 l0 x14_1).f0) : Int).toNat)).size + ((⟨#[48, 49, 50, 51]⟩ : ByteArray).extract (((rd_T23 l0 x14_1).f1) : Int).toNat ((ji17) : Int).toNat).size) = False := eq_false (Nat.not_lt.2 c20)
                                    have c20b3 : ((rd_T23 l0 x14_1).f2).size + 1 + ((⟨#[118, 100, 109, 108, 110, 115, 120, 103, 98]⟩ : ByteArray).extract ((ji9) : Int).toNat (((rd_T23 l0 x14_1).f0) : Int).toNat).size + ((⟨#[48, 49, 50, 51]⟩ : ByteArray).extract (((rd_T23 l0 x14_1).f1) : Int).toNat ((ji17) : Int).toNat).size ≤ 9223372036854775807 := by have h_ := c20; simp only [ByteArray.size_append] at h_; exact h_
                                    have c20b4 : (9223372036854775807 < ((rd_T23 l0 x14_1).f2).size + 1 + ((⟨#[118, 100, 109, 108, 110, 115, 120, 103, 98]⟩ : ByteArray).extract ((ji9) : Int).toNat (((rd_T23 l0 x14_1).f0) : Int).toNat).size + ((⟨#[48, 49, 50, 51]⟩ : ByteArray).extract (((rd_T23 l0 x14_1).f1) : Int).toNat ((ji17) : Int).toNat).size) = False := eq_false (Nat.not_lt.2 c20b3)
                                    have c20b5 : decide (((rd_T23 l0 x14_1).f2).size + 1 + ((⟨#[118, 100, 109, 108, 110, 115, 120, 103, 98]⟩ : ByteArray).extract ((ji9) : Int).toNat (((rd_T23 l0 x14_1).f0) : Int).toNat).size + ((⟨#[48, 49, 50, 51]⟩ : ByteArray).extract (((rd_T23 l0 x14_1).f1) : Int).toNat ((ji17) : Int).toNat).size ≤ 9223372036854775807) = true := decide_eq_true c20b3
                                    replace c20b3 := eq_true c20b3
                                    try have c20b6 : (9223372036854775807 < ((((rd_T23 l0 x14_1).f2) ++ (⟨#[47]⟩ : ByteArray)) ++ ((⟨#[118, 100, 109, 108, 110, 115, 120, 103, 98]⟩ : ByteArray).extract ((ji9) : Int).toNat (((rd_T23 l0 x14_1).f0) : Int).toNat)).size + (((ji17) : Int).toNat - (((rd_T23 l0 x14_1).f1) : Int).toNat)) = False := eq_false (by have h_ := c20; (try simp only [ByteArray.size_append] at h_); (try simp only [ByteArray.size_extract] at h_); first | omega | (simp only [decide_eq_true_eq] at *; omega))
                                    try have c20b7 : (9223372036854775807 < ((rd_T23 l0 x14_1).f2).size + 1 + ((((rd_T23 l0 x14_1).f0) : Int).toNat - ((ji9) : Int).toNat) + (((ji17) : Int).toNat - (((rd_T23 l0 x14_1).f1) : Int).toNat)) = False := eq_false (by have h_ := of_eq_true c20b3; (try simp only [ByteArray.size_extract] at h_); first | omega | (simp only [decide_eq_true_eq] at *; omega))
                                    by_cases c21 : x4_1.length < 8796093022208
                                    · rw [if_pos c21] at H
                                      have LMc21 := Aside0.mk c21
                                      clear c21
                                      obtain ⟨y212, hy212⟩ : ∃ y_ : List ByteArray, y_ = (x4_1 ++ [((((rd_T23 l0 x14_1).f2) ++ (⟨#[47]⟩ : ByteArray)) ++ ((⟨#[118, 100, 109, 108, 110, 115, 120, 103, 98]⟩ : ByteArray).extract ((ji9) : Int).toNat (((rd_T23 l0 x14_1).f0) : Int).toNat)) ++ ((⟨#[48, 49, 50, 51]⟩ : ByteArray).extract (((rd_T23 l0 x14_1).f1) : Int).toNat ((ji17) : Int).toNat)]) := ⟨_, rfl⟩
                                      replace H : (sound_Format.l0 k1 y212 l0 (l0.length : Int) (wrap64 (x14_1 + 1))) = some (r1, r2) := by first | (rw [hy212]; with_reducible exact H) | (have H2_ := (Option.bind_some _ _).symm.trans H; rw [hy212]; with_reducible exact H2_) | (have H2_ := (Option.bind_some _ _).symm.trans H; with_reducible exact H2_) | with_reducible exact H | (rw [hy212]; exact H) | exact H
                                      have Ny212 := Aside0.mk hy212
                                      clear hy212
                                      have H' := Aside0.mk H
                                      clear H
                                      have p208 : 0 ≤ (x14_1 : Int) := of_decide_eq_true (by first | (with_reducible assumption) | assumption)
                                      have q208 : x14_1 < (l0.length : Int) := of_decide_eq_true (by first | (with_reducible assumption) | assumption)
                                      obtain ⟨ad208, e208, hx208_0, hx208_1, hx208_2⟩ := at_T23 HR0.out x14_1 p208 q208
                                      cases e208
                                      replace hx208_0 := (HB.out.cell (World.block_lt_of_cell? w _ hx208_0)).trans hx208_0
                                      replace hx208_1 := (HB.out.cell (World.block_lt_of_cell? w _ hx208_1)).trans hx208_1
                                      replace hx208_2 := (HB.out.cell (World.block_lt_of_cell? w _ hx208_2)).trans hx208_2
                                      replace p208 := eq_true p208
                                      replace q208 := eq_true q208
                                      go_wp2_with (first | ((with_reducible refine gate_dst (N := 6) rfl ?_); refine box_event ?hg (N := 6) ?hd (cs := #[.int .i64 0, .int .i64 0, .string (⟨#[]⟩ : ByteArray)]) (t := 23) ?hr ?_; (case hd => rfl); (case hg => rfl); (case hr => first | (go_simp; done) | (go_simp; rfl)); intro gb209 hg w22 hbox hb; have n0_ := Aside0.mk (Kd.R_below (by (with_reducible repeat (first | apply Kd.R_alloc | apply Kd.R_drewN | apply Kd.R_drew)); exact HO_4.out) hb); have n1_ := Aside0.mk (below_step (by repeat (first | (with_reducible first | exact HB.out | apply below_alloc | apply pw_below_drewN | apply below_drew1) | exact HB.out)) hb); have n2_ := Aside0.mk (hbox); have n3_ := Aside0.mk ((by rw [hg]; exact (below_size (by repeat (first | (with_reducible first | exact HB.out | apply below_alloc | apply pw_below_drewN | apply below_drew1) | exact HB.out))) : w.heap.size ≤ gb209)); have n4_ := Aside0.mk ((by rw [hg]; exact (below_size (by repeat (first | (with_reducible first | exact HB.out | apply below_alloc | apply pw_below_drewN | apply below_drew1) | exact HB.out))) : w.heap.size ≤ gb209)); clear HO_4; clear HB; have HO_4 := n0_; have HB := n1_; have BK209 := n2_; have GW209 := n3_; have GE209 := n4_; clear n0_ n1_ n2_ n3_ n4_; clear hb hbox hg; have hcz23_0 : w22.cell? ⟨gb209, 0, none⟩ = some (.int .i64 0) := (blk_cell BK209.out 0).trans rfl; have hcz23_1 : w22.cell? ⟨gb209, 1, none⟩ = some (.int .i64 0) := (blk_cell BK209.out 1).trans rfl; have hcz23_2 : w22.cell? ⟨gb209, 2, none⟩ = some (.string (⟨#[]⟩ : ByteArray)) := (blk_cell BK209.out 2).trans rfl; have hfz23_0 := blk_frozen BK209.out 0; have hfz23_1 := blk_frozen BK209.out 1; have hfz23_2 := blk_frozen BK209.out 2) | (go_at_call 13; (with_reducible refine (sound_Valid.calls k1 ((rd_T23 l0 x14_1).f0) ((rd_T23 l0 x14_1).f1) ((rd_T23 l0 x14_1).f2) t210 _ A6.out).mono ?_); rintro e w24 ⟨rfl, hb⟩; have n0_ := Aside0.mk (Kd.R_below (by (with_reducible repeat (first | apply Kd.R_alloc | apply Kd.R_drewN | apply Kd.R_drew)); exact (Kd.R_mono (Kd.R_far (p := ⟨gb209, 2, none⟩) (Kd.R_far (p := ⟨gb209, 1, none⟩) (Kd.R_far (p := ⟨gb209, 0, none⟩) (Kd.R_types HO_4.out BK209.out (by decide)) (fun _ hk => hk.2) (.int .i64 ((rd_T23 l0 x14_1).f0))) (fun _ hk => hk.2) (.int .i64 ((rd_T23 l0 x14_1).f1))) (fun _ hk => hk.2) (.string ((rd_T23 l0 x14_1).f2))) (fun _ h_ => h_.1))) hb); have n1_ := Aside0.mk (blk_below (g := gb209) (o := .cells #[.int .i64 ((rd_T23 l0 x14_1).f0), .int .i64 ((rd_T23 l0 x14_1).f1), .string ((rd_T23 l0 x14_1).f2)] 23 (0, 0)) (by (with_reducible repeat (first | refine blk_drewN ?_ _ | refine blk_drew ?_ | refine blk_alloc ?_ _)); refine blk_put (cs := #[.int .i64 ((rd_T23 l0 x14_1).f0), .int .i64 ((rd_T23 l0 x14_1).f1), .string (⟨#[]⟩ : ByteArray)]) ?_ 2 _ rfl; (with_reducible repeat (first | refine blk_drewN ?_ _ | refine blk_drew ?_ | refine blk_alloc ?_ _)); refine blk_put (cs := #[.int .i64 ((rd_T23 l0 x14_1).f0), .int .i64 0, .string (⟨#[]⟩ : ByteArray)]) ?_ 1 _ rfl; (with_reducible repeat (first | refine blk_drewN ?_ _ | refine blk_drew ?_ | refine blk_alloc ?_ _)); refine blk_put (cs := #[.int .i64 0, .int .i64 0, .string (⟨#[]⟩ : ByteArray)]) ?_ 0 _ rfl; (with_reducible repeat (first | refine blk_drewN ?_ _ | refine blk_drew ?_ | refine blk_alloc ?_ _)); exact BK209.out) hb); have n2_ := Aside0.mk (below_step (by repeat (first | (with_reducible first | exact HB.out | apply below_alloc | apply pw_below_drewN | apply below_drew1 | refine below_set ?_ GE209.out) | exact HB.out)) hb); clear HO_4; clear BK209; clear HB; have HO_4 := n0_; have BK209 := n1_; have HB := n2_; clear n0_ n1_ n2_; (try clear hb); (try clear hb2); (try clear hk); (try clear hi); have hcz25_0 : w24.cell? ⟨gb209, 0, none⟩ = some (.int .i64 ((rd_T23 l0 x14_1).f0)) := (blk_cell BK209.out 0).trans rfl; have hcz25_1 : w24.cell? ⟨gb209, 1, none⟩ = some (.int .i64 ((rd_T23 l0 x14_1).f1)) := (blk_cell BK209.out 1).trans rfl; have hcz25_2 : w24.cell? ⟨gb209, 2, none⟩ = some (.string ((rd_T23 l0 x14_1).f2)) := (blk_cell BK209.out 2).trans rfl; have hfz25_0 := blk_frozen BK209.out 0; have hfz25_1 := blk_frozen BK209.out 1; have hfz25_2 := blk_frozen BK209.out 2) | (go_at_call 15; (with_reducible refine (sound_Nucleus.calls ((rd_T23 l0 x14_1).f0) ((rd_T23 l0 x14_1).f1) ((rd_T23 l0 x14_1).f2) true _ A14.out).mono ?_); rintro e w26 ⟨rfl, hb⟩; have n0_ := Aside0.mk (Kd.R_below (by (with_reducible repeat (first | apply Kd.R_alloc | apply Kd.R_drewN | apply Kd.R_drew)); exact HO_4.out) hb); have n1_ := Aside0.mk (blk_below (g := gb209) (o := .cells #[.int .i64 ((rd_T23 l0 x14_1).f0), .int .i64 ((rd_T23 l0 x14_1).f1), .string ((rd_T23 l0 x14_1).f2)] 23 (0, 0)) (by (with_reducible repeat (first | refine blk_drewN ?_ _ | refine blk_drew ?_ | refine blk_alloc ?_ _)); exact BK209.out) hb); have n2_ := Aside0.mk (below_step (by repeat (first | (with_reducible first | exact HB.out | apply below_alloc | apply pw_below_drewN | apply below_drew1 | refine below_set ?_ GE209.out) | exact HB.out)) hb); clear HO_4; clear BK209; clear HB; have HO_4 := n0_; have BK209 := n1_; have HB := n2_; clear n0_ n1_ n2_; (try clear hb); (try clear hb2); (try clear hk); (try clear hi); have hcz27_0 : w26.cell? ⟨gb209, 0, none⟩ = some (.int .i64 ((rd_T23 l0 x14_1).f0)) := (blk_cell BK209.out 0).trans rfl; have hcz27_1 : w26.cell? ⟨gb209, 1, none⟩ = some (.int .i64 ((rd_T23 l0 x14_1).f1)) := (blk_cell BK209.out 1).trans rfl; have hcz27_2 : w26.cell? ⟨gb209, 2, none⟩ = some (.string ((rd_T23 l0 x14_1).f2)) := (blk_cell BK209.out 2).trans rfl; have hfz27_0 := blk_frozen BK209.out 0; have hfz27_1 := blk_frozen BK209.out 1; have hfz27_2 := blk_frozen BK209.out 2) | ((with_reducible refine gate_builtin (b := .append) (xs := #[.tmp 43, .tmp 45]) rfl ?_); at_builtin; refine Kd.R_append Kd.string (w0 := w) w.heap.size rfl (.tmp 43) (.tmp 45) 63 9 (.string ⟨#[]⟩) 16 rfl Tryd.underlying63 info9 rfl (by decide) (by omega) u4 x4_1 (((((rd_T23 l0 x14_1).f2) ++ (⟨#[47]⟩ : ByteArray)) ++ ((⟨#[118, 100, 109, 108, 110, 115, 120, 103, 98]⟩ : ByteArray).extract ((ji9) : Int).toNat (((rd_T23 l0 x14_1).f0) : Int).toNat)) ++ ((⟨#[48, 49, 50, 51]⟩ : ByteArray).extract (((rd_T23 l0 x14_1).f1) : Int).toNat ((ji17) : Int).toNat)) [.string (((((rd_T23 l0 x14_1).f2) ++ (⟨#[47]⟩ : ByteArray)) ++ ((⟨#[118, 100, 109, 108, 110, 115, 120, 103, 98]⟩ : ByteArray).extract ((ji9) : Int).toNat (((rd_T23 l0 x14_1).f0) : Int).toNat)) ++ ((⟨#[48, 49, 50, 51]⟩ : ByteArray).extract (((rd_T23 l0 x14_1).f1) : Int).toNat ((ji17) : Int).toNat))] (fun _ => True) (fun _ => False) rfl rfl ?aP (fun _ hk => hk.elim) ?aF ?aO ?aB ?aS ?aL ?_; (case aP => exact rfl); (case aB => exact (by repeat (first | (with_reducible first | exact HB.out | apply below_alloc | apply pw_below_drewN | apply below_drew1 | refine below_set ?_ GE209.out) | exact HB.out))); (case aF => exact (fun _ _ => trivial)); (case aO => exact (by (with_reducible repeat (first | apply Kd.R_alloc | apply Kd.R_drewN | apply Kd.R_drew)); exact HO_4.out)); (case aS => exact (below_size (by repeat (first | (with_reducible first | exact HB.out | apply below_alloc | apply pw_below_drewN | apply below_drew1 | refine below_set ?_ GE209.out) | exact HB.out)))); (case aL => have := LMc21.out; omega); intro v213 w28 ho hb hg hat; rw [← Ny212.out] at ho; have n0_ := Aside0.mk (blk_grown (g := gb209) (o := .cells #[.int .i64 ((rd_T23 l0 x14_1).f0), .int .i64 ((rd_T23 l0 x14_1).f1), .string ((rd_T23 l0 x14_1).f2)] 23 (0, 0)) (by (with_reducible repeat (first | refine blk_drewN ?_ _ | refine blk_drew ?_ | refine blk_alloc ?_ _)); exact BK209.out) hg (Kd.R_ne HO_4.out BK209.out (by decide))); have n1_ := Aside0.mk (hb); have n2_ := Aside0.mk (ho); clear BK209; clear HB; clear HO_4; have BK209 := n0_; have HB := n1_; have HO214 := n2_; clear n0_ n1_ n2_; clear ho hb hg hat))
                                      repeat (go_quiet (first | ((with_reducible refine gate_dst (N := 6) rfl ?_); refine box_event ?hg (N := 6) ?hd (cs := #[.int .i64 0, .int .i64 0, .string (⟨#[]⟩ : ByteArray)]) (t := 23) ?hr ?_; (case hd => rfl); (case hg => rfl); (case hr => first | (go_simp; done) | (go_simp; rfl)); intro gb209 hg w22 hbox hb; have n0_ := Aside0.mk (Kd.R_below (by (with_reducible repeat (first | apply Kd.R_alloc | apply Kd.R_drewN | apply Kd.R_drew)); exact HO_4.out) hb); have n1_ := Aside0.mk (below_step (by repeat (first | (with_reducible first | exact HB.out | apply below_alloc | apply pw_below_drewN | apply below_drew1) | exact HB.out)) hb); have n2_ := Aside0.mk (hbox); have n3_ := Aside0.mk ((by rw [hg]; exact (below_size (by repeat (first | (with_reducible first | exact HB.out | apply below_alloc | apply pw_below_drewN | apply below_drew1) | exact HB.out))) : w.heap.size ≤ gb209)); have n4_ := Aside0.mk ((by rw [hg]; exact (below_size (by repeat (first | (with_reducible first | exact HB.out | apply below_alloc | apply pw_below_drewN | apply below_drew1) | exact HB.out))) : w.heap.size ≤ gb209)); clear HO_4; clear HB; have HO_4 := n0_; have HB := n1_; have BK209 := n2_; have GW209 := n3_; have GE209 := n4_; clear n0_ n1_ n2_ n3_ n4_; clear hb hbox hg; have hcz23_0 : w22.cell? ⟨gb209, 0, none⟩ = some (.int .i64 0) := (blk_cell BK209.out 0).trans rfl; have hcz23_1 : w22.cell? ⟨gb209, 1, none⟩ = some (.int .i64 0) := (blk_cell BK209.out 1).trans rfl; have hcz23_2 : w22.cell? ⟨gb209, 2, none⟩ = some (.string (⟨#[]⟩ : ByteArray)) := (blk_cell BK209.out 2).trans rfl; have hfz23_0 := blk_frozen BK209.out 0; have hfz23_1 := blk_frozen BK209.out 1; have hfz23_2 := blk_frozen BK209.out 2) | (go_at_call 13; (with_reducible refine (sound_Valid.calls k1 ((rd_T23 l0 x14_1).f0) ((rd_T23 l0 x14_1).f1) ((rd_T23 l0 x14_1).f2) t210 _ A6.out).mono ?_); (try clear A6); rintro e w24 ⟨rfl, hb⟩; have n0_ := Aside0.mk (Kd.R_below (by (with_reducible repeat (first | apply Kd.R_alloc | apply Kd.R_drewN | apply Kd.R_drew)); exact (Kd.R_mono (Kd.R_far (p := ⟨gb209, 2, none⟩) (Kd.R_far (p := ⟨gb209, 1, none⟩) (Kd.R_far (p := ⟨gb209, 0, none⟩) (Kd.R_types HO_4.out BK209.out (by decide)) (fun _ hk => hk.2) (.int .i64 ((rd_T23 l0 x14_1).f0))) (fun _ hk => hk.2) (.int .i64 ((rd_T23 l0 x14_1).f1))) (fun _ hk => hk.2) (.string ((rd_T23 l0 x14_1).f2))) (fun _ h_ => h_.1))) hb); have n1_ := Aside0.mk (blk_below (g := gb209) (o := .cells #[.int .i64 ((rd_T23 l0 x14_1).f0), .int .i64 ((rd_T23 l0 x14_1).f1), .string ((rd_T23 l0 x14_1).f2)] 23 (0, 0)) (by (with_reducible repeat (first | refine blk_drewN ?_ _ | refine blk_drew ?_ | refine blk_alloc ?_ _)); refine blk_put (cs := #[.int .i64 ((rd_T23 l0 x14_1).f0), .int .i64 ((rd_T23 l0 x14_1).f1), .string (⟨#[]⟩ : ByteArray)]) ?_ 2 _ rfl; (with_reducible repeat (first | refine blk_drewN ?_ _ | refine blk_drew ?_ | refine blk_alloc ?_ _)); refine blk_put (cs := #[.int .i64 ((rd_T23 l0 x14_1).f0), .int .i64 0, .string (⟨#[]⟩ : ByteArray)]) ?_ 1 _ rfl; (with_reducible repeat (first | refine blk_drewN ?_ _ | refine blk_drew ?_ | refine blk_alloc ?_ _)); refine blk_put (cs := #[.int .i64 0, .int .i64 0, .string (⟨#[]⟩ : ByteArray)]) ?_ 0 _ rfl; (with_reducible repeat (first | refine blk_drewN ?_ _ | refine blk_drew ?_ | refine blk_alloc ?_ _)); exact BK209.out) hb); have n2_ := Aside0.mk (below_step (by repeat (first | (with_reducible first | exact HB.out | apply below_alloc | apply pw_below_drewN | apply below_drew1 | refine below_set ?_ GE209.out) | exact HB.out)) hb); clear HO_4; clear BK209; clear HB; have HO_4 := n0_; have BK209 := n1_; have HB := n2_; clear n0_ n1_ n2_; (try clear hb); (try clear hb2); (try clear hk); (try clear hi); have hcz25_0 : w24.cell? ⟨gb209, 0, none⟩ = some (.int .i64 ((rd_T23 l0 x14_1).f0)) := (blk_cell BK209.out 0).trans rfl; have hcz25_1 : w24.cell? ⟨gb209, 1, none⟩ = some (.int .i64 ((rd_T23 l0 x14_1).f1)) := (blk_cell BK209.out 1).trans rfl; have hcz25_2 : w24.cell? ⟨gb209, 2, none⟩ = some (.string ((rd_T23 l0 x14_1).f2)) := (blk_cell BK209.out 2).trans rfl; have hfz25_0 := blk_frozen BK209.out 0; have hfz25_1 := blk_frozen BK209.out 1; have hfz25_2 := blk_frozen BK209.out 2) | (go_at_call 15; (with_reducible refine (sound_Nucleus.calls ((rd_T23 l0 x14_1).f0) ((rd_T23 l0 x14_1).f1) ((rd_T23 l0 x14_1).f2) true _ A14.out).mono ?_); (try clear A14); rintro e w26 ⟨rfl, hb⟩; have n0_ := Aside0.mk (Kd.R_below (by (with_reducible repeat (first | apply Kd.R_alloc | apply Kd.R_drewN | apply Kd.R_drew)); exact HO_4.out) hb); have n1_ := Aside0.mk (blk_below (g := gb209) (o := .cells #[.int .i64 ((rd_T23 l0 x14_1).f0), .int .i64 ((rd_T23 l0 x14_1).f1), .string ((rd_T23 l0 x14_1).f2)] 23 (0, 0)) (by (with_reducible repeat (first | refine blk_drewN ?_ _ | refine blk_drew ?_ | refine blk_alloc ?_ _)); exact BK209.out) hb); have n2_ := Aside0.mk (below_step (by repeat (first | (with_reducible first | exact HB.out | apply below_alloc | apply pw_below_drewN | apply below_drew1 | refine below_set ?_ GE209.out) | exact HB.out)) hb); clear HO_4; clear BK209; clear HB; have HO_4 := n0_; have BK209 := n1_; have HB := n2_; clear n0_ n1_ n2_; (try clear hb); (try clear hb2); (try clear hk); (try clear hi); have hcz27_0 : w26.cell? ⟨gb209, 0, none⟩ = some (.int .i64 ((rd_T23 l0 x14_1).f0)) := (blk_cell BK209.out 0).trans rfl; have hcz27_1 : w26.cell? ⟨gb209, 1, none⟩ = some (.int .i64 ((rd_T23 l0 x14_1).f1)) := (blk_cell BK209.out 1).trans rfl; have hcz27_2 : w26.cell? ⟨gb209, 2, none⟩ = some (.string ((rd_T23 l0 x14_1).f2)) := (blk_cell BK209.out 2).trans rfl; have hfz27_0 := blk_frozen BK209.out 0; have hfz27_1 := blk_frozen BK209.out 1; have hfz27_2 := blk_frozen BK209.out 2) | ((with_reducible refine gate_builtin (b := .append) (xs := #[.tmp 43, .tmp 45]) rfl ?_); at_builtin; refine Kd.R_append Kd.string (w0 := w) w.heap.size rfl (.tmp 43) (.tmp 45) 63 9 (.string ⟨#[]⟩) 16 rfl Tryd.underlying63 info9 rfl (by decide) (by omega) u4 x4_1 (((((rd_T23 l0 x14_1).f2) ++ (⟨#[47]⟩ : ByteArray)) ++ ((⟨#[118, 100, 109, 108, 110, 115, 120, 103, 98]⟩ : ByteArray).extract ((ji9) : Int).toNat (((rd_T23 l0 x14_1).f0) : Int).toNat)) ++ ((⟨#[48, 49, 50, 51]⟩ : ByteArray).extract (((rd_T23 l0 x14_1).f1) : Int).toNat ((ji17) : Int).toNat)) [.string (((((rd_T23 l0 x14_1).f2) ++ (⟨#[47]⟩ : ByteArray)) ++ ((⟨#[118, 100, 109, 108, 110, 115, 120, 103, 98]⟩ : ByteArray).extract ((ji9) : Int).toNat (((rd_T23 l0 x14_1).f0) : Int).toNat)) ++ ((⟨#[48, 49, 50, 51]⟩ : ByteArray).extract (((rd_T23 l0 x14_1).f1) : Int).toNat ((ji17) : Int).toNat))] (fun _ => True) (fun _ => False) rfl rfl ?aP (fun _ hk => hk.elim) ?aF ?aO ?aB ?aS ?aL ?_; (case aP => exact rfl); (case aB => exact (by repeat (first | (with_reducible first | exact HB.out | apply below_alloc | apply pw_below_drewN | apply below_drew1 | refine below_set ?_ GE209.out) | exact HB.out))); (case aF => exact (fun _ _ => trivial)); (case aO => exact (by (with_reducible repeat (first | apply Kd.R_alloc | apply Kd.R_drewN | apply Kd.R_drew)); exact HO_4.out)); (case aS => exact (below_size (by repeat (first | (with_reducible first | exact HB.out | apply below_alloc | apply pw_below_drewN | apply below_drew1 | refine below_set ?_ GE209.out) | exact HB.out)))); (case aL => have := LMc21.out; omega); intro v213 w28 ho hb hg hat; rw [← Ny212.out] at ho; have n0_ := Aside0.mk (blk_grown (g := gb209) (o := .cells #[.int .i64 ((rd_T23 l0 x14_1).f0), .int .i64 ((rd_T23 l0 x14_1).f1), .string ((rd_T23 l0 x14_1).f2)] 23 (0, 0)) (by (with_reducible repeat (first | refine blk_drewN ?_ _ | refine blk_drew ?_ | refine blk_alloc ?_ _)); exact BK209.out) hg (Kd.R_ne HO_4.out BK209.out (by decide))); have n1_ := Aside0.mk (hb); have n2_ := Aside0.mk (ho); clear BK209; clear HB; clear HO_4; have BK209 := n0_; have HB := n1_; have HO214 := n2_; clear n0_ n1_ n2_; clear ho hb hg hat)); try go_wp2_with (first | ((with_reducible refine gate_dst (N := 6) rfl ?_); refine box_event ?hg (N := 6) ?hd (cs := #[.int .i64 0, .int .i64 0, .string (⟨#[]⟩ : ByteArray)]) (t := 23) ?hr ?_; (case hd => rfl); (case hg => rfl); (case hr => first | (go_simp; done) | (go_simp; rfl)); intro gb209 hg w22 hbox hb; have n0_ := Aside0.mk (Kd.R_below (by (with_reducible repeat (first | apply Kd.R_alloc | apply Kd.R_drewN | apply Kd.R_drew)); exact HO_4.out) hb); have n1_ := Aside0.mk (below_step (by repeat (first | (with_reducible first | exact HB.out | apply below_alloc | apply pw_below_drewN | apply below_drew1) | exact HB.out)) hb); have n2_ := Aside0.mk (hbox); have n3_ := Aside0.mk ((by rw [hg]; exact (below_size (by repeat (first | (with_reducible first | exact HB.out | apply below_alloc | apply pw_below_drewN | apply below_drew1) | exact HB.out))) : w.heap.size ≤ gb209)); have n4_ := Aside0.mk ((by rw [hg]; exact (below_size (by repeat (first | (with_reducible first | exact HB.out | apply below_alloc | apply pw_below_drewN | apply below_drew1) | exact HB.out))) : w.heap.size ≤ gb209)); clear HO_4; clear HB; have HO_4 := n0_; have HB := n1_; have BK209 := n2_; have GW209 := n3_; have GE209 := n4_; clear n0_ n1_ n2_ n3_ n4_; clear hb hbox hg; have hcz23_0 : w22.cell? ⟨gb209, 0, none⟩ = some (.int .i64 0) := (blk_cell BK209.out 0).trans rfl; have hcz23_1 : w22.cell? ⟨gb209, 1, none⟩ = some (.int .i64 0) := (blk_cell BK209.out 1).trans rfl; have hcz23_2 : w22.cell? ⟨gb209, 2, none⟩ = some (.string (⟨#[]⟩ : ByteArray)) := (blk_cell BK209.out 2).trans rfl; have hfz23_0 := blk_frozen BK209.out 0; have hfz23_1 := blk_frozen BK209.out 1; have hfz23_2 := blk_frozen BK209.out 2) | (go_at_call 13; (with_reducible refine (sound_Valid.calls k1 ((rd_T23 l0 x14_1).f0) ((rd_T23 l0 x14_1).f1) ((rd_T23 l0 x14_1).f2) t210 _ A6.out).mono ?_); (try clear A6); rintro e w24 ⟨rfl, hb⟩; have n0_ := Aside0.mk (Kd.R_below (by (with_reducible repeat (first | apply Kd.R_alloc | apply Kd.R_drewN | apply Kd.R_drew)); exact (Kd.R_mono (Kd.R_far (p := ⟨gb209, 2, none⟩) (Kd.R_far (p := ⟨gb209, 1, none⟩) (Kd.R_far (p := ⟨gb209, 0, none⟩) (Kd.R_types HO_4.out BK209.out (by decide)) (fun _ hk => hk.2) (.int .i64 ((rd_T23 l0 x14_1).f0))) (fun _ hk => hk.2) (.int .i64 ((rd_T23 l0 x14_1).f1))) (fun _ hk => hk.2) (.string ((rd_T23 l0 x14_1).f2))) (fun _ h_ => h_.1))) hb); have n1_ := Aside0.mk (blk_below (g := gb209) (o := .cells #[.int .i64 ((rd_T23 l0 x14_1).f0), .int .i64 ((rd_T23 l0 x14_1).f1), .string ((rd_T23 l0 x14_1).f2)] 23 (0, 0)) (by (with_reducible repeat (first | refine blk_drewN ?_ _ | refine blk_drew ?_ | refine blk_alloc ?_ _)); refine blk_put (cs := #[.int .i64 ((rd_T23 l0 x14_1).f0), .int .i64 ((rd_T23 l0 x14_1).f1), .string (⟨#[]⟩ : ByteArray)]) ?_ 2 _ rfl; (with_reducible repeat (first | refine blk_drewN ?_ _ | refine blk_drew ?_ | refine blk_alloc ?_ _)); refine blk_put (cs := #[.int .i64 ((rd_T23 l0 x14_1).f0), .int .i64 0, .string (⟨#[]⟩ : ByteArray)]) ?_ 1 _ rfl; (with_reducible repeat (first | refine blk_drewN ?_ _ | refine blk_drew ?_ | refine blk_alloc ?_ _)); refine blk_put (cs := #[.int .i64 0, .int .i64 0, .string (⟨#[]⟩ : ByteArray)]) ?_ 0 _ rfl; (with_reducible repeat (first | refine blk_drewN ?_ _ | refine blk_drew ?_ | refine blk_alloc ?_ _)); exact BK209.out) hb); have n2_ := Aside0.mk (below_step (by repeat (first | (with_reducible first | exact HB.out | apply below_alloc | apply pw_below_drewN | apply below_drew1 | refine below_set ?_ GE209.out) | exact HB.out)) hb); clear HO_4; clear BK209; clear HB; have HO_4 := n0_; have BK209 := n1_; have HB := n2_; clear n0_ n1_ n2_; (try clear hb); (try clear hb2); (try clear hk); (try clear hi); have hcz25_0 : w24.cell? ⟨gb209, 0, none⟩ = some (.int .i64 ((rd_T23 l0 x14_1).f0)) := (blk_cell BK209.out 0).trans rfl; have hcz25_1 : w24.cell? ⟨gb209, 1, none⟩ = some (.int .i64 ((rd_T23 l0 x14_1).f1)) := (blk_cell BK209.out 1).trans rfl; have hcz25_2 : w24.cell? ⟨gb209, 2, none⟩ = some (.string ((rd_T23 l0 x14_1).f2)) := (blk_cell BK209.out 2).trans rfl; have hfz25_0 := blk_frozen BK209.out 0; have hfz25_1 := blk_frozen BK209.out 1; have hfz25_2 := blk_frozen BK209.out 2) | (go_at_call 15; (with_reducible refine (sound_Nucleus.calls ((rd_T23 l0 x14_1).f0) ((rd_T23 l0 x14_1).f1) ((rd_T23 l0 x14_1).f2) true _ A14.out).mono ?_); (try clear A14); rintro e w26 ⟨rfl, hb⟩; have n0_ := Aside0.mk (Kd.R_below (by (with_reducible repeat (first | apply Kd.R_alloc | apply Kd.R_drewN | apply Kd.R_drew)); exact HO_4.out) hb); have n1_ := Aside0.mk (blk_below (g := gb209) (o := .cells #[.int .i64 ((rd_T23 l0 x14_1).f0), .int .i64 ((rd_T23 l0 x14_1).f1), .string ((rd_T23 l0 x14_1).f2)] 23 (0, 0)) (by (with_reducible repeat (first | refine blk_drewN ?_ _ | refine blk_drew ?_ | refine blk_alloc ?_ _)); exact BK209.out) hb); have n2_ := Aside0.mk (below_step (by repeat (first | (with_reducible first | exact HB.out | apply below_alloc | apply pw_below_drewN | apply below_drew1 | refine below_set ?_ GE209.out) | exact HB.out)) hb); clear HO_4; clear BK209; clear HB; have HO_4 := n0_; have BK209 := n1_; have HB := n2_; clear n0_ n1_ n2_; (try clear hb); (try clear hb2); (try clear hk); (try clear hi); have hcz27_0 : w26.cell? ⟨gb209, 0, none⟩ = some (.int .i64 ((rd_T23 l0 x14_1).f0)) := (blk_cell BK209.out 0).trans rfl; have hcz27_1 : w26.cell? ⟨gb209, 1, none⟩ = some (.int .i64 ((rd_T23 l0 x14_1).f1)) := (blk_cell BK209.out 1).trans rfl; have hcz27_2 : w26.cell? ⟨gb209, 2, none⟩ = some (.string ((rd_T23 l0 x14_1).f2)) := (blk_cell BK209.out 2).trans rfl; have hfz27_0 := blk_frozen BK209.out 0; have hfz27_1 := blk_frozen BK209.out 1; have hfz27_2 := blk_frozen BK209.out 2) | ((with_reducible refine gate_builtin (b := .append) (xs := #[.tmp 43, .tmp 45]) rfl ?_); at_builtin; refine Kd.R_append Kd.string (w0 := w) w.heap.size rfl (.tmp 43) (.tmp 45) 63 9 (.string ⟨#[]⟩) 16 rfl Tryd.underlying63 info9 rfl (by decide) (by omega) u4 x4_1 (((((rd_T23 l0 x14_1).f2) ++ (⟨#[47]⟩ : ByteArray)) ++ ((⟨#[118, 100, 109, 108, 110, 115, 120, 103, 98]⟩ : ByteArray).extract ((ji9) : Int).toNat (((rd_T23 l0 x14_1).f0) : Int).toNat)) ++ ((⟨#[48, 49, 50, 51]⟩ : ByteArray).extract (((rd_T23 l0 x14_1).f1) : Int).toNat ((ji17) : Int).toNat)) [.string (((((rd_T23 l0 x14_1).f2) ++ (⟨#[47]⟩ : ByteArray)) ++ ((⟨#[118, 100, 109, 108, 110, 115, 120, 103, 98]⟩ : ByteArray).extract ((ji9) : Int).toNat (((rd_T23 l0 x14_1).f0) : Int).toNat)) ++ ((⟨#[48, 49, 50, 51]⟩ : ByteArray).extract (((rd_T23 l0 x14_1).f1) : Int).toNat ((ji17) : Int).toNat))] (fun _ => True) (fun _ => False) rfl rfl ?aP (fun _ hk => hk.elim) ?aF ?aO ?aB ?aS ?aL ?_; (case aP => exact rfl); (case aB => exact (by repeat (first | (with_reducible first | exact HB.out | apply below_alloc | apply pw_below_drewN | apply below_drew1 | refine below_set ?_ GE209.out) | exact HB.out))); (case aF => exact (fun _ _ => trivial)); (case aO => exact (by (with_reducible repeat (first | apply Kd.R_alloc | apply Kd.R_drewN | apply Kd.R_drew)); exact HO_4.out)); (case aS => exact (below_size (by repeat (first | (with_reducible first | exact HB.out | apply below_alloc | apply pw_below_drewN | apply below_drew1 | refine below_set ?_ GE209.out) | exact HB.out)))); (case aL => have := LMc21.out; omega); intro v213 w28 ho hb hg hat; rw [← Ny212.out] at ho; have n0_ := Aside0.mk (blk_grown (g := gb209) (o := .cells #[.int .i64 ((rd_T23 l0 x14_1).f0), .int .i64 ((rd_T23 l0 x14_1).f1), .string ((rd_T23 l0 x14_1).f2)] 23 (0, 0)) (by (with_reducible repeat (first | refine blk_drewN ?_ _ | refine blk_drew ?_ | refine blk_alloc ?_ _)); exact BK209.out) hg (Kd.R_ne HO_4.out BK209.out (by decide))); have n1_ := Aside0.mk (hb); have n2_ := Aside0.mk (ho); clear BK209; clear HB; clear HO_4; have BK209 := n0_; have HB := n1_; have HO214 := n2_; clear n0_ n1_ n2_; clear ho hb hg hat)))
                                      go_roundg k1
                                      case measure => have := HK1.out; omega
                                      case rel => exact ⟨(y212), (wrap64 (x14_1 + 1)), (by first | rfl | (simp; done) | (simp [*]; done)), H', ⟨by have := HK1.out; omega⟩, ⟨by (with_reducible repeat (first | apply Kd.R_alloc | apply Kd.R_drewN | apply Kd.R_drew)); exact HO214.out⟩, ⟨by repeat (first | (with_reducible first | exact HB.out | apply below_alloc | apply pw_below_drewN | apply below_drew1 | refine below_set ?_ GE209.out) | exact HB.out)⟩⟩
                                    · rw [if_neg c21] at H
                                      exact absurd H (by simp)
                                  · rw [if_neg c20] at H
                                    exact absurd H (by simp)
                                · rw [if_neg c19] at H
                                  exact absurd H (by simp)
                              · rw [if_neg c18] at H
                                exact absurd H (by simp)
                            · rw [if_neg c16] at H
                              exact absurd H (by simp)
                          · replace c15 := Bool.eq_false_iff.mpr c15
                            subst c15
                            have H1 : (if x4_1.length < 8796093022208 then (sound_Format.l0 k1 (x4_1 ++ [(((rd_T23 l0 x14_1).f2) ++ (⟨#[47]⟩ : ByteArray)) ++ ((⟨#[118, 100, 109, 108, 110, 115, 120, 103, 98]⟩ : ByteArray).extract ((ji9) : Int).toNat (((rd_T23 l0 x14_1).f0) : Int).toNat)]) l0 (l0.length : Int) (wrap64 (x14_1 + 1))) else (none)) = some (r1, r2) := by rw [if_neg (show ¬ (false = true) by decide)] at H; exact H
                            clear H
                            have H := H1
                            clear H1
                            by_cases c29 : x4_1.length < 8796093022208
                            · rw [if_pos c29] at H
                              have LMc29 := Aside0.mk c29
                              clear c29
                              obtain ⟨y215, hy215⟩ : ∃ y_ : List ByteArray, y_ = (x4_1 ++ [(((rd_T23 l0 x14_1).f2) ++ (⟨#[47]⟩ : ByteArray)) ++ ((⟨#[118, 100, 109, 108, 110, 115, 120, 103, 98]⟩ : ByteArray).extract ((ji9) : Int).toNat (((rd_T23 l0 x14_1).f0) : Int).toNat)]) := ⟨_, rfl⟩
                              replace H : (sound_Format.l0 k1 y215 l0 (l0.length : Int) (wrap64 (x14_1 + 1))) = some (r1, r2) := by first | (rw [hy215]; with_reducible exact H) | (have H2_ := (Option.bind_some _ _).symm.trans H; rw [hy215]; with_reducible exact H2_) | (have H2_ := (Option.bind_some _ _).symm.trans H; with_reducible exact H2_) | with_reducible exact H | (rw [hy215]; exact H) | exact H
                              have Ny215 := Aside0.mk hy215
                              clear hy215
                              have H' := Aside0.mk H
                              clear H
                              have p208 : 0 ≤ (x14_1 : Int) := of_decide_eq_true (by first | (with_reducible assumption) | assumption)
                              have q208 : x14_1 < (l0.length : Int) := of_decide_eq_true (by first | (with_reducible assumption) | assumption)
                              obtain ⟨ad208, e208, hx208_0, hx208_1, hx208_2⟩ := at_T23 HR0.out x14_1 p208 q208
                              cases e208
                              replace hx208_0 := (HB.out.cell (World.block_lt_of_cell? w _ hx208_0)).trans hx208_0
                              replace hx208_1 := (HB.out.cell (World.block_lt_of_cell? w _ hx208_1)).trans hx208_1
                              replace hx208_2 := (HB.out.cell (World.block_lt_of_cell? w _ hx208_2)).trans hx208_2
                              replace p208 := eq_true p208
                              replace q208 := eq_true q208
                              go_wp2_with (first | ((with_reducible refine gate_dst (N := 6) rfl ?_); refine box_event ?hg (N := 6) ?hd (cs := #[.int .i64 0, .int .i64 0, .string (⟨#[]⟩ : ByteArray)]) (t := 23) ?hr ?_; (case hd => rfl); (case hg => rfl); (case hr => first | (go_simp; done) | (go_simp; rfl)); intro gb209 hg w30 hbox hb; have n0_ := Aside0.mk (Kd.R_below (by (with_reducible repeat (first | apply Kd.R_alloc | apply Kd.R_drewN | apply Kd.R_drew)); exact HO_4.out) hb); have n1_ := Aside0.mk (below_step (by repeat (first | (with_reducible first | exact HB.out | apply below_alloc | apply pw_below_drewN | apply below_drew1) | exact HB.out)) hb); have n2_ := Aside0.mk (hbox); have n3_ := Aside0.mk ((by rw [hg]; exact (below_size (by repeat (first | (with_reducible first | exact HB.out | apply below_alloc | apply pw_below_drewN | apply below_drew1) | exact HB.out))) : w.heap.size ≤ gb209)); have n4_ := Aside0.mk ((by rw [hg]; exact (below_size (by repeat (first | (with_reducible first | exact HB.out | apply below_alloc | apply pw_below_drewN | apply below_drew1) | exact HB.out))) : w.heap.size ≤ gb209)); clear HO_4; clear HB; have HO_4 := n0_; have HB := n1_; have BK209 := n2_; have GW209 := n3_; have GE209 := n4_; clear n0_ n1_ n2_ n3_ n4_; clear hb hbox hg; have hcz31_0 : w30.cell? ⟨gb209, 0, none⟩ = some (.int .i64 0) := (blk_cell BK209.out 0).trans rfl; have hcz31_1 : w30.cell? ⟨gb209, 1, none⟩ = some (.int .i64 0) := (blk_cell BK209.out 1).trans rfl; have hcz31_2 : w30.cell? ⟨gb209, 2, none⟩ = some (.string (⟨#[]⟩ : ByteArray)) := (blk_cell BK209.out 2).trans rfl; have hfz31_0 := blk_frozen BK209.out 0; have hfz31_1 := blk_frozen BK209.out 1; have hfz31_2 := blk_frozen BK209.out 2) | (go_at_call 13; (with_reducible refine (sound_Valid.calls k1 ((rd_T23 l0 x14_1).f0) ((rd_T23 l0 x14_1).f1) ((rd_T23 l0 x14_1).f2) t210 _ A6.out).mono ?_); rintro e w32 ⟨rfl, hb⟩; have n0_ := Aside0.mk (Kd.R_below (by (with_reducible repeat (first | apply Kd.R_alloc | apply Kd.R_drewN | apply Kd.R_drew)); exact (Kd.R_mono (Kd.R_far (p := ⟨gb209, 2, none⟩) (Kd.R_far (p := ⟨gb209, 1, none⟩) (Kd.R_far (p := ⟨gb209, 0, none⟩) (Kd.R_types HO_4.out BK209.out (by decide)) (fun _ hk => hk.2) (.int .i64 ((rd_T23 l0 x14_1).f0))) (fun _ hk => hk.2) (.int .i64 ((rd_T23 l0 x14_1).f1))) (fun _ hk => hk.2) (.string ((rd_T23 l0 x14_1).f2))) (fun _ h_ => h_.1))) hb); have n1_ := Aside0.mk (blk_below (g := gb209) (o := .cells #[.int .i64 ((rd_T23 l0 x14_1).f0), .int .i64 ((rd_T23 l0 x14_1).f1), .string ((rd_T23 l0 x14_1).f2)] 23 (0, 0)) (by (with_reducible repeat (first | refine blk_drewN ?_ _ | refine blk_drew ?_ | refine blk_alloc ?_ _)); refine blk_put (cs := #[.int .i64 ((rd_T23 l0 x14_1).f0), .int .i64 ((rd_T23 l0 x14_1).f1), .string (⟨#[]⟩ : ByteArray)]) ?_ 2 _ rfl; (with_reducible repeat (first | refine blk_drewN ?_ _ | refine blk_drew ?_ | refine blk_alloc ?_ _)); refine blk_put (cs := #[.int .i64 ((rd_T23 l0 x14_1).f0), .int .i64 0, .string (⟨#[]⟩ : ByteArray)]) ?_ 1 _ rfl; (with_reducible repeat (first | refine blk_drewN ?_ _ | refine blk_drew ?_ | refine blk_alloc ?_ _)); refine blk_put (cs := #[.int .i64 0, .int .i64 0, .string (⟨#[]⟩ : ByteArray)]) ?_ 0 _ rfl; (with_reducible repeat (first | refine blk_drewN ?_ _ | refine blk_drew ?_ | refine blk_alloc ?_ _)); exact BK209.out) hb); have n2_ := Aside0.mk (below_step (by repeat (first | (with_reducible first | exact HB.out | apply below_alloc | apply pw_below_drewN | apply below_drew1 | refine below_set ?_ GE209.out) | exact HB.out)) hb); clear HO_4; clear BK209; clear HB; have HO_4 := n0_; have BK209 := n1_; have HB := n2_; clear n0_ n1_ n2_; (try clear hb); (try clear hb2); (try clear hk); (try clear hi); have hcz33_0 : w32.cell? ⟨gb209, 0, none⟩ = some (.int .i64 ((rd_T23 l0 x14_1).f0)) := (blk_cell BK209.out 0).trans rfl; have hcz33_1 : w32.cell? ⟨gb209, 1, none⟩ = some (.int .i64 ((rd_T23 l0 x14_1).f1)) := (blk_cell BK209.out 1).trans rfl; have hcz33_2 : w32.cell? ⟨gb209, 2, none⟩ = some (.string ((rd_T23 l0 x14_1).f2)) := (blk_cell BK209.out 2).trans rfl; have hfz33_0 := blk_frozen BK209.out 0; have hfz33_1 := blk_frozen BK209.out 1; have hfz33_2 := blk_frozen BK209.out 2) | (go_at_call 15; (with_reducible refine (sound_Nucleus.calls ((rd_T23 l0 x14_1).f0) ((rd_T23 l0 x14_1).f1) ((rd_T23 l0 x14_1).f2) false _ A14.out).mono ?_); rintro e w34 ⟨rfl, hb⟩; have n0_ := Aside0.mk (Kd.R_below (by (with_reducible repeat (first | apply Kd.R_alloc | apply Kd.R_drewN | apply Kd.R_drew)); exact HO_4.out) hb); have n1_ := Aside0.mk (blk_below (g := gb209) (o := .cells #[.int .i64 ((rd_T23 l0 x14_1).f0), .int .i64 ((rd_T23 l0 x14_1).f1), .string ((rd_T23 l0 x14_1).f2)] 23 (0, 0)) (by (with_reducible repeat (first | refine blk_drewN ?_ _ | refine blk_drew ?_ | refine blk_alloc ?_ _)); exact BK209.out) hb); have n2_ := Aside0.mk (below_step (by repeat (first | (with_reducible first | exact HB.out | apply below_alloc | apply pw_below_drewN | apply below_drew1 | refine below_set ?_ GE209.out) | exact HB.out)) hb); clear HO_4; clear BK209; clear HB; have HO_4 := n0_; have BK209 := n1_; have HB := n2_; clear n0_ n1_ n2_; (try clear hb); (try clear hb2); (try clear hk); (try clear hi)) | ((with_reducible refine gate_builtin (b := .append) (xs := #[.tmp 43, .tmp 45]) rfl ?_); at_builtin; refine Kd.R_append Kd.string (w0 := w) w.heap.size rfl (.tmp 43) (.tmp 45) 63 9 (.string ⟨#[]⟩) 16 rfl Tryd.underlying63 info9 rfl (by decide) (by omega) u4 x4_1 ((((rd_T23 l0 x14_1).f2) ++ (⟨#[47]⟩ : ByteArray)) ++ ((⟨#[118, 100, 109, 108, 110, 115, 120, 103, 98]⟩ : ByteArray).extract ((ji9) : Int).toNat (((rd_T23 l0 x14_1).f0) : Int).toNat)) [.string ((((rd_T23 l0 x14_1).f2) ++ (⟨#[47]⟩ : ByteArray)) ++ ((⟨#[118, 100, 109, 108, 110, 115, 120, 103, 98]⟩ : ByteArray).extract ((ji9) : Int).toNat (((rd_T23 l0 x14_1).f0) : Int).toNat))] (fun _ => True) (fun _ => False) rfl rfl ?aP (fun _ hk => hk.elim) ?aF ?aO ?aB ?aS ?aL ?_; (case aP => exact rfl); (case aB => exact (by repeat (first | (with_reducible first | exact HB.out | apply below_alloc | apply pw_below_drewN | apply below_drew1 | refine below_set ?_ GE209.out) | exact HB.out))); (case aF => exact (fun _ _ => trivial)); (case aO => exact (by (with_reducible repeat (first | apply Kd.R_alloc | apply Kd.R_drewN | apply Kd.R_drew)); exact HO_4.out)); (case aS => exact (below_size (by repeat (first | (with_reducible first | exact HB.out | apply below_alloc | apply pw_below_drewN | apply below_drew1 | refine below_set ?_ GE209.out) | exact HB.out)))); (case aL => have := LMc29.out; omega); intro v216 w35 ho hb hg hat; rw [← Ny215.out] at ho; have n0_ := Aside0.mk (blk_grown (g := gb209) (o := .cells #[.int .i64 ((rd_T23 l0 x14_1).f0), .int .i64 ((rd_T23 l0 x14_1).f1), .string ((rd_T23 l0 x14_1).f2)] 23 (0, 0)) (by (with_reducible repeat (first | refine blk_drewN ?_ _ | refine blk_drew ?_ | refine blk_alloc ?_ _)); exact BK209.out) hg (Kd.R_ne HO_4.out BK209.out (by decide))); have n1_ := Aside0.mk (hb); have n2_ := Aside0.mk (ho); clear BK209; clear HB; clear HO_4; have BK209 := n0_; have HB := n1_; have HO217 := n2_; clear n0_ n1_ n2_; clear ho hb hg hat))
                              repeat (go_quiet (first | ((with_reducible refine gate_dst (N := 6) rfl ?_); refine box_event ?hg (N := 6) ?hd (cs := #[.int .i64 0, .int .i64 0, .string (⟨#[]⟩ : ByteArray)]) (t := 23) ?hr ?_; (case hd => rfl); (case hg => rfl); (case hr => first | (go_simp; done) | (go_simp; rfl)); intro gb209 hg w30 hbox hb; have n0_ := Aside0.mk (Kd.R_below (by (with_reducible repeat (first | apply Kd.R_alloc | apply Kd.R_drewN | apply Kd.R_drew)); exact HO_4.out) hb); have n1_ := Aside0.mk (below_step (by repeat (first | (with_reducible first | exact HB.out | apply below_alloc | apply pw_below_drewN | apply below_drew1) | exact HB.out)) hb); have n2_ := Aside0.mk (hbox); have n3_ := Aside0.mk ((by rw [hg]; exact (below_size (by repeat (first | (with_reducible first | exact HB.out | apply below_alloc | apply pw_below_drewN | apply below_drew1) | exact HB.out))) : w.heap.size ≤ gb209)); have n4_ := Aside0.mk ((by rw [hg]; exact (below_size (by repeat (first | (with_reducible first | exact HB.out | apply below_alloc | apply pw_below_drewN | apply below_drew1) | exact HB.out))) : w.heap.size ≤ gb209)); clear HO_4; clear HB; have HO_4 := n0_; have HB := n1_; have BK209 := n2_; have GW209 := n3_; have GE209 := n4_; clear n0_ n1_ n2_ n3_ n4_; clear hb hbox hg; have hcz31_0 : w30.cell? ⟨gb209, 0, none⟩ = some (.int .i64 0) := (blk_cell BK209.out 0).trans rfl; have hcz31_1 : w30.cell? ⟨gb209, 1, none⟩ = some (.int .i64 0) := (blk_cell BK209.out 1).trans rfl; have hcz31_2 : w30.cell? ⟨gb209, 2, none⟩ = some (.string (⟨#[]⟩ : ByteArray)) := (blk_cell BK209.out 2).trans rfl; have hfz31_0 := blk_frozen BK209.out 0; have hfz31_1 := blk_frozen BK209.out 1; have hfz31_2 := blk_frozen BK209.out 2) | (go_at_call 13; (with_reducible refine (sound_Valid.calls k1 ((rd_T23 l0 x14_1).f0) ((rd_T23 l0 x14_1).f1) ((rd_T23 l0 x14_1).f2) t210 _ A6.out).mono ?_); (try clear A6); rintro e w32 ⟨rfl, hb⟩; have n0_ := Aside0.mk (Kd.R_below (by (with_reducible repeat (first | apply Kd.R_alloc | apply Kd.R_drewN | apply Kd.R_drew)); exact (Kd.R_mono (Kd.R_far (p := ⟨gb209, 2, none⟩) (Kd.R_far (p := ⟨gb209, 1, none⟩) (Kd.R_far (p := ⟨gb209, 0, none⟩) (Kd.R_types HO_4.out BK209.out (by decide)) (fun _ hk => hk.2) (.int .i64 ((rd_T23 l0 x14_1).f0))) (fun _ hk => hk.2) (.int .i64 ((rd_T23 l0 x14_1).f1))) (fun _ hk => hk.2) (.string ((rd_T23 l0 x14_1).f2))) (fun _ h_ => h_.1))) hb); have n1_ := Aside0.mk (blk_below (g := gb209) (o := .cells #[.int .i64 ((rd_T23 l0 x14_1).f0), .int .i64 ((rd_T23 l0 x14_1).f1), .string ((rd_T23 l0 x14_1).f2)] 23 (0, 0)) (by (with_reducible repeat (first | refine blk_drewN ?_ _ | refine blk_drew ?_ | refine blk_alloc ?_ _)); refine blk_put (cs := #[.int .i64 ((rd_T23 l0 x14_1).f0), .int .i64 ((rd_T23 l0 x14_1).f1), .string (⟨#[]⟩ : ByteArray)]) ?_ 2 _ rfl; (with_reducible repeat (first | refine blk_drewN ?_ _ | refine blk_drew ?_ | refine blk_alloc ?_ _)); refine blk_put (cs := #[.int .i64 ((rd_T23 l0 x14_1).f0), .int .i64 0, .string (⟨#[]⟩ : ByteArray)]) ?_ 1 _ rfl; (with_reducible repeat (first | refine blk_drewN ?_ _ | refine blk_drew ?_ | refine blk_alloc ?_ _)); refine blk_put (cs := #[.int .i64 0, .int .i64 0, .string (⟨#[]⟩ : ByteArray)]) ?_ 0 _ rfl; (with_reducible repeat (first | refine blk_drewN ?_ _ | refine blk_drew ?_ | refine blk_alloc ?_ _)); exact BK209.out) hb); have n2_ := Aside0.mk (below_step (by repeat (first | (with_reducible first | exact HB.out | apply below_alloc | apply pw_below_drewN | apply below_drew1 | refine below_set ?_ GE209.out) | exact HB.out)) hb); clear HO_4; clear BK209; clear HB; have HO_4 := n0_; have BK209 := n1_; have HB := n2_; clear n0_ n1_ n2_; (try clear hb); (try clear hb2); (try clear hk); (try clear hi); have hcz33_0 : w32.cell? ⟨gb209, 0, none⟩ = some (.int .i64 ((rd_T23 l0 x14_1).f0)) := (blk_cell BK209.out 0).trans rfl; have hcz33_1 : w32.cell? ⟨gb209, 1, none⟩ = some (.int .i64 ((rd_T23 l0 x14_1).f1)) := (blk_cell BK209.out 1).trans rfl; have hcz33_2 : w32.cell? ⟨gb209, 2, none⟩ = some (.string ((rd_T23 l0 x14_1).f2)) := (blk_cell BK209.out 2).trans rfl; have hfz33_0 := blk_frozen BK209.out 0; have hfz33_1 := blk_frozen BK209.out 1; have hfz33_2 := blk_frozen BK209.out 2) | (go_at_call 15; (with_reducible refine (sound_Nucleus.calls ((rd_T23 l0 x14_1).f0) ((rd_T23 l0 x14_1).f1) ((rd_T23 l0 x14_1).f2) false _ A14.out).mono ?_); (try clear A14); rintro e w34 ⟨rfl, hb⟩; have n0_ := Aside0.mk (Kd.R_below (by (with_reducible repeat (first | apply Kd.R_alloc | apply Kd.R_drewN | apply Kd.R_drew)); exact HO_4.out) hb); have n1_ := Aside0.mk (blk_below (g := gb209) (o := .cells #[.int .i64 ((rd_T23 l0 x14_1).f0), .int .i64 ((rd_T23 l0 x14_1).f1), .string ((rd_T23 l0 x14_1).f2)] 23 (0, 0)) (by (with_reducible repeat (first | refine blk_drewN ?_ _ | refine blk_drew ?_ | refine blk_alloc ?_ _)); exact BK209.out) hb); have n2_ := Aside0.mk (below_step (by repeat (first | (with_reducible first | exact HB.out | apply below_alloc | apply pw_below_drewN | apply below_drew1 | refine below_set ?_ GE209.out) | exact HB.out)) hb); clear HO_4; clear BK209; clear HB; have HO_4 := n0_; have BK209 := n1_; have HB := n2_; clear n0_ n1_ n2_; (try clear hb); (try clear hb2); (try clear hk); (try clear hi)) | ((with_reducible refine gate_builtin (b := .append) (xs := #[.tmp 43, .tmp 45]) rfl ?_); at_builtin; refine Kd.R_append Kd.string (w0 := w) w.heap.size rfl (.tmp 43) (.tmp 45) 63 9 (.string ⟨#[]⟩) 16 rfl Tryd.underlying63 info9 rfl (by decide) (by omega) u4 x4_1 ((((rd_T23 l0 x14_1).f2) ++ (⟨#[47]⟩ : ByteArray)) ++ ((⟨#[118, 100, 109, 108, 110, 115, 120, 103, 98]⟩ : ByteArray).extract ((ji9) : Int).toNat (((rd_T23 l0 x14_1).f0) : Int).toNat)) [.string ((((rd_T23 l0 x14_1).f2) ++ (⟨#[47]⟩ : ByteArray)) ++ ((⟨#[118, 100, 109, 108, 110, 115, 120, 103, 98]⟩ : ByteArray).extract ((ji9) : Int).toNat (((rd_T23 l0 x14_1).f0) : Int).toNat))] (fun _ => True) (fun _ => False) rfl rfl ?aP (fun _ hk => hk.elim) ?aF ?aO ?aB ?aS ?aL ?_; (case aP => exact rfl); (case aB => exact (by repeat (first | (with_reducible first | exact HB.out | apply below_alloc | apply pw_below_drewN | apply below_drew1 | refine below_set ?_ GE209.out) | exact HB.out))); (case aF => exact (fun _ _ => trivial)); (case aO => exact (by (with_reducible repeat (first | apply Kd.R_alloc | apply Kd.R_drewN | apply Kd.R_drew)); exact HO_4.out)); (case aS => exact (below_size (by repeat (first | (with_reducible first | exact HB.out | apply below_alloc | apply pw_below_drewN | apply below_drew1 | refine below_set ?_ GE209.out) | exact HB.out)))); (case aL => have := LMc29.out; omega); intro v216 w35 ho hb hg hat; rw [← Ny215.out] at ho; have n0_ := Aside0.mk (blk_grown (g := gb209) (o := .cells #[.int .i64 ((rd_T23 l0 x14_1).f0), .int .i64 ((rd_T23 l0 x14_1).f1), .string ((rd_T23 l0 x14_1).f2)] 23 (0, 0)) (by (with_reducible repeat (first | refine blk_drewN ?_ _ | refine blk_drew ?_ | refine blk_alloc ?_ _)); exact BK209.out) hg (Kd.R_ne HO_4.out BK209.out (by decide))); have n1_ := Aside0.mk (hb); have n2_ := Aside0.mk (ho); clear BK209; clear HB; clear HO_4; have BK209 := n0_; have HB := n1_; have HO217 := n2_; clear n0_ n1_ n2_; clear ho hb hg hat)); try go_wp2_with (first | ((with_reducible refine gate_dst (N := 6) rfl ?_); refine box_event ?hg (N := 6) ?hd (cs := #[.int .i64 0, .int .i64 0, .string (⟨#[]⟩ : ByteArray)]) (t := 23) ?hr ?_; (case hd => rfl); (case hg => rfl); (case hr => first | (go_simp; done) | (go_simp; rfl)); intro gb209 hg w30 hbox hb; have n0_ := Aside0.mk (Kd.R_below (by (with_reducible repeat (first | apply Kd.R_alloc | apply Kd.R_drewN | apply Kd.R_drew)); exact HO_4.out) hb); have n1_ := Aside0.mk (below_step (by repeat (first | (with_reducible first | exact HB.out | apply below_alloc | apply pw_below_drewN | apply below_drew1) | exact HB.out)) hb); have n2_ := Aside0.mk (hbox); have n3_ := Aside0.mk ((by rw [hg]; exact (below_size (by repeat (first | (with_reducible first | exact HB.out | apply below_alloc | apply pw_below_drewN | apply below_drew1) | exact HB.out))) : w.heap.size ≤ gb209)); have n4_ := Aside0.mk ((by rw [hg]; exact (below_size (by repeat (first | (with_reducible first | exact HB.out | apply below_alloc | apply pw_below_drewN | apply below_drew1) | exact HB.out))) : w.heap.size ≤ gb209)); clear HO_4; clear HB; have HO_4 := n0_; have HB := n1_; have BK209 := n2_; have GW209 := n3_; have GE209 := n4_; clear n0_ n1_ n2_ n3_ n4_; clear hb hbox hg; have hcz31_0 : w30.cell? ⟨gb209, 0, none⟩ = some (.int .i64 0) := (blk_cell BK209.out 0).trans rfl; have hcz31_1 : w30.cell? ⟨gb209, 1, none⟩ = some (.int .i64 0) := (blk_cell BK209.out 1).trans rfl; have hcz31_2 : w30.cell? ⟨gb209, 2, none⟩ = some (.string (⟨#[]⟩ : ByteArray)) := (blk_cell BK209.out 2).trans rfl; have hfz31_0 := blk_frozen BK209.out 0; have hfz31_1 := blk_frozen BK209.out 1; have hfz31_2 := blk_frozen BK209.out 2) | (go_at_call 13; (with_reducible refine (sound_Valid.calls k1 ((rd_T23 l0 x14_1).f0) ((rd_T23 l0 x14_1).f1) ((rd_T23 l0 x14_1).f2) t210 _ A6.out).mono ?_); (try clear A6); rintro e w32 ⟨rfl, hb⟩; have n0_ := Aside0.mk (Kd.R_below (by (with_reducible repeat (first | apply Kd.R_alloc | apply Kd.R_drewN | apply Kd.R_drew)); exact (Kd.R_mono (Kd.R_far (p := ⟨gb209, 2, none⟩) (Kd.R_far (p := ⟨gb209, 1, none⟩) (Kd.R_far (p := ⟨gb209, 0, none⟩) (Kd.R_types HO_4.out BK209.out (by decide)) (fun _ hk => hk.2) (.int .i64 ((rd_T23 l0 x14_1).f0))) (fun _ hk => hk.2) (.int .i64 ((rd_T23 l0 x14_1).f1))) (fun _ hk => hk.2) (.string ((rd_T23 l0 x14_1).f2))) (fun _ h_ => h_.1))) hb); have n1_ := Aside0.mk (blk_below (g := gb209) (o := .cells #[.int .i64 ((rd_T23 l0 x14_1).f0), .int .i64 ((rd_T23 l0 x14_1).f1), .string ((rd_T23 l0 x14_1).f2)] 23 (0, 0)) (by (with_reducible repeat (first | refine blk_drewN ?_ _ | refine blk_drew ?_ | refine blk_alloc ?_ _)); refine blk_put (cs := #[.int .i64 ((rd_T23 l0 x14_1).f0), .int .i64 ((rd_T23 l0 x14_1).f1), .string (⟨#[]⟩ : ByteArray)]) ?_ 2 _ rfl; (with_reducible repeat (first | refine blk_drewN ?_ _ | refine blk_drew ?_ | refine blk_alloc ?_ _)); refine blk_put (cs := #[.int .i64 ((rd_T23 l0 x14_1).f0), .int .i64 0, .string (⟨#[]⟩ : ByteArray)]) ?_ 1 _ rfl; (with_reducible repeat (first | refine blk_drewN ?_ _ | refine blk_drew ?_ | refine blk_alloc ?_ _)); refine blk_put (cs := #[.int .i64 0, .int .i64 0, .string (⟨#[]⟩ : ByteArray)]) ?_ 0 _ rfl; (with_reducible repeat (first | refine blk_drewN ?_ _ | refine blk_drew ?_ | refine blk_alloc ?_ _)); exact BK209.out) hb); have n2_ := Aside0.mk (below_step (by repeat (first | (with_reducible first | exact HB.out | apply below_alloc | apply pw_below_drewN | apply below_drew1 | refine below_set ?_ GE209.out) | exact HB.out)) hb); clear HO_4; clear BK209; clear HB; have HO_4 := n0_; have BK209 := n1_; have HB := n2_; clear n0_ n1_ n2_; (try clear hb); (try clear hb2); (try clear hk); (try clear hi); have hcz33_0 : w32.cell? ⟨gb209, 0, none⟩ = some (.int .i64 ((rd_T23 l0 x14_1).f0)) := (blk_cell BK209.out 0).trans rfl; have hcz33_1 : w32.cell? ⟨gb209, 1, none⟩ = some (.int .i64 ((rd_T23 l0 x14_1).f1)) := (blk_cell BK209.out 1).trans rfl; have hcz33_2 : w32.cell? ⟨gb209, 2, none⟩ = some (.string ((rd_T23 l0 x14_1).f2)) := (blk_cell BK209.out 2).trans rfl; have hfz33_0 := blk_frozen BK209.out 0; have hfz33_1 := blk_frozen BK209.out 1; have hfz33_2 := blk_frozen BK209.out 2) | (go_at_call 15; (with_reducible refine (sound_Nucleus.calls ((rd_T23 l0 x14_1).f0) ((rd_T23 l0 x14_1).f1) ((rd_T23 l0 x14_1).f2) false _ A14.out).mono ?_); (try clear A14); rintro e w34 ⟨rfl, hb⟩; have n0_ := Aside0.mk (Kd.R_below (by (with_reducible repeat (first | apply Kd.R_alloc | apply Kd.R_drewN | apply Kd.R_drew)); exact HO_4.out) hb); have n1_ := Aside0.mk (blk_below (g := gb209) (o := .cells #[.int .i64 ((rd_T23 l0 x14_1).f0), .int .i64 ((rd_T23 l0 x14_1).f1), .string ((rd_T23 l0 x14_1).f2)] 23 (0, 0)) (by (with_reducible repeat (first | refine blk_drewN ?_ _ | refine blk_drew ?_ | refine blk_alloc ?_ _)); exact BK209.out) hb); have n2_ := Aside0.mk (below_step (by repeat (first | (with_reducible first | exact HB.out | apply below_alloc | apply pw_below_drewN | apply below_drew1 | refine below_set ?_ GE209.out) | exact HB.out)) hb); clear HO_4; clear BK209; clear HB; have HO_4 := n0_; have BK209 := n1_; have HB := n2_; clear n0_ n1_ n2_; (try clear hb); (try clear hb2); (try clear hk); (try clear hi)) | ((with_reducible refine gate_builtin (b := .append) (xs := #[.tmp 43, .tmp 45]) rfl ?_); at_builtin; refine Kd.R_append Kd.string (w0 := w) w.heap.size rfl (.tmp 43) (.tmp 45) 63 9 (.string ⟨#[]⟩) 16 rfl Tryd.underlying63 info9 rfl (by decide) (by omega) u4 x4_1 ((((rd_T23 l0 x14_1).f2) ++ (⟨#[47]⟩ : ByteArray)) ++ ((⟨#[118, 100, 109, 108, 110, 115, 120, 103, 98]⟩ : ByteArray).extract ((ji9) : Int).toNat (((rd_T23 l0 x14_1).f0) : Int).toNat)) [.string ((((rd_T23 l0 x14_1).f2) ++ (⟨#[47]⟩ : ByteArray)) ++ ((⟨#[118, 100, 109, 108, 110, 115, 120, 103, 98]⟩ : ByteArray).extract ((ji9) : Int).toNat (((rd_T23 l0 x14_1).f0) : Int).toNat))] (fun _ => True) (fun _ => False) rfl rfl ?aP (fun _ hk => hk.elim) ?aF ?aO ?aB ?aS ?aL ?_; (case aP => exact rfl); (case aB => exact (by repeat (first | (with_reducible first | exact HB.out | apply below_alloc | apply pw_below_drewN | apply below_drew1 | refine below_set ?_ GE209.out) | exact HB.out))); (case aF => exact (fun _ _ => trivial)); (case aO => exact (by (with_reducible repeat (first | apply Kd.R_alloc | apply Kd.R_drewN | apply Kd.R_drew)); exact HO_4.out)); (case aS => exact (below_size (by repeat (first | (with_reducible first | exact HB.out | apply below_alloc | apply pw_below_drewN | apply below_drew1 | refine below_set ?_ GE209.out) | exact HB.out)))); (case aL => have := LMc29.out; omega); intro v216 w35 ho hb hg hat; rw [← Ny215.out] at ho; have n0_ := Aside0.mk (blk_grown (g := gb209) (o := .cells #[.int .i64 ((rd_T23 l0 x14_1).f0), .int .i64 ((rd_T23 l0 x14_1).f1), .string ((rd_T23 l0 x14_1).f2)] 23 (0, 0)) (by (with_reducible repeat (first | refine blk_drewN ?_ _ | refine blk_drew ?_ | refine blk_alloc ?_ _)); exact BK209.out) hg (Kd.R_ne HO_4.out BK209.out (by decide))); have n1_ := Aside0.mk (hb); have n2_ := Aside0.mk (ho); clear BK209; clear HB; clear HO_4; have BK209 := n0_; have HB := n1_; have HO217 := n2_; clear n0_ n1_ n2_; clear ho hb hg hat)))
                              go_roundg k1
                              case measure => have := HK1.out; omega
                              case rel => exact ⟨(y215), (wrap64 (x14_1 + 1)), (by first | rfl | (simp; done) | (simp [*]; done)), H', ⟨by have := HK1.out; omega⟩, ⟨by (with_reducible repeat (first | apply Kd.R_alloc | apply Kd.R_drewN | apply Kd.R_drew)); exact HO217.out⟩, ⟨by repeat (first | (with_reducible first | exact HB.out | apply below_alloc | apply pw_below_drewN | apply below_drew1 | refine below_set ?_ GE209.out) | exact HB.out)⟩⟩
                            · rw [if_neg c29] at H
                              exact absurd H (by simp)
                        · rw [if_neg c13] at H
                          exact absurd H (by simp)
                      · rw [if_neg c12] at H
                        exact absurd H (by simp)
                    · rw [if_neg c11] at H
                      exact absurd H (by simp)
                  · rw [if_neg c10] at H
                    exact absurd H (by simp)
                · rw [if_neg c8] at H
                  exact absurd H (by simp)
              · rw [if_neg c7] at H
                have c7b0 : (t210 == 0) = false := beq_eq_false_iff_ne.mpr c7
                have c7b1 : (t210 != 0) = true := bne_iff_ne.mpr c7
                simp only [Option.some.injEq, Prod.mk.injEq] at H
                obtain ⟨rfl, rfl⟩ := H
                have p208 : 0 ≤ (x14_1 : Int) := of_decide_eq_true (by first | (with_reducible assumption) | assumption)
                have q208 : x14_1 < (l0.length : Int) := of_decide_eq_true (by first | (with_reducible assumption) | assumption)
                obtain ⟨ad208, e208, hx208_0, hx208_1, hx208_2⟩ := at_T23 HR0.out x14_1 p208 q208
                cases e208
                replace hx208_0 := (HB.out.cell (World.block_lt_of_cell? w _ hx208_0)).trans hx208_0
                replace hx208_1 := (HB.out.cell (World.block_lt_of_cell? w _ hx208_1)).trans hx208_1
                replace hx208_2 := (HB.out.cell (World.block_lt_of_cell? w _ hx208_2)).trans hx208_2
                replace p208 := eq_true p208
                replace q208 := eq_true q208
                go_wp2_with (first | ((with_reducible refine gate_dst (N := 6) rfl ?_); refine box_event ?hg (N := 6) ?hd (cs := #[.int .i64 0, .int .i64 0, .string (⟨#[]⟩ : ByteArray)]) (t := 23) ?hr ?_; (case hd => rfl); (case hg => rfl); (case hr => first | (go_simp; done) | (go_simp; rfl)); intro gb209 hg w36 hbox hb; have n0_ := Aside0.mk (Kd.R_below (by (with_reducible repeat (first | apply Kd.R_alloc | apply Kd.R_drewN | apply Kd.R_drew)); exact HO_4.out) hb); have n1_ := Aside0.mk (below_step (by repeat (first | (with_reducible first | exact HB.out | apply below_alloc | apply pw_below_drewN | apply below_drew1) | exact HB.out)) hb); have n2_ := Aside0.mk (hbox); have n3_ := Aside0.mk ((by rw [hg]; exact (below_size (by repeat (first | (with_reducible first | exact HB.out | apply below_alloc | apply pw_below_drewN | apply below_drew1) | exact HB.out))) : w.heap.size ≤ gb209)); have n4_ := Aside0.mk ((by rw [hg]; exact (below_size (by repeat (first | (with_reducible first | exact HB.out | apply below_alloc | apply pw_below_drewN | apply below_drew1) | exact HB.out))) : w.heap.size ≤ gb209)); clear HO_4; clear HB; have HO_4 := n0_; have HB := n1_; have BK209 := n2_; have GW209 := n3_; have GE209 := n4_; clear n0_ n1_ n2_ n3_ n4_; clear hb hbox hg; have hcz37_0 : w36.cell? ⟨gb209, 0, none⟩ = some (.int .i64 0) := (blk_cell BK209.out 0).trans rfl; have hcz37_1 : w36.cell? ⟨gb209, 1, none⟩ = some (.int .i64 0) := (blk_cell BK209.out 1).trans rfl; have hcz37_2 : w36.cell? ⟨gb209, 2, none⟩ = some (.string (⟨#[]⟩ : ByteArray)) := (blk_cell BK209.out 2).trans rfl; have hfz37_0 := blk_frozen BK209.out 0; have hfz37_1 := blk_frozen BK209.out 1; have hfz37_2 := blk_frozen BK209.out 2) | (go_at_call 13; (with_reducible refine (sound_Valid.calls k1 ((rd_T23 l0 x14_1).f0) ((rd_T23 l0 x14_1).f1) ((rd_T23 l0 x14_1).f2) t210 _ A6.out).mono ?_); rintro e w38 ⟨rfl, hb⟩; have n0_ := Aside0.mk (Kd.R_below (by (with_reducible repeat (first | apply Kd.R_alloc | apply Kd.R_drewN | apply Kd.R_drew)); exact (Kd.R_mono (Kd.R_far (p := ⟨gb209, 2, none⟩) (Kd.R_far (p := ⟨gb209, 1, none⟩) (Kd.R_far (p := ⟨gb209, 0, none⟩) (Kd.R_types HO_4.out BK209.out (by decide)) (fun _ hk => hk.2) (.int .i64 ((rd_T23 l0 x14_1).f0))) (fun _ hk => hk.2) (.int .i64 ((rd_T23 l0 x14_1).f1))) (fun _ hk => hk.2) (.string ((rd_T23 l0 x14_1).f2))) (fun _ h_ => h_.1))) hb); have n1_ := Aside0.mk (blk_below (g := gb209) (o := .cells #[.int .i64 ((rd_T23 l0 x14_1).f0), .int .i64 ((rd_T23 l0 x14_1).f1), .string ((rd_T23 l0 x14_1).f2)] 23 (0, 0)) (by (with_reducible repeat (first | refine blk_drewN ?_ _ | refine blk_drew ?_ | refine blk_alloc ?_ _)); refine blk_put (cs := #[.int .i64 ((rd_T23 l0 x14_1).f0), .int .i64 ((rd_T23 l0 x14_1).f1), .string (⟨#[]⟩ : ByteArray)]) ?_ 2 _ rfl; (with_reducible repeat (first | refine blk_drewN ?_ _ | refine blk_drew ?_ | refine blk_alloc ?_ _)); refine blk_put (cs := #[.int .i64 ((rd_T23 l0 x14_1).f0), .int .i64 0, .string (⟨#[]⟩ : ByteArray)]) ?_ 1 _ rfl; (with_reducible repeat (first | refine blk_drewN ?_ _ | refine blk_drew ?_ | refine blk_alloc ?_ _)); refine blk_put (cs := #[.int .i64 0, .int .i64 0, .string (⟨#[]⟩ : ByteArray)]) ?_ 0 _ rfl; (with_reducible repeat (first | refine blk_drewN ?_ _ | refine blk_drew ?_ | refine blk_alloc ?_ _)); exact BK209.out) hb); have n2_ := Aside0.mk (below_step (by repeat (first | (with_reducible first | exact HB.out | apply below_alloc | apply pw_below_drewN | apply below_drew1 | refine below_set ?_ GE209.out) | exact HB.out)) hb); clear HO_4; clear BK209; clear HB; have HO_4 := n0_; have BK209 := n1_; have HB := n2_; clear n0_ n1_ n2_; (try clear hb); (try clear hb2); (try clear hk); (try clear hi)))
                repeat (go_quiet (first | ((with_reducible refine gate_dst (N := 6) rfl ?_); refine box_event ?hg (N := 6) ?hd (cs := #[.int .i64 0, .int .i64 0, .string (⟨#[]⟩ : ByteArray)]) (t := 23) ?hr ?_; (case hd => rfl); (case hg => rfl); (case hr => first | (go_simp; done) | (go_simp; rfl)); intro gb209 hg w36 hbox hb; have n0_ := Aside0.mk (Kd.R_below (by (with_reducible repeat (first | apply Kd.R_alloc | apply Kd.R_drewN | apply Kd.R_drew)); exact HO_4.out) hb); have n1_ := Aside0.mk (below_step (by repeat (first | (with_reducible first | exact HB.out | apply below_alloc | apply pw_below_drewN | apply below_drew1) | exact HB.out)) hb); have n2_ := Aside0.mk (hbox); have n3_ := Aside0.mk ((by rw [hg]; exact (below_size (by repeat (first | (with_reducible first | exact HB.out | apply below_alloc | apply pw_below_drewN | apply below_drew1) | exact HB.out))) : w.heap.size ≤ gb209)); have n4_ := Aside0.mk ((by rw [hg]; exact (below_size (by repeat (first | (with_reducible first | exact HB.out | apply below_alloc | apply pw_below_drewN | apply below_drew1) | exact HB.out))) : w.heap.size ≤ gb209)); clear HO_4; clear HB; have HO_4 := n0_; have HB := n1_; have BK209 := n2_; have GW209 := n3_; have GE209 := n4_; clear n0_ n1_ n2_ n3_ n4_; clear hb hbox hg; have hcz37_0 : w36.cell? ⟨gb209, 0, none⟩ = some (.int .i64 0) := (blk_cell BK209.out 0).trans rfl; have hcz37_1 : w36.cell? ⟨gb209, 1, none⟩ = some (.int .i64 0) := (blk_cell BK209.out 1).trans rfl; have hcz37_2 : w36.cell? ⟨gb209, 2, none⟩ = some (.string (⟨#[]⟩ : ByteArray)) := (blk_cell BK209.out 2).trans rfl; have hfz37_0 := blk_frozen BK209.out 0; have hfz37_1 := blk_frozen BK209.out 1; have hfz37_2 := blk_frozen BK209.out 2) | (go_at_call 13; (with_reducible refine (sound_Valid.calls k1 ((rd_T23 l0 x14_1).f0) ((rd_T23 l0 x14_1).f1) ((rd_T23 l0 x14_1).f2) t210 _ A6.out).mono ?_); (try clear A6); rintro e w38 ⟨rfl, hb⟩; have n0_ := Aside0.mk (Kd.R_below (by (with_reducible repeat (first | apply Kd.R_alloc | apply Kd.R_drewN | apply Kd.R_drew)); exact (Kd.R_mono (Kd.R_far (p := ⟨gb209, 2, none⟩) (Kd.R_far (p := ⟨gb209, 1, none⟩) (Kd.R_far (p := ⟨gb209, 0, none⟩) (Kd.R_types HO_4.out BK209.out (by decide)) (fun _ hk => hk.2) (.int .i64 ((rd_T23 l0 x14_1).f0))) (fun _ hk => hk.2) (.int .i64 ((rd_T23 l0 x14_1).f1))) (fun _ hk => hk.2) (.string ((rd_T23 l0 x14_1).f2))) (fun _ h_ => h_.1))) hb); have n1_ := Aside0.mk (blk_below (g := gb209) (o := .cells #[.int .i64 ((rd_T23 l0 x14_1).f0), .int .i64 ((rd_T23 l0 x14_1).f1), .string ((rd_T23 l0 x14_1).f2)] 23 (0, 0)) (by (with_reducible repeat (first | refine blk_drewN ?_ _ | refine blk_drew ?_ | refine blk_alloc ?_ _)); refine blk_put (cs := #[.int .i64 ((rd_T23 l0 x14_1).f0), .int .i64 ((rd_T23 l0 x14_1).f1), .string (⟨#[]⟩ : ByteArray)]) ?_ 2 _ rfl; (with_reducible repeat (first | refine blk_drewN ?_ _ | refine blk_drew ?_ | refine blk_alloc ?_ _)); refine blk_put (cs := #[.int .i64 ((rd_T23 l0 x14_1).f0), .int .i64 0, .string (⟨#[]⟩ : ByteArray)]) ?_ 1 _ rfl; (with_reducible repeat (first | refine blk_drewN ?_ _ | refine blk_drew ?_ | refine blk_alloc ?_ _)); refine blk_put (cs := #[.int .i64 0, .int .i64 0, .string (⟨#[]⟩ : ByteArray)]) ?_ 0 _ rfl; (with_reducible repeat (first | refine blk_drewN ?_ _ | refine blk_drew ?_ | refine blk_alloc ?_ _)); exact BK209.out) hb); have n2_ := Aside0.mk (below_step (by repeat (first | (with_reducible first | exact HB.out | apply below_alloc | apply pw_below_drewN | apply below_drew1 | refine below_set ?_ GE209.out) | exact HB.out)) hb); clear HO_4; clear BK209; clear HB; have HO_4 := n0_; have BK209 := n1_; have HB := n2_; clear n0_ n1_ n2_; (try clear hb); (try clear hb2); (try clear hk); (try clear hi))); try go_wp2_with (first | ((with_reducible refine gate_dst (N := 6) rfl ?_); refine box_event ?hg (N := 6) ?hd (cs := #[.int .i64 0, .int .i64 0, .string (⟨#[]⟩ : ByteArray)]) (t := 23) ?hr ?_; (case hd => rfl); (case hg => rfl); (case hr => first | (go_simp; done) | (go_simp; rfl)); intro gb209 hg w36 hbox hb; have n0_ := Aside0.mk (Kd.R_below (by (with_reducible repeat (first | apply Kd.R_alloc | apply Kd.R_drewN | apply Kd.R_drew)); exact HO_4.out) hb); have n1_ := Aside0.mk (below_step (by repeat (first | (with_reducible first | exact HB.out | apply below_alloc | apply pw_below_drewN | apply below_drew1) | exact HB.out)) hb); have n2_ := Aside0.mk (hbox); have n3_ := Aside0.mk ((by rw [hg]; exact (below_size (by repeat (first | (with_reducible first | exact HB.out | apply below_alloc | apply pw_below_drewN | apply below_drew1) | exact HB.out))) : w.heap.size ≤ gb209)); have n4_ := Aside0.mk ((by rw [hg]; exact (below_size (by repeat (first | (with_reducible first | exact HB.out | apply below_alloc | apply pw_below_drewN | apply below_drew1) | exact HB.out))) : w.heap.size ≤ gb209)); clear HO_4; clear HB; have HO_4 := n0_; have HB := n1_; have BK209 := n2_; have GW209 := n3_; have GE209 := n4_; clear n0_ n1_ n2_ n3_ n4_; clear hb hbox hg; have hcz37_0 : w36.cell? ⟨gb209, 0, none⟩ = some (.int .i64 0) := (blk_cell BK209.out 0).trans rfl; have hcz37_1 : w36.cell? ⟨gb209, 1, none⟩ = some (.int .i64 0) := (blk_cell BK209.out 1).trans rfl; have hcz37_2 : w36.cell? ⟨gb209, 2, none⟩ = some (.string (⟨#[]⟩ : ByteArray)) := (blk_cell BK209.out 2).trans rfl; have hfz37_0 := blk_frozen BK209.out 0; have hfz37_1 := blk_frozen BK209.out 1; have hfz37_2 := blk_frozen BK209.out 2) | (go_at_call 13; (with_reducible refine (sound_Valid.calls k1 ((rd_T23 l0 x14_1).f0) ((rd_T23 l0 x14_1).f1) ((rd_T23 l0 x14_1).f2) t210 _ A6.out).mono ?_); (try clear A6); rintro e w38 ⟨rfl, hb⟩; have n0_ := Aside0.mk (Kd.R_below (by (with_reducible repeat (first | apply Kd.R_alloc | apply Kd.R_drewN | apply Kd.R_drew)); exact (Kd.R_mono (Kd.R_far (p := ⟨gb209, 2, none⟩) (Kd.R_far (p := ⟨gb209, 1, none⟩) (Kd.R_far (p := ⟨gb209, 0, none⟩) (Kd.R_types HO_4.out BK209.out (by decide)) (fun _ hk => hk.2) (.int .i64 ((rd_T23 l0 x14_1).f0))) (fun _ hk => hk.2) (.int .i64 ((rd_T23 l0 x14_1).f1))) (fun _ hk => hk.2) (.string ((rd_T23 l0 x14_1).f2))) (fun _ h_ => h_.1))) hb); have n1_ := Aside0.mk (blk_below (g := gb209) (o := .cells #[.int .i64 ((rd_T23 l0 x14_1).f0), .int .i64 ((rd_T23 l0 x14_1).f1), .string ((rd_T23 l0 x14_1).f2)] 23 (0, 0)) (by (with_reducible repeat (first | refine blk_drewN ?_ _ | refine blk_drew ?_ | refine blk_alloc ?_ _)); refine blk_put (cs := #[.int .i64 ((rd_T23 l0 x14_1).f0), .int .i64 ((rd_T23 l0 x14_1).f1), .string (⟨#[]⟩ : ByteArray)]) ?_ 2 _ rfl; (with_reducible repeat (first | refine blk_drewN ?_ _ | refine blk_drew ?_ | refine blk_alloc ?_ _)); refine blk_put (cs := #[.int .i64 ((rd_T23 l0 x14_1).f0), .int .i64 0, .string (⟨#[]⟩ : ByteArray)]) ?_ 1 _ rfl; (with_reducible repeat (first | refine blk_drewN ?_ _ | refine blk_drew ?_ | refine blk_alloc ?_ _)); refine blk_put (cs := #[.int .i64 0, .int .i64 0, .string (⟨#[]⟩ : ByteArray)]) ?_ 0 _ rfl; (with_reducible repeat (first | refine blk_drewN ?_ _ | refine blk_drew ?_ | refine blk_alloc ?_ _)); exact BK209.out) hb); have n2_ := Aside0.mk (below_step (by repeat (first | (with_reducible first | exact HB.out | apply below_alloc | apply pw_below_drewN | apply below_drew1 | refine below_set ?_ GE209.out) | exact HB.out)) hb); clear HO_4; clear BK209; clear HB; have HO_4 := n0_; have BK209 := n1_; have HB := n2_; clear n0_ n1_ n2_; (try clear hb); (try clear hb2); (try clear hk); (try clear hi))))
                go_ret2
                exact ⟨by first | rfl | (simp [errW_none, errW_some] <;> rfl) | (simp [*, errW_none, errW_some] <;> rfl), by repeat (first | (with_reducible first | exact HB.out | apply below_alloc | apply pw_below_drewN | apply below_drew1 | refine below_set ?_ GE209.out) | exact HB.out)⟩
            · rw [if_neg c5] at H
              exact absurd H (by simp)
          · rw [if_neg c4] at H
            exact absurd H (by simp)
        · rw [if_neg c3] at H
          have c3b0 : decide (x14_1 < (l0.length : Int)) = false := decide_eq_false c3
          clear c3
          replace H := Option.bind_eq_some_iff.mp H
          obtain ⟨t207, A390, H⟩ := H
          replace H : (some (t207, 0)) = some (r1, r2) := H
          have A39 := Aside0.mk A390
          clear A390
          simp only [Option.some.injEq, Prod.mk.injEq] at H
          obtain ⟨rfl, rfl⟩ := H
          obtain ⟨Ao40, co40, eo40⟩ := Kd.R_slice HO_4.out
          subst eo40
          go_wp2_with (first | (go_at_call 51; (with_reducible refine (strings_Join.calls _ _ x4_1 (⟨#[32]⟩ : ByteArray) t207 _ ?side1 ?side2 A39.out).mono ?_); (case side1 => repeat (first | exact (Kd.R_reads' HO_4.out).2.2 | (with_reducible refine Kd.C_alloc ?_ _) | (with_reducible refine Kd.C_drewN ?_ _) | (with_reducible refine Kd.C_drew ?_))); (case side2 => exact (Kd.R_reads' HO_4.out).2.1); rintro e w41 ⟨rfl, hb⟩; have n0_ := Aside0.mk (Kd.R_below (by (with_reducible repeat (first | apply Kd.R_alloc | apply Kd.R_drewN | apply Kd.R_drew)); exact HO_4.out) hb); have n1_ := Aside0.mk (below_step (by repeat (first | (with_reducible first | exact HB.out | apply below_alloc | apply pw_below_drewN | apply below_drew1) | exact HB.out)) hb); clear HO_4; clear HB; have HO_4 := n0_; have HB := n1_; clear n0_ n1_; (try clear hb); (try clear hb2); (try clear hk); (try clear hi)))
          repeat (go_quiet (first | (go_at_call 51; (with_reducible refine (strings_Join.calls _ _ x4_1 (⟨#[32]⟩ : ByteArray) t207 _ ?side1 ?side2 A39.out).mono ?_); (case side1 => repeat (first | exact (Kd.R_reads' HO_4.out).2.2 | (with_reducible refine Kd.C_alloc ?_ _) | (with_reducible refine Kd.C_drewN ?_ _) | (with_reducible refine Kd.C_drew ?_))); (case side2 => exact (Kd.R_reads' HO_4.out).2.1); (try clear A39); rintro e w41 ⟨rfl, hb⟩; have n0_ := Aside0.mk (Kd.R_below (by (with_reducible repeat (first | apply Kd.R_alloc | apply Kd.R_drewN | apply Kd.R_drew)); exact HO_4.out) hb); have n1_ := Aside0.mk (below_step (by repeat (first | (with_reducible first | exact HB.out | apply below_alloc | apply pw_below_drewN | apply below_drew1) | exact HB.out)) hb); clear HO_4; clear HB; have HO_4 := n0_; have HB := n1_; clear n0_ n1_; (try clear hb); (try clear hb2); (try clear hk); (try clear hi))); try go_wp2_with (first | (go_at_call 51; (with_reducible refine (strings_Join.calls _ _ x4_1 (⟨#[32]⟩ : ByteArray) t207 _ ?side1 ?side2 A39.out).mono ?_); (case side1 => repeat (first | exact (Kd.R_reads' HO_4.out).2.2 | (with_reducible refine Kd.C_alloc ?_ _) | (with_reducible refine Kd.C_drewN ?_ _) | (with_reducible refine Kd.C_drew ?_))); (case side2 => exact (Kd.R_reads' HO_4.out).2.1); (try clear A39); rintro e w41 ⟨rfl, hb⟩; have n0_ := Aside0.mk (Kd.R_below (by (with_reducible repeat (first | apply Kd.R_alloc | apply Kd.R_drewN | apply Kd.R_drew)); exact HO_4.out) hb); have n1_ := Aside0.mk (below_step (by repeat (first | (with_reducible first | exact HB.out | apply below_alloc | apply pw_below_drewN | apply below_drew1) | exact HB.out)) hb); clear HO_4; clear HB; have HO_4 := n0_; have HB := n1_; clear n0_ n1_; (try clear hb); (try clear hb2); (try clear hk); (try clear hi))))
          go_ret2
          exact ⟨by first | rfl | (simp [errW_none, errW_some] <;> rfl) | (simp [*, errW_none, errW_some] <;> rfl), by repeat (first | (with_reducible first | exact HB.out | apply below_alloc | apply pw_below_drewN | apply below_drew1) | exact HB.out)⟩

-- NOT PRINTED: function 53 (api_Sound_53)

/-! ### api_Sound_34: function 34 -/
-- slices.Grow of the nil slice
set_option maxRecDepth 100000 in
theorem api_Sound_34.grow (m : Nat) (hm : m ≤ 1000000) (w0 w : World) (hB : Below w0.heap.size w0 w) :
    Calls Tryd.prog 53 #[.slice none 0 0, .int .i64 m] w fun e w' => ∃ v, e = .returned v ∧ Kd.R k23 23 w' w0.heap.size (fun _ => True) v [] ∧ Below w0.heap.size w0 w' := by
  have HB := Lib.hid hB; have HM := Lib.hid hm
  clear hB
  rcases Nat.eq_zero_or_pos m with h0 | h0
  · subst h0
    go_enter Tryd.func53, Tryd.ntmps53
    go_wp2_with (fail)
    go_ret
    exact ⟨_, rfl, Kd.R_nil _ _ _ _ _, HB.out⟩
  · have b0 : decide (0 < (m : Int)) = true := decide_eq_true (by omega)
    have b1 : decide (0 < m) = true := decide_eq_true h0
    have b2 : decide ((m : Int) < 0) = false := decide_eq_false (by omega)
    have hw : wrap64 (m : Int) = (m : Int) := by unfold wrap64; omega
    have hw2 : IntKind.i64.wrap (m : Int) = (m : Int) := (i64_w _).trans hw
    clear hw
    obtain ⟨i9, hi9, _, hs9, _⟩ := info_parts info23
    have hcut0 := cut_to (P := Tryd.prog) 26 23 .i64 Tryd.underlying26 hi9 none 0 0 0 (by decide) (by decide) (by decide)
    go_enter Tryd.func53, Tryd.ntmps53
    go_wp2_with (first | ((with_reducible refine gate_builtin (b := .append) (xs := #[.tmp 20, .tmp 21]) rfl ?_); at_builtin; refine Kd.R_append_zeros k23 (w0 := w0) w0.heap.size rfl (.tmp 20) (.tmp 21) 26 3 23 (.agg #[.int .i64 0, .int .i64 0, .string ⟨#[]⟩]) 32 rfl Tryd.underlying26 Tryd.underlying3 info23 rfl (by decide) (by omega) (.slice none 0 0) [] (⟨0, 0, ⟨#[]⟩⟩ : S23) (m : Int) (fun _ => True) rfl rfl (k23_mkM _ _ _ (⟨0, 0, ⟨#[]⟩⟩ : S23)) (fun _ _ => trivial) (Kd.R_nil _ _ _ _ _) (by omega) HB.out HB.out.size (by rw [Int.toNat_natCast]; have := HM.out; simp only [List.length_nil]; omega) ?_; intro v1 w1 hr hb hg hat; obtain ⟨A1, c1, rfl⟩ := Kd.R_slice hr; have hl := (Kd.R_reads' hr).2.1; have R1 := Lib.hid (Kd.R_take (m := 0) hr (Nat.zero_le _)); have B1 := Lib.hid hb; have hcut1 := cut_to (P := Tryd.prog) 26 23 .i64 Tryd.underlying26 hi9 A1 _ c1 0 (by decide) (by omega) hl; clear hr hb hg hat hl))
    go_ret
    exact ⟨_, rfl, R1.out, B1.out⟩
def api_Sound_34.f (l0 : List (List S23)) : Option (List S23) := if l0.flatten.length ≤ 1000000 ∧ l0.length ≤ 1000000 then some l0.flatten else none
theorem api_Sound_34.part (L : List (List S23)) (i : Nat) (h : i < L.length) : (L.take (i + 1)).flatten = (L.take i).flatten ++ L.getD i [] := by
  rw [List.take_add_one, List.getElem?_eq_getElem h, List.flatten_append, List.getD_eq_getElem?_getD, List.getElem?_eq_getElem h]
  simp
theorem api_Sound_34.part_le (L : List (List S23)) (i : Nat) : (L.take i).flatten.length ≤ L.flatten.length := by
  have : L.flatten = (L.take i).flatten ++ (L.drop i).flatten := by rw [← List.flatten_append, List.take_append_drop]
  rw [this, List.length_append]; omega
set_option maxHeartbeats 4000000 in
set_option maxRecDepth 100000 in
theorem api_Sound_34.calls (A0 : Option Addr) (c0 : Nat) (l0 : List (List S23)) (r : List S23) (w : World) (hr0 : Kd.C (Kd.slice 23 k23) w A0 l0.length l0) (hc0 : l0.length ≤ c0) (h : api_Sound_34.f l0 = some r) :
    Calls Tryd.prog 34 #[.slice A0 l0.length c0] w fun e w' => ∃ v0_ : Value, e = .returned (v0_) ∧ Kd.R k23 23 w' w.heap.size (fun _ => True) v0_ r ∧ Below w.heap.size w w' := by
  unfold api_Sound_34.f at h
  by_cases h1 : l0.flatten.length ≤ 1000000 ∧ l0.length ≤ 1000000
  · rw [if_pos h1] at h
    obtain rfl := Option.some.inj h
    have HR := Lib.hid hr0; have HC := Lib.hid hc0; have HT := Lib.hid h1.1; have HL := Lib.hid h1.2
    clear h hr0 hc0 h1
    have HB := Lib.hid (Below.refl w.heap.size w)
    go_enter Tryd.func34, Tryd.ntmps34
    go_wp2_with (fail)
    go_loopg [3, 11] l0.length (fun kq v3 v11 wr => ∃ (j : Nat), v3 = .int .i64 ((l0.take j).flatten.length : Nat) ∧ v11 = .int .i64 j ∧ Hid (j + kq = l0.length) ∧ Hid (Below w.heap.size w wr))
    case atStart => exact ⟨0, (by simp), rfl, Lib.hid (by omega), HB⟩
    case round =>
      clear HB
      obtain ⟨j, rfl, rfl, HJ, HB⟩ := hrel
      cases gk with
      | succ k1 =>
        have c1 : j < l0.length := by have := HJ.out; omega
        have b1 : decide ((j : Int) < (l0.length : Int)) = true := decide_eq_true (by omega)
        have b1' : decide (j < l0.length) = true := decide_eq_true c1
        have hp := api_Sound_34.part l0 j c1
        have hple := api_Sound_34.part_le l0 (j + 1)
        have hsum : ((l0.take (j + 1)).flatten.length : Int) = ((l0.take j).flatten.length : Int) + ((l0.getD j []).length : Int) := by rw [hp, List.length_append]; omega
        have HS := Lib.hid hsum; have HPL := Lib.hid hple
        obtain ⟨ad, ce, rfl, hcl, hK, hcc⟩ := Kd.C_get (Kd.C_below HR.out HB.out) ([] : List S23) (j : Int) (by omega) (by omega)
        obtain ⟨Aj, cj, rfl, hlj, hCj⟩ := hK
        have hx0 := hcc 0 _ rfl
        rw [show (Kd.slice 23 k23).sz = 1 from rfl, Nat.mul_one, Nat.add_zero, Int.toNat_natCast] at hx0
        rw [Int.toNat_natCast] at hCj
        have q0 : (0 ≤ (j : Int)) = True := eq_true (by omega)
        have q1 : ((j : Int) < (l0.length : Int)) = True := eq_true (by omega)
        have q2 : (j < l0.length) = True := eq_true c1
        clear hp hple hsum hcc hcl hlj hCj
        generalize hg : l0.getD j [] = lj at hx0 HS
        generalize hT : ((l0.take j).flatten.length : Nat) = T at HS ⊢
        have hw : wrap64 ((T : Int) + (lj.length : Int)) = (((l0.take (j + 1)).flatten.length : Nat) : Int) := by have := HS.out; have := HPL.out; have := HT.out; unfold wrap64; omega
        have hw2 : IntKind.i64.wrap ((T : Int) + (lj.length : Int)) = (((l0.take (j + 1)).flatten.length : Nat) : Int) := (i64_w _).trans hw
        have hn : decide ((((l0.take (j + 1)).flatten.length : Nat) : Int) < 0) = false := decide_eq_false (by omega)
        have hj1 : wrap64 ((j : Int) + 1) = (j : Int) + 1 := by have := HL.out; unfold wrap64; omega
        have hj2 : IntKind.i64.wrap ((j : Int) + 1) = (j : Int) + 1 := (i64_w _).trans hj1
        clear hw hj1 hg hT
        obtain ⟨T1, hT1⟩ : ∃ T1 : Nat, (l0.take (j + 1)).flatten.length = T1 := ⟨_, rfl⟩
        rw [hT1] at hw2 hn
        have HT1 := Lib.hid hT1
        clear hT1
        go_wp2_with (fail)
        go_roundg k1
        case measure => omega
        case rel => exact ⟨j + 1, by rw [HT1.out], rfl, Lib.hid (by have := HJ.out; omega), HB⟩
      | zero =>
        obtain rfl : j = l0.length := by have := HJ.out; omega
        have b1 : decide ((l0.length : Int) < (l0.length : Int)) = false := decide_eq_false (by omega)
        have b1' : decide (l0.length < l0.length) = false := decide_eq_false (by omega)
        rw [List.take_length]
        clear HJ
        obtain ⟨T, hT0⟩ : ∃ T : Nat, l0.flatten.length = T := ⟨_, rfl⟩
        have HT0 := Lib.hid hT0
        rw [hT0]
        have HT2 := Lib.hid (show T ≤ 1000000 from hT0 ▸ HT.out)
        clear hT0
        go_wp2_with (fail)
        refine (api_Sound_34.grow T HT2.out w _ HB.out).mono ?_
        rintro e w2 ⟨v, rfl, hv, hb⟩
        have HV := Lib.hid hv; have B2 := Lib.hid hb
        clear hv hb HB
        go_wp2_with (fail)
        go_loopg [6, 27] l0.length (fun kq v6 v27 wr => ∃ (j : Nat), v27 = .int .i64 j ∧ Hid (j + kq = l0.length) ∧ Hid (Kd.R k23 23 wr w.heap.size (fun _ => True) v6 (l0.take j).flatten) ∧ Hid (Below w.heap.size w wr))
        case atStart => exact ⟨0, rfl, Lib.hid (by omega), HV, B2⟩
        case round =>
          clear B2 HV b1 b1'
          obtain ⟨j, rfl, HJ, HV, HB⟩ := hrel
          cases gk with
          | succ k1 =>
            have c1 : j < l0.length := by have := HJ.out; omega
            have b1 : decide ((j : Int) < (l0.length : Int)) = true := decide_eq_true (by omega)
            have b1' : decide (j < l0.length) = true := decide_eq_true c1
            have hp := api_Sound_34.part l0 j c1
            have HPL := Lib.hid (api_Sound_34.part_le l0 (j + 1))
            obtain ⟨ad, ce, rfl, hcl, hK, hcc⟩ := Kd.C_get (Kd.C_below HR.out HB.out) ([] : List S23) (j : Int) (by omega) (by omega)
            obtain ⟨Aj, cj, rfl, hlj, hCj⟩ := hK
            have hx0 := hcc 0 _ rfl
            rw [show (Kd.slice 23 k23).sz = 1 from rfl, Nat.mul_one, Nat.add_zero, Int.toNat_natCast] at hx0
            rw [Int.toNat_natCast] at hCj
            have q0 : (0 ≤ (j : Int)) = True := eq_true (by omega)
            have q1 : ((j : Int) < (l0.length : Int)) = True := eq_true (by omega)
            have q2 : (j < l0.length) = True := eq_true c1
            have hj1 : wrap64 ((j : Int) + 1) = (j : Int) + 1 := by have := HL.out; unfold wrap64; omega
            have hj2 : IntKind.i64.wrap ((j : Int) + 1) = (j : Int) + 1 := (i64_w _).trans hj1
            have HC2 := Lib.hid hCj; have HP := Lib.hid hp
            clear hcc hcl hlj hj1 hCj hp
            generalize l0.getD j [] = lj at hx0 HC2 HP
            generalize (l0.take j).flatten = fl at HV HP
            obtain ⟨A6, c6, rfl⟩ := Kd.R_slice HV.out
            go_wp2_with (first | ((with_reducible refine gate_builtin (b := .append) (xs := #[.tmp 31, .tmp 32]) rfl ?_); at_builtin; refine Kd.R_append_rows k23 (w0 := w) w.heap.size rfl (.tmp 31) (.tmp 32) 26 23 (.agg #[.int .i64 0, .int .i64 0, .string ⟨#[]⟩]) 32 rfl Tryd.underlying26 info23 rfl (by decide) (by omega) _ fl lj Aj _ cj (fun _ => True) (fun _ => False) rfl rfl HV.out HC2.out (fun _ _ h => h) (fun _ h => h.elim) (fun _ _ => trivial) HB.out HB.out.size (by have h1 := HPL.out; have h2 := HT.out; rw [HP.out, List.length_append] at h1; omega) ?_; intro v1 w1 hr hb hg hat; have R1 := Lib.hid hr; have B1 := Lib.hid hb; clear hr hb hg hat))
            go_roundg k1
            case measure => omega
            case rel => exact ⟨j + 1, rfl, Lib.hid (by have := HJ.out; omega), Lib.hid (by rw [HP.out]; exact R1.out), B1⟩
          | zero =>
            obtain rfl : j = l0.length := by have := HJ.out; omega
            have b1 : decide ((l0.length : Int) < (l0.length : Int)) = false := decide_eq_false (by omega)
            have b1' : decide (l0.length < l0.length) = false := decide_eq_false (by omega)
            have hv := HV.out
            rw [List.take_length] at hv
            have HV2 := Lib.hid hv
            clear hv
            go_wp2_with (fail)
            go_ret
            exact ⟨_, rfl, HV2.out, HB.out⟩
  · rw [if_neg h1] at h; cases h

-- NOT PRINTED: function 54 (api_Sound_54)

end Go.Proofs.YtnjiniegpjfemaaDoor.X
