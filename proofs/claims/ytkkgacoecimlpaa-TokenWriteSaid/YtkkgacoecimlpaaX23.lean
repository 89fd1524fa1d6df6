-- printed by this session's xprint.py: out of the translation, by the kit's print with additions; Lean checks it
import Derived.Test.YtkkgacoecimlpaaWN
import Derived.Test.YtkkgacoecimlpaaWShare
import Derived.Test.YtkkgacoecimlpaaWRepsOne
import Derived.Test.YtkkgacoecimlpaaX0
import Derived.Test.YtkkgacoecimlpaaX6
import Derived.Test.YtkkgacoecimlpaaX12
import Derived.Test.YtkkgacoecimlpaaX20
namespace Go.Proofs.Ytkkgacoecimlpaa.X
open Go.RowKit Go.Proofs.YtkkgacoecimlpaaW.PrintWords Go.Proofs.YtkkgacoecimlpaaW.PrintLast Go.Proofs.YtkkgacoecimlpaaW.PrintMore
attribute [local go_sem] max2_int min2_int max_two min_two max_three min_three max_four min_four isSome_setCell   -- for this text's walks alone
set_option linter.unusedVariables false
set_option linter.unusedSimpArgs false

/-! ### ancepsref05_Right: function 44 -/
def ancepsref05_Right.f (k : Nat) (a0_0 : Int) (a0_1 : ByteArray) (a0_2 : Int) : Option (Bool) := if a0_0 = 1 then ((ancepsref05_IsName.f k a0_1).bind fun t271 => (some t271)) else (if a0_0 = 2 then ((ancepsref05_Number.f k a0_1).bind fun bt272 => (some bt272.2)) else (if a0_0 = 3 then ((ancepsref05_Quote.f k a0_1).bind fun bt274 => (some (bt274.2 == 0))) else (if a0_0 = 4 then (if (a0_1.size : Int) = 1 then (if 0 < (a0_1.size : Int) then ((ancepsref05_sign.f k (bt a0_1 0)).bind fun t276 => (some t276)) else (none)) else (some false)) else (some false))))
theorem ancepsref05_Right.mono : ∀ a0 a1 a2 k, LeO (ancepsref05_Right.f k a0 a1 a2) (ancepsref05_Right.f (k + 1) a0 a1 a2) := by
  intro a0 a1 a2 k
  unfold ancepsref05_Right.f
  repeat' first
      | (with_reducible exact ancepsref05_IsName.mono _ _)
      | (with_reducible exact ancepsref05_Number.mono _ _)
      | (with_reducible exact ancepsref05_Quote.mono _ _)
      | (with_reducible exact ancepsref05_sign.mono _ _)
      | (with_reducible exact LeO.refl _)
      | (with_reducible exact LeO.none _)
      | (with_reducible refine LeO.ite ?_ ?_)
      | (with_reducible refine LeO.bind ?_ (fun _ => ?_))
      | exact ancepsref05_IsName.mono _ _
      | exact ancepsref05_Number.mono _ _
      | exact ancepsref05_Quote.mono _ _
      | exact ancepsref05_sign.mono _ _
      | exact LeO.none _
      | refine LeO.ite ?_ ?_
      | refine LeO.bind ?_ (fun _ => ?_)
set_option maxHeartbeats 8000000 in
set_option maxRecDepth 100000 in
theorem ancepsref05_Right.calls (k : Nat) (a0_0 : Int) (a0_1 : ByteArray) (a0_2 : Int) (r : Bool) (w : World) (h : ancepsref05_Right.f k a0_0 a0_1 a0_2 = some r) :
    Calls Try.prog 44 #[.agg #[.int .i64 a0_0, .string a0_1, .int .i64 a0_2]] w fun e w' => e = .returned (.bool r) ∧ Below w.heap.size w w' := by
  have hu31 := Try.underlying31
  have HB := Aside0.mk (Below.refl w.heap.size w)
  have H : (if a0_0 = 1 then ((ancepsref05_IsName.f k a0_1).bind fun t271 => (some t271)) else (if a0_0 = 2 then ((ancepsref05_Number.f k a0_1).bind fun bt272 => (some bt272.2)) else (if a0_0 = 3 then ((ancepsref05_Quote.f k a0_1).bind fun bt274 => (some (bt274.2 == 0))) else (if a0_0 = 4 then (if (a0_1.size : Int) = 1 then (if 0 < (a0_1.size : Int) then ((ancepsref05_sign.f k (bt a0_1 0)).bind fun t276 => (some t276)) else (none)) else (some false)) else (some false))))) = some r := h
  clear h
  by_cases c2 : a0_0 = 1
  · rw [if_pos c2] at H
    have c2b0 : (a0_0 == 1) = true := beq_iff_eq.mpr c2
    have c2b1 : (a0_0 != 1) = false := bne_eq_false_iff_eq.mpr c2
    clear c2
    replace H := Option.bind_eq_some_iff.mp H
    obtain ⟨t271, A30, H⟩ := H
    replace H : (some t271) = some r := H
    have A3 := Aside0.mk A30
    clear A30
    obtain rfl := Option.some.inj H
    go_enter Try.func44, Try.ntmps44
    go_wp2_with (first | ((with_reducible refine gate_dst (N := 1) rfl ?_); refine box_event ?hg (N := 1) ?hd (cs := #[.int .i64 a0_0, .string a0_1, .int .i64 a0_2]) (t := 31) ?hr ?_; (case hd => rfl); (case hg => rfl); (case hr => first | (go_simp; done) | (go_simp; rfl)); intro gb270 hg w4 hbox hb; have n0_ := Aside0.mk (below_step (by repeat (first | (with_reducible first | exact HB.out | apply below_alloc | apply pw_below_drewN | apply below_drew1) | exact HB.out)) hb); have n1_ := Aside0.mk (hbox); have n2_ := Aside0.mk ((by rw [hg]; exact (below_size (by repeat (first | (with_reducible first | exact HB.out | apply below_alloc | apply pw_below_drewN | apply below_drew1) | exact HB.out))) : w.heap.size ≤ gb270)); have n3_ := Aside0.mk ((by rw [hg]; exact (below_size (by repeat (first | (with_reducible first | exact HB.out | apply below_alloc | apply pw_below_drewN | apply below_drew1) | exact HB.out))) : w.heap.size ≤ gb270)); clear HB; have HB := n0_; have BK270 := n1_; have GW270 := n2_; have GE270 := n3_; clear n0_ n1_ n2_ n3_; clear hb hbox hg; have hcz5_0 : w4.cell? ⟨gb270, 0, none⟩ = some (.int .i64 a0_0) := (blk_cell BK270.out 0).trans rfl; have hcz5_1 : w4.cell? ⟨gb270, 1, none⟩ = some (.string a0_1) := (blk_cell BK270.out 1).trans rfl; have hcz5_2 : w4.cell? ⟨gb270, 2, none⟩ = some (.int .i64 a0_2) := (blk_cell BK270.out 2).trans rfl; have hfz5_0 := blk_frozen BK270.out 0; have hfz5_1 := blk_frozen BK270.out 1; have hfz5_2 := blk_frozen BK270.out 2) | ((with_reducible refine gate_callee (f := 15) rfl ?_); refine goesL_ (some 13) rfl rfl Try.func15 (by kernel_rfl) rfl #[.string a0_1] rfl (by (try simp only [List.map_toArray, List.map_cons, List.map_nil]); first | done | rfl | (simp only [List.length_drop, List.length_take]; rfl)) ?_; (with_reducible refine (ancepsref05_IsName.calls k a0_1 t271 _ A3.out).mono ?_); rintro e w' ⟨rfl, ⟨nd, rfl⟩⟩; refine ⟨_, rfl, ?_⟩))
    go_ret
    exact ⟨by first | rfl | (simp [errW_none, errW_some] <;> rfl) | (simp [*, errW_none, errW_some] <;> rfl), by repeat (first | (with_reducible first | exact HB.out | apply below_alloc | apply pw_below_drewN | apply below_drew1 | refine below_set ?_ GE270.out) | exact HB.out)⟩
  · rw [if_neg c2] at H
    have c2b0 : (a0_0 == 1) = false := beq_eq_false_iff_ne.mpr c2
    have c2b1 : (a0_0 != 1) = true := bne_iff_ne.mpr c2
    by_cases c6 : a0_0 = 2
    · rw [if_pos c6] at H
      have c6b0 : (a0_0 == 2) = true := beq_iff_eq.mpr c6
      have c6b1 : (a0_0 != 2) = false := bne_eq_false_iff_eq.mpr c6
      clear c6
      replace H := Option.bind_eq_some_iff.mp H
      obtain ⟨⟨t272, t273⟩, A70, H⟩ := H
      replace H : (some t273) = some r := H
      have A7 := Aside0.mk A70
      clear A70
      obtain rfl := Option.some.inj H
      go_enter Try.func44, Try.ntmps44
      go_wp2_with (first | ((with_reducible refine gate_dst (N := 1) rfl ?_); refine box_event ?hg (N := 1) ?hd (cs := #[.int .i64 a0_0, .string a0_1, .int .i64 a0_2]) (t := 31) ?hr ?_; (case hd => rfl); (case hg => rfl); (case hr => first | (go_simp; done) | (go_simp; rfl)); intro gb270 hg w8 hbox hb; have n0_ := Aside0.mk (below_step (by repeat (first | (with_reducible first | exact HB.out | apply below_alloc | apply pw_below_drewN | apply below_drew1) | exact HB.out)) hb); have n1_ := Aside0.mk (hbox); have n2_ := Aside0.mk ((by rw [hg]; exact (below_size (by repeat (first | (with_reducible first | exact HB.out | apply below_alloc | apply pw_below_drewN | apply below_drew1) | exact HB.out))) : w.heap.size ≤ gb270)); have n3_ := Aside0.mk ((by rw [hg]; exact (below_size (by repeat (first | (with_reducible first | exact HB.out | apply below_alloc | apply pw_below_drewN | apply below_drew1) | exact HB.out))) : w.heap.size ≤ gb270)); clear HB; have HB := n0_; have BK270 := n1_; have GW270 := n2_; have GE270 := n3_; clear n0_ n1_ n2_ n3_; clear hb hbox hg; have hcz9_0 : w8.cell? ⟨gb270, 0, none⟩ = some (.int .i64 a0_0) := (blk_cell BK270.out 0).trans rfl; have hcz9_1 : w8.cell? ⟨gb270, 1, none⟩ = some (.string a0_1) := (blk_cell BK270.out 1).trans rfl; have hcz9_2 : w8.cell? ⟨gb270, 2, none⟩ = some (.int .i64 a0_2) := (blk_cell BK270.out 2).trans rfl; have hfz9_0 := blk_frozen BK270.out 0; have hfz9_1 := blk_frozen BK270.out 1; have hfz9_2 := blk_frozen BK270.out 2) | ((with_reducible refine gate_callee (f := 13) rfl ?_); refine goesL_ (some 19) rfl rfl Try.func13 (by kernel_rfl) rfl #[.string a0_1] rfl (by (try simp only [List.map_toArray, List.map_cons, List.map_nil]); first | done | rfl | (simp only [List.length_drop, List.length_take]; rfl)) ?_; (with_reducible refine (ancepsref05_Number.calls k a0_1 t272 t273 _ A7.out).mono ?_); rintro e w' ⟨rfl, ⟨nd, rfl⟩⟩; refine ⟨_, rfl, ?_⟩))
      go_ret
      exact ⟨by first | rfl | (simp [errW_none, errW_some] <;> rfl) | (simp [*, errW_none, errW_some] <;> rfl), by repeat (first | (with_reducible first | exact HB.out | apply below_alloc | apply pw_below_drewN | apply below_drew1 | refine below_set ?_ GE270.out) | exact HB.out)⟩
    · rw [if_neg c6] at H
      have c6b0 : (a0_0 == 2) = false := beq_eq_false_iff_ne.mpr c6
      have c6b1 : (a0_0 != 2) = true := bne_iff_ne.mpr c6
      by_cases c10 : a0_0 = 3
      · rw [if_pos c10] at H
        have c10b0 : (a0_0 == 3) = true := beq_iff_eq.mpr c10
        have c10b1 : (a0_0 != 3) = false := bne_eq_false_iff_eq.mpr c10
        clear c10
        replace H := Option.bind_eq_some_iff.mp H
        obtain ⟨⟨t274, t275⟩, A110, H⟩ := H
        replace H : (some (t275 == 0)) = some r := H
        have A11 := Aside0.mk A110
        clear A110
        obtain rfl := Option.some.inj H
        go_enter Try.func44, Try.ntmps44
        go_wp2_with (first | ((with_reducible refine gate_dst (N := 1) rfl ?_); refine box_event ?hg (N := 1) ?hd (cs := #[.int .i64 a0_0, .string a0_1, .int .i64 a0_2]) (t := 31) ?hr ?_; (case hd => rfl); (case hg => rfl); (case hr => first | (go_simp; done) | (go_simp; rfl)); intro gb270 hg w12 hbox hb; have n0_ := Aside0.mk (below_step (by repeat (first | (with_reducible first | exact HB.out | apply below_alloc | apply pw_below_drewN | apply below_drew1) | exact HB.out)) hb); have n1_ := Aside0.mk (hbox); have n2_ := Aside0.mk ((by rw [hg]; exact (below_size (by repeat (first | (with_reducible first | exact HB.out | apply below_alloc | apply pw_below_drewN | apply below_drew1) | exact HB.out))) : w.heap.size ≤ gb270)); have n3_ := Aside0.mk ((by rw [hg]; exact (below_size (by repeat (first | (with_reducible first | exact HB.out | apply below_alloc | apply pw_below_drewN | apply below_drew1) | exact HB.out))) : w.heap.size ≤ gb270)); clear HB; have HB := n0_; have BK270 := n1_; have GW270 := n2_; have GE270 := n3_; clear n0_ n1_ n2_ n3_; clear hb hbox hg; have hcz13_0 : w12.cell? ⟨gb270, 0, none⟩ = some (.int .i64 a0_0) := (blk_cell BK270.out 0).trans rfl; have hcz13_1 : w12.cell? ⟨gb270, 1, none⟩ = some (.string a0_1) := (blk_cell BK270.out 1).trans rfl; have hcz13_2 : w12.cell? ⟨gb270, 2, none⟩ = some (.int .i64 a0_2) := (blk_cell BK270.out 2).trans rfl; have hfz13_0 := blk_frozen BK270.out 0; have hfz13_1 := blk_frozen BK270.out 1; have hfz13_2 := blk_frozen BK270.out 2) | ((with_reducible refine gate_callee (f := 23) rfl ?_); refine goesL_ (some 28) rfl rfl Try.func23 (by kernel_rfl) rfl #[.string a0_1] rfl (by (try simp only [List.map_toArray, List.map_cons, List.map_nil]); first | done | rfl | (simp only [List.length_drop, List.length_take]; rfl)) ?_; (with_reducible refine (ancepsref05_Quote.calls k a0_1 t274 t275 _ A11.out).mono ?_); rintro e w' ⟨rfl, ⟨nd, rfl⟩⟩; refine ⟨_, rfl, ?_⟩))
        go_ret
        exact ⟨by first | rfl | (simp [errW_none, errW_some] <;> rfl) | (simp [*, errW_none, errW_some] <;> rfl), by repeat (first | (with_reducible first | exact HB.out | apply below_alloc | apply pw_below_drewN | apply below_drew1 | refine below_set ?_ GE270.out) | exact HB.out)⟩
      · rw [if_neg c10] at H
        have c10b0 : (a0_0 == 3) = false := beq_eq_false_iff_ne.mpr c10
        have c10b1 : (a0_0 != 3) = true := bne_iff_ne.mpr c10
        by_cases c14 : a0_0 = 4
        · rw [if_pos c14] at H
          have c14b0 : (a0_0 == 4) = true := beq_iff_eq.mpr c14
          have c14b1 : (a0_0 != 4) = false := bne_eq_false_iff_eq.mpr c14
          clear c14
          by_cases c15 : (a0_1.size : Int) = 1
          · rw [if_pos c15] at H
            have c15b0 : ((a0_1.size : Int) == 1) = true := beq_iff_eq.mpr c15
            have c15b1 : ((a0_1.size : Int) != 1) = false := bne_eq_false_iff_eq.mpr c15
            clear c15
            by_cases c16 : 0 < (a0_1.size : Int)
            · rw [if_pos c16] at H
              have c16b0 : decide (0 < (a0_1.size : Int)) = true := decide_eq_true c16
              have c16b1 : decide (0 < a0_1.size) = true := decide_eq_true (by omega)
              clear c16
              replace H := Option.bind_eq_some_iff.mp H
              obtain ⟨t276, A180, H⟩ := H
              replace H : (some t276) = some r := H
              have A18 := Aside0.mk A180
              clear A180
              obtain rfl := Option.some.inj H
              go_enter Try.func44, Try.ntmps44
              go_wp2_with (first | ((with_reducible refine gate_dst (N := 1) rfl ?_); refine box_event ?hg (N := 1) ?hd (cs := #[.int .i64 a0_0, .string a0_1, .int .i64 a0_2]) (t := 31) ?hr ?_; (case hd => rfl); (case hg => rfl); (case hr => first | (go_simp; done) | (go_simp; rfl)); intro gb270 hg w19 hbox hb; have n0_ := Aside0.mk (below_step (by repeat (first | (with_reducible first | exact HB.out | apply below_alloc | apply pw_below_drewN | apply below_drew1) | exact HB.out)) hb); have n1_ := Aside0.mk (hbox); have n2_ := Aside0.mk ((by rw [hg]; exact (below_size (by repeat (first | (with_reducible first | exact HB.out | apply below_alloc | apply pw_below_drewN | apply below_drew1) | exact HB.out))) : w.heap.size ≤ gb270)); have n3_ := Aside0.mk ((by rw [hg]; exact (below_size (by repeat (first | (with_reducible first | exact HB.out | apply below_alloc | apply pw_below_drewN | apply below_drew1) | exact HB.out))) : w.heap.size ≤ gb270)); clear HB; have HB := n0_; have BK270 := n1_; have GW270 := n2_; have GE270 := n3_; clear n0_ n1_ n2_ n3_; clear hb hbox hg; have hcz20_0 : w19.cell? ⟨gb270, 0, none⟩ = some (.int .i64 a0_0) := (blk_cell BK270.out 0).trans rfl; have hcz20_1 : w19.cell? ⟨gb270, 1, none⟩ = some (.string a0_1) := (blk_cell BK270.out 1).trans rfl; have hcz20_2 : w19.cell? ⟨gb270, 2, none⟩ = some (.int .i64 a0_2) := (blk_cell BK270.out 2).trans rfl; have hfz20_0 := blk_frozen BK270.out 0; have hfz20_1 := blk_frozen BK270.out 1; have hfz20_2 := blk_frozen BK270.out 2; have p17 : 0 ≤ (0 : Int) := (by omega); have q17 : 0 < a0_1.size := (by have : (0 : Int) < (a0_1.size : Int) := of_decide_eq_true (by first | (with_reducible assumption) | assumption); omega); have hx17 : ∀ h : 0 < a0_1.size, ((a0_1[0]'h).toNat : Int) = bt a0_1 0 := bt_at a0_1 0; clear p17; have qi17 : (0 < (a0_1.size : Int)) = True := eq_true (of_decide_eq_true (by first | (with_reducible assumption) | assumption)); replace q17 := eq_true q17) | (go_at_call 60; (with_reducible refine (ancepsref05_sign.calls k (bt a0_1 0) t276 _ A18.out).mono ?_); rintro e w' ⟨rfl, ⟨nd, rfl⟩⟩))
              go_ret
              exact ⟨by first | rfl | (simp [errW_none, errW_some] <;> rfl) | (simp [*, errW_none, errW_some] <;> rfl), by repeat (first | (with_reducible first | exact HB.out | apply below_alloc | apply pw_below_drewN | apply below_drew1 | refine below_set ?_ GE270.out) | exact HB.out)⟩
            · rw [if_neg c16] at H
              exact absurd H (by simp)
          · rw [if_neg c15] at H
            have c15b0 : ((a0_1.size : Int) == 1) = false := beq_eq_false_iff_ne.mpr c15
            have c15b1 : ((a0_1.size : Int) != 1) = true := bne_iff_ne.mpr c15
            obtain rfl := Option.some.inj H
            go_enter Try.func44, Try.ntmps44
            go_wp2_with (first | ((with_reducible refine gate_dst (N := 1) rfl ?_); refine box_event ?hg (N := 1) ?hd (cs := #[.int .i64 a0_0, .string a0_1, .int .i64 a0_2]) (t := 31) ?hr ?_; (case hd => rfl); (case hg => rfl); (case hr => first | (go_simp; done) | (go_simp; rfl)); intro gb270 hg w21 hbox hb; have n0_ := Aside0.mk (below_step (by repeat (first | (with_reducible first | exact HB.out | apply below_alloc | apply pw_below_drewN | apply below_drew1) | exact HB.out)) hb); have n1_ := Aside0.mk (hbox); have n2_ := Aside0.mk ((by rw [hg]; exact (below_size (by repeat (first | (with_reducible first | exact HB.out | apply below_alloc | apply pw_below_drewN | apply below_drew1) | exact HB.out))) : w.heap.size ≤ gb270)); have n3_ := Aside0.mk ((by rw [hg]; exact (below_size (by repeat (first | (with_reducible first | exact HB.out | apply below_alloc | apply pw_below_drewN | apply below_drew1) | exact HB.out))) : w.heap.size ≤ gb270)); clear HB; have HB := n0_; have BK270 := n1_; have GW270 := n2_; have GE270 := n3_; clear n0_ n1_ n2_ n3_; clear hb hbox hg; have hcz22_0 : w21.cell? ⟨gb270, 0, none⟩ = some (.int .i64 a0_0) := (blk_cell BK270.out 0).trans rfl; have hcz22_1 : w21.cell? ⟨gb270, 1, none⟩ = some (.string a0_1) := (blk_cell BK270.out 1).trans rfl; have hcz22_2 : w21.cell? ⟨gb270, 2, none⟩ = some (.int .i64 a0_2) := (blk_cell BK270.out 2).trans rfl; have hfz22_0 := blk_frozen BK270.out 0; have hfz22_1 := blk_frozen BK270.out 1; have hfz22_2 := blk_frozen BK270.out 2))
            go_ret
            exact ⟨by first | rfl | (simp [errW_none, errW_some] <;> rfl) | (simp [*, errW_none, errW_some] <;> rfl), by repeat (first | (with_reducible first | exact HB.out | apply below_alloc | apply pw_below_drewN | apply below_drew1 | refine below_set ?_ GE270.out) | exact HB.out)⟩
        · rw [if_neg c14] at H
          have c14b0 : (a0_0 == 4) = false := beq_eq_false_iff_ne.mpr c14
          have c14b1 : (a0_0 != 4) = true := bne_iff_ne.mpr c14
          obtain rfl := Option.some.inj H
          go_enter Try.func44, Try.ntmps44
          go_wp2_with (first | ((with_reducible refine gate_dst (N := 1) rfl ?_); refine box_event ?hg (N := 1) ?hd (cs := #[.int .i64 a0_0, .string a0_1, .int .i64 a0_2]) (t := 31) ?hr ?_; (case hd => rfl); (case hg => rfl); (case hr => first | (go_simp; done) | (go_simp; rfl)); intro gb270 hg w23 hbox hb; have n0_ := Aside0.mk (below_step (by repeat (first | (with_reducible first | exact HB.out | apply below_alloc | apply pw_below_drewN | apply below_drew1) | exact HB.out)) hb); have n1_ := Aside0.mk (hbox); have n2_ := Aside0.mk ((by rw [hg]; exact (below_size (by repeat (first | (with_reducible first | exact HB.out | apply below_alloc | apply pw_below_drewN | apply below_drew1) | exact HB.out))) : w.heap.size ≤ gb270)); have n3_ := Aside0.mk ((by rw [hg]; exact (below_size (by repeat (first | (with_reducible first | exact HB.out | apply below_alloc | apply pw_below_drewN | apply below_drew1) | exact HB.out))) : w.heap.size ≤ gb270)); clear HB; have HB := n0_; have BK270 := n1_; have GW270 := n2_; have GE270 := n3_; clear n0_ n1_ n2_ n3_; clear hb hbox hg; have hcz24_0 : w23.cell? ⟨gb270, 0, none⟩ = some (.int .i64 a0_0) := (blk_cell BK270.out 0).trans rfl; have hcz24_1 : w23.cell? ⟨gb270, 1, none⟩ = some (.string a0_1) := (blk_cell BK270.out 1).trans rfl; have hcz24_2 : w23.cell? ⟨gb270, 2, none⟩ = some (.int .i64 a0_2) := (blk_cell BK270.out 2).trans rfl; have hfz24_0 := blk_frozen BK270.out 0; have hfz24_1 := blk_frozen BK270.out 1; have hfz24_2 := blk_frozen BK270.out 2))
          go_ret
          exact ⟨by first | rfl | (simp [errW_none, errW_some] <;> rfl) | (simp [*, errW_none, errW_some] <;> rfl), by repeat (first | (with_reducible first | exact HB.out | apply below_alloc | apply pw_below_drewN | apply below_drew1 | refine below_set ?_ GE270.out) | exact HB.out)⟩

/-! ### ancepsref05_Write: function 25 -/
mutual
def ancepsref05_Write.l0 : Nat → List (S31) → Int → Option (ByteArray × Int)
  | 0, _, _ => none
  | k + 1, x0, x4 => if x4 < (x0.length : Int) then (if 0 ≤ x4 then ((ancepsref05_Right.f k ((rd_T31 x0 x4).f0) ((rd_T31 x0 x4).f1) ((rd_T31 x0 x4).f2)).bind fun t278 => (if t278 = true then (ancepsref05_Write.l0 k x0 (wrap64 (x4 + 1))) else (some ((⟨#[]⟩ : ByteArray), 1)))) else (none)) else (ancepsref05_Write.l1 k x0 (⟨#[]⟩ : ByteArray) 0)
def ancepsref05_Write.l1 : Nat → List (S31) → ByteArray → Int → Option (ByteArray × Int)
  | 0, _, _, _ => none
  | k + 1, x0, x5, x6 => if x6 < (x0.length : Int) then (ancepsref05_Write.j2 k x0 x5 x6 (decide ((x5.size : Int) ≤ 20000))) else (ancepsref05_Write.j2 k x0 x5 x6 false)
def ancepsref05_Write.j2 : Nat → List (S31) → ByteArray → Int → Bool → Option (ByteArray × Int)
  | 0, _, _, _, _ => none
  | k + 1, x0, x5, x6, x27 => if x27 = true then (if x6 > 0 then (if x5.size + 1 ≤ 9223372036854775807 then (if 0 ≤ x6 then (if x6 < (x0.length : Int) then (if ((rd_T31 x0 x6).f0) = 3 then (if (x5 ++ (⟨#[32]⟩ : ByteArray)).size + 1 ≤ 9223372036854775807 then (if ((x5 ++ (⟨#[32]⟩ : ByteArray)) ++ (⟨#[34]⟩ : ByteArray)).size + ((rd_T31 x0 x6).f1).size ≤ 9223372036854775807 then (if (((x5 ++ (⟨#[32]⟩ : ByteArray)) ++ (⟨#[34]⟩ : ByteArray)) ++ ((rd_T31 x0 x6).f1)).size + 1 ≤ 9223372036854775807 then (ancepsref05_Write.l1 k x0 ((((x5 ++ (⟨#[32]⟩ : ByteArray)) ++ (⟨#[34]⟩ : ByteArray)) ++ ((rd_T31 x0 x6).f1)) ++ (⟨#[34]⟩ : ByteArray)) (wrap64 (x6 + 1))) else (none)) else (none)) else (none)) else (if (x5 ++ (⟨#[32]⟩ : ByteArray)).size + ((rd_T31 x0 x6).f1).size ≤ 9223372036854775807 then (ancepsref05_Write.l1 k x0 ((x5 ++ (⟨#[32]⟩ : ByteArray)) ++ ((rd_T31 x0 x6).f1)) (wrap64 (x6 + 1))) else (none))) else (none)) else (none)) else (none)) else (if 0 ≤ x6 then (if x6 < (x0.length : Int) then (if ((rd_T31 x0 x6).f0) = 3 then (if x5.size + 1 ≤ 9223372036854775807 then (if (x5 ++ (⟨#[34]⟩ : ByteArray)).size + ((rd_T31 x0 x6).f1).size ≤ 9223372036854775807 then (if ((x5 ++ (⟨#[34]⟩ : ByteArray)) ++ ((rd_T31 x0 x6).f1)).size + 1 ≤ 9223372036854775807 then (ancepsref05_Write.l1 k x0 (((x5 ++ (⟨#[34]⟩ : ByteArray)) ++ ((rd_T31 x0 x6).f1)) ++ (⟨#[34]⟩ : ByteArray)) (wrap64 (x6 + 1))) else (none)) else (none)) else (none)) else (if x5.size + ((rd_T31 x0 x6).f1).size ≤ 9223372036854775807 then (ancepsref05_Write.l1 k x0 (x5 ++ ((rd_T31 x0 x6).f1)) (wrap64 (x6 + 1))) else (none))) else (none)) else (none))) else (if (x5.size : Int) > 20000 then (some ((⟨#[]⟩ : ByteArray), 3)) else (some (x5, 0)))
end
def ancepsref05_Write.f (k : Nat) (l0 : List (S31)) : Option (ByteArray × Int) := ancepsref05_Write.l0 k l0 0
theorem ancepsref05_Write.mono_l : ∀ k, (∀ y0 y1, LeO (ancepsref05_Write.l0 k y0 y1) (ancepsref05_Write.l0 (k + 1) y0 y1)) ∧ (∀ y0 y1 y2, LeO (ancepsref05_Write.l1 k y0 y1 y2) (ancepsref05_Write.l1 (k + 1) y0 y1 y2)) ∧ (∀ y0 y1 y2 y3, LeO (ancepsref05_Write.j2 k y0 y1 y2 y3) (ancepsref05_Write.j2 (k + 1) y0 y1 y2 y3))
  | 0 => ⟨fun _ _ r h => by simp [ancepsref05_Write.l0] at h, fun _ _ _ r h => by simp [ancepsref05_Write.l1] at h, fun _ _ _ _ r h => by simp [ancepsref05_Write.j2] at h⟩
  | k + 1 => by
    obtain ⟨ih0, ih1, ih2⟩ := ancepsref05_Write.mono_l k
    refine ⟨?_, ?_, ?_⟩
    · intro y0 y1
      unfold ancepsref05_Write.l0
      repeat' first
      | (with_reducible exact ih0 _ _)
      | (with_reducible exact ih1 _ _ _)
      | (with_reducible exact ih2 _ _ _ _)
      | (with_reducible exact ancepsref05_Right.mono _ _ _ _)
      | (with_reducible exact LeO.refl _)
      | (with_reducible exact LeO.none _)
      | (with_reducible refine LeO.ite ?_ ?_)
      | (with_reducible refine LeO.bind ?_ (fun _ => ?_))
      | exact ih0 _ _
      | exact ih1 _ _ _
      | exact ih2 _ _ _ _
      | exact ancepsref05_Right.mono _ _ _ _
      | exact LeO.none _
      | refine LeO.ite ?_ ?_
      | refine LeO.bind ?_ (fun _ => ?_)
    · intro y0 y1 y2
      unfold ancepsref05_Write.l1
      repeat' first
      | (with_reducible exact ih0 _ _)
      | (with_reducible exact ih1 _ _ _)
      | (with_reducible exact ih2 _ _ _ _)
      | (with_reducible exact ancepsref05_Right.mono _ _ _ _)
      | (with_reducible exact LeO.refl _)
      | (with_reducible exact LeO.none _)
      | (with_reducible refine LeO.ite ?_ ?_)
      | (with_reducible refine LeO.bind ?_ (fun _ => ?_))
      | exact ih0 _ _
      | exact ih1 _ _ _
      | exact ih2 _ _ _ _
      | exact ancepsref05_Right.mono _ _ _ _
      | exact LeO.none _
      | refine LeO.ite ?_ ?_
      | refine LeO.bind ?_ (fun _ => ?_)
    · intro y0 y1 y2 y3
      unfold ancepsref05_Write.j2
      repeat' first
      | (with_reducible exact ih0 _ _)
      | (with_reducible exact ih1 _ _ _)
      | (with_reducible exact ih2 _ _ _ _)
      | (with_reducible exact ancepsref05_Right.mono _ _ _ _)
      | (with_reducible exact LeO.refl _)
      | (with_reducible exact LeO.none _)
      | (with_reducible refine LeO.ite ?_ ?_)
      | (with_reducible refine LeO.bind ?_ (fun _ => ?_))
      | exact ih0 _ _
      | exact ih1 _ _ _
      | exact ih2 _ _ _ _
      | exact ancepsref05_Right.mono _ _ _ _
      | exact LeO.none _
      | refine LeO.ite ?_ ?_
      | refine LeO.bind ?_ (fun _ => ?_)
theorem ancepsref05_Write.mono : ∀ a0 k, LeO (ancepsref05_Write.f k a0) (ancepsref05_Write.f (k + 1) a0) := by
  intro a0 k
  obtain ⟨ih0, ih1, ih2⟩ := ancepsref05_Write.mono_l k
  unfold ancepsref05_Write.f
  repeat' first
      | (with_reducible exact ih0 _ _)
      | (with_reducible exact ih1 _ _ _)
      | (with_reducible exact ih2 _ _ _ _)
      | (with_reducible exact ancepsref05_Right.mono _ _ _ _)
      | (with_reducible exact LeO.refl _)
      | (with_reducible exact LeO.none _)
      | (with_reducible refine LeO.ite ?_ ?_)
      | (with_reducible refine LeO.bind ?_ (fun _ => ?_))
      | exact ih0 _ _
      | exact ih1 _ _ _
      | exact ih2 _ _ _ _
      | exact ancepsref05_Right.mono _ _ _ _
      | exact LeO.none _
      | refine LeO.ite ?_ ?_
      | refine LeO.bind ?_ (fun _ => ?_)
set_option maxHeartbeats 8000000 in
set_option maxRecDepth 100000 in
theorem ancepsref05_Write.calls (k : Nat) (A0 : Option Addr) (c0 : Nat) (l0 : List (S31)) (r1 : ByteArray) (r2 : Int) (w : World) (hr0 : Kd.C k31 w A0 l0.length l0) (hc0 : l0.length ≤ c0) (h : ancepsref05_Write.f k l0 = some (r1, r2)) :
    Calls Try.prog 25 #[.slice A0 l0.length c0] w fun e w' => e = .returned (.tuple #[.string r1, .int .i64 r2]) ∧ Below w.heap.size w w' := by
  have hu31 := Try.underlying31
  have HR0 := Aside0.mk hr0
  have HC0 := Aside0.mk hc0
  clear hr0 hc0
  have HB := Aside0.mk (Below.refl w.heap.size w)
  have H : (ancepsref05_Write.l0 k l0 0) = some (r1, r2) := h
  clear h
  have H' := Aside0.mk H
  clear H
  go_enter Try.func25, Try.ntmps25
  go_wp2
  go_loopg [4] k (fun kq v4 w' => ∃ (x4_1 : Int), v4 = .int .i64 x4_1 ∧ Aside0 (ancepsref05_Write.l0 kq l0 x4_1 = some (r1, r2)) ∧ Aside0 (kq ≤ k) ∧ Aside0 (Below w.heap.size w w'))
  case atStart => exact ⟨(0), (by first | rfl | (simp; done) | (simp [*]; done)), H', ⟨Nat.le_refl _⟩, ⟨by repeat (first | (with_reducible first | exact HB.out | apply below_alloc | apply pw_below_drewN | apply below_drew1) | exact HB.out)⟩⟩
  case round =>
    clear H'
    obtain ⟨x4_1, rfl, HA, HK1, HB⟩ := hrel
    cases gk with
    | zero => exact absurd HA.out (by simp [ancepsref05_Write.l0])
    | succ k1 =>
      have H := HA.out
      clear HA
      simp only [ancepsref05_Write.l0] at H
      by_cases c2 : x4_1 < (l0.length : Int)
      · rw [if_pos c2] at H
        have c2b0 : decide (x4_1 < (l0.length : Int)) = true := decide_eq_true c2
        clear c2
        by_cases c3 : 0 ≤ x4_1
        · rw [if_pos c3] at H
          have c3b0 : decide (0 ≤ x4_1) = true := decide_eq_true c3
          clear c3
          replace H := Option.bind_eq_some_iff.mp H
          obtain ⟨t278, A40, H⟩ := H
          replace H : (if t278 = true then (ancepsref05_Write.l0 k1 l0 (wrap64 (x4_1 + 1))) else (some ((⟨#[]⟩ : ByteArray), 1))) = some (r1, r2) := H
          have A4 := Aside0.mk A40
          clear A40
          by_cases c5 : t278 = true
          · subst c5
            have H1 : (ancepsref05_Write.l0 k1 l0 (wrap64 (x4_1 + 1))) = some (r1, r2) := by rw [if_pos rfl] at H; exact H
            clear H
            have H := H1
            clear H1
            have H' := Aside0.mk H
            clear H
            have p277 : 0 ≤ (x4_1 : Int) := of_decide_eq_true (by first | (with_reducible assumption) | assumption)
            have q277 : x4_1 < (l0.length : Int) := of_decide_eq_true (by first | (with_reducible assumption) | assumption)
            obtain ⟨ad277, e277, hx277_0, hx277_1, hx277_2⟩ := at_T31 HR0.out x4_1 p277 q277
            cases e277
            replace hx277_0 := (HB.out.cell (World.block_lt_of_cell? w _ hx277_0)).trans hx277_0
            replace hx277_1 := (HB.out.cell (World.block_lt_of_cell? w _ hx277_1)).trans hx277_1
            replace hx277_2 := (HB.out.cell (World.block_lt_of_cell? w _ hx277_2)).trans hx277_2
            replace p277 := eq_true p277
            replace q277 := eq_true q277
            go_wp2_with (first | ((with_reducible refine gate_callee (f := 44) rfl ?_); refine goesL_ (some 17) rfl rfl Try.func44 (by kernel_rfl) rfl #[.agg #[.int .i64 ((rd_T31 l0 x4_1).f0), .string ((rd_T31 l0 x4_1).f1), .int .i64 ((rd_T31 l0 x4_1).f2)]] rfl (by (try simp only [List.map_toArray, List.map_cons, List.map_nil]); first | done | rfl | (simp only [List.length_drop, List.length_take]; rfl)) ?_; (with_reducible refine (ancepsref05_Right.calls k1 ((rd_T31 l0 x4_1).f0) ((rd_T31 l0 x4_1).f1) ((rd_T31 l0 x4_1).f2) true _ A4.out).mono ?_); rintro e w6 ⟨rfl, hb⟩; refine ⟨_, rfl, ?_⟩; have n0_ := Aside0.mk (below_step (by repeat (first | (with_reducible first | exact HB.out | apply below_alloc | apply pw_below_drewN | apply below_drew1) | exact HB.out)) hb); clear HB; have HB := n0_; clear n0_; (try clear hb); (try clear hb2); (try clear hk); (try clear hi)))
            go_roundg k1
            case measure => have := HK1.out; omega
            case rel => exact ⟨(wrap64 (x4_1 + 1)), (by first | rfl | (simp; done) | (simp [*]; done)), H', ⟨by have := HK1.out; omega⟩, ⟨by repeat (first | (with_reducible first | exact HB.out | apply below_alloc | apply pw_below_drewN | apply below_drew1) | exact HB.out)⟩⟩
          · replace c5 := Bool.eq_false_iff.mpr c5
            subst c5
            have H1 : (some ((⟨#[]⟩ : ByteArray), 1)) = some (r1, r2) := by rw [if_neg (show ¬ (false = true) by decide)] at H; exact H
            clear H
            have H := H1
            clear H1
            simp only [Option.some.injEq, Prod.mk.injEq] at H
            obtain ⟨rfl, rfl⟩ := H
            have p277 : 0 ≤ (x4_1 : Int) := of_decide_eq_true (by first | (with_reducible assumption) | assumption)
            have q277 : x4_1 < (l0.length : Int) := of_decide_eq_true (by first | (with_reducible assumption) | assumption)
            obtain ⟨ad277, e277, hx277_0, hx277_1, hx277_2⟩ := at_T31 HR0.out x4_1 p277 q277
            cases e277
            replace hx277_0 := (HB.out.cell (World.block_lt_of_cell? w _ hx277_0)).trans hx277_0
            replace hx277_1 := (HB.out.cell (World.block_lt_of_cell? w _ hx277_1)).trans hx277_1
            replace hx277_2 := (HB.out.cell (World.block_lt_of_cell? w _ hx277_2)).trans hx277_2
            replace p277 := eq_true p277
            replace q277 := eq_true q277
            go_wp2_with (first | ((with_reducible refine gate_callee (f := 44) rfl ?_); refine goesL_ (some 17) rfl rfl Try.func44 (by kernel_rfl) rfl #[.agg #[.int .i64 ((rd_T31 l0 x4_1).f0), .string ((rd_T31 l0 x4_1).f1), .int .i64 ((rd_T31 l0 x4_1).f2)]] rfl (by (try simp only [List.map_toArray, List.map_cons, List.map_nil]); first | done | rfl | (simp only [List.length_drop, List.length_take]; rfl)) ?_; (with_reducible refine (ancepsref05_Right.calls k1 ((rd_T31 l0 x4_1).f0) ((rd_T31 l0 x4_1).f1) ((rd_T31 l0 x4_1).f2) false _ A4.out).mono ?_); rintro e w7 ⟨rfl, hb⟩; refine ⟨_, rfl, ?_⟩; have n0_ := Aside0.mk (below_step (by repeat (first | (with_reducible first | exact HB.out | apply below_alloc | apply pw_below_drewN | apply below_drew1) | exact HB.out)) hb); clear HB; have HB := n0_; clear n0_; (try clear hb); (try clear hb2); (try clear hk); (try clear hi)))
            go_ret2
            exact ⟨by first | rfl | (simp [errW_none, errW_some] <;> rfl) | (simp [*, errW_none, errW_some] <;> rfl), by repeat (first | (with_reducible first | exact HB.out | apply below_alloc | apply pw_below_drewN | apply below_drew1) | exact HB.out)⟩
        · rw [if_neg c3] at H
          exact absurd H (by simp)
      · rw [if_neg c2] at H
        have c2b0 : decide (x4_1 < (l0.length : Int)) = false := decide_eq_false c2
        clear c2
        have H' := Aside0.mk H
        clear H
        go_wp2
        go_loopg [5, 6] k1 (fun kq v5 v6 w' => ∃ (x5_2 : ByteArray) (x6_2 : Int), v5 = .string x5_2 ∧ v6 = .int .i64 x6_2 ∧ Aside0 (ancepsref05_Write.l1 kq l0 x5_2 x6_2 = some (r1, r2)) ∧ Aside0 (kq ≤ k1) ∧ Aside0 (Below w.heap.size w w'))
        case atStart => exact ⟨((⟨#[]⟩ : ByteArray)), (0), (by first | rfl | (simp; done) | (simp [*]; done)), (by first | rfl | (simp; done) | (simp [*]; done)), H', ⟨Nat.le_refl _⟩, ⟨by repeat (first | (with_reducible first | exact HB.out | apply below_alloc | apply pw_below_drewN | apply below_drew1) | exact HB.out)⟩⟩
        case round =>
          clear H'
          try clear c2
          try clear c2b0
          try clear p2
          try clear q2
          try clear hx2
          try clear c3
          try clear c3b0
          try clear c4
          try clear c5
          try clear p6
          try clear hx277_0
          try clear hx277_1
          try clear hx277_2
          try clear p277
          try clear q277
          obtain ⟨x5_2, x6_2, rfl, rfl, HA, HK2, HB⟩ := hrel
          cases gk with
          | zero => exact absurd HA.out (by simp [ancepsref05_Write.l1])
          | succ k2 =>
            have H := HA.out
            clear HA
            simp only [ancepsref05_Write.l1] at H
            have HC8 := Aside0.mk H
            clear H
            go_upto_region 8 with (fail)
            go_cut [27] (fun v27 wc => ∃ (kq : Nat) (x27_7 : Bool), v27 = .bool x27_7 ∧ Aside0 (ancepsref05_Write.j2 kq l0 x5_2 x6_2 x27_7 = some (r1, r2)) ∧ Aside0 (kq ≤ k2) ∧ Aside0 (Below w.heap.size w wc))
            case first =>
              have H := HC8.out
              clear HC8
              by_cases c9 : x6_2 < (l0.length : Int)
              · rw [if_pos c9] at H
                have c9b0 : decide (x6_2 < (l0.length : Int)) = true := decide_eq_true c9
                clear c9
                (first | rw [c9b0] | (simp only [i64_w, i32_w]; rw [c9b0]) | skip)
                have H' := Aside0.mk H
                clear H
                go_wp2
                go_meet
                case rel => exact ⟨_, (decide ((x5_2.size : Int) ≤ 20000)), (by first | rfl | (simp; done) | (simp [*]; done)), H', ⟨by have := HK1.out; have := HK2.out; first | omega | exact Nat.le_refl _⟩, ⟨by repeat (first | (with_reducible first | exact HB.out | apply below_alloc | apply pw_below_drewN | apply below_drew1) | exact HB.out)⟩⟩
              · rw [if_neg c9] at H
                have c9b0 : decide (x6_2 < (l0.length : Int)) = false := decide_eq_false c9
                clear c9
                (first | rw [c9b0] | (simp only [i64_w, i32_w]; rw [c9b0]) | skip)
                have H' := Aside0.mk H
                clear H
                go_wp2
                go_meet
                case rel => exact ⟨_, (false), (by first | rfl | (simp; done) | (simp [*]; done)), H', ⟨by have := HK1.out; have := HK2.out; first | omega | exact Nat.le_refl _⟩, ⟨by repeat (first | (with_reducible first | exact HB.out | apply below_alloc | apply pw_below_drewN | apply below_drew1) | exact HB.out)⟩⟩
            case rest =>
              clear HC8
              try clear c2
              try clear c2b0
              try clear p2
              try clear q2
              try clear hx2
              try clear c3
              try clear c3b0
              try clear c4
              try clear c5
              try clear p6
              try clear c9
              try clear c9b0
              try clear hx277_0
              try clear hx277_1
              try clear hx277_2
              try clear p2
              try clear p277
              try clear p6
              try clear q2
              try clear q277
              obtain ⟨kq, x27_7, rfl, HA, HJ7, HB⟩ := hcut
              cases kq with
              | zero => exact absurd HA.out (by simp [ancepsref05_Write.j2])
              | succ kj7 =>
                have H := HA.out
                clear HA
                simp only [ancepsref05_Write.j2] at H
                by_cases c10 : x27_7 = true
                · subst c10
                  have H1 : (if x6_2 > 0 then (if x5_2.size + 1 ≤ 9223372036854775807 then (if 0 ≤ x6_2 then (if x6_2 < (l0.length : Int) then (if ((rd_T31 l0 x6_2).f0) = 3 then (if (x5_2 ++ (⟨#[32]⟩ : ByteArray)).size + 1 ≤ 9223372036854775807 then (if ((x5_2 ++ (⟨#[32]⟩ : ByteArray)) ++ (⟨#[34]⟩ : ByteArray)).size + ((rd_T31 l0 x6_2).f1).size ≤ 9223372036854775807 then (if (((x5_2 ++ (⟨#[32]⟩ : ByteArray)) ++ (⟨#[34]⟩ : ByteArray)) ++ ((rd_T31 l0 x6_2).f1)).size + 1 ≤ 9223372036854775807 then (ancepsref05_Write.l1 kj7 l0 ((((x5_2 ++ (⟨#[32]⟩ : ByteArray)) ++ (⟨#[34]⟩ : ByteArray)) ++ ((rd_T31 l0 x6_2).f1)) ++ (⟨#[34]⟩ : ByteArray)) (wrap64 (x6_2 + 1))) else (none)) else (none)) else (none)) else (if (x5_2 ++ (⟨#[32]⟩ : ByteArray)).size + ((rd_T31 l0 x6_2).f1).size ≤ 9223372036854775807 then (ancepsref05_Write.l1 kj7 l0 ((x5_2 ++ (⟨#[32]⟩ : ByteArray)) ++ ((rd_T31 l0 x6_2).f1)) (wrap64 (x6_2 + 1))) else (none))) else (none)) else (none)) else (none)) else (if 0 ≤ x6_2 then (if x6_2 < (l0.length : Int) then (if ((rd_T31 l0 x6_2).f0) = 3 then (if x5_2.size + 1 ≤ 9223372036854775807 then (if (x5_2 ++ (⟨#[34]⟩ : ByteArray)).size + ((rd_T31 l0 x6_2).f1).size ≤ 9223372036854775807 then (if ((x5_2 ++ (⟨#[34]⟩ : ByteArray)) ++ ((rd_T31 l0 x6_2).f1)).size + 1 ≤ 9223372036854775807 then (ancepsref05_Write.l1 kj7 l0 (((x5_2 ++ (⟨#[34]⟩ : ByteArray)) ++ ((rd_T31 l0 x6_2).f1)) ++ (⟨#[34]⟩ : ByteArray)) (wrap64 (x6_2 + 1))) else (none)) else (none)) else (none)) else (if x5_2.size + ((rd_T31 l0 x6_2).f1).size ≤ 9223372036854775807 then (ancepsref05_Write.l1 kj7 l0 (x5_2 ++ ((rd_T31 l0 x6_2).f1)) (wrap64 (x6_2 + 1))) else (none))) else (none)) else (none))) = some (r1, r2) := by rw [if_pos rfl] at H; exact H
                  clear H
                  have H := H1
                  clear H1
                  by_cases c11 : x6_2 > 0
                  · rw [if_pos c11] at H
                    have c11b0 : decide (0 < x6_2) = true := decide_eq_true c11
                    clear c11
                    by_cases c12 : x5_2.size + 1 ≤ 9223372036854775807
                    · rw [if_pos c12] at H
                      have c12b0 := eq_true c12
                      have c12b1 : decide (x5_2.size + 1 ≤ 9223372036854775807) = true := decide_eq_true c12
                      try have c12b2 : (9223372036854775807 < x5_2.size + 1) = False := eq_false (Nat.not_lt.2 c12)
                      by_cases c13 : 0 ≤ x6_2
                      · rw [if_pos c13] at H
                        have c13b0 : decide (0 ≤ x6_2) = true := decide_eq_true c13
                        clear c13
                        by_cases c14 : x6_2 < (l0.length : Int)
                        · rw [if_pos c14] at H
                          have c14b0 : decide (x6_2 < (l0.length : Int)) = true := decide_eq_true c14
                          clear c14
                          by_cases c15 : ((rd_T31 l0 x6_2).f0) = 3
                          · rw [if_pos c15] at H
                            have c15b0 : (((rd_T31 l0 x6_2).f0) == 3) = true := beq_iff_eq.mpr c15
                            have c15b1 : (((rd_T31 l0 x6_2).f0) != 3) = false := bne_eq_false_iff_eq.mpr c15
                            clear c15
                            by_cases c16 : (x5_2 ++ (⟨#[32]⟩ : ByteArray)).size + 1 ≤ 9223372036854775807
                            · rw [if_pos c16] at H
                              have c16b0 := eq_true c16
                              have c16b1 : decide ((x5_2 ++ (⟨#[32]⟩ : ByteArray)).size + 1 ≤ 9223372036854775807) = true := decide_eq_true c16
                              try have c16b2 : (9223372036854775807 < (x5_2 ++ (⟨#[32]⟩ : ByteArray)).size + 1) = False := eq_false (Nat.not_lt.2 c16)
                              have c16b3 : x5_2.size + 1 + 1 ≤ 9223372036854775807 := by have h_ := c16; simp only [ByteArray.size_append] at h_; exact h_
                              have c16b4 : (9223372036854775807 < x5_2.size + 1 + 1) = False := eq_false (Nat.not_lt.2 c16b3)
                              have c16b5 : decide (x5_2.size + 1 + 1 ≤ 9223372036854775807) = true := decide_eq_true c16b3
                              replace c16b3 := eq_true c16b3
                              by_cases c17 : ((x5_2 ++ (⟨#[32]⟩ : ByteArray)) ++ (⟨#[34]⟩ : ByteArray)).size + ((rd_T31 l0 x6_2).f1).size ≤ 9223372036854775807
                              · rw [if_pos c17] at H
                                have c17b0 := eq_true c17
                                have c17b1 : decide (((x5_2 ++ (⟨#[32]⟩ : ByteArray)) ++ (⟨#[34]⟩ : ByteArray)).size + ((rd_T31 l0 x6_2).f1).size ≤ 9223372036854775807) = true := decide_eq_true c17
                                try have c17b2 : (9223372036854775807 < ((x5_2 ++ (⟨#[32]⟩ : ByteArray)) ++ (⟨#[34]⟩ : ByteArray)).size + ((rd_T31 l0 x6_2).f1).size) = False := eq_false (Nat.not_lt.2 c17)
                                have c17b3 : x5_2.size + 1 + 1 + ((rd_T31 l0 x6_2).f1).size ≤ 9223372036854775807 := by have h_ := c17; simp only [ByteArray.size_append] at h_; exact h_
                                have c17b4 : (9223372036854775807 < x5_2.size + 1 + 1 + ((rd_T31 l0 x6_2).f1).size) = False := eq_false (Nat.not_lt.2 c17b3)
                                have c17b5 : decide (x5_2.size + 1 + 1 + ((rd_T31 l0 x6_2).f1).size ≤ 9223372036854775807) = true := decide_eq_true c17b3
                                replace c17b3 := eq_true c17b3
                                by_cases c18 : (((x5_2 ++ (⟨#[32]⟩ : ByteArray)) ++ (⟨#[34]⟩ : ByteArray)) ++ ((rd_T31 l0 x6_2).f1)).size + 1 ≤ 9223372036854775807
                                · rw [if_pos c18] at H
                                  have c18b0 := eq_true c18
                                  have c18b1 : decide ((((x5_2 ++ (⟨#[32]⟩ : ByteArray)) ++ (⟨#[34]⟩ : ByteArray)) ++ ((rd_T31 l0 x6_2).f1)).size + 1 ≤ 9223372036854775807) = true := decide_eq_true c18
                                  try have c18b2 : (9223372036854775807 < (((x5_2 ++ (⟨#[32]⟩ : ByteArray)) ++ (⟨#[34]⟩ : ByteArray)) ++ ((rd_T31 l0 x6_2).f1)).size + 1) = False := eq_false (Nat.not_lt.2 c18)
                                  have c18b3 : x5_2.size + 1 + 1 + ((rd_T31 l0 x6_2).f1).size + 1 ≤ 9223372036854775807 := by have h_ := c18; simp only [ByteArray.size_append] at h_; exact h_
                                  have c18b4 : (9223372036854775807 < x5_2.size + 1 + 1 + ((rd_T31 l0 x6_2).f1).size + 1) = False := eq_false (Nat.not_lt.2 c18b3)
                                  have c18b5 : decide (x5_2.size + 1 + 1 + ((rd_T31 l0 x6_2).f1).size + 1 ≤ 9223372036854775807) = true := decide_eq_true c18b3
                                  replace c18b3 := eq_true c18b3
                                  have H' := Aside0.mk H
                                  clear H
                                  have p279 : 0 ≤ (x6_2 : Int) := of_decide_eq_true (by first | (with_reducible assumption) | assumption)
                                  have q279 : x6_2 < (l0.length : Int) := of_decide_eq_true (by first | (with_reducible assumption) | assumption)
                                  obtain ⟨ad279, e279, hx279_0, hx279_1, hx279_2⟩ := at_T31 HR0.out x6_2 p279 q279
                                  cases e279
                                  replace hx279_0 := (HB.out.cell (World.block_lt_of_cell? w _ hx279_0)).trans hx279_0
                                  replace hx279_1 := (HB.out.cell (World.block_lt_of_cell? w _ hx279_1)).trans hx279_1
                                  replace hx279_2 := (HB.out.cell (World.block_lt_of_cell? w _ hx279_2)).trans hx279_2
                                  replace p279 := eq_true p279
                                  replace q279 := eq_true q279
                                  have p280 : 0 ≤ (x6_2 : Int) := of_decide_eq_true (by first | (with_reducible assumption) | assumption)
                                  have q280 : x6_2 < (l0.length : Int) := of_decide_eq_true (by first | (with_reducible assumption) | assumption)
                                  obtain ⟨ad280, e280, hx280_0, hx280_1, hx280_2⟩ := at_T31 HR0.out x6_2 p280 q280
                                  obtain rfl : ad279 = ad280 := (by injection e280)
                                  replace hx280_0 := (HB.out.cell (World.block_lt_of_cell? w _ hx280_0)).trans hx280_0
                                  replace hx280_1 := (HB.out.cell (World.block_lt_of_cell? w _ hx280_1)).trans hx280_1
                                  replace hx280_2 := (HB.out.cell (World.block_lt_of_cell? w _ hx280_2)).trans hx280_2
                                  replace p280 := eq_true p280
                                  replace q280 := eq_true q280
                                  go_wp2
                                  go_roundg kj7
                                  case measure => have := HK1.out; have := HK2.out; have := HJ7.out; omega
                                  case rel => exact ⟨((((x5_2 ++ (⟨#[32]⟩ : ByteArray)) ++ (⟨#[34]⟩ : ByteArray)) ++ ((rd_T31 l0 x6_2).f1)) ++ (⟨#[34]⟩ : ByteArray)), (wrap64 (x6_2 + 1)), (by first | rfl | (simp; done) | (simp [*]; done)), (by first | rfl | (simp; done) | (simp [*]; done)), H', ⟨by have := HK1.out; have := HK2.out; have := HJ7.out; omega⟩, ⟨by repeat (first | (with_reducible first | exact HB.out | apply below_alloc | apply pw_below_drewN | apply below_drew1) | exact HB.out)⟩⟩
                                · rw [if_neg c18] at H
                                  exact absurd H (by simp)
                              · rw [if_neg c17] at H
                                exact absurd H (by simp)
                            · rw [if_neg c16] at H
                              exact absurd H (by simp)
                          · rw [if_neg c15] at H
                            have c15b0 : (((rd_T31 l0 x6_2).f0) == 3) = false := beq_eq_false_iff_ne.mpr c15
                            have c15b1 : (((rd_T31 l0 x6_2).f0) != 3) = true := bne_iff_ne.mpr c15
                            by_cases c19 : (x5_2 ++ (⟨#[32]⟩ : ByteArray)).size + ((rd_T31 l0 x6_2).f1).size ≤ 9223372036854775807
                            · rw [if_pos c19] at H
                              have c19b0 := eq_true c19
                              have c19b1 : decide ((x5_2 ++ (⟨#[32]⟩ : ByteArray)).size + ((rd_T31 l0 x6_2).f1).size ≤ 9223372036854775807) = true := decide_eq_true c19
                              try have c19b2 : (9223372036854775807 < (x5_2 ++ (⟨#[32]⟩ : ByteArray)).size + ((rd_T31 l0 x6_2).f1).size) = False := eq_false (Nat.not_lt.2 c19)
                              have c19b3 : x5_2.size + 1 + ((rd_T31 l0 x6_2).f1).size ≤ 9223372036854775807 := by have h_ := c19; simp only [ByteArray.size_append] at h_; exact h_
                              have c19b4 : (9223372036854775807 < x5_2.size + 1 + ((rd_T31 l0 x6_2).f1).size) = False := eq_false (Nat.not_lt.2 c19b3)
                              have c19b5 : decide (x5_2.size + 1 + ((rd_T31 l0 x6_2).f1).size ≤ 9223372036854775807) = true := decide_eq_true c19b3
                              replace c19b3 := eq_true c19b3
                              have H' := Aside0.mk H
                              clear H
                              have p279 : 0 ≤ (x6_2 : Int) := of_decide_eq_true (by first | (with_reducible assumption) | assumption)
                              have q279 : x6_2 < (l0.length : Int) := of_decide_eq_true (by first | (with_reducible assumption) | assumption)
                              obtain ⟨ad279, e279, hx279_0, hx279_1, hx279_2⟩ := at_T31 HR0.out x6_2 p279 q279
                              cases e279
                              replace hx279_0 := (HB.out.cell (World.block_lt_of_cell? w _ hx279_0)).trans hx279_0
                              replace hx279_1 := (HB.out.cell (World.block_lt_of_cell? w _ hx279_1)).trans hx279_1
                              replace hx279_2 := (HB.out.cell (World.block_lt_of_cell? w _ hx279_2)).trans hx279_2
                              replace p279 := eq_true p279
                              replace q279 := eq_true q279
                              have p281 : 0 ≤ (x6_2 : Int) := of_decide_eq_true (by first | (with_reducible assumption) | assumption)
                              have q281 : x6_2 < (l0.length : Int) := of_decide_eq_true (by first | (with_reducible assumption) | assumption)
                              obtain ⟨ad281, e281, hx281_0, hx281_1, hx281_2⟩ := at_T31 HR0.out x6_2 p281 q281
                              obtain rfl : ad279 = ad281 := (by injection e281)
                              replace hx281_0 := (HB.out.cell (World.block_lt_of_cell? w _ hx281_0)).trans hx281_0
                              replace hx281_1 := (HB.out.cell (World.block_lt_of_cell? w _ hx281_1)).trans hx281_1
                              replace hx281_2 := (HB.out.cell (World.block_lt_of_cell? w _ hx281_2)).trans hx281_2
                              replace p281 := eq_true p281
                              replace q281 := eq_true q281
                              go_wp2
                              go_roundg kj7
                              case measure => have := HK1.out; have := HK2.out; have := HJ7.out; omega
                              case rel => exact ⟨((x5_2 ++ (⟨#[32]⟩ : ByteArray)) ++ ((rd_T31 l0 x6_2).f1)), (wrap64 (x6_2 + 1)), (by first | rfl | (simp; done) | (simp [*]; done)), (by first | rfl | (simp; done) | (simp [*]; done)), H', ⟨by have := HK1.out; have := HK2.out; have := HJ7.out; omega⟩, ⟨by repeat (first | (with_reducible first | exact HB.out | apply below_alloc | apply pw_below_drewN | apply below_drew1) | exact HB.out)⟩⟩
                            · rw [if_neg c19] at H
                              exact absurd H (by simp)
                        · rw [if_neg c14] at H
                          exact absurd H (by simp)
                      · rw [if_neg c13] at H
                        exact absurd H (by simp)
                    · rw [if_neg c12] at H
                      exact absurd H (by simp)
                  · rw [if_neg c11] at H
                    have c11b0 : decide (0 < x6_2) = false := decide_eq_false c11
                    clear c11
                    by_cases c20 : 0 ≤ x6_2
                    · rw [if_pos c20] at H
                      have c20b0 : decide (0 ≤ x6_2) = true := decide_eq_true c20
                      clear c20
                      by_cases c21 : x6_2 < (l0.length : Int)
                      · rw [if_pos c21] at H
                        have c21b0 : decide (x6_2 < (l0.length : Int)) = true := decide_eq_true c21
                        clear c21
                        by_cases c22 : ((rd_T31 l0 x6_2).f0) = 3
                        · rw [if_pos c22] at H
                          have c22b0 : (((rd_T31 l0 x6_2).f0) == 3) = true := beq_iff_eq.mpr c22
                          have c22b1 : (((rd_T31 l0 x6_2).f0) != 3) = false := bne_eq_false_iff_eq.mpr c22
                          clear c22
                          by_cases c23 : x5_2.size + 1 ≤ 9223372036854775807
                          · rw [if_pos c23] at H
                            have c23b0 := eq_true c23
                            have c23b1 : decide (x5_2.size + 1 ≤ 9223372036854775807) = true := decide_eq_true c23
                            try have c23b2 : (9223372036854775807 < x5_2.size + 1) = False := eq_false (Nat.not_lt.2 c23)
                            by_cases c24 : (x5_2 ++ (⟨#[34]⟩ : ByteArray)).size + ((rd_T31 l0 x6_2).f1).size ≤ 9223372036854775807
                            · rw [if_pos c24] at H
                              have c24b0 := eq_true c24
                              have c24b1 : decide ((x5_2 ++ (⟨#[34]⟩ : ByteArray)).size + ((rd_T31 l0 x6_2).f1).size ≤ 9223372036854775807) = true := decide_eq_true c24
                              try have c24b2 : (9223372036854775807 < (x5_2 ++ (⟨#[34]⟩ : ByteArray)).size + ((rd_T31 l0 x6_2).f1).size) = False := eq_false (Nat.not_lt.2 c24)
                              have c24b3 : x5_2.size + 1 + ((rd_T31 l0 x6_2).f1).size ≤ 9223372036854775807 := by have h_ := c24; simp only [ByteArray.size_append] at h_; exact h_
                              have c24b4 : (9223372036854775807 < x5_2.size + 1 + ((rd_T31 l0 x6_2).f1).size) = False := eq_false (Nat.not_lt.2 c24b3)
                              have c24b5 : decide (x5_2.size + 1 + ((rd_T31 l0 x6_2).f1).size ≤ 9223372036854775807) = true := decide_eq_true c24b3
                              replace c24b3 := eq_true c24b3
                              by_cases c25 : ((x5_2 ++ (⟨#[34]⟩ : ByteArray)) ++ ((rd_T31 l0 x6_2).f1)).size + 1 ≤ 9223372036854775807
                              · rw [if_pos c25] at H
                                have c25b0 := eq_true c25
                                have c25b1 : decide (((x5_2 ++ (⟨#[34]⟩ : ByteArray)) ++ ((rd_T31 l0 x6_2).f1)).size + 1 ≤ 9223372036854775807) = true := decide_eq_true c25
                                try have c25b2 : (9223372036854775807 < ((x5_2 ++ (⟨#[34]⟩ : ByteArray)) ++ ((rd_T31 l0 x6_2).f1)).size + 1) = False := eq_false (Nat.not_lt.2 c25)
                                have c25b3 : x5_2.size + 1 + ((rd_T31 l0 x6_2).f1).size + 1 ≤ 9223372036854775807 := by have h_ := c25; simp only [ByteArray.size_append] at h_; exact h_
                                have c25b4 : (9223372036854775807 < x5_2.size + 1 + ((rd_T31 l0 x6_2).f1).size + 1) = False := eq_false (Nat.not_lt.2 c25b3)
                                have c25b5 : decide (x5_2.size + 1 + ((rd_T31 l0 x6_2).f1).size + 1 ≤ 9223372036854775807) = true := decide_eq_true c25b3
                                replace c25b3 := eq_true c25b3
                                have H' := Aside0.mk H
                                clear H
                                have p282 : 0 ≤ (x6_2 : Int) := of_decide_eq_true (by first | (with_reducible assumption) | assumption)
                                have q282 : x6_2 < (l0.length : Int) := of_decide_eq_true (by first | (with_reducible assumption) | assumption)
                                obtain ⟨ad282, e282, hx282_0, hx282_1, hx282_2⟩ := at_T31 HR0.out x6_2 p282 q282
                                cases e282
                                replace hx282_0 := (HB.out.cell (World.block_lt_of_cell? w _ hx282_0)).trans hx282_0
                                replace hx282_1 := (HB.out.cell (World.block_lt_of_cell? w _ hx282_1)).trans hx282_1
                                replace hx282_2 := (HB.out.cell (World.block_lt_of_cell? w _ hx282_2)).trans hx282_2
                                replace p282 := eq_true p282
                                replace q282 := eq_true q282
                                have p283 : 0 ≤ (x6_2 : Int) := of_decide_eq_true (by first | (with_reducible assumption) | assumption)
                                have q283 : x6_2 < (l0.length : Int) := of_decide_eq_true (by first | (with_reducible assumption) | assumption)
                                obtain ⟨ad283, e283, hx283_0, hx283_1, hx283_2⟩ := at_T31 HR0.out x6_2 p283 q283
                                obtain rfl : ad282 = ad283 := (by injection e283)
                                replace hx283_0 := (HB.out.cell (World.block_lt_of_cell? w _ hx283_0)).trans hx283_0
                                replace hx283_1 := (HB.out.cell (World.block_lt_of_cell? w _ hx283_1)).trans hx283_1
                                replace hx283_2 := (HB.out.cell (World.block_lt_of_cell? w _ hx283_2)).trans hx283_2
                                replace p283 := eq_true p283
                                replace q283 := eq_true q283
                                go_wp2
                                go_roundg kj7
                                case measure => have := HK1.out; have := HK2.out; have := HJ7.out; omega
                                case rel => exact ⟨(((x5_2 ++ (⟨#[34]⟩ : ByteArray)) ++ ((rd_T31 l0 x6_2).f1)) ++ (⟨#[34]⟩ : ByteArray)), (wrap64 (x6_2 + 1)), (by first | rfl | (simp; done) | (simp [*]; done)), (by first | rfl | (simp; done) | (simp [*]; done)), H', ⟨by have := HK1.out; have := HK2.out; have := HJ7.out; omega⟩, ⟨by repeat (first | (with_reducible first | exact HB.out | apply below_alloc | apply pw_below_drewN | apply below_drew1) | exact HB.out)⟩⟩
                              · rw [if_neg c25] at H
                                exact absurd H (by simp)
                            · rw [if_neg c24] at H
                              exact absurd H (by simp)
                          · rw [if_neg c23] at H
                            exact absurd H (by simp)
                        · rw [if_neg c22] at H
                          have c22b0 : (((rd_T31 l0 x6_2).f0) == 3) = false := beq_eq_false_iff_ne.mpr c22
                          have c22b1 : (((rd_T31 l0 x6_2).f0) != 3) = true := bne_iff_ne.mpr c22
                          by_cases c26 : x5_2.size + ((rd_T31 l0 x6_2).f1).size ≤ 9223372036854775807
                          · rw [if_pos c26] at H
                            have c26b0 := eq_true c26
                            have c26b1 : decide (x5_2.size + ((rd_T31 l0 x6_2).f1).size ≤ 9223372036854775807) = true := decide_eq_true c26
                            try have c26b2 : (9223372036854775807 < x5_2.size + ((rd_T31 l0 x6_2).f1).size) = False := eq_false (Nat.not_lt.2 c26)
                            have H' := Aside0.mk H
                            clear H
                            have p282 : 0 ≤ (x6_2 : Int) := of_decide_eq_true (by first | (with_reducible assumption) | assumption)
                            have q282 : x6_2 < (l0.length : Int) := of_decide_eq_true (by first | (with_reducible assumption) | assumption)
                            obtain ⟨ad282, e282, hx282_0, hx282_1, hx282_2⟩ := at_T31 HR0.out x6_2 p282 q282
                            cases e282
                            replace hx282_0 := (HB.out.cell (World.block_lt_of_cell? w _ hx282_0)).trans hx282_0
                            replace hx282_1 := (HB.out.cell (World.block_lt_of_cell? w _ hx282_1)).trans hx282_1
                            replace hx282_2 := (HB.out.cell (World.block_lt_of_cell? w _ hx282_2)).trans hx282_2
                            replace p282 := eq_true p282
                            replace q282 := eq_true q282
                            have p284 : 0 ≤ (x6_2 : Int) := of_decide_eq_true (by first | (with_reducible assumption) | assumption)
                            have q284 : x6_2 < (l0.length : Int) := of_decide_eq_true (by first | (with_reducible assumption) | assumption)
                            obtain ⟨ad284, e284, hx284_0, hx284_1, hx284_2⟩ := at_T31 HR0.out x6_2 p284 q284
                            obtain rfl : ad282 = ad284 := (by injection e284)
                            replace hx284_0 := (HB.out.cell (World.block_lt_of_cell? w _ hx284_0)).trans hx284_0
                            replace hx284_1 := (HB.out.cell (World.block_lt_of_cell? w _ hx284_1)).trans hx284_1
                            replace hx284_2 := (HB.out.cell (World.block_lt_of_cell? w _ hx284_2)).trans hx284_2
                            replace p284 := eq_true p284
                            replace q284 := eq_true q284
                            go_wp2
                            go_roundg kj7
                            case measure => have := HK1.out; have := HK2.out; have := HJ7.out; omega
                            case rel => exact ⟨(x5_2 ++ ((rd_T31 l0 x6_2).f1)), (wrap64 (x6_2 + 1)), (by first | rfl | (simp; done) | (simp [*]; done)), (by first | rfl | (simp; done) | (simp [*]; done)), H', ⟨by have := HK1.out; have := HK2.out; have := HJ7.out; omega⟩, ⟨by repeat (first | (with_reducible first | exact HB.out | apply below_alloc | apply pw_below_drewN | apply below_drew1) | exact HB.out)⟩⟩
                          · rw [if_neg c26] at H
                            exact absurd H (by simp)
                      · rw [if_neg c21] at H
                        exact absurd H (by simp)
                    · rw [if_neg c20] at H
                      exact absurd H (by simp)
                · replace c10 := Bool.eq_false_iff.mpr c10
                  subst c10
                  have H1 : (if (x5_2.size : Int) > 20000 then (some ((⟨#[]⟩ : ByteArray), 3)) else (some (x5_2, 0))) = some (r1, r2) := by rw [if_neg (show ¬ (false = true) by decide)] at H; exact H
                  clear H
                  have H := H1
                  clear H1
                  by_cases c27 : (x5_2.size : Int) > 20000
                  · rw [if_pos c27] at H
                    have c27b0 : decide (20000 < (x5_2.size : Int)) = true := decide_eq_true c27
                    have c27b1 : decide (20000 < x5_2.size) = true := decide_eq_true (by omega)
                    clear c27
                    simp only [Option.some.injEq, Prod.mk.injEq] at H
                    obtain ⟨rfl, rfl⟩ := H
                    go_wp2
                    go_ret2
                    exact ⟨by first | rfl | (simp [errW_none, errW_some] <;> rfl) | (simp [*, errW_none, errW_some] <;> rfl), by repeat (first | (with_reducible first | exact HB.out | apply below_alloc | apply pw_below_drewN | apply below_drew1) | exact HB.out)⟩
                  · rw [if_neg c27] at H
                    have c27b0 : decide (20000 < (x5_2.size : Int)) = false := decide_eq_false c27
                    have c27b1 : decide (20000 < x5_2.size) = false := decide_eq_false (by omega)
                    clear c27
                    simp only [Option.some.injEq, Prod.mk.injEq] at H
                    obtain ⟨rfl, rfl⟩ := H
                    go_wp2
                    go_ret2
                    exact ⟨by first | rfl | (simp [errW_none, errW_some] <;> rfl) | (simp [*, errW_none, errW_some] <;> rfl), by repeat (first | (with_reducible first | exact HB.out | apply below_alloc | apply pw_below_drewN | apply below_drew1) | exact HB.out)⟩

end Go.Proofs.Ytkkgacoecimlpaa.X
