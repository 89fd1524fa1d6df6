-- printed by this session's xprint.py: out of the translation, by the kit's print with additions; Lean checks it
import Derived.Test.YtnnonjjmlbemfaaWN
import Derived.Test.YtnnonjjmlbemfaaWShare
import Derived.Test.YtnnonjjmlbemfaaWRepsOne
import Derived.Test.YtnnonjjmlbemfaaWGuard
import Derived.Test.YtnnonjjmlbemfaaX0
import Derived.Test.YtnnonjjmlbemfaaX5
import Derived.Test.YtnnonjjmlbemfaaX8
import Derived.Test.YtnnonjjmlbemfaaX10
import Derived.Test.YtnnonjjmlbemfaaX13
import Derived.Test.YtnnonjjmlbemfaaX15
import Derived.Test.YtnnonjjmlbemfaaX16
import Derived.Test.YtnnonjjmlbemfaaX18
namespace Go.Proofs.Ytnnonjjmlbemfaa.X
open Go.RowKit Go.Proofs.YtnnonjjmlbemfaaW.PrintWords Go.Proofs.YtnnonjjmlbemfaaW.PrintLast Go.Proofs.YtnnonjjmlbemfaaW.PrintMore
attribute [local go_sem] max2_int min2_int max_two min_two max_three min_three max_four min_four isSome_setCell binOp_gtr_str binOp_leq_str   -- for this text's walks alone
set_option linter.unusedVariables false
set_option linter.unusedSimpArgs false

/-! ### ancepsref45_Best: function 32 -/
mutual
def ancepsref45_Best.l0 : Nat → ByteArray → ByteArray → List Int → Int → Int → List (List Int) → Option (List Int × Int × Int)
  | 0, _, _, _, _, _, _ => none
  | k + 1, x0, x1, x9, x10, x11, x25 => if x10 < (x0.size : Int) then (ancepsref45_Best.j1 k x0 x1 x25 x9 x10 x11 true) else (ancepsref45_Best.j1 k x0 x1 x25 x9 x10 x11 (decide (x11 < (x1.size : Int))))
def ancepsref45_Best.j1 : Nat → ByteArray → ByteArray → List (List Int) → List Int → Int → Int → Bool → Option (List Int × Int × Int)
  | 0, _, _, _, _, _, _, _ => none
  | k + 1, x0, x1, x8, x9, x10, x11, x35 => if x35 = true then (ancepsref45_Best.l1 k x0 x1 x8 x9 x10 x11 0) else (if 0 < (x8.length : Int) then (if 0 < ((rd_L2 x8 0).length : Int) then (some (x9, rd (rd_L2 x8 0) 0, 0)) else (none)) else (none))
def ancepsref45_Best.l1 : Nat → ByteArray → ByteArray → List (List Int) → List Int → Int → Int → Int → Option (List Int × Int × Int)
  | 0, _, _, _, _, _, _, _ => none
  | k + 1, x0, x1, x8, x9, x10, x11, x12 => if x12 ≤ 4 then ((ancepsref45_Step.f k x0 x1 x10 x11 x12).bind fun bt276 => (if bt276.2.2.2 = true then (if 0 ≤ x10 then (if x10 < (x8.length : Int) then (if 0 ≤ x11 then (if x11 < ((rd_L2 x8 x10).length : Int) then (if 0 ≤ bt276.1 then (if bt276.1 < (x8.length : Int) then (if 0 ≤ bt276.2.1 then (if bt276.2.1 < ((rd_L2 x8 bt276.1).length : Int) then (if (rd (rd_L2 x8 x10) x11) = (wrap64 (bt276.2.2.1 + (rd (rd_L2 x8 bt276.1) bt276.2.1))) then (if x9.length < 17592186044416 then (ancepsref45_Best.l0 k x0 x1 (x9 ++ [x12]) bt276.1 bt276.2.1 x8) else (none)) else (ancepsref45_Best.l1 k x0 x1 x8 x9 x10 x11 (wrap64 (x12 + 1)))) else (none)) else (none)) else (none)) else (none)) else (none)) else (none)) else (none)) else (none)) else (ancepsref45_Best.l1 k x0 x1 x8 x9 x10 x11 (wrap64 (x12 + 1))))) else (ancepsref45_Best.l0 k x0 x1 x9 x10 x11 x8)
end
def ancepsref45_Best.f (k : Nat) (a0 : ByteArray) (a1 : ByteArray) : Option (List Int × Int × Int) := (ancepsref45_Given.f k a0 a1).bind fun t270 => (if t270 = 0 then ((ancepsref45_table.f k a0 a1).bind fun t271 => (ancepsref45_Best.l0 k a0 a1 ([] : List Int) 0 0 t271)) else (some (([] : List Int), 0, t270)))
theorem ancepsref45_Best.mono_l : ∀ k, (∀ y0 y1 y2 y3 y4 y5, LeO (ancepsref45_Best.l0 k y0 y1 y2 y3 y4 y5) (ancepsref45_Best.l0 (k + 1) y0 y1 y2 y3 y4 y5)) ∧ (∀ y0 y1 y2 y3 y4 y5 y6, LeO (ancepsref45_Best.j1 k y0 y1 y2 y3 y4 y5 y6) (ancepsref45_Best.j1 (k + 1) y0 y1 y2 y3 y4 y5 y6)) ∧ (∀ y0 y1 y2 y3 y4 y5 y6, LeO (ancepsref45_Best.l1 k y0 y1 y2 y3 y4 y5 y6) (ancepsref45_Best.l1 (k + 1) y0 y1 y2 y3 y4 y5 y6))
  | 0 => ⟨fun _ _ _ _ _ _ r h => by simp [ancepsref45_Best.l0] at h, fun _ _ _ _ _ _ _ r h => by simp [ancepsref45_Best.j1] at h, fun _ _ _ _ _ _ _ r h => by simp [ancepsref45_Best.l1] at h⟩
  | k + 1 => by
    obtain ⟨ih0, ih1, ih2⟩ := ancepsref45_Best.mono_l k
    refine ⟨?_, ?_, ?_⟩
    · intro y0 y1 y2 y3 y4 y5
      unfold ancepsref45_Best.l0
      repeat' first
      | (with_reducible exact ih0 _ _ _ _ _ _)
      | (with_reducible exact ih1 _ _ _ _ _ _ _)
      | (with_reducible exact ih2 _ _ _ _ _ _ _)
      | (with_reducible exact ancepsref45_Given.mono _ _ _)
      | (with_reducible exact ancepsref45_Step.mono _ _ _ _ _ _)
      | (with_reducible exact ancepsref45_table.mono _ _ _)
      | (with_reducible exact LeO.refl _)
      | (with_reducible exact LeO.none _)
      | (with_reducible refine LeO.ite ?_ ?_)
      | (with_reducible refine LeO.bind ?_ (fun _ => ?_))
      | exact ih0 _ _ _ _ _ _
      | exact ih1 _ _ _ _ _ _ _
      | exact ih2 _ _ _ _ _ _ _
      | exact ancepsref45_Given.mono _ _ _
      | exact ancepsref45_Step.mono _ _ _ _ _ _
      | exact ancepsref45_table.mono _ _ _
      | exact LeO.none _
      | refine LeO.ite ?_ ?_
      | refine LeO.bind ?_ (fun _ => ?_)
    · intro y0 y1 y2 y3 y4 y5 y6
      unfold ancepsref45_Best.j1
      repeat' first
      | (with_reducible exact ih0 _ _ _ _ _ _)
      | (with_reducible exact ih1 _ _ _ _ _ _ _)
      | (with_reducible exact ih2 _ _ _ _ _ _ _)
      | (with_reducible exact ancepsref45_Given.mono _ _ _)
      | (with_reducible exact ancepsref45_Step.mono _ _ _ _ _ _)
      | (with_reducible exact ancepsref45_table.mono _ _ _)
      | (with_reducible exact LeO.refl _)
      | (with_reducible exact LeO.none _)
      | (with_reducible refine LeO.ite ?_ ?_)
      | (with_reducible refine LeO.bind ?_ (fun _ => ?_))
      | exact ih0 _ _ _ _ _ _
      | exact ih1 _ _ _ _ _ _ _
      | exact ih2 _ _ _ _ _ _ _
      | exact ancepsref45_Given.mono _ _ _
      | exact ancepsref45_Step.mono _ _ _ _ _ _
      | exact ancepsref45_table.mono _ _ _
      | exact LeO.none _
      | refine LeO.ite ?_ ?_
      | refine LeO.bind ?_ (fun _ => ?_)
    · intro y0 y1 y2 y3 y4 y5 y6
      unfold ancepsref45_Best.l1
      repeat' first
      | (with_reducible exact ih0 _ _ _ _ _ _)
      | (with_reducible exact ih1 _ _ _ _ _ _ _)
      | (with_reducible exact ih2 _ _ _ _ _ _ _)
      | (with_reducible exact ancepsref45_Given.mono _ _ _)
      | (with_reducible exact ancepsref45_Step.mono _ _ _ _ _ _)
      | (with_reducible exact ancepsref45_table.mono _ _ _)
      | (with_reducible exact LeO.refl _)
      | (with_reducible exact LeO.none _)
      | (with_reducible refine LeO.ite ?_ ?_)
      | (with_reducible refine LeO.bind ?_ (fun _ => ?_))
      | exact ih0 _ _ _ _ _ _
      | exact ih1 _ _ _ _ _ _ _
      | exact ih2 _ _ _ _ _ _ _
      | exact ancepsref45_Given.mono _ _ _
      | exact ancepsref45_Step.mono _ _ _ _ _ _
      | exact ancepsref45_table.mono _ _ _
      | exact LeO.none _
      | refine LeO.ite ?_ ?_
      | refine LeO.bind ?_ (fun _ => ?_)
theorem ancepsref45_Best.mono : ∀ a0 a1 k, LeO (ancepsref45_Best.f k a0 a1) (ancepsref45_Best.f (k + 1) a0 a1) := by
  intro a0 a1 k
  obtain ⟨ih0, ih1, ih2⟩ := ancepsref45_Best.mono_l k
  unfold ancepsref45_Best.f
  repeat' first
      | (with_reducible exact ih0 _ _ _ _ _ _)
      | (with_reducible exact ih1 _ _ _ _ _ _ _)
      | (with_reducible exact ih2 _ _ _ _ _ _ _)
      | (with_reducible exact ancepsref45_Given.mono _ _ _)
      | (with_reducible exact ancepsref45_Step.mono _ _ _ _ _ _)
      | (with_reducible exact ancepsref45_table.mono _ _ _)
      | (with_reducible exact LeO.refl _)
      | (with_reducible exact LeO.none _)
      | (with_reducible refine LeO.ite ?_ ?_)
      | (with_reducible refine LeO.bind ?_ (fun _ => ?_))
      | exact ih0 _ _ _ _ _ _
      | exact ih1 _ _ _ _ _ _ _
      | exact ih2 _ _ _ _ _ _ _
      | exact ancepsref45_Given.mono _ _ _
      | exact ancepsref45_Step.mono _ _ _ _ _ _
      | exact ancepsref45_table.mono _ _ _
      | exact LeO.none _
      | refine LeO.ite ?_ ?_
      | refine LeO.bind ?_ (fun _ => ?_)
set_option maxHeartbeats 8000000 in
set_option maxRecDepth 100000 in
theorem ancepsref45_Best.calls (k : Nat) (a0 : ByteArray) (a1 : ByteArray) (r1 : List Int) (r2 : Int) (r3 : Int) (w : World) (h : ancepsref45_Best.f k a0 a1 = some (r1, r2, r3)) :
    Calls Try.prog 32 #[.string a0, .string a1] w fun e w' => ∃ v0_ : Value, e = .returned (.tuple #[v0_, .int .i64 r2, .int .i64 r3]) ∧ Kd.R (Kd.int .i64) 3 w' w.heap.size (fun _ => True) v0_ r1 ∧ Below w.heap.size w w' := by
  have HB := Aside0.mk (Below.refl w.heap.size w)
  have H : ((ancepsref45_Given.f k a0 a1).bind fun t270 => (if t270 = 0 then ((ancepsref45_table.f k a0 a1).bind fun t271 => (ancepsref45_Best.l0 k a0 a1 ([] : List Int) 0 0 t271)) else (some (([] : List Int), 0, t270)))) = some (r1, r2, r3) := h
  clear h
  replace H := Option.bind_eq_some_iff.mp H
  obtain ⟨t270, A30, H⟩ := H
  replace H : (if t270 = 0 then ((ancepsref45_table.f k a0 a1).bind fun t271 => (ancepsref45_Best.l0 k a0 a1 ([] : List Int) 0 0 t271)) else (some (([] : List Int), 0, t270))) = some (r1, r2, r3) := H
  have A3 := Aside0.mk A30
  clear A30
  by_cases c4 : t270 = 0
  · rw [if_pos c4] at H
    have c4b0 : (t270 == 0) = true := beq_iff_eq.mpr c4
    have c4b1 : (t270 != 0) = false := bne_eq_false_iff_eq.mpr c4
    clear c4
    replace H := Option.bind_eq_some_iff.mp H
    obtain ⟨t271, A50, H⟩ := H
    replace H : (ancepsref45_Best.l0 k a0 a1 ([] : List Int) 0 0 t271) = some (r1, r2, r3) := H
    have A5 := Aside0.mk A50
    clear A50
    have H' := Aside0.mk H
    clear H
    go_enter Try.func32, Try.ntmps32
    go_wp2_with (first | (go_at_call 16; (with_reducible refine (ancepsref45_Given.calls k a0 a1 t270 _ A3.out).mono ?_); rintro e w' ⟨rfl, ⟨nd, rfl⟩⟩; (try first | exact ⟨rfl, _, World.drewN_drewN _ _ _⟩ | exact ⟨rfl, _, Eq.trans (World.drewN_drewN _ _ _) (congrArg (World.drewN _) (Nat.add_assoc _ _ _))⟩)) | (go_at_call 46; (with_reducible refine (ancepsref45_table.calls k a0 a1 t271 _ A5.out).mono ?_); rintro e w6 ⟨v272, rfl, ho0, hb⟩; have n0_ := Aside0.mk (Kd.S_lower ho0 (below_size (by repeat (first | (with_reducible first | exact HB.out | apply below_alloc | apply pw_below_drewN | apply below_drew1) | exact HB.out)))); have n1_ := Aside0.mk (below_step (by repeat (first | (with_reducible first | exact HB.out | apply below_alloc | apply pw_below_drewN | apply below_drew1) | exact HB.out)) hb); clear HB; have HO273 := n0_; have HB := n1_; clear n0_ n1_; (try clear hb); (try clear hb2); (try clear hk); (try clear hi); (try clear ho0)))
    repeat (go_quiet (fail))
    go_loopg [9, 10, 11] k (fun kq v9 v10 v11 w' => ∃ (x9_1 : List Int) (x10_1 : Int) (x11_1 : Int), v10 = .int .i64 x10_1 ∧ v11 = .int .i64 x11_1 ∧ Aside0 (ancepsref45_Best.l0 kq a0 a1 x9_1 x10_1 x11_1 t271 = some (r1, r2, r3)) ∧ Aside0 (kq ≤ k) ∧ Aside0 (Kd.R (Kd.int .i64) 3 w' w.heap.size (fun _ => True) v9 x9_1) ∧ Aside0 (Kd.S (Kd.slice 3 (Kd.int .i64)) 31 w' w.heap.size (fun k_ => some k_ ≠ (v9 : Value).ownBlock) v272 t271) ∧ Aside0 (Below w.heap.size w w'))
    case atStart => exact ⟨(([] : List Int)), (0), (0), (by first | rfl | (simp; done) | (simp [*]; done)), (by first | rfl | (simp; done) | (simp [*]; done)), H', ⟨Nat.le_refl _⟩, ⟨by first | exact Kd.R_nil _ _ _ _ _ | exact Kd.N_nil _ _ _ _ _ | exact Kd.V_nil _ _ _ _ _ | exact Kd.Q_nil _ _ _ _ _ | exact Kd.S_nil _ _ _ _ _⟩, ⟨by (with_reducible repeat (first | apply Kd.S_alloc | apply Kd.S_drewN | apply Kd.S_drew)); exact Kd.S_mono HO273.out (fun _ hk => (by simp [Value.ownBlock]))⟩, ⟨by repeat (first | (with_reducible first | exact HB.out | apply below_alloc | apply pw_below_drewN | apply below_drew1) | exact HB.out)⟩⟩
    case round =>
      clear H'
      try clear p2
      try clear c3
      try clear c4
      try clear c4b0
      try clear c4b1
      obtain ⟨x9_1, x10_1, x11_1, rfl, rfl, HA, HK1, HO_9, HO_25, HB⟩ := hrel
      cases gk with
      | zero => exact absurd HA.out (by simp [ancepsref45_Best.l0])
      | succ k1 =>
        have H := HA.out
        clear HA
        simp only [ancepsref45_Best.l0] at H
        have HC7 := Aside0.mk H
        clear H
        go_upto_region 7 with (fail)
        repeat (go_quiet (fail); go_upto_region 7 with (fail))
        go_cut [35] (fun v35 wc => ∃ (kq : Nat) (x35_6 : Bool), v35 = .bool x35_6 ∧ Aside0 (ancepsref45_Best.j1 kq a0 a1 t271 x9_1 x10_1 x11_1 x35_6 = some (r1, r2, r3)) ∧ Aside0 (kq ≤ k1) ∧ Aside0 (Kd.S (Kd.slice 3 (Kd.int .i64)) 31 wc w.heap.size (fun k_ => some k_ ≠ (u9 : Value).ownBlock) v272 t271) ∧ Aside0 (Kd.R (Kd.int .i64) 3 wc w.heap.size (fun _ => True) u9 x9_1) ∧ Aside0 (Below w.heap.size w wc))
        case first =>
          have H := HC7.out
          clear HC7
          by_cases c8 : x10_1 < (a0.size : Int)
          · rw [if_pos c8] at H
            have c8b0 : decide (x10_1 < (a0.size : Int)) = true := decide_eq_true c8
            clear c8
            (first | rw [c8b0] | (simp only [i64_w, i32_w]; rw [c8b0]) | skip)
            have H' := Aside0.mk H
            clear H
            go_wp2
            repeat (go_quiet (fail); try go_wp2)
            go_meet
            case rel => exact ⟨_, (true), (by first | rfl | (simp; done) | (simp [*]; done)), H', ⟨by have := HK1.out; first | omega | exact Nat.le_refl _⟩, ⟨by (with_reducible repeat (first | apply Kd.S_alloc | apply Kd.S_drewN | apply Kd.S_drew)); exact HO_25.out⟩, ⟨by (with_reducible repeat (first | apply Kd.R_alloc | apply Kd.R_drewN | apply Kd.R_drew)); exact HO_9.out⟩, ⟨by repeat (first | (with_reducible first | exact HB.out | apply below_alloc | apply pw_below_drewN | apply below_drew1) | exact HB.out)⟩⟩
          · rw [if_neg c8] at H
            have c8b0 : decide (x10_1 < (a0.size : Int)) = false := decide_eq_false c8
            clear c8
            (first | rw [c8b0] | (simp only [i64_w, i32_w]; rw [c8b0]) | skip)
            have H' := Aside0.mk H
            clear H
            go_wp2
            repeat (go_quiet (fail); try go_wp2)
            go_meet
            case rel => exact ⟨_, (decide (x11_1 < (a1.size : Int))), (by first | rfl | (simp; done) | (simp [*]; done)), H', ⟨by have := HK1.out; first | omega | exact Nat.le_refl _⟩, ⟨by (with_reducible repeat (first | apply Kd.S_alloc | apply Kd.S_drewN | apply Kd.S_drew)); exact HO_25.out⟩, ⟨by (with_reducible repeat (first | apply Kd.R_alloc | apply Kd.R_drewN | apply Kd.R_drew)); exact HO_9.out⟩, ⟨by repeat (first | (with_reducible first | exact HB.out | apply below_alloc | apply pw_below_drewN | apply below_drew1) | exact HB.out)⟩⟩
        case rest =>
          clear HC7
          try clear p2
          try clear c3
          try clear c4
          try clear c4b0
          try clear c4b1
          try clear c8
          try clear c8b0
          try clear p2
          obtain ⟨kq, x35_6, rfl, HA, HJ6, HO_8, HO_9, HB⟩ := hcut
          cases kq with
          | zero => exact absurd HA.out (by simp [ancepsref45_Best.j1])
          | succ kj6 =>
            have H := HA.out
            clear HA
            simp only [ancepsref45_Best.j1] at H
            by_cases c9 : x35_6 = true
            · subst c9
              have H1 : (ancepsref45_Best.l1 kj6 a0 a1 t271 x9_1 x10_1 x11_1 0) = some (r1, r2, r3) := by rw [if_pos rfl] at H; exact H
              clear H
              have H := H1
              clear H1
              have H' := Aside0.mk H
              clear H
              go_wp2
              repeat (go_quiet (fail); try go_wp2)
              go_loopg [9, 10, 11, 12] kj6 (fun kq v9 v10 v11 v12 w' => ∃ (x9_3 : List Int) (x10_3 : Int) (x11_3 : Int) (x12_3 : Int), v10 = .int .i64 x10_3 ∧ v11 = .int .i64 x11_3 ∧ v12 = .int .i64 x12_3 ∧ Aside0 (ancepsref45_Best.l1 kq a0 a1 t271 x9_3 x10_3 x11_3 x12_3 = some (r1, r2, r3)) ∧ Aside0 (kq ≤ kj6) ∧ Aside0 (Kd.S (Kd.slice 3 (Kd.int .i64)) 31 w' w.heap.size (fun k_ => some k_ ≠ (v9 : Value).ownBlock) v272 t271) ∧ Aside0 (Kd.R (Kd.int .i64) 3 w' w.heap.size (fun _ => True) v9 x9_3) ∧ Aside0 (Below w.heap.size w w'))
              case atStart => exact ⟨(x9_1), (x10_1), (x11_1), (0), (by first | rfl | (simp; done) | (simp [*]; done)), (by first | rfl | (simp; done) | (simp [*]; done)), (by first | rfl | (simp; done) | (simp [*]; done)), H', ⟨Nat.le_refl _⟩, ⟨by (with_reducible repeat (first | apply Kd.S_alloc | apply Kd.S_drewN | apply Kd.S_drew)); exact HO_8.out⟩, ⟨by (with_reducible repeat (first | apply Kd.R_alloc | apply Kd.R_drewN | apply Kd.R_drew)); exact HO_9.out⟩, ⟨by repeat (first | (with_reducible first | exact HB.out | apply below_alloc | apply pw_below_drewN | apply below_drew1) | exact HB.out)⟩⟩
              case round =>
                clear H'
                try clear p2
                try clear c3
                try clear c4
                try clear c4b0
                try clear c4b1
                try clear c8
                try clear c8b0
                try clear c9
                try clear p2
                obtain ⟨x9_3, x10_3, x11_3, x12_3, rfl, rfl, rfl, HA, HK3, HO_8, HO_9, HB⟩ := hrel
                cases gk with
                | zero => exact absurd HA.out (by simp [ancepsref45_Best.l1])
                | succ k3 =>
                  have H := HA.out
                  clear HA
                  simp only [ancepsref45_Best.l1] at H
                  by_cases c10 : x12_3 ≤ 4
                  · rw [if_pos c10] at H
                    have c10b0 : decide (x12_3 ≤ 4) = true := decide_eq_true c10
                    clear c10
                    replace H := Option.bind_eq_some_iff.mp H
                    obtain ⟨⟨t276, t277, t278, t279⟩, A110, H⟩ := H
                    replace H : (if t279 = true then (if 0 ≤ x10_3 then (if x10_3 < (t271.length : Int) then (if 0 ≤ x11_3 then (if x11_3 < ((rd_L2 t271 x10_3).length : Int) then (if 0 ≤ t276 then (if t276 < (t271.length : Int) then (if 0 ≤ t277 then (if t277 < ((rd_L2 t271 t276).length : Int) then (if (rd (rd_L2 t271 x10_3) x11_3) = (wrap64 (t278 + (rd (rd_L2 t271 t276) t277))) then (if x9_3.length < 17592186044416 then (ancepsref45_Best.l0 k3 a0 a1 (x9_3 ++ [x12_3]) t276 t277 t271) else (none)) else (ancepsref45_Best.l1 k3 a0 a1 t271 x9_3 x10_3 x11_3 (wrap64 (x12_3 + 1)))) else (none)) else (none)) else (none)) else (none)) else (none)) else (none)) else (none)) else (none)) else (ancepsref45_Best.l1 k3 a0 a1 t271 x9_3 x10_3 x11_3 (wrap64 (x12_3 + 1)))) = some (r1, r2, r3) := H
                    have A11 := Aside0.mk A110
                    clear A110
                    by_cases c12 : t279 = true
                    · subst c12
                      have H1 : (if 0 ≤ x10_3 then (if x10_3 < (t271.length : Int) then (if 0 ≤ x11_3 then (if x11_3 < ((rd_L2 t271 x10_3).length : Int) then (if 0 ≤ t276 then (if t276 < (t271.length : Int) then (if 0 ≤ t277 then (if t277 < ((rd_L2 t271 t276).length : Int) then (if (rd (rd_L2 t271 x10_3) x11_3) = (wrap64 (t278 + (rd (rd_L2 t271 t276) t277))) then (if x9_3.length < 17592186044416 then (ancepsref45_Best.l0 k3 a0 a1 (x9_3 ++ [x12_3]) t276 t277 t271) else (none)) else (ancepsref45_Best.l1 k3 a0 a1 t271 x9_3 x10_3 x11_3 (wrap64 (x12_3 + 1)))) else (none)) else (none)) else (none)) else (none)) else (none)) else (none)) else (none)) else (none)) = some (r1, r2, r3) := by rw [if_pos rfl] at H; exact H
                      clear H
                      have H := H1
                      clear H1
                      by_cases c13 : 0 ≤ x10_3
                      · rw [if_pos c13] at H
                        have c13b0 : decide (0 ≤ x10_3) = true := decide_eq_true c13
                        clear c13
                        by_cases c14 : x10_3 < (t271.length : Int)
                        · rw [if_pos c14] at H
                          have c14b0 : decide (x10_3 < (t271.length : Int)) = true := decide_eq_true c14
                          clear c14
                          by_cases c15 : 0 ≤ x11_3
                          · rw [if_pos c15] at H
                            have c15b0 : decide (0 ≤ x11_3) = true := decide_eq_true c15
                            clear c15
                            by_cases c16 : x11_3 < ((rd_L2 t271 x10_3).length : Int)
                            · rw [if_pos c16] at H
                              have c16b0 : decide (x11_3 < ((rd_L2 t271 x10_3).length : Int)) = true := decide_eq_true c16
                              clear c16
                              by_cases c17 : 0 ≤ t276
                              · rw [if_pos c17] at H
                                have c17b0 : decide (0 ≤ t276) = true := decide_eq_true c17
                                clear c17
                                by_cases c18 : t276 < (t271.length : Int)
                                · rw [if_pos c18] at H
                                  have c18b0 : decide (t276 < (t271.length : Int)) = true := decide_eq_true c18
                                  clear c18
                                  by_cases c19 : 0 ≤ t277
                                  · rw [if_pos c19] at H
                                    have c19b0 : decide (0 ≤ t277) = true := decide_eq_true c19
                                    clear c19
                                    by_cases c20 : t277 < ((rd_L2 t271 t276).length : Int)
                                    · rw [if_pos c20] at H
                                      have c20b0 : decide (t277 < ((rd_L2 t271 t276).length : Int)) = true := decide_eq_true c20
                                      clear c20
                                      by_cases c21 : (rd (rd_L2 t271 x10_3) x11_3) = (wrap64 (t278 + (rd (rd_L2 t271 t276) t277)))
                                      · rw [if_pos c21] at H
                                        have c21b0 : ((rd (rd_L2 t271 x10_3) x11_3) == (wrap64 (t278 + (rd (rd_L2 t271 t276) t277)))) = true := beq_iff_eq.mpr c21
                                        have c21b1 : ((rd (rd_L2 t271 x10_3) x11_3) != (wrap64 (t278 + (rd (rd_L2 t271 t276) t277)))) = false := bne_eq_false_iff_eq.mpr c21
                                        clear c21
                                        by_cases c22 : x9_3.length < 17592186044416
                                        · rw [if_pos c22] at H
                                          have LMc22 := Aside0.mk c22
                                          clear c22
                                          obtain ⟨y284, hy284⟩ : ∃ y_ : List Int, y_ = (x9_3 ++ [x12_3]) := ⟨_, rfl⟩
                                          replace H : (ancepsref45_Best.l0 k3 a0 a1 y284 t276 t277 t271) = some (r1, r2, r3) := by first | (rw [hy284]; with_reducible exact H) | (have H2_ := (Option.bind_some _ _).symm.trans H; rw [hy284]; with_reducible exact H2_) | (have H2_ := (Option.bind_some _ _).symm.trans H; with_reducible exact H2_) | with_reducible exact H | (rw [hy284]; exact H) | exact H
                                          have Ny284 := Aside0.mk hy284
                                          clear hy284
                                          have H' := Aside0.mk H
                                          clear H
                                          go_wp2_with (first | (go_at_call 45; (with_reducible refine (ancepsref45_Step.calls k3 a0 a1 x10_3 x11_3 x12_3 t276 t277 t278 true _ A11.out).mono ?_); rintro e w' ⟨rfl, ⟨nd, rfl⟩⟩; (try first | exact ⟨rfl, _, World.drewN_drewN _ _ _⟩ | exact ⟨rfl, _, Eq.trans (World.drewN_drewN _ _ _) (congrArg (World.drewN _) (Nat.add_assoc _ _ _))⟩); obtain ⟨Ao23, co23, eo23⟩ := Kd.S_slice HO_8.out; subst eo23; have p280 : 0 ≤ (x10_3 : Int) := of_decide_eq_true (by first | (with_reducible assumption) | assumption); have q280 : x10_3 < (t271.length : Int) := of_decide_eq_true (by first | (with_reducible assumption) | assumption); obtain ⟨ad280, A280_0, c280_0, e280, hx280_0, hl280_0, hi280_0⟩ := at_L2 (Kd.S_reads' HO_8.out).2.2 x10_3 p280 q280; cases e280; obtain ⟨ce280, hce280, hMe280, hcc280⟩ := Kd.S_get HO_8.out [] x10_3 p280 (by first | exact q280 | exact of_decide_eq_true (by first | (with_reducible assumption) | assumption) | (have e_ := (Kd.S_reads' HO_8.out).1; omega)); obtain ⟨ve280_0, rfl, ge280_0⟩ := hMe280; have hv280_0 := hcc280 0 _ rfl; rw [Nat.add_zero, show ((Kd.slice 3 (Kd.int .i64))).sz = 1 from rfl, Nat.mul_one] at hv280_0; replace hv280_0 := Option.some.inj (hv280_0.symm.trans hx280_0); rw [hv280_0] at ge280_0; have HL280_0 := Aside0.mk (show Kd.R (Kd.int .i64) 3 _ _ _ _ (rd_L2 t271 x10_3) from ge280_0); clear hv280_0 ge280_0; clear hcc280 hce280; have HR280_0 := Aside0.mk hi280_0; have HC280_0 := Aside0.mk hl280_0; clear hi280_0 hl280_0; replace p280 := eq_true p280; replace q280 := eq_true q280; have p281 : 0 ≤ (x11_3 : Int) := of_decide_eq_true (by first | (with_reducible assumption) | assumption); have q281 : x11_3 < ((rd_L2 t271 x10_3).length : Int) := of_decide_eq_true (by first | (with_reducible assumption) | assumption); obtain ⟨ad281, e281, hx281_0⟩ := Kd.at_int (by repeat (first | (with_reducible exact HR280_0.out) | (with_reducible refine Kd.C_alloc ?_ _) | (with_reducible refine Kd.C_drewN ?_ _) | (with_reducible refine Kd.C_drew ?_) | exact HR280_0.out)) x11_3 p281 q281; cases e281; replace p281 := eq_true p281; replace q281 := eq_true q281; have p282 : 0 ≤ (t276 : Int) := of_decide_eq_true (by first | (with_reducible assumption) | assumption); have q282 : t276 < (t271.length : Int) := of_decide_eq_true (by first | (with_reducible assumption) | assumption); obtain ⟨ad282, A282_0, c282_0, e282, hx282_0, hl282_0, hi282_0⟩ := at_L2 (Kd.S_reads' HO_8.out).2.2 t276 p282 q282; obtain rfl : ad280 = ad282 := (by injection e282); obtain ⟨ce282, hce282, hMe282, hcc282⟩ := Kd.S_get HO_8.out [] t276 p282 (by first | exact q282 | exact of_decide_eq_true (by first | (with_reducible assumption) | assumption) | (have e_ := (Kd.S_reads' HO_8.out).1; omega)); obtain ⟨ve282_0, rfl, ge282_0⟩ := hMe282; have hv282_0 := hcc282 0 _ rfl; rw [Nat.add_zero, show ((Kd.slice 3 (Kd.int .i64))).sz = 1 from rfl, Nat.mul_one] at hv282_0; replace hv282_0 := Option.some.inj (hv282_0.symm.trans hx282_0); rw [hv282_0] at ge282_0; have HL282_0 := Aside0.mk (show Kd.R (Kd.int .i64) 3 _ _ _ _ (rd_L2 t271 t276) from ge282_0); clear hv282_0 ge282_0; clear hcc282 hce282; have HR282_0 := Aside0.mk hi282_0; have HC282_0 := Aside0.mk hl282_0; clear hi282_0 hl282_0; replace p282 := eq_true p282; replace q282 := eq_true q282; have p283 : 0 ≤ (t277 : Int) := of_decide_eq_true (by first | (with_reducible assumption) | assumption); have q283 : t277 < ((rd_L2 t271 t276).length : Int) := of_decide_eq_true (by first | (with_reducible assumption) | assumption); obtain ⟨ad283, e283, hx283_0⟩ := Kd.at_int (by repeat (first | (with_reducible exact HR282_0.out) | (with_reducible refine Kd.C_alloc ?_ _) | (with_reducible refine Kd.C_drewN ?_ _) | (with_reducible refine Kd.C_drew ?_) | exact HR282_0.out)) t277 p283 q283; cases e283; replace p283 := eq_true p283; replace q283 := eq_true q283) | ((with_reducible refine gate_builtin (b := .append) (xs := #[.tmp 71, .tmp 73]) rfl ?_); (try (refine gate_guard (by rfl) ?_; dsimp only)); at_builtin; refine Kd.R_append (Kd.int .i64) (w0 := w) w.heap.size rfl (.tmp 71) (.tmp 73) 31 3 (.int .i64 0) 8 rfl Try.underlying31 info3 rfl (by decide) (by omega) u9 x9_3 x12_3 [.int .i64 x12_3] (fun _ => True) (fun _ => False) rfl rfl ?aP (fun _ hk => hk.elim) ?aF ?aO ?aB ?aS ?aL ?_; (case aP => exact rfl); (case aB => exact (by repeat (first | (with_reducible first | exact HB.out | apply below_alloc | apply pw_below_drewN | apply below_drew1) | exact HB.out))); (case aF => exact (fun _ _ => trivial)); (case aO => exact (by (with_reducible repeat (first | apply Kd.R_alloc | apply Kd.R_drewN | apply Kd.R_drew)); exact HO_9.out)); (case aS => exact (below_size (by repeat (first | (with_reducible first | exact HB.out | apply below_alloc | apply pw_below_drewN | apply below_drew1) | exact HB.out)))); (case aL => have := LMc22.out; omega); intro v285 w24 ho hb hg hat; rw [← Ny284.out] at ho; have n0_ := Aside0.mk (Kd.S_after (ok := (fun _ => True)) (by (with_reducible repeat (first | apply Kd.S_alloc | apply Kd.S_drewN | apply Kd.S_drew)); exact Kd.S_mono HO_8.out (fun _ hk => ⟨trivial, hk⟩)) hg hat); have n1_ := Aside0.mk (Kd.R_after (ok := (fun k_ => some k_ ≠ (.slice (some ad280) t271.length co23 : Value).ownBlock)) (by (with_reducible repeat (first | apply Kd.R_alloc | apply Kd.R_drewN | apply Kd.R_drew)); exact Kd.R_mono HL280_0.out (fun _ hk => ⟨hk.2, hk.1⟩)) hg hat); have n2_ := Aside0.mk (Kd.R_after (ok := (fun k_ => some k_ ≠ (.slice (some ad280) t271.length co23 : Value).ownBlock)) (by (with_reducible repeat (first | apply Kd.R_alloc | apply Kd.R_drewN | apply Kd.R_drew)); exact Kd.R_mono HL282_0.out (fun _ hk => ⟨hk.2, hk.1⟩)) hg hat); have n3_ := Aside0.mk (hb); have n4_ := Aside0.mk (ho); clear HO_8; clear HL280_0; clear HL282_0; clear HB; clear HO_9; have HO_8 := n0_; have HL280_0 := n1_; have HL282_0 := n2_; have HB := n3_; have HO286 := n4_; clear n0_ n1_ n2_ n3_ n4_; clear ho hb hg hat))
                                          repeat (go_quiet (first | (go_at_call 45; (with_reducible refine (ancepsref45_Step.calls k3 a0 a1 x10_3 x11_3 x12_3 t276 t277 t278 true _ A11.out).mono ?_); (try clear A11); rintro e w' ⟨rfl, ⟨nd, rfl⟩⟩; (try first | exact ⟨rfl, _, World.drewN_drewN _ _ _⟩ | exact ⟨rfl, _, Eq.trans (World.drewN_drewN _ _ _) (congrArg (World.drewN _) (Nat.add_assoc _ _ _))⟩); obtain ⟨Ao23, co23, eo23⟩ := Kd.S_slice HO_8.out; subst eo23; have p280 : 0 ≤ (x10_3 : Int) := of_decide_eq_true (by first | (with_reducible assumption) | assumption); have q280 : x10_3 < (t271.length : Int) := of_decide_eq_true (by first | (with_reducible assumption) | assumption); obtain ⟨ad280, A280_0, c280_0, e280, hx280_0, hl280_0, hi280_0⟩ := at_L2 (Kd.S_reads' HO_8.out).2.2 x10_3 p280 q280; cases e280; obtain ⟨ce280, hce280, hMe280, hcc280⟩ := Kd.S_get HO_8.out [] x10_3 p280 (by first | exact q280 | exact of_decide_eq_true (by first | (with_reducible assumption) | assumption) | (have e_ := (Kd.S_reads' HO_8.out).1; omega)); obtain ⟨ve280_0, rfl, ge280_0⟩ := hMe280; have hv280_0 := hcc280 0 _ rfl; rw [Nat.add_zero, show ((Kd.slice 3 (Kd.int .i64))).sz = 1 from rfl, Nat.mul_one] at hv280_0; replace hv280_0 := Option.some.inj (hv280_0.symm.trans hx280_0); rw [hv280_0] at ge280_0; have HL280_0 := Aside0.mk (show Kd.R (Kd.int .i64) 3 _ _ _ _ (rd_L2 t271 x10_3) from ge280_0); clear hv280_0 ge280_0; clear hcc280 hce280; have HR280_0 := Aside0.mk hi280_0; have HC280_0 := Aside0.mk hl280_0; clear hi280_0 hl280_0; replace p280 := eq_true p280; replace q280 := eq_true q280; have p281 : 0 ≤ (x11_3 : Int) := of_decide_eq_true (by first | (with_reducible assumption) | assumption); have q281 : x11_3 < ((rd_L2 t271 x10_3).length : Int) := of_decide_eq_true (by first | (with_reducible assumption) | assumption); obtain ⟨ad281, e281, hx281_0⟩ := Kd.at_int (by repeat (first | (with_reducible exact HR280_0.out) | (with_reducible refine Kd.C_alloc ?_ _) | (with_reducible refine Kd.C_drewN ?_ _) | (with_reducible refine Kd.C_drew ?_) | exact HR280_0.out)) x11_3 p281 q281; cases e281; replace p281 := eq_true p281; replace q281 := eq_true q281; have p282 : 0 ≤ (t276 : Int) := of_decide_eq_true (by first | (with_reducible assumption) | assumption); have q282 : t276 < (t271.length : Int) := of_decide_eq_true (by first | (with_reducible assumption) | assumption); obtain ⟨ad282, A282_0, c282_0, e282, hx282_0, hl282_0, hi282_0⟩ := at_L2 (Kd.S_reads' HO_8.out).2.2 t276 p282 q282; obtain rfl : ad280 = ad282 := (by injection e282); obtain ⟨ce282, hce282, hMe282, hcc282⟩ := Kd.S_get HO_8.out [] t276 p282 (by first | exact q282 | exact of_decide_eq_true (by first | (with_reducible assumption) | assumption) | (have e_ := (Kd.S_reads' HO_8.out).1; omega)); obtain ⟨ve282_0, rfl, ge282_0⟩ := hMe282; have hv282_0 := hcc282 0 _ rfl; rw [Nat.add_zero, show ((Kd.slice 3 (Kd.int .i64))).sz = 1 from rfl, Nat.mul_one] at hv282_0; replace hv282_0 := Option.some.inj (hv282_0.symm.trans hx282_0); rw [hv282_0] at ge282_0; have HL282_0 := Aside0.mk (show Kd.R (Kd.int .i64) 3 _ _ _ _ (rd_L2 t271 t276) from ge282_0); clear hv282_0 ge282_0; clear hcc282 hce282; have HR282_0 := Aside0.mk hi282_0; have HC282_0 := Aside0.mk hl282_0; clear hi282_0 hl282_0; replace p282 := eq_true p282; replace q282 := eq_true q282; have p283 : 0 ≤ (t277 : Int) := of_decide_eq_true (by first | (with_reducible assumption) | assumption); have q283 : t277 < ((rd_L2 t271 t276).length : Int) := of_decide_eq_true (by first | (with_reducible assumption) | assumption); obtain ⟨ad283, e283, hx283_0⟩ := Kd.at_int (by repeat (first | (with_reducible exact HR282_0.out) | (with_reducible refine Kd.C_alloc ?_ _) | (with_reducible refine Kd.C_drewN ?_ _) | (with_reducible refine Kd.C_drew ?_) | exact HR282_0.out)) t277 p283 q283; cases e283; replace p283 := eq_true p283; replace q283 := eq_true q283) | ((with_reducible refine gate_builtin (b := .append) (xs := #[.tmp 71, .tmp 73]) rfl ?_); (try (refine gate_guard (by rfl) ?_; dsimp only)); at_builtin; refine Kd.R_append (Kd.int .i64) (w0 := w) w.heap.size rfl (.tmp 71) (.tmp 73) 31 3 (.int .i64 0) 8 rfl Try.underlying31 info3 rfl (by decide) (by omega) u9 x9_3 x12_3 [.int .i64 x12_3] (fun _ => True) (fun _ => False) rfl rfl ?aP (fun _ hk => hk.elim) ?aF ?aO ?aB ?aS ?aL ?_; (case aP => exact rfl); (case aB => exact (by repeat (first | (with_reducible first | exact HB.out | apply below_alloc | apply pw_below_drewN | apply below_drew1) | exact HB.out))); (case aF => exact (fun _ _ => trivial)); (case aO => exact (by (with_reducible repeat (first | apply Kd.R_alloc | apply Kd.R_drewN | apply Kd.R_drew)); exact HO_9.out)); (case aS => exact (below_size (by repeat (first | (with_reducible first | exact HB.out | apply below_alloc | apply pw_below_drewN | apply below_drew1) | exact HB.out)))); (case aL => have := LMc22.out; omega); intro v285 w24 ho hb hg hat; rw [← Ny284.out] at ho; have n0_ := Aside0.mk (Kd.S_after (ok := (fun _ => True)) (by (with_reducible repeat (first | apply Kd.S_alloc | apply Kd.S_drewN | apply Kd.S_drew)); exact Kd.S_mono HO_8.out (fun _ hk => ⟨trivial, hk⟩)) hg hat); have n1_ := Aside0.mk (Kd.R_after (ok := (fun k_ => some k_ ≠ (.slice (some ad280) t271.length co23 : Value).ownBlock)) (by (with_reducible repeat (first | apply Kd.R_alloc | apply Kd.R_drewN | apply Kd.R_drew)); exact Kd.R_mono HL280_0.out (fun _ hk => ⟨hk.2, hk.1⟩)) hg hat); have n2_ := Aside0.mk (Kd.R_after (ok := (fun k_ => some k_ ≠ (.slice (some ad280) t271.length co23 : Value).ownBlock)) (by (with_reducible repeat (first | apply Kd.R_alloc | apply Kd.R_drewN | apply Kd.R_drew)); exact Kd.R_mono HL282_0.out (fun _ hk => ⟨hk.2, hk.1⟩)) hg hat); have n3_ := Aside0.mk (hb); have n4_ := Aside0.mk (ho); clear HO_8; clear HL280_0; clear HL282_0; clear HB; clear HO_9; have HO_8 := n0_; have HL280_0 := n1_; have HL282_0 := n2_; have HB := n3_; have HO286 := n4_; clear n0_ n1_ n2_ n3_ n4_; clear ho hb hg hat)); try go_wp2_with (first | (go_at_call 45; (with_reducible refine (ancepsref45_Step.calls k3 a0 a1 x10_3 x11_3 x12_3 t276 t277 t278 true _ A11.out).mono ?_); (try clear A11); rintro e w' ⟨rfl, ⟨nd, rfl⟩⟩; (try first | exact ⟨rfl, _, World.drewN_drewN _ _ _⟩ | exact ⟨rfl, _, Eq.trans (World.drewN_drewN _ _ _) (congrArg (World.drewN _) (Nat.add_assoc _ _ _))⟩); obtain ⟨Ao23, co23, eo23⟩ := Kd.S_slice HO_8.out; subst eo23; have p280 : 0 ≤ (x10_3 : Int) := of_decide_eq_true (by first | (with_reducible assumption) | assumption); have q280 : x10_3 < (t271.length : Int) := of_decide_eq_true (by first | (with_reducible assumption) | assumption); obtain ⟨ad280, A280_0, c280_0, e280, hx280_0, hl280_0, hi280_0⟩ := at_L2 (Kd.S_reads' HO_8.out).2.2 x10_3 p280 q280; cases e280; obtain ⟨ce280, hce280, hMe280, hcc280⟩ := Kd.S_get HO_8.out [] x10_3 p280 (by first | exact q280 | exact of_decide_eq_true (by first | (with_reducible assumption) | assumption) | (have e_ := (Kd.S_reads' HO_8.out).1; omega)); obtain ⟨ve280_0, rfl, ge280_0⟩ := hMe280; have hv280_0 := hcc280 0 _ rfl; rw [Nat.add_zero, show ((Kd.slice 3 (Kd.int .i64))).sz = 1 from rfl, Nat.mul_one] at hv280_0; replace hv280_0 := Option.some.inj (hv280_0.symm.trans hx280_0); rw [hv280_0] at ge280_0; have HL280_0 := Aside0.mk (show Kd.R (Kd.int .i64) 3 _ _ _ _ (rd_L2 t271 x10_3) from ge280_0); clear hv280_0 ge280_0; clear hcc280 hce280; have HR280_0 := Aside0.mk hi280_0; have HC280_0 := Aside0.mk hl280_0; clear hi280_0 hl280_0; replace p280 := eq_true p280; replace q280 := eq_true q280; have p281 : 0 ≤ (x11_3 : Int) := of_decide_eq_true (by first | (with_reducible assumption) | assumption); have q281 : x11_3 < ((rd_L2 t271 x10_3).length : Int) := of_decide_eq_true (by first | (with_reducible assumption) | assumption); obtain ⟨ad281, e281, hx281_0⟩ := Kd.at_int (by repeat (first | (with_reducible exact HR280_0.out) | (with_reducible refine Kd.C_alloc ?_ _) | (with_reducible refine Kd.C_drewN ?_ _) | (with_reducible refine Kd.C_drew ?_) | exact HR280_0.out)) x11_3 p281 q281; cases e281; replace p281 := eq_true p281; replace q281 := eq_true q281; have p282 : 0 ≤ (t276 : Int) := of_decide_eq_true (by first | (with_reducible assumption) | assumption); have q282 : t276 < (t271.length : Int) := of_decide_eq_true (by first | (with_reducible assumption) | assumption); obtain ⟨ad282, A282_0, c282_0, e282, hx282_0, hl282_0, hi282_0⟩ := at_L2 (Kd.S_reads' HO_8.out).2.2 t276 p282 q282; obtain rfl : ad280 = ad282 := (by injection e282); obtain ⟨ce282, hce282, hMe282, hcc282⟩ := Kd.S_get HO_8.out [] t276 p282 (by first | exact q282 | exact of_decide_eq_true (by first | (with_reducible assumption) | assumption) | (have e_ := (Kd.S_reads' HO_8.out).1; omega)); obtain ⟨ve282_0, rfl, ge282_0⟩ := hMe282; have hv282_0 := hcc282 0 _ rfl; rw [Nat.add_zero, show ((Kd.slice 3 (Kd.int .i64))).sz = 1 from rfl, Nat.mul_one] at hv282_0; replace hv282_0 := Option.some.inj (hv282_0.symm.trans hx282_0); rw [hv282_0] at ge282_0; have HL282_0 := Aside0.mk (show Kd.R (Kd.int .i64) 3 _ _ _ _ (rd_L2 t271 t276) from ge282_0); clear hv282_0 ge282_0; clear hcc282 hce282; have HR282_0 := Aside0.mk hi282_0; have HC282_0 := Aside0.mk hl282_0; clear hi282_0 hl282_0; replace p282 := eq_true p282; replace q282 := eq_true q282; have p283 : 0 ≤ (t277 : Int) := of_decide_eq_true (by first | (with_reducible assumption) | assumption); have q283 : t277 < ((rd_L2 t271 t276).length : Int) := of_decide_eq_true (by first | (with_reducible assumption) | assumption); obtain ⟨ad283, e283, hx283_0⟩ := Kd.at_int (by repeat (first | (with_reducible exact HR282_0.out) | (with_reducible refine Kd.C_alloc ?_ _) | (with_reducible refine Kd.C_drewN ?_ _) | (with_reducible refine Kd.C_drew ?_) | exact HR282_0.out)) t277 p283 q283; cases e283; replace p283 := eq_true p283; replace q283 := eq_true q283) | ((with_reducible refine gate_builtin (b := .append) (xs := #[.tmp 71, .tmp 73]) rfl ?_); (try (refine gate_guard (by rfl) ?_; dsimp only)); at_builtin; refine Kd.R_append (Kd.int .i64) (w0 := w) w.heap.size rfl (.tmp 71) (.tmp 73) 31 3 (.int .i64 0) 8 rfl Try.underlying31 info3 rfl (by decide) (by omega) u9 x9_3 x12_3 [.int .i64 x12_3] (fun _ => True) (fun _ => False) rfl rfl ?aP (fun _ hk => hk.elim) ?aF ?aO ?aB ?aS ?aL ?_; (case aP => exact rfl); (case aB => exact (by repeat (first | (with_reducible first | exact HB.out | apply below_alloc | apply pw_below_drewN | apply below_drew1) | exact HB.out))); (case aF => exact (fun _ _ => trivial)); (case aO => exact (by (with_reducible repeat (first | apply Kd.R_alloc | apply Kd.R_drewN | apply Kd.R_drew)); exact HO_9.out)); (case aS => exact (below_size (by repeat (first | (with_reducible first | exact HB.out | apply below_alloc | apply pw_below_drewN | apply below_drew1) | exact HB.out)))); (case aL => have := LMc22.out; omega); intro v285 w24 ho hb hg hat; rw [← Ny284.out] at ho; have n0_ := Aside0.mk (Kd.S_after (ok := (fun _ => True)) (by (with_reducible repeat (first | apply Kd.S_alloc | apply Kd.S_drewN | apply Kd.S_drew)); exact Kd.S_mono HO_8.out (fun _ hk => ⟨trivial, hk⟩)) hg hat); have n1_ := Aside0.mk (Kd.R_after (ok := (fun k_ => some k_ ≠ (.slice (some ad280) t271.length co23 : Value).ownBlock)) (by (with_reducible repeat (first | apply Kd.R_alloc | apply Kd.R_drewN | apply Kd.R_drew)); exact Kd.R_mono HL280_0.out (fun _ hk => ⟨hk.2, hk.1⟩)) hg hat); have n2_ := Aside0.mk (Kd.R_after (ok := (fun k_ => some k_ ≠ (.slice (some ad280) t271.length co23 : Value).ownBlock)) (by (with_reducible repeat (first | apply Kd.R_alloc | apply Kd.R_drewN | apply Kd.R_drew)); exact Kd.R_mono HL282_0.out (fun _ hk => ⟨hk.2, hk.1⟩)) hg hat); have n3_ := Aside0.mk (hb); have n4_ := Aside0.mk (ho); clear HO_8; clear HL280_0; clear HL282_0; clear HB; clear HO_9; have HO_8 := n0_; have HL280_0 := n1_; have HL282_0 := n2_; have HB := n3_; have HO286 := n4_; clear n0_ n1_ n2_ n3_ n4_; clear ho hb hg hat)))
                                          go_roundg k3
                                          case measure => have := HK1.out; have := HJ6.out; have := HK3.out; omega
                                          case rel => exact ⟨(y284), (t276), (t277), (by first | rfl | (simp; done) | (simp [*]; done)), (by first | rfl | (simp; done) | (simp [*]; done)), H', ⟨by have := HK1.out; have := HJ6.out; have := HK3.out; omega⟩, ⟨by (with_reducible repeat (first | apply Kd.R_alloc | apply Kd.R_drewN | apply Kd.R_drew)); exact HO286.out⟩, ⟨by (with_reducible repeat (first | apply Kd.S_alloc | apply Kd.S_drewN | apply Kd.S_drew)); exact Kd.S_mono HO_8.out (fun _ hk => hk.2)⟩, ⟨by repeat (first | (with_reducible first | exact HB.out | apply below_alloc | apply pw_below_drewN | apply below_drew1) | exact HB.out)⟩⟩
                                        · rw [if_neg c22] at H
                                          exact absurd H (by simp)
                                      · rw [if_neg c21] at H
                                        have c21b0 : ((rd (rd_L2 t271 x10_3) x11_3) == (wrap64 (t278 + (rd (rd_L2 t271 t276) t277)))) = false := beq_eq_false_iff_ne.mpr c21
                                        have c21b1 : ((rd (rd_L2 t271 x10_3) x11_3) != (wrap64 (t278 + (rd (rd_L2 t271 t276) t277)))) = true := bne_iff_ne.mpr c21
                                        have H' := Aside0.mk H
                                        clear H
                                        go_wp2_with (first | (go_at_call 45; (with_reducible refine (ancepsref45_Step.calls k3 a0 a1 x10_3 x11_3 x12_3 t276 t277 t278 true _ A11.out).mono ?_); rintro e w' ⟨rfl, ⟨nd, rfl⟩⟩; (try first | exact ⟨rfl, _, World.drewN_drewN _ _ _⟩ | exact ⟨rfl, _, Eq.trans (World.drewN_drewN _ _ _) (congrArg (World.drewN _) (Nat.add_assoc _ _ _))⟩); obtain ⟨Ao25, co25, eo25⟩ := Kd.S_slice HO_8.out; subst eo25; have p280 : 0 ≤ (x10_3 : Int) := of_decide_eq_true (by first | (with_reducible assumption) | assumption); have q280 : x10_3 < (t271.length : Int) := of_decide_eq_true (by first | (with_reducible assumption) | assumption); obtain ⟨ad280, A280_0, c280_0, e280, hx280_0, hl280_0, hi280_0⟩ := at_L2 (Kd.S_reads' HO_8.out).2.2 x10_3 p280 q280; cases e280; obtain ⟨ce280, hce280, hMe280, hcc280⟩ := Kd.S_get HO_8.out [] x10_3 p280 (by first | exact q280 | exact of_decide_eq_true (by first | (with_reducible assumption) | assumption) | (have e_ := (Kd.S_reads' HO_8.out).1; omega)); obtain ⟨ve280_0, rfl, ge280_0⟩ := hMe280; have hv280_0 := hcc280 0 _ rfl; rw [Nat.add_zero, show ((Kd.slice 3 (Kd.int .i64))).sz = 1 from rfl, Nat.mul_one] at hv280_0; replace hv280_0 := Option.some.inj (hv280_0.symm.trans hx280_0); rw [hv280_0] at ge280_0; have HL280_0 := Aside0.mk (show Kd.R (Kd.int .i64) 3 _ _ _ _ (rd_L2 t271 x10_3) from ge280_0); clear hv280_0 ge280_0; clear hcc280 hce280; have HR280_0 := Aside0.mk hi280_0; have HC280_0 := Aside0.mk hl280_0; clear hi280_0 hl280_0; replace p280 := eq_true p280; replace q280 := eq_true q280; have p281 : 0 ≤ (x11_3 : Int) := of_decide_eq_true (by first | (with_reducible assumption) | assumption); have q281 : x11_3 < ((rd_L2 t271 x10_3).length : Int) := of_decide_eq_true (by first | (with_reducible assumption) | assumption); obtain ⟨ad281, e281, hx281_0⟩ := Kd.at_int (by repeat (first | (with_reducible exact HR280_0.out) | (with_reducible refine Kd.C_alloc ?_ _) | (with_reducible refine Kd.C_drewN ?_ _) | (with_reducible refine Kd.C_drew ?_) | exact HR280_0.out)) x11_3 p281 q281; cases e281; replace p281 := eq_true p281; replace q281 := eq_true q281; have p282 : 0 ≤ (t276 : Int) := of_decide_eq_true (by first | (with_reducible assumption) | assumption); have q282 : t276 < (t271.length : Int) := of_decide_eq_true (by first | (with_reducible assumption) | assumption); obtain ⟨ad282, A282_0, c282_0, e282, hx282_0, hl282_0, hi282_0⟩ := at_L2 (Kd.S_reads' HO_8.out).2.2 t276 p282 q282; obtain rfl : ad280 = ad282 := (by injection e282); obtain ⟨ce282, hce282, hMe282, hcc282⟩ := Kd.S_get HO_8.out [] t276 p282 (by first | exact q282 | exact of_decide_eq_true (by first | (with_reducible assumption) | assumption) | (have e_ := (Kd.S_reads' HO_8.out).1; omega)); obtain ⟨ve282_0, rfl, ge282_0⟩ := hMe282; have hv282_0 := hcc282 0 _ rfl; rw [Nat.add_zero, show ((Kd.slice 3 (Kd.int .i64))).sz = 1 from rfl, Nat.mul_one] at hv282_0; replace hv282_0 := Option.some.inj (hv282_0.symm.trans hx282_0); rw [hv282_0] at ge282_0; have HL282_0 := Aside0.mk (show Kd.R (Kd.int .i64) 3 _ _ _ _ (rd_L2 t271 t276) from ge282_0); clear hv282_0 ge282_0; clear hcc282 hce282; have HR282_0 := Aside0.mk hi282_0; have HC282_0 := Aside0.mk hl282_0; clear hi282_0 hl282_0; replace p282 := eq_true p282; replace q282 := eq_true q282; have p283 : 0 ≤ (t277 : Int) := of_decide_eq_true (by first | (with_reducible assumption) | assumption); have q283 : t277 < ((rd_L2 t271 t276).length : Int) := of_decide_eq_true (by first | (with_reducible assumption) | assumption); obtain ⟨ad283, e283, hx283_0⟩ := Kd.at_int (by repeat (first | (with_reducible exact HR282_0.out) | (with_reducible refine Kd.C_alloc ?_ _) | (with_reducible refine Kd.C_drewN ?_ _) | (with_reducible refine Kd.C_drew ?_) | exact HR282_0.out)) t277 p283 q283; cases e283; replace p283 := eq_true p283; replace q283 := eq_true q283))
                                        repeat (go_quiet (first | (go_at_call 45; (with_reducible refine (ancepsref45_Step.calls k3 a0 a1 x10_3 x11_3 x12_3 t276 t277 t278 true _ A11.out).mono ?_); (try clear A11); rintro e w' ⟨rfl, ⟨nd, rfl⟩⟩; (try first | exact ⟨rfl, _, World.drewN_drewN _ _ _⟩ | exact ⟨rfl, _, Eq.trans (World.drewN_drewN _ _ _) (congrArg (World.drewN _) (Nat.add_assoc _ _ _))⟩); obtain ⟨Ao25, co25, eo25⟩ := Kd.S_slice HO_8.out; subst eo25; have p280 : 0 ≤ (x10_3 : Int) := of_decide_eq_true (by first | (with_reducible assumption) | assumption); have q280 : x10_3 < (t271.length : Int) := of_decide_eq_true (by first | (with_reducible assumption) | assumption); obtain ⟨ad280, A280_0, c280_0, e280, hx280_0, hl280_0, hi280_0⟩ := at_L2 (Kd.S_reads' HO_8.out).2.2 x10_3 p280 q280; cases e280; obtain ⟨ce280, hce280, hMe280, hcc280⟩ := Kd.S_get HO_8.out [] x10_3 p280 (by first | exact q280 | exact of_decide_eq_true (by first | (with_reducible assumption) | assumption) | (have e_ := (Kd.S_reads' HO_8.out).1; omega)); obtain ⟨ve280_0, rfl, ge280_0⟩ := hMe280; have hv280_0 := hcc280 0 _ rfl; rw [Nat.add_zero, show ((Kd.slice 3 (Kd.int .i64))).sz = 1 from rfl, Nat.mul_one] at hv280_0; replace hv280_0 := Option.some.inj (hv280_0.symm.trans hx280_0); rw [hv280_0] at ge280_0; have HL280_0 := Aside0.mk (show Kd.R (Kd.int .i64) 3 _ _ _ _ (rd_L2 t271 x10_3) from ge280_0); clear hv280_0 ge280_0; clear hcc280 hce280; have HR280_0 := Aside0.mk hi280_0; have HC280_0 := Aside0.mk hl280_0; clear hi280_0 hl280_0; replace p280 := eq_true p280; replace q280 := eq_true q280; have p281 : 0 ≤ (x11_3 : Int) := of_decide_eq_true (by first | (with_reducible assumption) | assumption); have q281 : x11_3 < ((rd_L2 t271 x10_3).length : Int) := of_decide_eq_true (by first | (with_reducible assumption) | assumption); obtain ⟨ad281, e281, hx281_0⟩ := Kd.at_int (by repeat (first | (with_reducible exact HR280_0.out) | (with_reducible refine Kd.C_alloc ?_ _) | (with_reducible refine Kd.C_drewN ?_ _) | (with_reducible refine Kd.C_drew ?_) | exact HR280_0.out)) x11_3 p281 q281; cases e281; replace p281 := eq_true p281; replace q281 := eq_true q281; have p282 : 0 ≤ (t276 : Int) := of_decide_eq_true (by first | (with_reducible assumption) | assumption); have q282 : t276 < (t271.length : Int) := of_decide_eq_true (by first | (with_reducible assumption) | assumption); obtain ⟨ad282, A282_0, c282_0, e282, hx282_0, hl282_0, hi282_0⟩ := at_L2 (Kd.S_reads' HO_8.out).2.2 t276 p282 q282; obtain rfl : ad280 = ad282 := (by injection e282); obtain ⟨ce282, hce282, hMe282, hcc282⟩ := Kd.S_get HO_8.out [] t276 p282 (by first | exact q282 | exact of_decide_eq_true (by first | (with_reducible assumption) | assumption) | (have e_ := (Kd.S_reads' HO_8.out).1; omega)); obtain ⟨ve282_0, rfl, ge282_0⟩ := hMe282; have hv282_0 := hcc282 0 _ rfl; rw [Nat.add_zero, show ((Kd.slice 3 (Kd.int .i64))).sz = 1 from rfl, Nat.mul_one] at hv282_0; replace hv282_0 := Option.some.inj (hv282_0.symm.trans hx282_0); rw [hv282_0] at ge282_0; have HL282_0 := Aside0.mk (show Kd.R (Kd.int .i64) 3 _ _ _ _ (rd_L2 t271 t276) from ge282_0); clear hv282_0 ge282_0; clear hcc282 hce282; have HR282_0 := Aside0.mk hi282_0; have HC282_0 := Aside0.mk hl282_0; clear hi282_0 hl282_0; replace p282 := eq_true p282; replace q282 := eq_true q282; have p283 : 0 ≤ (t277 : Int) := of_decide_eq_true (by first | (with_reducible assumption) | assumption); have q283 : t277 < ((rd_L2 t271 t276).length : Int) := of_decide_eq_true (by first | (with_reducible assumption) | assumption); obtain ⟨ad283, e283, hx283_0⟩ := Kd.at_int (by repeat (first | (with_reducible exact HR282_0.out) | (with_reducible refine Kd.C_alloc ?_ _) | (with_reducible refine Kd.C_drewN ?_ _) | (with_reducible refine Kd.C_drew ?_) | exact HR282_0.out)) t277 p283 q283; cases e283; replace p283 := eq_true p283; replace q283 := eq_true q283)); try go_wp2_with (first | (go_at_call 45; (with_reducible refine (ancepsref45_Step.calls k3 a0 a1 x10_3 x11_3 x12_3 t276 t277 t278 true _ A11.out).mono ?_); (try clear A11); rintro e w' ⟨rfl, ⟨nd, rfl⟩⟩; (try first | exact ⟨rfl, _, World.drewN_drewN _ _ _⟩ | exact ⟨rfl, _, Eq.trans (World.drewN_drewN _ _ _) (congrArg (World.drewN _) (Nat.add_assoc _ _ _))⟩); obtain ⟨Ao25, co25, eo25⟩ := Kd.S_slice HO_8.out; subst eo25; have p280 : 0 ≤ (x10_3 : Int) := of_decide_eq_true (by first | (with_reducible assumption) | assumption); have q280 : x10_3 < (t271.length : Int) := of_decide_eq_true (by first | (with_reducible assumption) | assumption); obtain ⟨ad280, A280_0, c280_0, e280, hx280_0, hl280_0, hi280_0⟩ := at_L2 (Kd.S_reads' HO_8.out).2.2 x10_3 p280 q280; cases e280; obtain ⟨ce280, hce280, hMe280, hcc280⟩ := Kd.S_get HO_8.out [] x10_3 p280 (by first | exact q280 | exact of_decide_eq_true (by first | (with_reducible assumption) | assumption) | (have e_ := (Kd.S_reads' HO_8.out).1; omega)); obtain ⟨ve280_0, rfl, ge280_0⟩ := hMe280; have hv280_0 := hcc280 0 _ rfl; rw [Nat.add_zero, show ((Kd.slice 3 (Kd.int .i64))).sz = 1 from rfl, Nat.mul_one] at hv280_0; replace hv280_0 := Option.some.inj (hv280_0.symm.trans hx280_0); rw [hv280_0] at ge280_0; have HL280_0 := Aside0.mk (show Kd.R (Kd.int .i64) 3 _ _ _ _ (rd_L2 t271 x10_3) from ge280_0); clear hv280_0 ge280_0; clear hcc280 hce280; have HR280_0 := Aside0.mk hi280_0; have HC280_0 := Aside0.mk hl280_0; clear hi280_0 hl280_0; replace p280 := eq_true p280; replace q280 := eq_true q280; have p281 : 0 ≤ (x11_3 : Int) := of_decide_eq_true (by first | (with_reducible assumption) | assumption); have q281 : x11_3 < ((rd_L2 t271 x10_3).length : Int) := of_decide_eq_true (by first | (with_reducible assumption) | assumption); obtain ⟨ad281, e281, hx281_0⟩ := Kd.at_int (by repeat (first | (with_reducible exact HR280_0.out) | (with_reducible refine Kd.C_alloc ?_ _) | (with_reducible refine Kd.C_drewN ?_ _) | (with_reducible refine Kd.C_drew ?_) | exact HR280_0.out)) x11_3 p281 q281; cases e281; replace p281 := eq_true p281; replace q281 := eq_true q281; have p282 : 0 ≤ (t276 : Int) := of_decide_eq_true (by first | (with_reducible assumption) | assumption); have q282 : t276 < (t271.length : Int) := of_decide_eq_true (by first | (with_reducible assumption) | assumption); obtain ⟨ad282, A282_0, c282_0, e282, hx282_0, hl282_0, hi282_0⟩ := at_L2 (Kd.S_reads' HO_8.out).2.2 t276 p282 q282; obtain rfl : ad280 = ad282 := (by injection e282); obtain ⟨ce282, hce282, hMe282, hcc282⟩ := Kd.S_get HO_8.out [] t276 p282 (by first | exact q282 | exact of_decide_eq_true (by first | (with_reducible assumption) | assumption) | (have e_ := (Kd.S_reads' HO_8.out).1; omega)); obtain ⟨ve282_0, rfl, ge282_0⟩ := hMe282; have hv282_0 := hcc282 0 _ rfl; rw [Nat.add_zero, show ((Kd.slice 3 (Kd.int .i64))).sz = 1 from rfl, Nat.mul_one] at hv282_0; replace hv282_0 := Option.some.inj (hv282_0.symm.trans hx282_0); rw [hv282_0] at ge282_0; have HL282_0 := Aside0.mk (show Kd.R (Kd.int .i64) 3 _ _ _ _ (rd_L2 t271 t276) from ge282_0); clear hv282_0 ge282_0; clear hcc282 hce282; have HR282_0 := Aside0.mk hi282_0; have HC282_0 := Aside0.mk hl282_0; clear hi282_0 hl282_0; replace p282 := eq_true p282; replace q282 := eq_true q282; have p283 : 0 ≤ (t277 : Int) := of_decide_eq_true (by first | (with_reducible assumption) | assumption); have q283 : t277 < ((rd_L2 t271 t276).length : Int) := of_decide_eq_true (by first | (with_reducible assumption) | assumption); obtain ⟨ad283, e283, hx283_0⟩ := Kd.at_int (by repeat (first | (with_reducible exact HR282_0.out) | (with_reducible refine Kd.C_alloc ?_ _) | (with_reducible refine Kd.C_drewN ?_ _) | (with_reducible refine Kd.C_drew ?_) | exact HR282_0.out)) t277 p283 q283; cases e283; replace p283 := eq_true p283; replace q283 := eq_true q283)))
                                        go_roundg k3
                                        case measure => have := HK1.out; have := HJ6.out; have := HK3.out; omega
                                        case rel => exact ⟨(x9_3), (x10_3), (x11_3), (wrap64 (x12_3 + 1)), (by first | rfl | (simp; done) | (simp [*]; done)), (by first | rfl | (simp; done) | (simp [*]; done)), (by first | rfl | (simp; done) | (simp [*]; done)), H', ⟨by have := HK1.out; have := HJ6.out; have := HK3.out; omega⟩, ⟨by (with_reducible repeat (first | apply Kd.S_alloc | apply Kd.S_drewN | apply Kd.S_drew)); exact HO_8.out⟩, ⟨by (with_reducible repeat (first | apply Kd.R_alloc | apply Kd.R_drewN | apply Kd.R_drew)); exact HO_9.out⟩, ⟨by repeat (first | (with_reducible first | exact HB.out | apply below_alloc | apply pw_below_drewN | apply below_drew1) | exact HB.out)⟩⟩
                                    · rw [if_neg c20] at H
                                      exact absurd H (by simp)
                                  · rw [if_neg c19] at H
                                    exact absurd H (by simp)
                                · rw [if_neg c18] at H
                                  exact absurd H (by simp)
                              · rw [if_neg c17] at H
                                exact absurd H (by simp)
                            · rw [if_neg c16] at H
                              exact absurd H (by simp)
                          · rw [if_neg c15] at H
                            exact absurd H (by simp)
                        · rw [if_neg c14] at H
                          exact absurd H (by simp)
                      · rw [if_neg c13] at H
                        exact absurd H (by simp)
                    · replace c12 := Bool.eq_false_iff.mpr c12
                      subst c12
                      have H1 : (ancepsref45_Best.l1 k3 a0 a1 t271 x9_3 x10_3 x11_3 (wrap64 (x12_3 + 1))) = some (r1, r2, r3) := by rw [if_neg (show ¬ (false = true) by decide)] at H; exact H
                      clear H
                      have H := H1
                      clear H1
                      have H' := Aside0.mk H
                      clear H
                      go_wp2_with (first | (go_at_call 45; (with_reducible refine (ancepsref45_Step.calls k3 a0 a1 x10_3 x11_3 x12_3 t276 t277 t278 false _ A11.out).mono ?_); rintro e w' ⟨rfl, ⟨nd, rfl⟩⟩; (try first | exact ⟨rfl, _, World.drewN_drewN _ _ _⟩ | exact ⟨rfl, _, Eq.trans (World.drewN_drewN _ _ _) (congrArg (World.drewN _) (Nat.add_assoc _ _ _))⟩)))
                      repeat (go_quiet (first | (go_at_call 45; (with_reducible refine (ancepsref45_Step.calls k3 a0 a1 x10_3 x11_3 x12_3 t276 t277 t278 false _ A11.out).mono ?_); (try clear A11); rintro e w' ⟨rfl, ⟨nd, rfl⟩⟩; (try first | exact ⟨rfl, _, World.drewN_drewN _ _ _⟩ | exact ⟨rfl, _, Eq.trans (World.drewN_drewN _ _ _) (congrArg (World.drewN _) (Nat.add_assoc _ _ _))⟩))); try go_wp2_with (first | (go_at_call 45; (with_reducible refine (ancepsref45_Step.calls k3 a0 a1 x10_3 x11_3 x12_3 t276 t277 t278 false _ A11.out).mono ?_); (try clear A11); rintro e w' ⟨rfl, ⟨nd, rfl⟩⟩; (try first | exact ⟨rfl, _, World.drewN_drewN _ _ _⟩ | exact ⟨rfl, _, Eq.trans (World.drewN_drewN _ _ _) (congrArg (World.drewN _) (Nat.add_assoc _ _ _))⟩))))
                      go_roundg k3
                      case measure => have := HK1.out; have := HJ6.out; have := HK3.out; omega
                      case rel => exact ⟨(x9_3), (x10_3), (x11_3), (wrap64 (x12_3 + 1)), (by first | rfl | (simp; done) | (simp [*]; done)), (by first | rfl | (simp; done) | (simp [*]; done)), (by first | rfl | (simp; done) | (simp [*]; done)), H', ⟨by have := HK1.out; have := HJ6.out; have := HK3.out; omega⟩, ⟨by (with_reducible repeat (first | apply Kd.S_alloc | apply Kd.S_drewN | apply Kd.S_drew)); exact HO_8.out⟩, ⟨by (with_reducible repeat (first | apply Kd.R_alloc | apply Kd.R_drewN | apply Kd.R_drew)); exact HO_9.out⟩, ⟨by repeat (first | (with_reducible first | exact HB.out | apply below_alloc | apply pw_below_drewN | apply below_drew1) | exact HB.out)⟩⟩
                  · rw [if_neg c10] at H
                    have c10b0 : decide (x12_3 ≤ 4) = false := decide_eq_false c10
                    clear c10
                    have H' := Aside0.mk H
                    clear H
                    go_wp2
                    repeat (go_quiet (fail); try go_wp2)
                    go_roundg k3
                    case measure => have := HK1.out; have := HJ6.out; have := HK3.out; omega
                    case rel => exact ⟨(x9_3), (x10_3), (x11_3), (by first | rfl | (simp; done) | (simp [*]; done)), (by first | rfl | (simp; done) | (simp [*]; done)), H', ⟨by have := HK1.out; have := HJ6.out; have := HK3.out; omega⟩, ⟨by (with_reducible repeat (first | apply Kd.R_alloc | apply Kd.R_drewN | apply Kd.R_drew)); exact HO_9.out⟩, ⟨by (with_reducible repeat (first | apply Kd.S_alloc | apply Kd.S_drewN | apply Kd.S_drew)); exact HO_8.out⟩, ⟨by repeat (first | (with_reducible first | exact HB.out | apply below_alloc | apply pw_below_drewN | apply below_drew1) | exact HB.out)⟩⟩
            · replace c9 := Bool.eq_false_iff.mpr c9
              subst c9
              have H1 : (if 0 < (t271.length : Int) then (if 0 < ((rd_L2 t271 0).length : Int) then (some (x9_1, rd (rd_L2 t271 0) 0, 0)) else (none)) else (none)) = some (r1, r2, r3) := by rw [if_neg (show ¬ (false = true) by decide)] at H; exact H
              clear H
              have H := H1
              clear H1
              by_cases c26 : 0 < (t271.length : Int)
              · rw [if_pos c26] at H
                have c26b0 : decide (0 < (t271.length : Int)) = true := decide_eq_true c26
                have c26b1 : decide (0 < t271.length) = true := decide_eq_true (by omega)
                clear c26
                by_cases c27 : 0 < ((rd_L2 t271 0).length : Int)
                · rw [if_pos c27] at H
                  have c27b0 : decide (0 < ((rd_L2 t271 0).length : Int)) = true := decide_eq_true c27
                  have c27b1 : decide (0 < (rd_L2 t271 0).length) = true := decide_eq_true (by omega)
                  clear c27
                  simp only [Option.some.injEq, Prod.mk.injEq] at H
                  obtain ⟨rfl, rfl, rfl⟩ := H
                  obtain ⟨Ao28, co28, eo28⟩ := Kd.S_slice HO_8.out
                  subst eo28
                  have p274 : 0 ≤ (0 : Int) := (by omega)
                  have q274 : 0 < (t271.length : Int) := of_decide_eq_true (by first | (with_reducible assumption) | assumption)
                  obtain ⟨ad274, A274_0, c274_0, e274, hx274_0, hl274_0, hi274_0⟩ := at_L2 (Kd.S_reads' HO_8.out).2.2 0 p274 q274
                  cases e274
                  obtain ⟨ce274, hce274, hMe274, hcc274⟩ := Kd.S_get HO_8.out [] 0 p274 (by first | exact q274 | exact of_decide_eq_true (by first | (with_reducible assumption) | assumption) | (have e_ := (Kd.S_reads' HO_8.out).1; omega))
                  obtain ⟨ve274_0, rfl, ge274_0⟩ := hMe274
                  have hv274_0 := hcc274 0 _ rfl
                  rw [Nat.add_zero, show ((Kd.slice 3 (Kd.int .i64))).sz = 1 from rfl, Nat.mul_one] at hv274_0
                  replace hv274_0 := Option.some.inj (hv274_0.symm.trans hx274_0)
                  rw [hv274_0] at ge274_0
                  have HL274_0 := Aside0.mk (show Kd.R (Kd.int .i64) 3 _ _ _ _ (rd_L2 t271 0) from ge274_0)
                  clear hv274_0 ge274_0
                  clear hcc274 hce274
                  have qi274 : (0 < t271.length) = True := eq_true (by omega)
                  (try rw [show ((0 : Int)).toNat = 0 from rfl] at hx274_0)
                  (try rw [Addr.add_zero'] at hx274_0)
                  have HR274_0 := Aside0.mk hi274_0
                  have HC274_0 := Aside0.mk hl274_0
                  clear hi274_0 hl274_0
                  replace p274 := eq_true p274
                  replace q274 := eq_true q274
                  have p275 : 0 ≤ (0 : Int) := (by omega)
                  have q275 : 0 < ((rd_L2 t271 0).length : Int) := of_decide_eq_true (by first | (with_reducible assumption) | assumption)
                  obtain ⟨ad275, e275, hx275_0⟩ := Kd.at_int (by repeat (first | (with_reducible exact HR274_0.out) | (with_reducible refine Kd.C_alloc ?_ _) | (with_reducible refine Kd.C_drewN ?_ _) | (with_reducible refine Kd.C_drew ?_) | exact HR274_0.out)) 0 p275 q275
                  cases e275
                  have qi275 : (0 < (rd_L2 t271 0).length) = True := eq_true (by omega)
                  (try rw [show ((0 : Int)).toNat = 0 from rfl] at hx275_0)
                  (try rw [Addr.add_zero'] at hx275_0)
                  replace p275 := eq_true p275
                  replace q275 := eq_true q275
                  go_wp2
                  repeat (go_quiet (fail); try go_wp2)
                  go_ret3
                  exact ⟨_, by first | rfl | (simp [errW_none, errW_some] <;> rfl) | (simp [*, errW_none, errW_some] <;> rfl), by (with_reducible repeat (first | apply Kd.R_alloc | apply Kd.R_drewN | apply Kd.R_drew)); exact HO_9.out, by repeat (first | (with_reducible first | exact HB.out | apply below_alloc | apply pw_below_drewN | apply below_drew1) | exact HB.out)⟩
                · rw [if_neg c27] at H
                  exact absurd H (by simp)
              · rw [if_neg c26] at H
                exact absurd H (by simp)
  · rw [if_neg c4] at H
    have c4b0 : (t270 == 0) = false := beq_eq_false_iff_ne.mpr c4
    have c4b1 : (t270 != 0) = true := bne_iff_ne.mpr c4
    simp only [Option.some.injEq, Prod.mk.injEq] at H
    obtain ⟨rfl, rfl, rfl⟩ := H
    go_enter Try.func32, Try.ntmps32
    go_wp2_with (first | (go_at_call 16; (with_reducible refine (ancepsref45_Given.calls k a0 a1 t270 _ A3.out).mono ?_); rintro e w' ⟨rfl, ⟨nd, rfl⟩⟩; (try first | exact ⟨rfl, _, World.drewN_drewN _ _ _⟩ | exact ⟨rfl, _, Eq.trans (World.drewN_drewN _ _ _) (congrArg (World.drewN _) (Nat.add_assoc _ _ _))⟩)))
    repeat (go_quiet (fail))
    go_ret3
    exact ⟨_, by first | rfl | (simp [errW_none, errW_some] <;> rfl) | (simp [*, errW_none, errW_some] <;> rfl), by first | exact Kd.R_nil _ _ _ _ _ | exact Kd.N_nil _ _ _ _ _ | exact Kd.V_nil _ _ _ _ _ | exact Kd.Q_nil _ _ _ _ _ | exact Kd.S_nil _ _ _ _ _, by repeat (first | (with_reducible first | exact HB.out | apply below_alloc | apply pw_below_drewN | apply below_drew1) | exact HB.out)⟩

/-! ### ancepslaw45_AlignBest: function 8 -/
mutual
def ancepslaw45_AlignBest.j0 : Nat → ByteArray → ByteArray → Bool → Option (Bool)
  | 0, _, _, _ => none
  | k + 1, x0, x1, x20 => if x20 = true then ((ancepslaw45_awake.f k).bind fun t293 => (some t293)) else ((align_Best.f k x0 x1).bind fun bt294 => ((ancepsref45_Best.f k x0 x1).bind fun bt299 => (if bt294.2.2 = bt299.2.2 then (if bt294.2.1 = bt299.2.1 then ((slices_Equal_int_int.f k bt294.1 bt299.1).bind fun t304 => (if t304 = true then (ancepslaw45_AlignBest.j1 k x0 x1 bt294.1 bt294.2.1 bt294.2.2 bt299.1 bt299.2.1 bt299.2.2 (bt294.2.2 != 0)) else (ancepslaw45_AlignBest.j1 k x0 x1 bt294.1 bt294.2.1 bt294.2.2 bt299.1 bt299.2.1 bt299.2.2 true))) else (ancepslaw45_AlignBest.j1 k x0 x1 bt294.1 bt294.2.1 bt294.2.2 bt299.1 bt299.2.1 bt299.2.2 true)) else (ancepslaw45_AlignBest.j1 k x0 x1 bt294.1 bt294.2.1 bt294.2.2 bt299.1 bt299.2.1 bt299.2.2 true))))
def ancepslaw45_AlignBest.j1 : Nat → ByteArray → ByteArray → List Int → Int → Int → List Int → Int → Int → Bool → Option (Bool)
  | 0, _, _, _, _, _, _, _, _, _ => none
  | k + 1, x0, x1, x5, x6, x7, x8, x9, x10, x53 => if x53 = true then (if x7 = x10 then (if x6 = x9 then ((slices_Equal_int_int.f k x5 x8).bind fun t305 => (some t305)) else (some false)) else (some false)) else ((align_Potentials.f k x0 x1).bind fun bt306 => (if bt306.2 = 0 then ((align_Check.f k x0 x1 x5 bt306.1).bind fun t310 => (some t310)) else (some false)))
end
def ancepslaw45_AlignBest.f (k : Nat) (a0 : ByteArray) (a1 : ByteArray) : Option (Bool) := (ancepslaw45_awake.f k).bind fun t291 => (if t291 = true then ((ancepslaw45_short.f a0 a1).bind fun t292 => (ancepslaw45_AlignBest.j0 k a0 a1 (!t292))) else (ancepslaw45_AlignBest.j0 k a0 a1 true))
theorem ancepslaw45_AlignBest.mono_l : ∀ k, (∀ y0 y1 y2, LeO (ancepslaw45_AlignBest.j0 k y0 y1 y2) (ancepslaw45_AlignBest.j0 (k + 1) y0 y1 y2)) ∧ (∀ y0 y1 y2 y3 y4 y5 y6 y7 y8, LeO (ancepslaw45_AlignBest.j1 k y0 y1 y2 y3 y4 y5 y6 y7 y8) (ancepslaw45_AlignBest.j1 (k + 1) y0 y1 y2 y3 y4 y5 y6 y7 y8))
  | 0 => ⟨fun _ _ _ r h => by simp [ancepslaw45_AlignBest.j0] at h, fun _ _ _ _ _ _ _ _ _ r h => by simp [ancepslaw45_AlignBest.j1] at h⟩
  | k + 1 => by
    obtain ⟨ih0, ih1⟩ := ancepslaw45_AlignBest.mono_l k
    refine ⟨?_, ?_⟩
    · intro y0 y1 y2
      unfold ancepslaw45_AlignBest.j0
      repeat' first
      | (with_reducible exact ih0 _ _ _)
      | (with_reducible exact ih1 _ _ _ _ _ _ _ _ _)
      | (with_reducible exact align_Best.mono _ _ _)
      | (with_reducible exact align_Check.mono _ _ _ _ _)
      | (with_reducible exact align_Potentials.mono _ _ _)
      | (with_reducible exact ancepslaw45_awake.mono _)
      | (with_reducible exact ancepsref45_Best.mono _ _ _)
      | (with_reducible exact slices_Equal_int_int.mono _ _ _)
      | (with_reducible exact LeO.refl _)
      | (with_reducible exact LeO.none _)
      | (with_reducible refine LeO.ite ?_ ?_)
      | (with_reducible refine LeO.bind ?_ (fun _ => ?_))
      | exact ih0 _ _ _
      | exact ih1 _ _ _ _ _ _ _ _ _
      | exact align_Best.mono _ _ _
      | exact align_Check.mono _ _ _ _ _
      | exact align_Potentials.mono _ _ _
      | exact ancepslaw45_awake.mono _
      | exact ancepsref45_Best.mono _ _ _
      | exact slices_Equal_int_int.mono _ _ _
      | exact LeO.none _
      | refine LeO.ite ?_ ?_
      | refine LeO.bind ?_ (fun _ => ?_)
    · intro y0 y1 y2 y3 y4 y5 y6 y7 y8
      unfold ancepslaw45_AlignBest.j1
      repeat' first
      | (with_reducible exact ih0 _ _ _)
      | (with_reducible exact ih1 _ _ _ _ _ _ _ _ _)
      | (with_reducible exact align_Best.mono _ _ _)
      | (with_reducible exact align_Check.mono _ _ _ _ _)
      | (with_reducible exact align_Potentials.mono _ _ _)
      | (with_reducible exact ancepslaw45_awake.mono _)
      | (with_reducible exact ancepsref45_Best.mono _ _ _)
      | (with_reducible exact slices_Equal_int_int.mono _ _ _)
      | (with_reducible exact LeO.refl _)
      | (with_reducible exact LeO.none _)
      | (with_reducible refine LeO.ite ?_ ?_)
      | (with_reducible refine LeO.bind ?_ (fun _ => ?_))
      | exact ih0 _ _ _
      | exact ih1 _ _ _ _ _ _ _ _ _
      | exact align_Best.mono _ _ _
      | exact align_Check.mono _ _ _ _ _
      | exact align_Potentials.mono _ _ _
      | exact ancepslaw45_awake.mono _
      | exact ancepsref45_Best.mono _ _ _
      | exact slices_Equal_int_int.mono _ _ _
      | exact LeO.none _
      | refine LeO.ite ?_ ?_
      | refine LeO.bind ?_ (fun _ => ?_)
theorem ancepslaw45_AlignBest.mono : ∀ a0 a1 k, LeO (ancepslaw45_AlignBest.f k a0 a1) (ancepslaw45_AlignBest.f (k + 1) a0 a1) := by
  intro a0 a1 k
  obtain ⟨ih0, ih1⟩ := ancepslaw45_AlignBest.mono_l k
  unfold ancepslaw45_AlignBest.f
  repeat' first
      | (with_reducible exact ih0 _ _ _)
      | (with_reducible exact ih1 _ _ _ _ _ _ _ _ _)
      | (with_reducible exact align_Best.mono _ _ _)
      | (with_reducible exact align_Check.mono _ _ _ _ _)
      | (with_reducible exact align_Potentials.mono _ _ _)
      | (with_reducible exact ancepslaw45_awake.mono _)
      | (with_reducible exact ancepsref45_Best.mono _ _ _)
      | (with_reducible exact slices_Equal_int_int.mono _ _ _)
      | (with_reducible exact LeO.refl _)
      | (with_reducible exact LeO.none _)
      | (with_reducible refine LeO.ite ?_ ?_)
      | (with_reducible refine LeO.bind ?_ (fun _ => ?_))
      | exact ih0 _ _ _
      | exact ih1 _ _ _ _ _ _ _ _ _
      | exact align_Best.mono _ _ _
      | exact align_Check.mono _ _ _ _ _
      | exact align_Potentials.mono _ _ _
      | exact ancepslaw45_awake.mono _
      | exact ancepsref45_Best.mono _ _ _
      | exact slices_Equal_int_int.mono _ _ _
      | exact LeO.none _
      | refine LeO.ite ?_ ?_
      | refine LeO.bind ?_ (fun _ => ?_)
set_option maxHeartbeats 8000000 in
set_option maxRecDepth 100000 in
theorem ancepslaw45_AlignBest.calls (k : Nat) (a0 : ByteArray) (a1 : ByteArray) (r : Bool) (w : World) (h : ancepslaw45_AlignBest.f k a0 a1 = some r) :
    Calls Try.prog 8 #[.string a0, .string a1] w fun e w' => e = .returned (.bool r) ∧ Below w.heap.size w w' := by
  have HB := Aside0.mk (Below.refl w.heap.size w)
  have H : ((ancepslaw45_awake.f k).bind fun t291 => (if t291 = true then ((ancepslaw45_short.f a0 a1).bind fun t292 => (ancepslaw45_AlignBest.j0 k a0 a1 (!t292))) else (ancepslaw45_AlignBest.j0 k a0 a1 true))) = some r := h
  clear h
  have HC3 := Aside0.mk H
  clear H
  go_enter Try.func8, Try.ntmps8
  go_upto_region 1 with (fail)
  go_cut [20] (fun v20 wc => ∃ (kq : Nat) (x20_2 : Bool), v20 = .bool x20_2 ∧ Aside0 (ancepslaw45_AlignBest.j0 kq a0 a1 x20_2 = some r) ∧ Aside0 (kq ≤ k) ∧ Aside0 (Below w.heap.size w wc))
  case first =>
    have H := HC3.out
    clear HC3
    replace H := Option.bind_eq_some_iff.mp H
    obtain ⟨t291, A40, H⟩ := H
    replace H : (if t291 = true then ((ancepslaw45_short.f a0 a1).bind fun t292 => (ancepslaw45_AlignBest.j0 k a0 a1 (!t292))) else (ancepslaw45_AlignBest.j0 k a0 a1 true)) = some r := H
    have A4 := Aside0.mk A40
    clear A40
    by_cases c5 : t291 = true
    · subst c5
      have H1 : ((ancepslaw45_short.f a0 a1).bind fun t292 => (ancepslaw45_AlignBest.j0 k a0 a1 (!t292))) = some r := by rw [if_pos rfl] at H; exact H
      clear H
      have H := H1
      clear H1
      replace H := Option.bind_eq_some_iff.mp H
      obtain ⟨t292, A60, H⟩ := H
      replace H : (ancepslaw45_AlignBest.j0 k a0 a1 (!t292)) = some r := H
      have A6 := Aside0.mk A60
      clear A60
      have H' := Aside0.mk H
      clear H
      go_wp2_with (first | ((with_reducible refine gate_callee (f := 11) rfl ?_); refine goesL_ (some 13) rfl rfl Try.func11 (by kernel_rfl) rfl #[] rfl (by (try simp only [List.map_toArray, List.map_cons, List.map_nil]); first | done | rfl | (simp only [List.length_drop, List.length_take]; rfl)) ?_; (with_reducible refine (ancepslaw45_awake.calls k  true _ A4.out).mono ?_); rintro e w7 ⟨rfl, hb⟩; refine ⟨_, rfl, ?_⟩; have n0_ := Aside0.mk (below_step (by repeat (first | (with_reducible first | exact HB.out | apply below_alloc | apply pw_below_drewN | apply below_drew1) | exact HB.out)) hb); clear HB; have HB := n0_; clear n0_; (try clear hb); (try clear hb2); (try clear hk); (try clear hi)) | (go_at_call 12; (with_reducible refine (ancepslaw45_short.calls a0 a1 t292 _ A6.out).mono ?_); rintro e w' ⟨rfl, ⟨nd, rfl⟩⟩))
      go_meet
      case rel => exact ⟨_, (!t292), (by first | rfl | (simp; done) | (simp [*]; done)), H', ⟨by first | omega | exact Nat.le_refl _⟩, ⟨by repeat (first | (with_reducible first | exact HB.out | apply below_alloc | apply pw_below_drewN | apply below_drew1) | exact HB.out)⟩⟩
    · replace c5 := Bool.eq_false_iff.mpr c5
      subst c5
      have H1 : (ancepslaw45_AlignBest.j0 k a0 a1 true) = some r := by rw [if_neg (show ¬ (false = true) by decide)] at H; exact H
      clear H
      have H := H1
      clear H1
      have H' := Aside0.mk H
      clear H
      go_wp2_with (first | ((with_reducible refine gate_callee (f := 11) rfl ?_); refine goesL_ (some 13) rfl rfl Try.func11 (by kernel_rfl) rfl #[] rfl (by (try simp only [List.map_toArray, List.map_cons, List.map_nil]); first | done | rfl | (simp only [List.length_drop, List.length_take]; rfl)) ?_; (with_reducible refine (ancepslaw45_awake.calls k  false _ A4.out).mono ?_); rintro e w8 ⟨rfl, hb⟩; refine ⟨_, rfl, ?_⟩; have n0_ := Aside0.mk (below_step (by repeat (first | (with_reducible first | exact HB.out | apply below_alloc | apply pw_below_drewN | apply below_drew1) | exact HB.out)) hb); clear HB; have HB := n0_; clear n0_; (try clear hb); (try clear hb2); (try clear hk); (try clear hi)))
      go_meet
      case rel => exact ⟨_, (true), (by first | rfl | (simp; done) | (simp [*]; done)), H', ⟨by first | omega | exact Nat.le_refl _⟩, ⟨by repeat (first | (with_reducible first | exact HB.out | apply below_alloc | apply pw_below_drewN | apply below_drew1) | exact HB.out)⟩⟩
  case rest =>
    clear HC3
    try clear c1
    try clear p2
    try clear c5
    try clear c8
    obtain ⟨kq, x20_2, rfl, HA, HJ2, HB⟩ := hcut
    cases kq with
    | zero => exact absurd HA.out (by simp [ancepslaw45_AlignBest.j0])
    | succ kj2 =>
      have H := HA.out
      clear HA
      simp only [ancepslaw45_AlignBest.j0] at H
      by_cases c9 : x20_2 = true
      · subst c9
        have H1 : ((ancepslaw45_awake.f kj2).bind fun t293 => (some t293)) = some r := by rw [if_pos rfl] at H; exact H
        clear H
        have H := H1
        clear H1
        replace H := Option.bind_eq_some_iff.mp H
        obtain ⟨t293, A100, H⟩ := H
        replace H : (some t293) = some r := H
        have A10 := Aside0.mk A100
        clear A100
        obtain rfl := Option.some.inj H
        go_wp2_with (first | ((with_reducible refine gate_callee (f := 11) rfl ?_); refine goesL_ (some 21) rfl rfl Try.func11 (by kernel_rfl) rfl #[] rfl (by (try simp only [List.map_toArray, List.map_cons, List.map_nil]); first | done | rfl | (simp only [List.length_drop, List.length_take]; rfl)) ?_; (with_reducible refine (ancepslaw45_awake.calls kj2  t293 _ A10.out).mono ?_); rintro e w11 ⟨rfl, hb⟩; refine ⟨_, rfl, ?_⟩; have n0_ := Aside0.mk (below_step (by repeat (first | (with_reducible first | exact HB.out | apply below_alloc | apply pw_below_drewN | apply below_drew1) | exact HB.out)) hb); clear HB; have HB := n0_; clear n0_; (try clear hb); (try clear hb2); (try clear hk); (try clear hi)))
        go_ret
        exact ⟨by first | rfl | (simp [errW_none, errW_some] <;> rfl) | (simp [*, errW_none, errW_some] <;> rfl), by repeat (first | (with_reducible first | exact HB.out | apply below_alloc | apply pw_below_drewN | apply below_drew1) | exact HB.out)⟩
      · replace c9 := Bool.eq_false_iff.mpr c9
        subst c9
        have H1 : ((align_Best.f kj2 a0 a1).bind fun bt294 => ((ancepsref45_Best.f kj2 a0 a1).bind fun bt299 => (if bt294.2.2 = bt299.2.2 then (if bt294.2.1 = bt299.2.1 then ((slices_Equal_int_int.f kj2 bt294.1 bt299.1).bind fun t304 => (if t304 = true then (ancepslaw45_AlignBest.j1 kj2 a0 a1 bt294.1 bt294.2.1 bt294.2.2 bt299.1 bt299.2.1 bt299.2.2 (bt294.2.2 != 0)) else (ancepslaw45_AlignBest.j1 kj2 a0 a1 bt294.1 bt294.2.1 bt294.2.2 bt299.1 bt299.2.1 bt299.2.2 true))) else (ancepslaw45_AlignBest.j1 kj2 a0 a1 bt294.1 bt294.2.1 bt294.2.2 bt299.1 bt299.2.1 bt299.2.2 true)) else (ancepslaw45_AlignBest.j1 kj2 a0 a1 bt294.1 bt294.2.1 bt294.2.2 bt299.1 bt299.2.1 bt299.2.2 true)))) = some r := by rw [if_neg (show ¬ (false = true) by decide)] at H; exact H
        clear H
        have H := H1
        clear H1
        replace H := Option.bind_eq_some_iff.mp H
        obtain ⟨⟨t294, t295, t296⟩, A120, H⟩ := H
        replace H : ((ancepsref45_Best.f kj2 a0 a1).bind fun bt299 => (if t296 = bt299.2.2 then (if t295 = bt299.2.1 then ((slices_Equal_int_int.f kj2 t294 bt299.1).bind fun t304 => (if t304 = true then (ancepslaw45_AlignBest.j1 kj2 a0 a1 t294 t295 t296 bt299.1 bt299.2.1 bt299.2.2 (t296 != 0)) else (ancepslaw45_AlignBest.j1 kj2 a0 a1 t294 t295 t296 bt299.1 bt299.2.1 bt299.2.2 true))) else (ancepslaw45_AlignBest.j1 kj2 a0 a1 t294 t295 t296 bt299.1 bt299.2.1 bt299.2.2 true)) else (ancepslaw45_AlignBest.j1 kj2 a0 a1 t294 t295 t296 bt299.1 bt299.2.1 bt299.2.2 true))) = some r := H
        have A12 := Aside0.mk A120
        clear A120
        replace H := Option.bind_eq_some_iff.mp H
        obtain ⟨⟨t299, t300, t301⟩, A130, H⟩ := H
        replace H : (if t296 = t301 then (if t295 = t300 then ((slices_Equal_int_int.f kj2 t294 t299).bind fun t304 => (if t304 = true then (ancepslaw45_AlignBest.j1 kj2 a0 a1 t294 t295 t296 t299 t300 t301 (t296 != 0)) else (ancepslaw45_AlignBest.j1 kj2 a0 a1 t294 t295 t296 t299 t300 t301 true))) else (ancepslaw45_AlignBest.j1 kj2 a0 a1 t294 t295 t296 t299 t300 t301 true)) else (ancepslaw45_AlignBest.j1 kj2 a0 a1 t294 t295 t296 t299 t300 t301 true)) = some r := H
        have A13 := Aside0.mk A130
        clear A130
        have HC14 := Aside0.mk H
        clear H
        go_upto_region 5 with (first | ((with_reducible refine gate_callee (f := 31) rfl ?_); refine goesL_ (some 25) rfl rfl Try.func31 (by kernel_rfl) rfl #[.string a0, .string a1] rfl (by (try simp only [List.map_toArray, List.map_cons, List.map_nil]); first | done | rfl | (simp only [List.length_drop, List.length_take]; rfl)) ?_; (with_reducible refine (align_Best.calls kj2 a0 a1 t294 t295 t296 _ A12.out).mono ?_); rintro e w15 ⟨v297, rfl, ho0, hb⟩; refine ⟨_, rfl, ?_⟩; have n0_ := Aside0.mk (Kd.R_lower ho0 (below_size (by repeat (first | (with_reducible first | exact HB.out | apply below_alloc | apply pw_below_drewN | apply below_drew1) | exact HB.out)))); have n1_ := Aside0.mk (below_step (by repeat (first | (with_reducible first | exact HB.out | apply below_alloc | apply pw_below_drewN | apply below_drew1) | exact HB.out)) hb); clear HB; have HO298 := n0_; have HB := n1_; clear n0_ n1_; (try clear hb); (try clear hb2); (try clear hk); (try clear hi); (try clear ho0)) | ((with_reducible refine gate_callee (f := 32) rfl ?_); refine goesL_ (some 32) rfl rfl Try.func32 (by kernel_rfl) rfl #[.string a0, .string a1] rfl (by (try simp only [List.map_toArray, List.map_cons, List.map_nil]); first | done | rfl | (simp only [List.length_drop, List.length_take]; rfl)) ?_; (with_reducible refine (ancepsref45_Best.calls kj2 a0 a1 t299 t300 t301 _ A13.out).mono ?_); rintro e w16 ⟨v302, rfl, ho0, hb⟩; refine ⟨_, rfl, ?_⟩; have n0_ := Aside0.mk (Kd.R_elder' (by (with_reducible repeat (first | apply Kd.R_alloc | apply Kd.R_drewN | apply Kd.R_drew)); exact HO298.out) (Kd.R_base ho0) hb); have n1_ := Aside0.mk (Kd.R_lower (Kd.R_new' ho0 (Kd.R_lt (by (with_reducible repeat (first | apply Kd.R_alloc | apply Kd.R_drewN | apply Kd.R_drew)); exact HO298.out))) (below_size (by repeat (first | (with_reducible first | exact HB.out | apply below_alloc | apply pw_below_drewN | apply below_drew1) | exact HB.out)))); have n2_ := Aside0.mk (below_step (by repeat (first | (with_reducible first | exact HB.out | apply below_alloc | apply pw_below_drewN | apply below_drew1) | exact HB.out)) hb); clear HO298; clear HB; have HO298 := n0_; have HO303 := n1_; have HB := n2_; clear n0_ n1_ n2_; (try clear hb); (try clear hb2); (try clear hk); (try clear hi); (try clear ho0)))
        (try simp only [Act.put, List.setIfInBounds_toArray, List.set_cons_zero, List.set_cons_succ])
        go_cut [53] (fun v53 wc => ∃ (kq : Nat) (x53_13 : Bool), v53 = .bool x53_13 ∧ Aside0 (ancepslaw45_AlignBest.j1 kq a0 a1 t294 t295 t296 t299 t300 t301 x53_13 = some r) ∧ Aside0 (kq ≤ kj2) ∧ Aside0 (Kd.R (Kd.int .i64) 3 wc w.heap.size (fun k_ => some k_ ≠ (v302 : Value).ownBlock) v297 t294) ∧ Aside0 (Kd.R (Kd.int .i64) 3 wc w.heap.size (fun k_ => some k_ ≠ (v297 : Value).ownBlock) v302 t299) ∧ Aside0 (Below w.heap.size w wc))
        case first =>
          have H := HC14.out
          clear HC14
          by_cases c17 : t296 = t301
          · rw [if_pos c17] at H
            have c17b0 : (t296 == t301) = true := beq_iff_eq.mpr c17
            have c17b1 : (t296 != t301) = false := bne_eq_false_iff_eq.mpr c17
            clear c17
            (first | rw [c17b0] | (simp only [i64_w, i32_w]; rw [c17b0]) | skip)
            by_cases c18 : t295 = t300
            · rw [if_pos c18] at H
              have c18b0 : (t295 == t300) = true := beq_iff_eq.mpr c18
              have c18b1 : (t295 != t300) = false := bne_eq_false_iff_eq.mpr c18
              clear c18
              replace H := Option.bind_eq_some_iff.mp H
              obtain ⟨t304, A190, H⟩ := H
              replace H : (if t304 = true then (ancepslaw45_AlignBest.j1 kj2 a0 a1 t294 t295 t296 t299 t300 t301 (t296 != 0)) else (ancepslaw45_AlignBest.j1 kj2 a0 a1 t294 t295 t296 t299 t300 t301 true)) = some r := H
              have A19 := Aside0.mk A190
              clear A190
              by_cases c20 : t304 = true
              · subst c20
                have H1 : (ancepslaw45_AlignBest.j1 kj2 a0 a1 t294 t295 t296 t299 t300 t301 (t296 != 0)) = some r := by rw [if_pos rfl] at H; exact H
                clear H
                have H := H1
                clear H1
                have H' := Aside0.mk H
                clear H
                obtain ⟨Ao21, co21, eo21⟩ := Kd.R_slice HO298.out
                subst eo21
                obtain ⟨Ao22, co22, eo22⟩ := Kd.R_slice HO303.out
                subst eo22
                go_wp2_with (first | (go_at_call 29; (with_reducible refine (slices_Equal_int_int.calls kj2 _ _ t294 _ _ t299 true _ ?side1 ?side2 ?side3 ?side4 A19.out).mono ?_); (case side1 => repeat (first | exact (Kd.R_reads' HO298.out).2.2 | (with_reducible refine Kd.C_alloc ?_ _) | (with_reducible refine Kd.C_drewN ?_ _) | (with_reducible refine Kd.C_drew ?_))); (case side2 => exact (Kd.R_reads' HO298.out).2.1); (case side3 => repeat (first | exact (Kd.R_reads' HO303.out).2.2 | (with_reducible refine Kd.C_alloc ?_ _) | (with_reducible refine Kd.C_drewN ?_ _) | (with_reducible refine Kd.C_drew ?_))); (case side4 => exact (Kd.R_reads' HO303.out).2.1); rintro e w' ⟨rfl, ⟨nd, rfl⟩⟩))
                go_meet
                case rel => exact ⟨_, ((t296 != 0)), (by first | rfl | (simp; done) | (simp [*]; done)), H', ⟨by have := HJ2.out; first | omega | exact Nat.le_refl _⟩, ⟨by (with_reducible repeat (first | apply Kd.R_alloc | apply Kd.R_drewN | apply Kd.R_drew)); exact Kd.R_mono HO298.out (fun _ hk => hk.2)⟩, ⟨by (with_reducible repeat (first | apply Kd.R_alloc | apply Kd.R_drewN | apply Kd.R_drew)); exact Kd.R_mono HO303.out (fun _ hk => hk.2)⟩, ⟨by repeat (first | (with_reducible first | exact HB.out | apply below_alloc | apply pw_below_drewN | apply below_drew1) | exact HB.out)⟩⟩
              · replace c20 := Bool.eq_false_iff.mpr c20
                subst c20
                have H1 : (ancepslaw45_AlignBest.j1 kj2 a0 a1 t294 t295 t296 t299 t300 t301 true) = some r := by rw [if_neg (show ¬ (false = true) by decide)] at H; exact H
                clear H
                have H := H1
                clear H1
                have H' := Aside0.mk H
                clear H
                obtain ⟨Ao23, co23, eo23⟩ := Kd.R_slice HO298.out
                subst eo23
                obtain ⟨Ao24, co24, eo24⟩ := Kd.R_slice HO303.out
                subst eo24
                go_wp2_with (first | (go_at_call 29; (with_reducible refine (slices_Equal_int_int.calls kj2 _ _ t294 _ _ t299 false _ ?side1 ?side2 ?side3 ?side4 A19.out).mono ?_); (case side1 => repeat (first | exact (Kd.R_reads' HO298.out).2.2 | (with_reducible refine Kd.C_alloc ?_ _) | (with_reducible refine Kd.C_drewN ?_ _) | (with_reducible refine Kd.C_drew ?_))); (case side2 => exact (Kd.R_reads' HO298.out).2.1); (case side3 => repeat (first | exact (Kd.R_reads' HO303.out).2.2 | (with_reducible refine Kd.C_alloc ?_ _) | (with_reducible refine Kd.C_drewN ?_ _) | (with_reducible refine Kd.C_drew ?_))); (case side4 => exact (Kd.R_reads' HO303.out).2.1); rintro e w' ⟨rfl, ⟨nd, rfl⟩⟩))
                go_meet
                case rel => exact ⟨_, (true), (by first | rfl | (simp; done) | (simp [*]; done)), H', ⟨by have := HJ2.out; first | omega | exact Nat.le_refl _⟩, ⟨by (with_reducible repeat (first | apply Kd.R_alloc | apply Kd.R_drewN | apply Kd.R_drew)); exact Kd.R_mono HO298.out (fun _ hk => hk.2)⟩, ⟨by (with_reducible repeat (first | apply Kd.R_alloc | apply Kd.R_drewN | apply Kd.R_drew)); exact Kd.R_mono HO303.out (fun _ hk => hk.2)⟩, ⟨by repeat (first | (with_reducible first | exact HB.out | apply below_alloc | apply pw_below_drewN | apply below_drew1) | exact HB.out)⟩⟩
            · rw [if_neg c18] at H
              have c18b0 : (t295 == t300) = false := beq_eq_false_iff_ne.mpr c18
              have c18b1 : (t295 != t300) = true := bne_iff_ne.mpr c18
              have H' := Aside0.mk H
              clear H
              go_wp2
              go_meet
              case rel => exact ⟨_, (true), (by first | rfl | (simp; done) | (simp [*]; done)), H', ⟨by have := HJ2.out; first | omega | exact Nat.le_refl _⟩, ⟨by (with_reducible repeat (first | apply Kd.R_alloc | apply Kd.R_drewN | apply Kd.R_drew)); exact Kd.R_mono HO298.out (fun _ hk => hk.2)⟩, ⟨by (with_reducible repeat (first | apply Kd.R_alloc | apply Kd.R_drewN | apply Kd.R_drew)); exact Kd.R_mono HO303.out (fun _ hk => hk.2)⟩, ⟨by repeat (first | (with_reducible first | exact HB.out | apply below_alloc | apply pw_below_drewN | apply below_drew1) | exact HB.out)⟩⟩
          · rw [if_neg c17] at H
            have c17b0 : (t296 == t301) = false := beq_eq_false_iff_ne.mpr c17
            have c17b1 : (t296 != t301) = true := bne_iff_ne.mpr c17
            (first | rw [c17b0] | (simp only [i64_w, i32_w]; rw [c17b0]) | skip)
            have H' := Aside0.mk H
            clear H
            go_wp2
            go_meet
            case rel => exact ⟨_, (true), (by first | rfl | (simp; done) | (simp [*]; done)), H', ⟨by have := HJ2.out; first | omega | exact Nat.le_refl _⟩, ⟨by (with_reducible repeat (first | apply Kd.R_alloc | apply Kd.R_drewN | apply Kd.R_drew)); exact Kd.R_mono HO298.out (fun _ hk => hk.2)⟩, ⟨by (with_reducible repeat (first | apply Kd.R_alloc | apply Kd.R_drewN | apply Kd.R_drew)); exact Kd.R_mono HO303.out (fun _ hk => hk.2)⟩, ⟨by repeat (first | (with_reducible first | exact HB.out | apply below_alloc | apply pw_below_drewN | apply below_drew1) | exact HB.out)⟩⟩
        case rest =>
          clear HC14
          try clear c1
          try clear c2
          try clear p2
          try clear c3
          try clear c5
          try clear c8
          try clear c9
          try clear c11
          try clear c17
          try clear c17b0
          try clear c17b1
          try clear c18
          try clear c18b0
          try clear c18b1
          try clear c20
          try clear p2
          obtain ⟨kq, x53_13, rfl, HA, HJ13, HO_5, HO_8, HB⟩ := hcut
          cases kq with
          | zero => exact absurd HA.out (by simp [ancepslaw45_AlignBest.j1])
          | succ kj13 =>
            have H := HA.out
            clear HA
            simp only [ancepslaw45_AlignBest.j1] at H
            by_cases c25 : x53_13 = true
            · subst c25
              have H1 : (if t296 = t301 then (if t295 = t300 then ((slices_Equal_int_int.f kj13 t294 t299).bind fun t305 => (some t305)) else (some false)) else (some false)) = some r := by rw [if_pos rfl] at H; exact H
              clear H
              have H := H1
              clear H1
              by_cases c26 : t296 = t301
              · rw [if_pos c26] at H
                have c26b0 : (t296 == t301) = true := beq_iff_eq.mpr c26
                have c26b1 : (t296 != t301) = false := bne_eq_false_iff_eq.mpr c26
                clear c26
                by_cases c27 : t295 = t300
                · rw [if_pos c27] at H
                  have c27b0 : (t295 == t300) = true := beq_iff_eq.mpr c27
                  have c27b1 : (t295 != t300) = false := bne_eq_false_iff_eq.mpr c27
                  clear c27
                  replace H := Option.bind_eq_some_iff.mp H
                  obtain ⟨t305, A280, H⟩ := H
                  replace H : (some t305) = some r := H
                  have A28 := Aside0.mk A280
                  clear A280
                  obtain rfl := Option.some.inj H
                  obtain ⟨Ao29, co29, eo29⟩ := Kd.R_slice HO_5.out
                  subst eo29
                  obtain ⟨Ao30, co30, eo30⟩ := Kd.R_slice HO_8.out
                  subst eo30
                  go_wp2_with (first | (go_at_call 29; (with_reducible refine (slices_Equal_int_int.calls kj13 _ _ t294 _ _ t299 t305 _ ?side1 ?side2 ?side3 ?side4 A28.out).mono ?_); (case side1 => repeat (first | exact (Kd.R_reads' HO_5.out).2.2 | (with_reducible refine Kd.C_alloc ?_ _) | (with_reducible refine Kd.C_drewN ?_ _) | (with_reducible refine Kd.C_drew ?_))); (case side2 => exact (Kd.R_reads' HO_5.out).2.1); (case side3 => repeat (first | exact (Kd.R_reads' HO_8.out).2.2 | (with_reducible refine Kd.C_alloc ?_ _) | (with_reducible refine Kd.C_drewN ?_ _) | (with_reducible refine Kd.C_drew ?_))); (case side4 => exact (Kd.R_reads' HO_8.out).2.1); rintro e w' ⟨rfl, ⟨nd, rfl⟩⟩))
                  go_ret
                  exact ⟨by first | rfl | (simp [errW_none, errW_some] <;> rfl) | (simp [*, errW_none, errW_some] <;> rfl), by repeat (first | (with_reducible first | exact HB.out | apply below_alloc | apply pw_below_drewN | apply below_drew1) | exact HB.out)⟩
                · rw [if_neg c27] at H
                  have c27b0 : (t295 == t300) = false := beq_eq_false_iff_ne.mpr c27
                  have c27b1 : (t295 != t300) = true := bne_iff_ne.mpr c27
                  obtain rfl := Option.some.inj H
                  go_wp2
                  go_ret
                  exact ⟨by first | rfl | (simp [errW_none, errW_some] <;> rfl) | (simp [*, errW_none, errW_some] <;> rfl), by repeat (first | (with_reducible first | exact HB.out | apply below_alloc | apply pw_below_drewN | apply below_drew1) | exact HB.out)⟩
              · rw [if_neg c26] at H
                have c26b0 : (t296 == t301) = false := beq_eq_false_iff_ne.mpr c26
                have c26b1 : (t296 != t301) = true := bne_iff_ne.mpr c26
                obtain rfl := Option.some.inj H
                go_wp2
                go_ret
                exact ⟨by first | rfl | (simp [errW_none, errW_some] <;> rfl) | (simp [*, errW_none, errW_some] <;> rfl), by repeat (first | (with_reducible first | exact HB.out | apply below_alloc | apply pw_below_drewN | apply below_drew1) | exact HB.out)⟩
            · replace c25 := Bool.eq_false_iff.mpr c25
              subst c25
              have H1 : ((align_Potentials.f kj13 a0 a1).bind fun bt306 => (if bt306.2 = 0 then ((align_Check.f kj13 a0 a1 t294 bt306.1).bind fun t310 => (some t310)) else (some false))) = some r := by rw [if_neg (show ¬ (false = true) by decide)] at H; exact H
              clear H
              have H := H1
              clear H1
              replace H := Option.bind_eq_some_iff.mp H
              obtain ⟨⟨t306, t307⟩, A310, H⟩ := H
              replace H : (if t307 = 0 then ((align_Check.f kj13 a0 a1 t294 t306).bind fun t310 => (some t310)) else (some false)) = some r := H
              have A31 := Aside0.mk A310
              clear A310
              by_cases c32 : t307 = 0
              · rw [if_pos c32] at H
                have c32b0 : (t307 == 0) = true := beq_iff_eq.mpr c32
                have c32b1 : (t307 != 0) = false := bne_eq_false_iff_eq.mpr c32
                clear c32
                replace H := Option.bind_eq_some_iff.mp H
                obtain ⟨t310, A330, H⟩ := H
                replace H : (some t310) = some r := H
                have A33 := Aside0.mk A330
                clear A330
                obtain rfl := Option.some.inj H
                go_wp2_with (first | ((with_reducible refine gate_callee (f := 33) rfl ?_); refine goesL_ (some 70) rfl rfl Try.func33 (by kernel_rfl) rfl #[.string a0, .string a1] rfl (by (try simp only [List.map_toArray, List.map_cons, List.map_nil]); first | done | rfl | (simp only [List.length_drop, List.length_take]; rfl)) ?_; (with_reducible refine (align_Potentials.calls kj13 a0 a1 t306 t307 _ A31.out).mono ?_); rintro e w34 ⟨v308, rfl, ho0, hb⟩; refine ⟨_, rfl, ?_⟩; have n0_ := Aside0.mk (Kd.R_below (by (with_reducible repeat (first | apply Kd.R_alloc | apply Kd.R_drewN | apply Kd.R_drew)); exact HO_5.out) hb); have n1_ := Aside0.mk (Kd.R_below (by (with_reducible repeat (first | apply Kd.R_alloc | apply Kd.R_drewN | apply Kd.R_drew)); exact HO_8.out) hb); have n2_ := Aside0.mk (Kd.S_lower (Kd.S_new' (Kd.S_new' ho0 (Kd.R_lt (by (with_reducible repeat (first | apply Kd.R_alloc | apply Kd.R_drewN | apply Kd.R_drew)); exact HO_5.out))) (Kd.R_lt (by (with_reducible repeat (first | apply Kd.R_alloc | apply Kd.R_drewN | apply Kd.R_drew)); exact HO_8.out))) (below_size (by repeat (first | (with_reducible first | exact HB.out | apply below_alloc | apply pw_below_drewN | apply below_drew1) | exact HB.out)))); have n3_ := Aside0.mk (below_step (by repeat (first | (with_reducible first | exact HB.out | apply below_alloc | apply pw_below_drewN | apply below_drew1) | exact HB.out)) hb); clear HO_5; clear HO_8; clear HB; have HO_5 := n0_; have HO_8 := n1_; have HO309 := n2_; have HB := n3_; clear n0_ n1_ n2_ n3_; (try clear hb); (try clear hb2); (try clear hk); (try clear hi); (try clear ho0); obtain ⟨Ao35, co35, eo35⟩ := Kd.R_slice HO_5.out; subst eo35; obtain ⟨Ao36, co36, eo36⟩ := Kd.S_slice HO309.out; subst eo36) | (go_at_call 18; (with_reducible refine (align_Check.calls kj13 a0 a1 _ _ t294 _ _ t306 t310 _ ?side1 ?side2 ?side3 ?side4 A33.out).mono ?_); (case side1 => repeat (first | exact (Kd.R_reads' HO_5.out).2.2 | (with_reducible refine Kd.C_alloc ?_ _) | (with_reducible refine Kd.C_drewN ?_ _) | (with_reducible refine Kd.C_drew ?_))); (case side2 => exact (Kd.R_reads' HO_5.out).2.1); (case side3 => repeat (first | exact (Kd.S_reads' HO309.out).2.2 | (with_reducible refine Kd.C_alloc ?_ _) | (with_reducible refine Kd.C_drewN ?_ _) | (with_reducible refine Kd.C_drew ?_))); (case side4 => exact (Kd.S_reads' HO309.out).2.1); rintro e w37 ⟨rfl, hb⟩; have n0_ := Aside0.mk (Kd.R_below (by (with_reducible repeat (first | apply Kd.R_alloc | apply Kd.R_drewN | apply Kd.R_drew)); exact HO_5.out) hb); have n1_ := Aside0.mk (Kd.R_below (by (with_reducible repeat (first | apply Kd.R_alloc | apply Kd.R_drewN | apply Kd.R_drew)); exact HO_8.out) hb); have n2_ := Aside0.mk (Kd.S_below (by (with_reducible repeat (first | apply Kd.S_alloc | apply Kd.S_drewN | apply Kd.S_drew)); exact HO309.out) hb); have n3_ := Aside0.mk (below_step (by repeat (first | (with_reducible first | exact HB.out | apply below_alloc | apply pw_below_drewN | apply below_drew1) | exact HB.out)) hb); clear HO_5; clear HO_8; clear HO309; clear HB; have HO_5 := n0_; have HO_8 := n1_; have HO309 := n2_; have HB := n3_; clear n0_ n1_ n2_ n3_; (try clear hb); (try clear hb2); (try clear hk); (try clear hi)))
                go_ret
                exact ⟨by first | rfl | (simp [errW_none, errW_some] <;> rfl) | (simp [*, errW_none, errW_some] <;> rfl), by repeat (first | (with_reducible first | exact HB.out | apply below_alloc | apply pw_below_drewN | apply below_drew1) | exact HB.out)⟩
              · rw [if_neg c32] at H
                have c32b0 : (t307 == 0) = false := beq_eq_false_iff_ne.mpr c32
                have c32b1 : (t307 != 0) = true := bne_iff_ne.mpr c32
                obtain rfl := Option.some.inj H
                go_wp2_with (first | ((with_reducible refine gate_callee (f := 33) rfl ?_); refine goesL_ (some 70) rfl rfl Try.func33 (by kernel_rfl) rfl #[.string a0, .string a1] rfl (by (try simp only [List.map_toArray, List.map_cons, List.map_nil]); first | done | rfl | (simp only [List.length_drop, List.length_take]; rfl)) ?_; (with_reducible refine (align_Potentials.calls kj13 a0 a1 t306 t307 _ A31.out).mono ?_); rintro e w38 ⟨v308, rfl, ho0, hb⟩; refine ⟨_, rfl, ?_⟩; have n0_ := Aside0.mk (Kd.R_below (by (with_reducible repeat (first | apply Kd.R_alloc | apply Kd.R_drewN | apply Kd.R_drew)); exact HO_5.out) hb); have n1_ := Aside0.mk (Kd.R_below (by (with_reducible repeat (first | apply Kd.R_alloc | apply Kd.R_drewN | apply Kd.R_drew)); exact HO_8.out) hb); have n2_ := Aside0.mk (Kd.S_lower (Kd.S_new' (Kd.S_new' ho0 (Kd.R_lt (by (with_reducible repeat (first | apply Kd.R_alloc | apply Kd.R_drewN | apply Kd.R_drew)); exact HO_5.out))) (Kd.R_lt (by (with_reducible repeat (first | apply Kd.R_alloc | apply Kd.R_drewN | apply Kd.R_drew)); exact HO_8.out))) (below_size (by repeat (first | (with_reducible first | exact HB.out | apply below_alloc | apply pw_below_drewN | apply below_drew1) | exact HB.out)))); have n3_ := Aside0.mk (below_step (by repeat (first | (with_reducible first | exact HB.out | apply below_alloc | apply pw_below_drewN | apply below_drew1) | exact HB.out)) hb); clear HO_5; clear HO_8; clear HB; have HO_5 := n0_; have HO_8 := n1_; have HO309 := n2_; have HB := n3_; clear n0_ n1_ n2_ n3_; (try clear hb); (try clear hb2); (try clear hk); (try clear hi); (try clear ho0)))
                go_ret
                exact ⟨by first | rfl | (simp [errW_none, errW_some] <;> rfl) | (simp [*, errW_none, errW_some] <;> rfl), by repeat (first | (with_reducible first | exact HB.out | apply below_alloc | apply pw_below_drewN | apply below_drew1) | exact HB.out)⟩

/-- THE ONE PURE STATEMENT of ancepslaw45_AlignBest: yours. -/
def ancepslaw45_AlignBest.Pure : Prop := ∀ (a0 : ByteArray) (a1 : ByteArray), a0.size ≤ 140737488351232 → a1.size ≤ 140737488351232 → ∃ k, ancepslaw45_AlignBest.f k a0 a1 = some true
theorem ancepslaw45_AlignBest.walk (P : ancepslaw45_AlignBest.Pure) (a0 : ByteArray) (a1 : ByteArray) (w : World) (w0 : a0.size ≤ 140737488351232) (w1 : a1.size ≤ 140737488351232) :
    Calls Try.prog 8 #[.string a0, .string a1] w fun e w' => e = .returned (.bool true) ∧ Below w.heap.size w w' := by
  obtain ⟨k, h⟩ := P a0 a1 w0 w1
  refine (ancepslaw45_AlignBest.calls k a0 a1 true w h).mono ?_
  rintro e w' ⟨rfl, hd⟩
  exact ⟨rfl, hd⟩

end Go.Proofs.Ytnnonjjmlbemfaa.X
