-- printed by this session's xprint.py: out of the translation, by the kit's print with additions; Lean checks it
import Derived.Test.YtnjiniegpjfemaaDoorWN
import Derived.Test.YtnjiniegpjfemaaDoorWShare
import Derived.Test.YtnjiniegpjfemaaDoorWRepsOne
import Derived.Test.YtnjiniegpjfemaaDoorWGuard
import Derived.Test.YtnjiniegpjfemaaDoorX0
import Derived.Test.YtnjiniegpjfemaaDoorX6
import Derived.Test.YtnjiniegpjfemaaDoorX7
import Derived.Test.YtnjiniegpjfemaaDoorX22
namespace Go.Proofs.YtnjiniegpjfemaaDoor.X
open Go.RowKit Go.Proofs.YtnjiniegpjfemaaDoorW.PrintWords Go.Proofs.YtnjiniegpjfemaaDoorW.PrintLast Go.Proofs.YtnjiniegpjfemaaDoorW.PrintMore
attribute [local go_sem] max2_int min2_int max_two min_two max_three min_three max_four min_four isSome_setCell binOp_gtr_str binOp_leq_str   -- for this text's walks alone
set_option linter.unusedVariables false
set_option linter.unusedSimpArgs false

/-! ### ancepsref11_one: function 50 -/
mutual
def ancepsref11_one.j1 : Nat → ByteArray → Int → Option (Int × Int × ByteArray × Bool)
  | 0, _, _ => none
  | k + 1, x0, x4 => if x4 < (x0.size : Int) then (if 0 ≤ (wrap64 (x4 + 1)) then (if (wrap64 (x4 + 1)) ≤ (x0.size : Int) then (ancepsref11_one.j2 k x0 x4 (x0.extract ((wrap64 (x4 + 1)) : Int).toNat x0.size)) else (none)) else (none)) else (ancepsref11_one.j2 k x0 x4 (⟨#[]⟩ : ByteArray))
def ancepsref11_one.j2 : Nat → ByteArray → Int → ByteArray → Option (Int × Int × ByteArray × Bool)
  | 0, _, _, _ => none
  | k + 1, x0, x4, x5 => if x5.toList = ([] : List UInt8) then (some (0, 0, (⟨#[]⟩ : ByteArray), false)) else (if 0 ≤ x4 then (if x4 ≤ (x0.size : Int) then (ancepsref11_one.l1 k x5 1 0 0 (x0.extract 0 (x4 : Int).toNat)) else (none)) else (none))
def ancepsref11_one.l1 : Nat → ByteArray → Int → Int → Int → ByteArray → Option (Int × Int × ByteArray × Bool)
  | 0, _, _, _, _, _ => none
  | k + 1, x5, x7, x347000, x347001, x347002 => (ancepsref11_letters.f).bind fun t347 => (if x7 < (t347.size : Int) then ((ancepsref11_letters.f).bind fun t348 => (if 0 ≤ x7 then (if x7 < (t348.size : Int) then (if 0 < (x5.size : Int) then (if (bt t348 x7) = (bt x5 0) then (ancepsref11_one.l1 k x5 (wrap64 (x7 + 1)) x7 x347001 x347002) else (ancepsref11_one.l1 k x5 (wrap64 (x7 + 1)) x347000 x347001 x347002)) else (none)) else (none)) else (none))) else (if 1 ≤ (x5.size : Int) then ((ancepsref11_Nucleus.f x347000 x347001 x347002).bind fun t349 => (if t349 = true then (if ((x5.extract 1 x5.size).size : Int) = 1 then (if 0 < ((x5.extract 1 x5.size).size : Int) then (if (bt (x5.extract 1 x5.size) 0) ≥ 49 then (if (bt (x5.extract 1 x5.size) 0) ≤ 51 then (if ([] : List UInt8) = ([] : List UInt8) then ((ancepsref11_Valid.f k x347000 (wrap64 ((wrap64 (bt (x5.extract 1 x5.size) 0)) - 48)) x347002).bind fun t350 => (some (x347000, wrap64 ((wrap64 (bt (x5.extract 1 x5.size) 0)) - 48), x347002, (t350 == 0)))) else (some (x347000, wrap64 ((wrap64 (bt (x5.extract 1 x5.size) 0)) - 48), x347002, false))) else (if (x5.extract 1 x5.size).toList = ([] : List UInt8) then ((ancepsref11_Valid.f k x347000 x347001 x347002).bind fun t351 => (some (x347000, x347001, x347002, (t351 == 0)))) else (some (x347000, x347001, x347002, false)))) else (if (x5.extract 1 x5.size).toList = ([] : List UInt8) then ((ancepsref11_Valid.f k x347000 x347001 x347002).bind fun t352 => (some (x347000, x347001, x347002, (t352 == 0)))) else (some (x347000, x347001, x347002, false)))) else (none)) else (if (x5.extract 1 x5.size).toList = ([] : List UInt8) then ((ancepsref11_Valid.f k x347000 x347001 x347002).bind fun t353 => (some (x347000, x347001, x347002, (t353 == 0)))) else (some (x347000, x347001, x347002, false)))) else (if (x5.extract 1 x5.size).toList = ([] : List UInt8) then ((ancepsref11_Valid.f k x347000 x347001 x347002).bind fun t354 => (some (x347000, x347001, x347002, (t354 == 0)))) else (some (x347000, x347001, x347002, false))))) else (none)))
def ancepsref11_one.l0 : Nat → ByteArray → Int → Option (Int × Int × ByteArray × Bool)
  | 0, _, _ => none
  | k + 1, x0, x4 => if x4 < (x0.size : Int) then (if 0 ≤ x4 then (if (bt x0 x4) = 47 then (ancepsref11_one.j1 k x0 x4) else (ancepsref11_one.l0 k x0 (wrap64 (x4 + 1)))) else (none)) else (ancepsref11_one.j1 k x0 x4)
end
def ancepsref11_one.f (k : Nat) (a0 : ByteArray) : Option (Int × Int × ByteArray × Bool) := ancepsref11_one.l0 k a0 0
theorem ancepsref11_one.mono_l : ∀ k, (∀ y0 y1, LeO (ancepsref11_one.j1 k y0 y1) (ancepsref11_one.j1 (k + 1) y0 y1)) ∧ (∀ y0 y1 y2, LeO (ancepsref11_one.j2 k y0 y1 y2) (ancepsref11_one.j2 (k + 1) y0 y1 y2)) ∧ (∀ y0 y1 y2 y3 y4, LeO (ancepsref11_one.l1 k y0 y1 y2 y3 y4) (ancepsref11_one.l1 (k + 1) y0 y1 y2 y3 y4)) ∧ (∀ y0 y1, LeO (ancepsref11_one.l0 k y0 y1) (ancepsref11_one.l0 (k + 1) y0 y1))
  | 0 => ⟨fun _ _ r h => by simp [ancepsref11_one.j1] at h, fun _ _ _ r h => by simp [ancepsref11_one.j2] at h, fun _ _ _ _ _ r h => by simp [ancepsref11_one.l1] at h, fun _ _ r h => by simp [ancepsref11_one.l0] at h⟩
  | k + 1 => by
    obtain ⟨ih0, ih1, ih2, ih3⟩ := ancepsref11_one.mono_l k
    refine ⟨?_, ?_, ?_, ?_⟩
    · intro y0 y1
      unfold ancepsref11_one.j1
      repeat' first
      | (with_reducible exact ih0 _ _)
      | (with_reducible exact ih1 _ _ _)
      | (with_reducible exact ih2 _ _ _ _ _)
      | (with_reducible exact ih3 _ _)
      | (with_reducible exact ancepsref11_Valid.mono _ _ _ _)
      | (with_reducible exact LeO.refl _)
      | (with_reducible exact LeO.none _)
      | (with_reducible refine LeO.ite ?_ ?_)
      | (with_reducible refine LeO.bind ?_ (fun _ => ?_))
      | exact ih0 _ _
      | exact ih1 _ _ _
      | exact ih2 _ _ _ _ _
      | exact ih3 _ _
      | exact ancepsref11_Valid.mono _ _ _ _
      | exact LeO.none _
      | refine LeO.ite ?_ ?_
      | refine LeO.bind ?_ (fun _ => ?_)
    · intro y0 y1 y2
      unfold ancepsref11_one.j2
      repeat' first
      | (with_reducible exact ih0 _ _)
      | (with_reducible exact ih1 _ _ _)
      | (with_reducible exact ih2 _ _ _ _ _)
      | (with_reducible exact ih3 _ _)
      | (with_reducible exact ancepsref11_Valid.mono _ _ _ _)
      | (with_reducible exact LeO.refl _)
      | (with_reducible exact LeO.none _)
      | (with_reducible refine LeO.ite ?_ ?_)
      | (with_reducible refine LeO.bind ?_ (fun _ => ?_))
      | exact ih0 _ _
      | exact ih1 _ _ _
      | exact ih2 _ _ _ _ _
      | exact ih3 _ _
      | exact ancepsref11_Valid.mono _ _ _ _
      | exact LeO.none _
      | refine LeO.ite ?_ ?_
      | refine LeO.bind ?_ (fun _ => ?_)
    · intro y0 y1 y2 y3 y4
      unfold ancepsref11_one.l1
      repeat' first
      | (with_reducible exact ih0 _ _)
      | (with_reducible exact ih1 _ _ _)
      | (with_reducible exact ih2 _ _ _ _ _)
      | (with_reducible exact ih3 _ _)
      | (with_reducible exact ancepsref11_Valid.mono _ _ _ _)
      | (with_reducible exact LeO.refl _)
      | (with_reducible exact LeO.none _)
      | (with_reducible refine LeO.ite ?_ ?_)
      | (with_reducible refine LeO.bind ?_ (fun _ => ?_))
      | exact ih0 _ _
      | exact ih1 _ _ _
      | exact ih2 _ _ _ _ _
      | exact ih3 _ _
      | exact ancepsref11_Valid.mono _ _ _ _
      | exact LeO.none _
      | refine LeO.ite ?_ ?_
      | refine LeO.bind ?_ (fun _ => ?_)
    · intro y0 y1
      unfold ancepsref11_one.l0
      repeat' first
      | (with_reducible exact ih0 _ _)
      | (with_reducible exact ih1 _ _ _)
      | (with_reducible exact ih2 _ _ _ _ _)
      | (with_reducible exact ih3 _ _)
      | (with_reducible exact ancepsref11_Valid.mono _ _ _ _)
      | (with_reducible exact LeO.refl _)
      | (with_reducible exact LeO.none _)
      | (with_reducible refine LeO.ite ?_ ?_)
      | (with_reducible refine LeO.bind ?_ (fun _ => ?_))
      | exact ih0 _ _
      | exact ih1 _ _ _
      | exact ih2 _ _ _ _ _
      | exact ih3 _ _
      | exact ancepsref11_Valid.mono _ _ _ _
      | exact LeO.none _
      | refine LeO.ite ?_ ?_
      | refine LeO.bind ?_ (fun _ => ?_)
theorem ancepsref11_one.mono : ∀ a0 k, LeO (ancepsref11_one.f k a0) (ancepsref11_one.f (k + 1) a0) := by
  intro a0 k
  obtain ⟨ih0, ih1, ih2, ih3⟩ := ancepsref11_one.mono_l k
  unfold ancepsref11_one.f
  repeat' first
      | (with_reducible exact ih0 _ _)
      | (with_reducible exact ih1 _ _ _)
      | (with_reducible exact ih2 _ _ _ _ _)
      | (with_reducible exact ih3 _ _)
      | (with_reducible exact ancepsref11_Valid.mono _ _ _ _)
      | (with_reducible exact LeO.refl _)
      | (with_reducible exact LeO.none _)
      | (with_reducible refine LeO.ite ?_ ?_)
      | (with_reducible refine LeO.bind ?_ (fun _ => ?_))
      | exact ih0 _ _
      | exact ih1 _ _ _
      | exact ih2 _ _ _ _ _
      | exact ih3 _ _
      | exact ancepsref11_Valid.mono _ _ _ _
      | exact LeO.none _
      | refine LeO.ite ?_ ?_
      | refine LeO.bind ?_ (fun _ => ?_)
def ancepsref11_one.T19 : Bool × List (List Nat × List Nat) := (true, [([], []), ([], []), ([1], [1]), ([2], [2]), ([3], [3]), ([4, 3, 3], [3, 4]), ([5, 3], [3, 5]), ([3, 6], [3, 6]), ([0, 5, 0], [0]), ([7, 8, 0, 1, 2, 3, 4, 5, 6, 7, 8], [7])])
def ancepsref11_one.B19 : List Nat := [0, 0, 2, 6, 14, 30, 62, 126, 63, 511]
theorem ancepsref11_one.tab19 : rtab .any (opsOf Tryd.f50 19) = ancepsref11_one.T19 := by kernel_rfl
theorem ancepsref11_one.bits19 : waitsOk ancepsref11_one.T19.2 ancepsref11_one.B19 = true := by kernel_rfl
set_option maxHeartbeats 8000000 in
set_option maxRecDepth 100000 in
theorem ancepsref11_one.calls (k : Nat) (a0 : ByteArray) (r1 : Int) (r2 : Int) (r3 : ByteArray) (r4 : Bool) (w : World) (h : ancepsref11_one.f k a0 = some (r1, r2, r3, r4)) :
    Calls Tryd.prog 50 #[.string a0] w fun e w' => e = .returned (.tuple #[.agg #[.int .i64 r1, .int .i64 r2, .string r3], .bool r4]) ∧ Below w.heap.size w w' := by
  have hu23 := Tryd.underlying23
  have HB := Aside0.mk (Below.refl w.heap.size w)
  have H : (ancepsref11_one.l0 k a0 0) = some (r1, r2, r3, r4) := h
  clear h
  have HC2 := Aside0.mk H
  clear H
  go_enter Tryd.func50, Tryd.ntmps50
  go_upto_block 0 with (first | ((with_reducible refine gate_dst (N := 2) rfl ?_); (try (refine gate_guard (by rfl) ?_; dsimp only)); refine box_event ?hg (N := 2) ?hd (cs := #[.int .i64 0, .int .i64 0, .string (⟨#[]⟩ : ByteArray)]) (t := 23) ?hr ?_; (case hd => rfl); (case hg => rfl); (case hr => first | (go_simp; done) | (go_simp; rfl)); intro gb345 hg w3 hbox hb; have n0_ := Aside0.mk (below_step (by repeat (first | (with_reducible first | exact HB.out | apply below_alloc | apply pw_below_drewN | apply below_drew1) | exact HB.out)) hb); have n1_ := Aside0.mk (hbox); have n2_ := Aside0.mk ((by rw [hg]; exact (below_size (by repeat (first | (with_reducible first | exact HB.out | apply below_alloc | apply pw_below_drewN | apply below_drew1) | exact HB.out))) : w.heap.size ≤ gb345)); have n3_ := Aside0.mk ((by rw [hg]; exact (below_size (by repeat (first | (with_reducible first | exact HB.out | apply below_alloc | apply pw_below_drewN | apply below_drew1) | exact HB.out))) : w.heap.size ≤ gb345)); clear HB; have HB := n0_; have BK345 := n1_; have GW345 := n2_; have GE345 := n3_; clear n0_ n1_ n2_ n3_; clear hb hbox hg))
  (try simp only [Act.put, List.setIfInBounds_toArray, List.set_cons_zero, List.set_cons_succ])
  go_cut [4] (fun v4 wc => ∃ (kq : Nat) (x4_1 : Int), v4 = .int .i64 x4_1 ∧ Aside0 (ancepsref11_one.j1 kq a0 x4_1 = some (r1, r2, r3, r4)) ∧ Aside0 (kq ≤ k) ∧ Aside0 (wc.heap[gb345]? = some (.cells #[.int .i64 0, .int .i64 0, .string (⟨#[]⟩ : ByteArray)] 23 (0, 0))) ∧ Aside0 (Below w.heap.size w wc))
  case first =>
    have H := HC2.out
    clear HC2
    have H' := Aside0.mk H
    clear H
    go_wp2
    go_loopg [4] k (fun kq v4 w' => ∃ (x4_1 : Int), v4 = .int .i64 x4_1 ∧ Aside0 (ancepsref11_one.l0 kq a0 x4_1 = some (r1, r2, r3, r4)) ∧ Aside0 (kq ≤ k) ∧ Aside0 (w'.heap[gb345]? = some (.cells #[.int .i64 0, .int .i64 0, .string (⟨#[]⟩ : ByteArray)] 23 (0, 0))) ∧ Aside0 (Below w.heap.size w w'))
    case atStart => exact ⟨(0), (by first | rfl | (simp; done) | (simp [*]; done)), H', ⟨Nat.le_refl _⟩, ⟨by (with_reducible repeat (first | refine blk_drewN ?_ _ | refine blk_drew ?_ | refine blk_alloc ?_ _)); exact BK345.out⟩, ⟨by repeat (first | (with_reducible first | exact HB.out | apply below_alloc | apply pw_below_drewN | apply below_drew1 | refine below_set ?_ GE345.out) | exact HB.out)⟩⟩
    case round =>
      clear H'
      try clear p2
      obtain ⟨x4_1, rfl, HA, HK1, BK345, HB⟩ := hrel
      cases gk with
      | zero => exact absurd HA.out (by simp [ancepsref11_one.l0])
      | succ k1 =>
        have H := HA.out
        clear HA
        simp only [ancepsref11_one.l0] at H
        by_cases c4 : x4_1 < (a0.size : Int)
        · rw [if_pos c4] at H
          have c4b0 : decide (x4_1 < (a0.size : Int)) = true := decide_eq_true c4
          clear c4
          (first | rw [c4b0] | (simp only [i64_w, i32_w]; rw [c4b0]) | skip)
          by_cases c5 : 0 ≤ x4_1
          · rw [if_pos c5] at H
            have c5b0 : decide (0 ≤ x4_1) = true := decide_eq_true c5
            clear c5
            by_cases c7 : (bt a0 x4_1) = 47
            · rw [if_pos c7] at H
              have c7b0 : ((bt a0 x4_1) == 47) = true := beq_iff_eq.mpr c7
              have c7b1 : ((bt a0 x4_1) != 47) = false := bne_eq_false_iff_eq.mpr c7
              clear c7
              have H' := Aside0.mk H
              clear H
              have p6 : 0 ≤ (x4_1 : Int) := of_decide_eq_true (by first | (with_reducible assumption) | assumption)
              have q6 : x4_1 < (a0.size : Int) := of_decide_eq_true (by first | (with_reducible assumption) | assumption)
              have hx6 := bt_at a0 x4_1
              replace p6 := eq_true p6
              replace q6 := eq_true q6
              go_wp2
              go_meet
              case rel => exact ⟨_, (x4_1), (by first | rfl | (simp; done) | (simp [*]; done)), H', ⟨by have := HK1.out; first | omega | exact Nat.le_refl _⟩, ⟨by (with_reducible repeat (first | refine blk_drewN ?_ _ | refine blk_drew ?_ | refine blk_alloc ?_ _)); exact BK345.out⟩, ⟨by repeat (first | (with_reducible first | exact HB.out | apply below_alloc | apply pw_below_drewN | apply below_drew1 | refine below_set ?_ GE345.out) | exact HB.out)⟩⟩
            · rw [if_neg c7] at H
              have c7b0 : ((bt a0 x4_1) == 47) = false := beq_eq_false_iff_ne.mpr c7
              have c7b1 : ((bt a0 x4_1) != 47) = true := bne_iff_ne.mpr c7
              have H' := Aside0.mk H
              clear H
              have p6 : 0 ≤ (x4_1 : Int) := of_decide_eq_true (by first | (with_reducible assumption) | assumption)
              have q6 : x4_1 < (a0.size : Int) := of_decide_eq_true (by first | (with_reducible assumption) | assumption)
              have hx6 := bt_at a0 x4_1
              replace p6 := eq_true p6
              replace q6 := eq_true q6
              go_wp2
              go_roundg k1
              case measure => have := HK1.out; omega
              case rel => exact ⟨(wrap64 (x4_1 + 1)), (by first | rfl | (simp; done) | (simp [*]; done)), H', ⟨by have := HK1.out; omega⟩, ⟨by (with_reducible repeat (first | refine blk_drewN ?_ _ | refine blk_drew ?_ | refine blk_alloc ?_ _)); exact BK345.out⟩, ⟨by repeat (first | (with_reducible first | exact HB.out | apply below_alloc | apply pw_below_drewN | apply below_drew1 | refine below_set ?_ GE345.out) | exact HB.out)⟩⟩
          · rw [if_neg c5] at H
            exact absurd H (by simp)
        · rw [if_neg c4] at H
          have c4b0 : decide (x4_1 < (a0.size : Int)) = false := decide_eq_false c4
          clear c4
          (first | rw [c4b0] | (simp only [i64_w, i32_w]; rw [c4b0]) | skip)
          have H' := Aside0.mk H
          clear H
          go_wp2
          go_meet
          case rel => exact ⟨_, (x4_1), (by first | rfl | (simp; done) | (simp [*]; done)), H', ⟨by have := HK1.out; first | omega | exact Nat.le_refl _⟩, ⟨by (with_reducible repeat (first | refine blk_drewN ?_ _ | refine blk_drew ?_ | refine blk_alloc ?_ _)); exact BK345.out⟩, ⟨by repeat (first | (with_reducible first | exact HB.out | apply below_alloc | apply pw_below_drewN | apply below_drew1 | refine below_set ?_ GE345.out) | exact HB.out)⟩⟩
  case rest =>
    clear HC2
    try clear p2
    try clear c4
    try clear c4b0
    try clear c5
    try clear c5b0
    try clear p6
    try clear q6
    try clear hx6
    try clear c7
    try clear c7b0
    try clear c7b1
    try clear p2
    try clear p6
    try clear q6
    obtain ⟨kq, x4_1, rfl, HA, HJ1, BK345, HB⟩ := hcut
    cases kq with
    | zero => exact absurd HA.out (by simp [ancepsref11_one.j1])
    | succ kj1 =>
      have H := HA.out
      clear HA
      simp only [ancepsref11_one.j1] at H
      have HC8 := Aside0.mk H
      clear H
      go_upto_if 23 with (fail)
      go_cut [5] (fun v5 wc => ∃ (kq : Nat) (x5_7 : ByteArray), v5 = .string x5_7 ∧ Aside0 (ancepsref11_one.j2 kq a0 x4_1 x5_7 = some (r1, r2, r3, r4)) ∧ Aside0 (kq ≤ kj1) ∧ Aside0 (wc.heap[gb345]? = some (.cells #[.int .i64 0, .int .i64 0, .string (⟨#[]⟩ : ByteArray)] 23 (0, 0))) ∧ Aside0 (Below w.heap.size w wc))
      case first =>
        have H := HC8.out
        clear HC8
        by_cases c9 : x4_1 < (a0.size : Int)
        · rw [if_pos c9] at H
          have c9b0 : decide (x4_1 < (a0.size : Int)) = true := decide_eq_true c9
          clear c9
          (first | rw [c9b0] | (simp only [i64_w, i32_w]; rw [c9b0]) | skip)
          obtain ⟨ji10, hji10⟩ : ∃ j_ : Int, (wrap64 (x4_1 + 1)) = j_ := ⟨_, rfl⟩
          replace H : (if 0 ≤ (ji10) then (if (ji10) ≤ (a0.size : Int) then (ancepsref11_one.j2 kj1 a0 x4_1 (a0.extract ((ji10) : Int).toNat a0.size)) else (none)) else (none)) = some (r1, r2, r3, r4) := by first | (rw [hji10] at H; exact H) | (simp only [hji10] at H ⊢; exact H)
          have hji10w : (IntKind.i64.wrap (x4_1 + 1)) = ji10 := (i64_w _).trans hji10
          by_cases c11 : 0 ≤ (ji10)
          · rw [if_pos c11] at H
            have c11b0 := eq_true c11
            have c11b1 : decide (0 ≤ (ji10)) = true := decide_eq_true c11
            clear c11
            by_cases c12 : (ji10) ≤ (a0.size : Int)
            · rw [if_pos c12] at H
              have c12b0 := eq_true c12
              have c12b1 : decide ((ji10) ≤ (a0.size : Int)) = true := decide_eq_true c12
              clear c12
              have H' := Aside0.mk H
              clear H
              go_wp2
              go_meet
              case rel => exact ⟨_, (a0.extract ((ji10) : Int).toNat a0.size), (by first | rfl | (simp; done) | (simp only [← hji10] <;> (first | rfl | simp)) | (simp [*]; done)), H', ⟨by have := HJ1.out; first | omega | exact Nat.le_refl _⟩, ⟨by (with_reducible repeat (first | refine blk_drewN ?_ _ | refine blk_drew ?_ | refine blk_alloc ?_ _)); exact BK345.out⟩, ⟨by repeat (first | (with_reducible first | exact HB.out | apply below_alloc | apply pw_below_drewN | apply below_drew1 | refine below_set ?_ GE345.out) | exact HB.out)⟩⟩
            · rw [if_neg c12] at H
              exact absurd H (by simp)
          · rw [if_neg c11] at H
            exact absurd H (by simp)
        · rw [if_neg c9] at H
          have c9b0 : decide (x4_1 < (a0.size : Int)) = false := decide_eq_false c9
          clear c9
          (first | rw [c9b0] | (simp only [i64_w, i32_w]; rw [c9b0]) | skip)
          have H' := Aside0.mk H
          clear H
          go_wp2
          go_meet
          case rel => exact ⟨_, ((⟨#[]⟩ : ByteArray)), (by first | rfl | (simp; done) | (simp [*]; done)), H', ⟨by have := HJ1.out; first | omega | exact Nat.le_refl _⟩, ⟨by (with_reducible repeat (first | refine blk_drewN ?_ _ | refine blk_drew ?_ | refine blk_alloc ?_ _)); exact BK345.out⟩, ⟨by repeat (first | (with_reducible first | exact HB.out | apply below_alloc | apply pw_below_drewN | apply below_drew1 | refine below_set ?_ GE345.out) | exact HB.out)⟩⟩
      case rest =>
        clear HC8
        try clear c1
        try clear p2
        try clear c4
        try clear c4b0
        try clear c5
        try clear c5b0
        try clear p6
        try clear q6
        try clear hx6
        try clear c7
        try clear c7b0
        try clear c7b1
        try clear c9
        try clear c9b0
        try clear c11
        try clear c11b0
        try clear c11b1
        try clear c12
        try clear c12b0
        try clear c12b1
        try clear p2
        try clear p6
        try clear q6
        obtain ⟨kq, x5_7, rfl, HA, HJ7, BK345, HB⟩ := hcut
        cases kq with
        | zero => exact absurd HA.out (by simp [ancepsref11_one.j2])
        | succ kj7 =>
          have H := HA.out
          clear HA
          simp only [ancepsref11_one.j2] at H
          by_cases c13 : x5_7.toList = ([] : List UInt8)
          · rw [if_pos c13] at H
            have c13b0 : (x5_7.toList == ([] : List UInt8)) = true := beq_iff_eq.mpr c13
            have c13b1 : (x5_7.toList != ([] : List UInt8)) = false := bne_eq_false_iff_eq.mpr c13
            clear c13
            simp only [Option.some.injEq, Prod.mk.injEq] at H
            obtain ⟨rfl, rfl, rfl, rfl⟩ := H
            have hcz14_0 : wc.cell? ⟨gb345, 0, none⟩ = some (.int .i64 0) := (blk_cell BK345.out 0).trans rfl
            have hcz14_1 : wc.cell? ⟨gb345, 1, none⟩ = some (.int .i64 0) := (blk_cell BK345.out 1).trans rfl
            have hcz14_2 : wc.cell? ⟨gb345, 2, none⟩ = some (.string (⟨#[]⟩ : ByteArray)) := (blk_cell BK345.out 2).trans rfl
            have hfz14_0 := blk_frozen BK345.out 0
            have hfz14_1 := blk_frozen BK345.out 1
            have hfz14_2 := blk_frozen BK345.out 2
            go_wp2
            refine bodyPost_ret (results_ct rfl _ _ gb345 23 #[.int .i64 0, .int .i64 0, .string (⟨#[]⟩ : ByteArray)] (0, 0) _ rfl (by (with_reducible repeat (first | refine blk_drewN ?_ _ | refine blk_drew ?_ | refine blk_alloc ?_ _)); refine blk_put (cs := #[.int .i64 0, .int .i64 0, .string (⟨#[]⟩ : ByteArray)]) ?_ 2 _ rfl; (with_reducible repeat (first | refine blk_drewN ?_ _ | refine blk_drew ?_ | refine blk_alloc ?_ _)); refine blk_put (cs := #[.int .i64 0, .int .i64 0, .string (⟨#[]⟩ : ByteArray)]) ?_ 1 _ rfl; (with_reducible repeat (first | refine blk_drewN ?_ _ | refine blk_drew ?_ | refine blk_alloc ?_ _)); refine blk_put (cs := #[.int .i64 0, .int .i64 0, .string (⟨#[]⟩ : ByteArray)]) ?_ 0 _ rfl; (with_reducible repeat (first | refine blk_drewN ?_ _ | refine blk_drew ?_ | refine blk_alloc ?_ _)); exact BK345.out) Tryd.underlying23 rfl (by kernel_rfl)) rfl ?_
            exact ⟨by first | rfl | (simp [errW_none, errW_some] <;> rfl) | (simp [*, errW_none, errW_some] <;> rfl), by repeat (first | (with_reducible first | exact HB.out | apply below_alloc | apply pw_below_drewN | apply below_drew1 | refine below_set ?_ GE345.out) | exact HB.out)⟩
          · rw [if_neg c13] at H
            have c13b0 : (x5_7.toList == ([] : List UInt8)) = false := beq_eq_false_iff_ne.mpr c13
            have c13b1 : (x5_7.toList != ([] : List UInt8)) = true := bne_iff_ne.mpr c13
            by_cases c15 : 0 ≤ x4_1
            · rw [if_pos c15] at H
              have c15b0 := eq_true c15
              have c15b1 : decide (0 ≤ x4_1) = true := decide_eq_true c15
              clear c15
              by_cases c16 : x4_1 ≤ (a0.size : Int)
              · rw [if_pos c16] at H
                have c16b0 := eq_true c16
                have c16b1 : decide (x4_1 ≤ (a0.size : Int)) = true := decide_eq_true c16
                clear c16
                have H' := Aside0.mk H
                clear H
                go_wp2_with (first | ((with_reducible refine gate_dst (N := 6) rfl ?_); (try (refine gate_guard (by rfl) ?_; dsimp only)); refine box_event ?hg (N := 6) ?hd (cs := #[.int .i64 0, .int .i64 0, .string (⟨#[]⟩ : ByteArray)]) (t := 23) ?hr ?_; (case hd => rfl); (case hg => rfl); (case hr => first | (go_simp; done) | (go_simp; rfl)); intro gb346 hg w17 hbox hb; have n0_ := Aside0.mk (blk_below (g := gb345) (o := .cells #[.int .i64 0, .int .i64 0, .string (⟨#[]⟩ : ByteArray)] 23 (0, 0)) (by (with_reducible repeat (first | refine blk_drewN ?_ _ | refine blk_drew ?_ | refine blk_alloc ?_ _)); exact BK345.out) hb); have n1_ := Aside0.mk (below_step (by repeat (first | (with_reducible first | exact HB.out | apply below_alloc | apply pw_below_drewN | apply below_drew1 | refine below_set ?_ GE345.out) | exact HB.out)) hb); have n2_ := Aside0.mk (hbox); have n3_ := Aside0.mk ((by rw [hg]; exact (below_size (by repeat (first | (with_reducible first | exact HB.out | apply below_alloc | apply pw_below_drewN | apply below_drew1 | refine below_set ?_ GE345.out) | exact HB.out))) : w.heap.size ≤ gb346)); have n4_ := Aside0.mk ((by rw [hg]; exact (below_size (by repeat (first | (with_reducible first | exact HB.out | apply below_alloc | apply pw_below_drewN | apply below_drew1 | refine below_set ?_ GE345.out) | exact HB.out))) : w.heap.size ≤ gb346)); have n5_ := Aside0.mk ((by rw [hg]; exact Nat.ne_of_lt (blk_lt (g := gb345) (o := .cells #[.int .i64 0, .int .i64 0, .string (⟨#[]⟩ : ByteArray)] 23 (0, 0)) (by (with_reducible repeat (first | refine blk_drewN ?_ _ | refine blk_drew ?_ | refine blk_alloc ?_ _)); exact BK345.out)) : gb345 ≠ gb346)); have n6_ := Aside0.mk ((by rw [hg]; exact Nat.ne_of_gt (blk_lt (g := gb345) (o := .cells #[.int .i64 0, .int .i64 0, .string (⟨#[]⟩ : ByteArray)] 23 (0, 0)) (by (with_reducible repeat (first | refine blk_drewN ?_ _ | refine blk_drew ?_ | refine blk_alloc ?_ _)); exact BK345.out)) : gb346 ≠ gb345)); clear BK345; clear HB; have BK345 := n0_; have HB := n1_; have BK346 := n2_; have GW346 := n3_; have GE346 := n4_; have NB345_346 := n5_; have NB346_345 := n6_; clear n0_ n1_ n2_ n3_ n4_ n5_ n6_; clear hb hbox hg; have hnb18 := NB346_345.out; have hnc18 := NB345_346.out; have hcz19_0 : w17.cell? ⟨gb346, 0, none⟩ = some (.int .i64 0) := (blk_cell BK346.out 0).trans rfl; have hcz19_1 : w17.cell? ⟨gb346, 1, none⟩ = some (.int .i64 0) := (blk_cell BK346.out 1).trans rfl; have hcz19_2 : w17.cell? ⟨gb346, 2, none⟩ = some (.string (⟨#[]⟩ : ByteArray)) := (blk_cell BK346.out 2).trans rfl; have hfz19_0 := blk_frozen BK346.out 0; have hfz19_1 := blk_frozen BK346.out 1; have hfz19_2 := blk_frozen BK346.out 2))
                go_loopg [7] kj7 (fun kq v7 w' => ∃ (x7_3 : Int) (x347000_3 : Int), v7 = .int .i64 x7_3 ∧ Aside0 (ancepsref11_one.l1 kq x5_7 x7_3 x347000_3 0 (a0.extract 0 (x4_1 : Int).toNat) = some (r1, r2, r3, r4)) ∧ Aside0 (kq ≤ kj7) ∧ Aside0 (w'.heap[gb345]? = some (.cells #[.int .i64 0, .int .i64 0, .string (⟨#[]⟩ : ByteArray)] 23 (0, 0))) ∧ Aside0 (w'.heap[gb346]? = some (.cells #[.int .i64 x347000_3, .int .i64 0, .string (a0.extract 0 (x4_1 : Int).toNat)] 23 (0, 0))) ∧ Aside0 (Below w.heap.size w w'))
                case atStart => exact ⟨(1), (0), (by first | rfl | (simp; done) | (simp [*]; done)), H', ⟨Nat.le_refl _⟩, ⟨by (with_reducible repeat (first | refine blk_drewN ?_ _ | refine blk_drew ?_ | refine blk_alloc ?_ _)); refine blk_far ?_ NB345_346.out _; (with_reducible repeat (first | refine blk_drewN ?_ _ | refine blk_drew ?_ | refine blk_alloc ?_ _)); refine blk_far ?_ NB345_346.out _; (with_reducible repeat (first | refine blk_drewN ?_ _ | refine blk_drew ?_ | refine blk_alloc ?_ _)); refine blk_far ?_ NB345_346.out _; (with_reducible repeat (first | refine blk_drewN ?_ _ | refine blk_drew ?_ | refine blk_alloc ?_ _)); exact BK345.out⟩, ⟨by (with_reducible repeat (first | refine blk_drewN ?_ _ | refine blk_drew ?_ | refine blk_alloc ?_ _)); refine blk_put (cs := #[.int .i64 0, .int .i64 0, .string (⟨#[]⟩ : ByteArray)]) ?_ 2 _ rfl; (with_reducible repeat (first | refine blk_drewN ?_ _ | refine blk_drew ?_ | refine blk_alloc ?_ _)); refine blk_put (cs := #[.int .i64 0, .int .i64 0, .string (⟨#[]⟩ : ByteArray)]) ?_ 1 _ rfl; (with_reducible repeat (first | refine blk_drewN ?_ _ | refine blk_drew ?_ | refine blk_alloc ?_ _)); refine blk_put (cs := #[.int .i64 0, .int .i64 0, .string (⟨#[]⟩ : ByteArray)]) ?_ 0 _ rfl; (with_reducible repeat (first | refine blk_drewN ?_ _ | refine blk_drew ?_ | refine blk_alloc ?_ _)); exact BK346.out⟩, ⟨by repeat (first | (with_reducible first | exact HB.out | apply below_alloc | apply pw_below_drewN | apply below_drew1 | refine below_set ?_ GE345.out | refine below_set ?_ GE346.out) | exact HB.out)⟩⟩
                case round =>
                  clear H'
                  try clear c1
                  try clear p2
                  try clear c4
                  try clear c4b0
                  try clear c5
                  try clear c5b0
                  try clear p6
                  try clear q6
                  try clear hx6
                  try clear c7
                  try clear c7b0
                  try clear c7b1
                  try clear c9
                  try clear c9b0
                  try clear c11
                  try clear c11b0
                  try clear c11b1
                  try clear c12
                  try clear c12b0
                  try clear c12b1
                  try clear c13
                  try clear c13b0
                  try clear c13b1
                  try clear c15
                  try clear c15b0
                  try clear c15b1
                  try clear c16
                  try clear c16b0
                  try clear c16b1
                  try clear c18
                  try clear hcz14_0
                  try clear hcz14_1
                  try clear hcz14_2
                  try clear hcz19_0
                  try clear hcz19_1
                  try clear hcz19_2
                  try clear hfz14_0
                  try clear hfz14_1
                  try clear hfz14_2
                  try clear hfz19_0
                  try clear hfz19_1
                  try clear hfz19_2
                  try clear p2
                  try clear p6
                  try clear q6
                  obtain ⟨x7_3, x347000_3, rfl, HA, HK3, BK345, BK346, HB⟩ := hrel
                  cases gk with
                  | zero => exact absurd HA.out (by simp [ancepsref11_one.l1])
                  | succ k3 =>
                    have H := HA.out
                    clear HA
                    simp only [ancepsref11_one.l1] at H
                    replace H := Option.bind_eq_some_iff.mp H
                    obtain ⟨t347, A200, H⟩ := H
                    replace H : (if x7_3 < (t347.size : Int) then ((ancepsref11_letters.f).bind fun t348 => (if 0 ≤ x7_3 then (if x7_3 < (t348.size : Int) then (if 0 < (x5_7.size : Int) then (if (bt t348 x7_3) = (bt x5_7 0) then (ancepsref11_one.l1 k3 x5_7 (wrap64 (x7_3 + 1)) x7_3 0 (a0.extract 0 (x4_1 : Int).toNat)) else (ancepsref11_one.l1 k3 x5_7 (wrap64 (x7_3 + 1)) x347000_3 0 (a0.extract 0 (x4_1 : Int).toNat))) else (none)) else (none)) else (none))) else (if 1 ≤ (x5_7.size : Int) then ((ancepsref11_Nucleus.f x347000_3 0 (a0.extract 0 (x4_1 : Int).toNat)).bind fun t349 => (if t349 = true then (if ((x5_7.extract 1 x5_7.size).size : Int) = 1 then (if 0 < ((x5_7.extract 1 x5_7.size).size : Int) then (if (bt (x5_7.extract 1 x5_7.size) 0) ≥ 49 then (if (bt (x5_7.extract 1 x5_7.size) 0) ≤ 51 then (if ([] : List UInt8) = ([] : List UInt8) then ((ancepsref11_Valid.f k3 x347000_3 (wrap64 ((wrap64 (bt (x5_7.extract 1 x5_7.size) 0)) - 48)) (a0.extract 0 (x4_1 : Int).toNat)).bind fun t350 => (some (x347000_3, wrap64 ((wrap64 (bt (x5_7.extract 1 x5_7.size) 0)) - 48), (a0.extract 0 (x4_1 : Int).toNat), (t350 == 0)))) else (some (x347000_3, wrap64 ((wrap64 (bt (x5_7.extract 1 x5_7.size) 0)) - 48), (a0.extract 0 (x4_1 : Int).toNat), false))) else (if (x5_7.extract 1 x5_7.size).toList = ([] : List UInt8) then ((ancepsref11_Valid.f k3 x347000_3 0 (a0.extract 0 (x4_1 : Int).toNat)).bind fun t351 => (some (x347000_3, 0, (a0.extract 0 (x4_1 : Int).toNat), (t351 == 0)))) else (some (x347000_3, 0, (a0.extract 0 (x4_1 : Int).toNat), false)))) else (if (x5_7.extract 1 x5_7.size).toList = ([] : List UInt8) then ((ancepsref11_Valid.f k3 x347000_3 0 (a0.extract 0 (x4_1 : Int).toNat)).bind fun t352 => (some (x347000_3, 0, (a0.extract 0 (x4_1 : Int).toNat), (t352 == 0)))) else (some (x347000_3, 0, (a0.extract 0 (x4_1 : Int).toNat), false)))) else (none)) else (if (x5_7.extract 1 x5_7.size).toList = ([] : List UInt8) then ((ancepsref11_Valid.f k3 x347000_3 0 (a0.extract 0 (x4_1 : Int).toNat)).bind fun t353 => (some (x347000_3, 0, (a0.extract 0 (x4_1 : Int).toNat), (t353 == 0)))) else (some (x347000_3, 0, (a0.extract 0 (x4_1 : Int).toNat), false)))) else (if (x5_7.extract 1 x5_7.size).toList = ([] : List UInt8) then ((ancepsref11_Valid.f k3 x347000_3 0 (a0.extract 0 (x4_1 : Int).toNat)).bind fun t354 => (some (x347000_3, 0, (a0.extract 0 (x4_1 : Int).toNat), (t354 == 0)))) else (some (x347000_3, 0, (a0.extract 0 (x4_1 : Int).toNat), false))))) else (none))) = some (r1, r2, r3, r4) := H
                    have A20 := Aside0.mk A200
                    clear A200
                    by_cases c21 : x7_3 < (t347.size : Int)
                    · rw [if_pos c21] at H
                      have c21b0 : decide (x7_3 < (t347.size : Int)) = true := decide_eq_true c21
                      clear c21
                      replace H := Option.bind_eq_some_iff.mp H
                      obtain ⟨t348, A220, H⟩ := H
                      replace H : (if 0 ≤ x7_3 then (if x7_3 < (t348.size : Int) then (if 0 < (x5_7.size : Int) then (if (bt t348 x7_3) = (bt x5_7 0) then (ancepsref11_one.l1 k3 x5_7 (wrap64 (x7_3 + 1)) x7_3 0 (a0.extract 0 (x4_1 : Int).toNat)) else (ancepsref11_one.l1 k3 x5_7 (wrap64 (x7_3 + 1)) x347000_3 0 (a0.extract 0 (x4_1 : Int).toNat))) else (none)) else (none)) else (none)) = some (r1, r2, r3, r4) := H
                      have A22 := Aside0.mk A220
                      clear A220
                      by_cases c23 : 0 ≤ x7_3
                      · rw [if_pos c23] at H
                        have c23b0 : decide (0 ≤ x7_3) = true := decide_eq_true c23
                        clear c23
                        by_cases c24 : x7_3 < (t348.size : Int)
                        · rw [if_pos c24] at H
                          have c24b0 : decide (x7_3 < (t348.size : Int)) = true := decide_eq_true c24
                          clear c24
                          by_cases c26 : 0 < (x5_7.size : Int)
                          · rw [if_pos c26] at H
                            have c26b0 : decide (0 < (x5_7.size : Int)) = true := decide_eq_true c26
                            have c26b1 : decide (0 < x5_7.size) = true := decide_eq_true (by omega)
                            clear c26
                            by_cases c28 : (bt t348 x7_3) = (bt x5_7 0)
                            · rw [if_pos c28] at H
                              have c28b0 : ((bt t348 x7_3) == (bt x5_7 0)) = true := beq_iff_eq.mpr c28
                              have c28b1 : ((bt t348 x7_3) != (bt x5_7 0)) = false := bne_eq_false_iff_eq.mpr c28
                              clear c28
                              have H' := Aside0.mk H
                              clear H
                              try go_wp2_with (first | ((with_reducible refine gate_callee (f := 61) rfl ?_); refine goesL_ (some 36) rfl rfl Tryd.func61 (by kernel_rfl) rfl #[] rfl (by (try simp only [List.map_toArray, List.map_cons, List.map_nil]); first | done | rfl | (simp only [List.length_drop, List.length_take]; rfl)) ?_; (with_reducible refine (ancepsref11_letters.calls  t347 _ A20.out).mono ?_); rintro e w' ⟨rfl, ⟨nd, rfl⟩⟩; refine ⟨_, rfl, ?_⟩; (try (rw [drewN_self wr]; generalize hq_ : World.drewN wr _ = wr; have n0_ : Aside0 (wr.heap[gb345]? = some (.cells #[.int .i64 0, .int .i64 0, .string (⟨#[]⟩ : ByteArray)] 23 (0, 0))) := ⟨by rw [← hq_]; exact (by (with_reducible repeat (first | refine blk_drewN ?_ _ | refine blk_drew ?_ | refine blk_alloc ?_ _)); exact BK345.out)⟩; have n1_ : Aside0 (wr.heap[gb346]? = some (.cells #[.int .i64 x347000_3, .int .i64 0, .string (a0.extract 0 (x4_1 : Int).toNat)] 23 (0, 0))) := ⟨by rw [← hq_]; exact (by (with_reducible repeat (first | refine blk_drewN ?_ _ | refine blk_drew ?_ | refine blk_alloc ?_ _)); exact BK346.out)⟩; have n2_ : Aside0 (Below w.heap.size w wr) := ⟨by rw [← hq_]; exact (by repeat (first | (with_reducible first | exact HB.out | apply below_alloc | apply pw_below_drewN | apply below_drew1 | refine below_set ?_ GE345.out | refine below_set ?_ GE346.out) | exact HB.out))⟩; clear BK345 BK346 HB hq_; have BK345 := n0_; have BK346 := n1_; have HB := n2_; clear n0_ n1_ n2_))))
                              have n0_ := Aside0.mk (blk_drew BK345.out)
                              have n1_ := Aside0.mk (blk_drew BK346.out)
                              have n2_ := Aside0.mk (below_drew1 HB.out)
                              clear BK345
                              clear BK346
                              clear HB
                              have BK345 := n0_
                              have BK346 := n1_
                              have HB := n2_
                              clear n0_ n1_ n2_
                              have p27 : 0 ≤ (0 : Int) := (by omega)
                              have q27 : 0 < x5_7.size := (by have : (0 : Int) < (x5_7.size : Int) := of_decide_eq_true (by first | (with_reducible assumption) | assumption); omega)
                              have hx27 : ∀ h : 0 < x5_7.size, ((x5_7[0]'h).toNat : Int) = bt x5_7 0 := bt_at x5_7 0
                              clear p27
                              have qi27 : (0 < (x5_7.size : Int)) = True := eq_true (of_decide_eq_true (by first | (with_reducible assumption) | assumption))
                              replace q27 := eq_true q27
                              refine start_ (n := 6) (S := fun w' => True) (ds := []) #[false, false, false, false, false, false] (by kernel_rfl) rfl rfl trivial (fun hHeld => ?_)
                              generalize wr.drew = w29 at BK345 BK346 HB hHeld ⊢
                              refine pure_ (i := 1) (N := some 42) (v := ?_) (a' := ?_) #[false, true, false, false, false, false] rfl rfl (by kernel_rfl) (fun _ _ _ h => h) (Or.inl ⟨by rfl, ?_⟩) ?_ ?_
                              rotate_left
                              · intro w'
                                go_simp
                                with_reducible rfl
                              rotate_left
                              · simp only [Act.put, List.setIfInBounds_toArray, List.set_cons_zero, List.set_cons_succ, i64_w, i32_w]
                                rfl
                              refine pure_ (i := 3) (N := some 44) (v := ?_) (a' := ?_) #[false, true, false, true, false, false] rfl rfl (by kernel_rfl) (fun _ _ _ h => h) (Or.inl ⟨by rfl, ?_⟩) ?_ ?_
                              rotate_left
                              · intro w'
                                go_simp
                                with_reducible rfl
                              rotate_left
                              · simp only [Act.put, List.setIfInBounds_toArray, List.set_cons_zero, List.set_cons_succ, i64_w, i32_w]
                                rfl
                              refine take_ (i := 4) (N := some 45) (v := ?_) (a' := ?_) #[false, true, false, true, true, false] rfl rfl (by kernel_rfl) (fun _ _ _ h => h) (Or.inl ⟨by rfl, ?_⟩) hHeld ?_ ?_
                              rotate_left
                              · intro w' _
                                go_simp
                                with_reducible rfl
                              rotate_left
                              · simp only [Act.put, List.setIfInBounds_toArray, List.set_cons_zero, List.set_cons_succ, i64_w, i32_w]
                                rfl
                              refine one_ (i := 0) (N := some 41) #[true, true, false, true, true, false] rfl rfl (by kernel_rfl) (by decide) (fun K hK => ?_)
                              refine goes_ Tryd.func61 (by kernel_rfl) rfl #[] (by rfl) rfl rfl (by (try simp only [List.map_toArray, List.map_cons, List.map_nil]); first | done | rfl | (simp only [List.length_drop, List.length_take]; rfl)) ?_
                              with_reducible refine (ancepsref11_letters.calls  t348 _ A22.out).mono ?_
                              rintro e w' ⟨rfl, ⟨nd, rfl⟩⟩
                              refine ⟨_, rfl, ?_⟩
                              have p25 : 0 ≤ (x7_3 : Int) := of_decide_eq_true (by first | (with_reducible assumption) | assumption)
                              have q25 : x7_3 < (t348.size : Int) := of_decide_eq_true (by first | (with_reducible assumption) | assumption)
                              have hx25 := bt_at t348 x7_3
                              replace p25 := eq_true p25
                              replace q25 := eq_true q25
                              refine hK.out _ _ trivial (fun hHeld => ?_)
                              clear hK K
                              refine norm_ (a' := ?_) ?_ ?_
                              rotate_left
                              · show Act.put _ (some 41) _ = _
                                simp only [Act.put, List.setIfInBounds_toArray, List.set_cons_zero, List.set_cons_succ, i64_w, i32_w]
                                rfl
                              refine take_ (i := 2) (N := some 43) (v := ?_) (a' := ?_) #[true, true, true, true, true, false] rfl rfl (by kernel_rfl) (fun _ _ _ h => h) (Or.inl ⟨by rfl, ?_⟩) hHeld ?_ ?_
                              rotate_left
                              · intro w' _
                                go_simp
                                with_reducible rfl
                              rotate_left
                              · simp only [Act.put, List.setIfInBounds_toArray, List.set_cons_zero, List.set_cons_succ, i64_w, i32_w]
                                rfl
                              refine pure_ (i := 5) (N := some 46) (v := ?_) (a' := ?_) #[true, true, true, true, true, true] rfl rfl (by kernel_rfl) (fun _ _ _ h => h) (Or.inl ⟨by rfl, ?_⟩) ?_ ?_
                              rotate_left
                              · intro w'
                                go_simp
                                with_reducible rfl
                              rotate_left
                              · simp only [Act.put, List.setIfInBounds_toArray, List.set_cons_zero, List.set_cons_succ, i64_w, i32_w]
                                rfl
                              refine done_ (by kernel_rfl) ?_
                              have hnb30 := NB346_345.out
                              have hnc30 := NB345_346.out
                              have hcz31_0 : w29.cell? ⟨gb346, 0, none⟩ = some (.int .i64 x347000_3) := (blk_cell BK346.out 0).trans rfl
                              have hcz31_1 : w29.cell? ⟨gb346, 1, none⟩ = some (.int .i64 0) := (blk_cell BK346.out 1).trans rfl
                              have hcz31_2 : w29.cell? ⟨gb346, 2, none⟩ = some (.string (a0.extract 0 (x4_1 : Int).toNat)) := (blk_cell BK346.out 2).trans rfl
                              have hfz31_0 := blk_frozen BK346.out 0
                              have hfz31_1 := blk_frozen BK346.out 1
                              have hfz31_2 := blk_frozen BK346.out 2
                              try go_wp2
                              go_roundg k3
                              case measure => have := HJ1.out; have := HJ7.out; have := HK3.out; omega
                              case rel => exact ⟨(wrap64 (x7_3 + 1)), (x7_3), (by first | rfl | (simp; done) | (simp [*]; done)), H', ⟨by have := HJ1.out; have := HJ7.out; have := HK3.out; omega⟩, ⟨by (with_reducible repeat (first | refine blk_drewN ?_ _ | refine blk_drew ?_ | refine blk_alloc ?_ _)); refine blk_far ?_ NB345_346.out _; (with_reducible repeat (first | refine blk_drewN ?_ _ | refine blk_drew ?_ | refine blk_alloc ?_ _)); exact BK345.out⟩, ⟨by (with_reducible repeat (first | refine blk_drewN ?_ _ | refine blk_drew ?_ | refine blk_alloc ?_ _)); refine blk_put (cs := #[.int .i64 x347000_3, .int .i64 0, .string (a0.extract 0 (x4_1 : Int).toNat)]) ?_ 0 _ rfl; (with_reducible repeat (first | refine blk_drewN ?_ _ | refine blk_drew ?_ | refine blk_alloc ?_ _)); exact BK346.out⟩, ⟨by repeat (first | (with_reducible first | exact HB.out | apply below_alloc | apply pw_below_drewN | apply below_drew1 | refine below_set ?_ GE345.out | refine below_set ?_ GE346.out) | exact HB.out)⟩⟩
                            · rw [if_neg c28] at H
                              have c28b0 : ((bt t348 x7_3) == (bt x5_7 0)) = false := beq_eq_false_iff_ne.mpr c28
                              have c28b1 : ((bt t348 x7_3) != (bt x5_7 0)) = true := bne_iff_ne.mpr c28
                              have H' := Aside0.mk H
                              clear H
                              try go_wp2_with (first | ((with_reducible refine gate_callee (f := 61) rfl ?_); refine goesL_ (some 36) rfl rfl Tryd.func61 (by kernel_rfl) rfl #[] rfl (by (try simp only [List.map_toArray, List.map_cons, List.map_nil]); first | done | rfl | (simp only [List.length_drop, List.length_take]; rfl)) ?_; (with_reducible refine (ancepsref11_letters.calls  t347 _ A20.out).mono ?_); rintro e w' ⟨rfl, ⟨nd, rfl⟩⟩; refine ⟨_, rfl, ?_⟩))
                              (try (rw [drewN_self wr]; generalize hq_ : World.drewN wr _ = wr; have n0_ : Aside0 (wr.heap[gb345]? = some (.cells #[.int .i64 0, .int .i64 0, .string (⟨#[]⟩ : ByteArray)] 23 (0, 0))) := ⟨by rw [← hq_]; exact (by (with_reducible repeat (first | refine blk_drewN ?_ _ | refine blk_drew ?_ | refine blk_alloc ?_ _)); exact BK345.out)⟩; have n1_ : Aside0 (wr.heap[gb346]? = some (.cells #[.int .i64 x347000_3, .int .i64 0, .string (a0.extract 0 (x4_1 : Int).toNat)] 23 (0, 0))) := ⟨by rw [← hq_]; exact (by (with_reducible repeat (first | refine blk_drewN ?_ _ | refine blk_drew ?_ | refine blk_alloc ?_ _)); exact BK346.out)⟩; have n2_ : Aside0 (Below w.heap.size w wr) := ⟨by rw [← hq_]; exact (by repeat (first | (with_reducible first | exact HB.out | apply below_alloc | apply pw_below_drewN | apply below_drew1 | refine below_set ?_ GE345.out | refine below_set ?_ GE346.out) | exact HB.out))⟩; clear BK345 BK346 HB hq_; have BK345 := n0_; have BK346 := n1_; have HB := n2_; clear n0_ n1_ n2_))
                              have n0_ := Aside0.mk (blk_drew BK345.out)
                              have n1_ := Aside0.mk (blk_drew BK346.out)
                              have n2_ := Aside0.mk (below_drew1 HB.out)
                              clear BK345
                              clear BK346
                              clear HB
                              have BK345 := n0_
                              have BK346 := n1_
                              have HB := n2_
                              clear n0_ n1_ n2_
                              have p27 : 0 ≤ (0 : Int) := (by omega)
                              have q27 : 0 < x5_7.size := (by have : (0 : Int) < (x5_7.size : Int) := of_decide_eq_true (by first | (with_reducible assumption) | assumption); omega)
                              have hx27 : ∀ h : 0 < x5_7.size, ((x5_7[0]'h).toNat : Int) = bt x5_7 0 := bt_at x5_7 0
                              clear p27
                              have qi27 : (0 < (x5_7.size : Int)) = True := eq_true (of_decide_eq_true (by first | (with_reducible assumption) | assumption))
                              replace q27 := eq_true q27
                              refine start_ (n := 6) (S := fun w' => True) (ds := []) #[false, false, false, false, false, false] (by kernel_rfl) rfl rfl trivial (fun hHeld => ?_)
                              generalize wr.drew = w32 at BK345 BK346 HB hHeld ⊢
                              refine pure_ (i := 1) (N := some 42) (v := ?_) (a' := ?_) #[false, true, false, false, false, false] rfl rfl (by kernel_rfl) (fun _ _ _ h => h) (Or.inl ⟨by rfl, ?_⟩) ?_ ?_
                              rotate_left
                              · intro w'
                                go_simp
                                with_reducible rfl
                              rotate_left
                              · simp only [Act.put, List.setIfInBounds_toArray, List.set_cons_zero, List.set_cons_succ, i64_w, i32_w]
                                rfl
                              refine pure_ (i := 3) (N := some 44) (v := ?_) (a' := ?_) #[false, true, false, true, false, false] rfl rfl (by kernel_rfl) (fun _ _ _ h => h) (Or.inl ⟨by rfl, ?_⟩) ?_ ?_
                              rotate_left
                              · intro w'
                                go_simp
                                with_reducible rfl
                              rotate_left
                              · simp only [Act.put, List.setIfInBounds_toArray, List.set_cons_zero, List.set_cons_succ, i64_w, i32_w]
                                rfl
                              refine take_ (i := 4) (N := some 45) (v := ?_) (a' := ?_) #[false, true, false, true, true, false] rfl rfl (by kernel_rfl) (fun _ _ _ h => h) (Or.inl ⟨by rfl, ?_⟩) hHeld ?_ ?_
                              rotate_left
                              · intro w' _
                                go_simp
                                with_reducible rfl
                              rotate_left
                              · simp only [Act.put, List.setIfInBounds_toArray, List.set_cons_zero, List.set_cons_succ, i64_w, i32_w]
                                rfl
                              refine one_ (i := 0) (N := some 41) #[true, true, false, true, true, false] rfl rfl (by kernel_rfl) (by decide) (fun K hK => ?_)
                              refine goes_ Tryd.func61 (by kernel_rfl) rfl #[] (by rfl) rfl rfl (by (try simp only [List.map_toArray, List.map_cons, List.map_nil]); first | done | rfl | (simp only [List.length_drop, List.length_take]; rfl)) ?_
                              with_reducible refine (ancepsref11_letters.calls  t348 _ A22.out).mono ?_
                              rintro e w' ⟨rfl, ⟨nd, rfl⟩⟩
                              refine ⟨_, rfl, ?_⟩
                              have p25 : 0 ≤ (x7_3 : Int) := of_decide_eq_true (by first | (with_reducible assumption) | assumption)
                              have q25 : x7_3 < (t348.size : Int) := of_decide_eq_true (by first | (with_reducible assumption) | assumption)
                              have hx25 := bt_at t348 x7_3
                              replace p25 := eq_true p25
                              replace q25 := eq_true q25
                              refine hK.out _ _ trivial (fun hHeld => ?_)
                              clear hK K
                              refine norm_ (a' := ?_) ?_ ?_
                              rotate_left
                              · show Act.put _ (some 41) _ = _
                                simp only [Act.put, List.setIfInBounds_toArray, List.set_cons_zero, List.set_cons_succ, i64_w, i32_w]
                                rfl
                              refine take_ (i := 2) (N := some 43) (v := ?_) (a' := ?_) #[true, true, true, true, true, false] rfl rfl (by kernel_rfl) (fun _ _ _ h => h) (Or.inl ⟨by rfl, ?_⟩) hHeld ?_ ?_
                              rotate_left
                              · intro w' _
                                go_simp
                                with_reducible rfl
                              rotate_left
                              · simp only [Act.put, List.setIfInBounds_toArray, List.set_cons_zero, List.set_cons_succ, i64_w, i32_w]
                                rfl
                              refine pure_ (i := 5) (N := some 46) (v := ?_) (a' := ?_) #[true, true, true, true, true, true] rfl rfl (by kernel_rfl) (fun _ _ _ h => h) (Or.inl ⟨by rfl, ?_⟩) ?_ ?_
                              rotate_left
                              · intro w'
                                go_simp
                                with_reducible rfl
                              rotate_left
                              · simp only [Act.put, List.setIfInBounds_toArray, List.set_cons_zero, List.set_cons_succ, i64_w, i32_w]
                                rfl
                              refine done_ (by kernel_rfl) ?_
                              try go_wp2
                              go_roundg k3
                              case measure => have := HJ1.out; have := HJ7.out; have := HK3.out; omega
                              case rel => exact ⟨(wrap64 (x7_3 + 1)), (x347000_3), (by first | rfl | (simp; done) | (simp [*]; done)), H', ⟨by have := HJ1.out; have := HJ7.out; have := HK3.out; omega⟩, ⟨by (with_reducible repeat (first | refine blk_drewN ?_ _ | refine blk_drew ?_ | refine blk_alloc ?_ _)); exact BK345.out⟩, ⟨by (with_reducible repeat (first | refine blk_drewN ?_ _ | refine blk_drew ?_ | refine blk_alloc ?_ _)); exact BK346.out⟩, ⟨by repeat (first | (with_reducible first | exact HB.out | apply below_alloc | apply pw_below_drewN | apply below_drew1 | refine below_set ?_ GE345.out | refine below_set ?_ GE346.out) | exact HB.out)⟩⟩
                          · rw [if_neg c26] at H
                            exact absurd H (by simp)
                        · rw [if_neg c24] at H
                          exact absurd H (by simp)
                      · rw [if_neg c23] at H
                        exact absurd H (by simp)
                    · rw [if_neg c21] at H
                      have c21b0 : decide (x7_3 < (t347.size : Int)) = false := decide_eq_false c21
                      clear c21
                      by_cases c33 : 1 ≤ (x5_7.size : Int)
                      · rw [if_pos c33] at H
                        have c33b0 := eq_true c33
                        have c33b1 : decide (1 ≤ (x5_7.size : Int)) = true := decide_eq_true c33
                        clear c33
                        replace H := Option.bind_eq_some_iff.mp H
                        obtain ⟨t349, A340, H⟩ := H
                        replace H : (if t349 = true then (if ((x5_7.extract 1 x5_7.size).size : Int) = 1 then (if 0 < ((x5_7.extract 1 x5_7.size).size : Int) then (if (bt (x5_7.extract 1 x5_7.size) 0) ≥ 49 then (if (bt (x5_7.extract 1 x5_7.size) 0) ≤ 51 then (if ([] : List UInt8) = ([] : List UInt8) then ((ancepsref11_Valid.f k3 x347000_3 (wrap64 ((wrap64 (bt (x5_7.extract 1 x5_7.size) 0)) - 48)) (a0.extract 0 (x4_1 : Int).toNat)).bind fun t350 => (some (x347000_3, wrap64 ((wrap64 (bt (x5_7.extract 1 x5_7.size) 0)) - 48), (a0.extract 0 (x4_1 : Int).toNat), (t350 == 0)))) else (some (x347000_3, wrap64 ((wrap64 (bt (x5_7.extract 1 x5_7.size) 0)) - 48), (a0.extract 0 (x4_1 : Int).toNat), false))) else (if (x5_7.extract 1 x5_7.size).toList = ([] : List UInt8) then ((ancepsref11_Valid.f k3 x347000_3 0 (a0.extract 0 (x4_1 : Int).toNat)).bind fun t351 => (some (x347000_3, 0, (a0.extract 0 (x4_1 : Int).toNat), (t351 == 0)))) else (some (x347000_3, 0, (a0.extract 0 (x4_1 : Int).toNat), false)))) else (if (x5_7.extract 1 x5_7.size).toList = ([] : List UInt8) then ((ancepsref11_Valid.f k3 x347000_3 0 (a0.extract 0 (x4_1 : Int).toNat)).bind fun t352 => (some (x347000_3, 0, (a0.extract 0 (x4_1 : Int).toNat), (t352 == 0)))) else (some (x347000_3, 0, (a0.extract 0 (x4_1 : Int).toNat), false)))) else (none)) else (if (x5_7.extract 1 x5_7.size).toList = ([] : List UInt8) then ((ancepsref11_Valid.f k3 x347000_3 0 (a0.extract 0 (x4_1 : Int).toNat)).bind fun t353 => (some (x347000_3, 0, (a0.extract 0 (x4_1 : Int).toNat), (t353 == 0)))) else (some (x347000_3, 0, (a0.extract 0 (x4_1 : Int).toNat), false)))) else (if (x5_7.extract 1 x5_7.size).toList = ([] : List UInt8) then ((ancepsref11_Valid.f k3 x347000_3 0 (a0.extract 0 (x4_1 : Int).toNat)).bind fun t354 => (some (x347000_3, 0, (a0.extract 0 (x4_1 : Int).toNat), (t354 == 0)))) else (some (x347000_3, 0, (a0.extract 0 (x4_1 : Int).toNat), false)))) = some (r1, r2, r3, r4) := H
                        have A34 := Aside0.mk A340
                        clear A340
                        by_cases c35 : t349 = true
                        · subst c35
                          have H1 : (if ((x5_7.extract 1 x5_7.size).size : Int) = 1 then (if 0 < ((x5_7.extract 1 x5_7.size).size : Int) then (if (bt (x5_7.extract 1 x5_7.size) 0) ≥ 49 then (if (bt (x5_7.extract 1 x5_7.size) 0) ≤ 51 then (if ([] : List UInt8) = ([] : List UInt8) then ((ancepsref11_Valid.f k3 x347000_3 (wrap64 ((wrap64 (bt (x5_7.extract 1 x5_7.size) 0)) - 48)) (a0.extract 0 (x4_1 : Int).toNat)).bind fun t350 => (some (x347000_3, wrap64 ((wrap64 (bt (x5_7.extract 1 x5_7.size) 0)) - 48), (a0.extract 0 (x4_1 : Int).toNat), (t350 == 0)))) else (some (x347000_3, wrap64 ((wrap64 (bt (x5_7.extract 1 x5_7.size) 0)) - 48), (a0.extract 0 (x4_1 : Int).toNat), false))) else (if (x5_7.extract 1 x5_7.size).toList = ([] : List UInt8) then ((ancepsref11_Valid.f k3 x347000_3 0 (a0.extract 0 (x4_1 : Int).toNat)).bind fun t351 => (some (x347000_3, 0, (a0.extract 0 (x4_1 : Int).toNat), (t351 == 0)))) else (some (x347000_3, 0, (a0.extract 0 (x4_1 : Int).toNat), false)))) else (if (x5_7.extract 1 x5_7.size).toList = ([] : List UInt8) then ((ancepsref11_Valid.f k3 x347000_3 0 (a0.extract 0 (x4_1 : Int).toNat)).bind fun t352 => (some (x347000_3, 0, (a0.extract 0 (x4_1 : Int).toNat), (t352 == 0)))) else (some (x347000_3, 0, (a0.extract 0 (x4_1 : Int).toNat), false)))) else (none)) else (if (x5_7.extract 1 x5_7.size).toList = ([] : List UInt8) then ((ancepsref11_Valid.f k3 x347000_3 0 (a0.extract 0 (x4_1 : Int).toNat)).bind fun t353 => (some (x347000_3, 0, (a0.extract 0 (x4_1 : Int).toNat), (t353 == 0)))) else (some (x347000_3, 0, (a0.extract 0 (x4_1 : Int).toNat), false)))) = some (r1, r2, r3, r4) := by rw [if_pos rfl] at H; exact H
                          clear H
                          have H := H1
                          clear H1
                          obtain ⟨ji36, hji36⟩ : ∃ j_ : ByteArray, (x5_7.extract 1 x5_7.size) = j_ := ⟨_, rfl⟩
                          replace H : (if ((ji36).size : Int) = 1 then (if 0 < ((ji36).size : Int) then (if (bt (ji36) 0) ≥ 49 then (if (bt (ji36) 0) ≤ 51 then (if ([] : List UInt8) = ([] : List UInt8) then ((ancepsref11_Valid.f k3 x347000_3 (wrap64 ((wrap64 (bt (ji36) 0)) - 48)) (a0.extract 0 (x4_1 : Int).toNat)).bind fun t350 => (some (x347000_3, wrap64 ((wrap64 (bt (ji36) 0)) - 48), (a0.extract 0 (x4_1 : Int).toNat), (t350 == 0)))) else (some (x347000_3, wrap64 ((wrap64 (bt (ji36) 0)) - 48), (a0.extract 0 (x4_1 : Int).toNat), false))) else (if (ji36).toList = ([] : List UInt8) then ((ancepsref11_Valid.f k3 x347000_3 0 (a0.extract 0 (x4_1 : Int).toNat)).bind fun t351 => (some (x347000_3, 0, (a0.extract 0 (x4_1 : Int).toNat), (t351 == 0)))) else (some (x347000_3, 0, (a0.extract 0 (x4_1 : Int).toNat), false)))) else (if (ji36).toList = ([] : List UInt8) then ((ancepsref11_Valid.f k3 x347000_3 0 (a0.extract 0 (x4_1 : Int).toNat)).bind fun t352 => (some (x347000_3, 0, (a0.extract 0 (x4_1 : Int).toNat), (t352 == 0)))) else (some (x347000_3, 0, (a0.extract 0 (x4_1 : Int).toNat), false)))) else (none)) else (if (ji36).toList = ([] : List UInt8) then ((ancepsref11_Valid.f k3 x347000_3 0 (a0.extract 0 (x4_1 : Int).toNat)).bind fun t353 => (some (x347000_3, 0, (a0.extract 0 (x4_1 : Int).toNat), (t353 == 0)))) else (some (x347000_3, 0, (a0.extract 0 (x4_1 : Int).toNat), false)))) = some (r1, r2, r3, r4) := by first | (rw [hji36] at H; exact H) | (simp only [hji36] at H ⊢; exact H)
                          (try rw [hji36] at A20)
                          (try rw [hji36] at A34)
                          by_cases c37 : ((ji36).size : Int) = 1
                          · rw [if_pos c37] at H
                            have c37b0 : (((ji36).size : Int) == 1) = true := beq_iff_eq.mpr c37
                            have c37b1 : (((ji36).size : Int) != 1) = false := bne_eq_false_iff_eq.mpr c37
                            clear c37
                            by_cases c38 : 0 < ((ji36).size : Int)
                            · rw [if_pos c38] at H
                              have c38b0 : decide (0 < ((ji36).size : Int)) = true := decide_eq_true c38
                              have c38b1 : decide (0 < (ji36).size) = true := decide_eq_true (by omega)
                              clear c38
                              by_cases c40 : (bt (ji36) 0) ≥ 49
                              · rw [if_pos c40] at H
                                have c40b0 : decide (49 ≤ (bt (ji36) 0)) = true := decide_eq_true c40
                                clear c40
                                by_cases c42 : (bt (ji36) 0) ≤ 51
                                · rw [if_pos c42] at H
                                  have c42b0 : decide ((bt (ji36) 0) ≤ 51) = true := decide_eq_true c42
                                  clear c42
                                  have H1 : ((ancepsref11_Valid.f k3 x347000_3 (wrap64 ((wrap64 (bt (ji36) 0)) - 48)) (a0.extract 0 (x4_1 : Int).toNat)).bind fun t350 => (some (x347000_3, wrap64 ((wrap64 (bt (ji36) 0)) - 48), (a0.extract 0 (x4_1 : Int).toNat), (t350 == 0)))) = some (r1, r2, r3, r4) := by rw [if_pos rfl] at H; exact H
                                  clear H
                                  have H := H1
                                  clear H1
                                  have c44b0 : (([] : List UInt8) == ([] : List UInt8)) = true := beq_iff_eq.mpr rfl
                                  have c44b1 : (([] : List UInt8) != ([] : List UInt8)) = false := bne_eq_false_iff_eq.mpr rfl
                                  replace H := Option.bind_eq_some_iff.mp H
                                  obtain ⟨t350, A450, H⟩ := H
                                  replace H : (some (x347000_3, wrap64 ((wrap64 (bt (ji36) 0)) - 48), (a0.extract 0 (x4_1 : Int).toNat), (t350 == 0))) = some (r1, r2, r3, r4) := H
                                  have A45 := Aside0.mk A450
                                  clear A450
                                  simp only [Option.some.injEq, Prod.mk.injEq] at H
                                  obtain ⟨rfl, rfl, rfl, rfl⟩ := H
                                  try go_wp2_with (first | ((with_reducible refine gate_callee (f := 61) rfl ?_); refine goesL_ (some 36) rfl rfl Tryd.func61 (by kernel_rfl) rfl #[] rfl (by (try simp only [List.map_toArray, List.map_cons, List.map_nil]); first | done | rfl | (simp only [List.length_drop, List.length_take]; rfl)) ?_; (with_reducible refine (ancepsref11_letters.calls  t347 _ A20.out).mono ?_); rintro e w' ⟨rfl, ⟨nd, rfl⟩⟩; refine ⟨_, rfl, ?_⟩; (try (rw [drewN_self wr]; generalize hq_ : World.drewN wr _ = wr; have n0_ : Aside0 (wr.heap[gb345]? = some (.cells #[.int .i64 0, .int .i64 0, .string (⟨#[]⟩ : ByteArray)] 23 (0, 0))) := ⟨by rw [← hq_]; exact (by (with_reducible repeat (first | refine blk_drewN ?_ _ | refine blk_drew ?_ | refine blk_alloc ?_ _)); exact BK345.out)⟩; have n1_ : Aside0 (wr.heap[gb346]? = some (.cells #[.int .i64 x347000_3, .int .i64 0, .string (a0.extract 0 (x4_1 : Int).toNat)] 23 (0, 0))) := ⟨by rw [← hq_]; exact (by (with_reducible repeat (first | refine blk_drewN ?_ _ | refine blk_drew ?_ | refine blk_alloc ?_ _)); exact BK346.out)⟩; have n2_ : Aside0 (Below w.heap.size w wr) := ⟨by rw [← hq_]; exact (by repeat (first | (with_reducible first | exact HB.out | apply below_alloc | apply pw_below_drewN | apply below_drew1 | refine below_set ?_ GE345.out | refine below_set ?_ GE346.out) | exact HB.out))⟩; clear BK345 BK346 HB hq_; have BK345 := n0_; have BK346 := n1_; have HB := n2_; clear n0_ n1_ n2_)); have hnb46 := NB346_345.out; have hnc46 := NB345_346.out; have hcz47_0 : wr.cell? ⟨gb346, 0, none⟩ = some (.int .i64 x347000_3) := (blk_cell BK346.out 0).trans rfl; have hcz47_1 : wr.cell? ⟨gb346, 1, none⟩ = some (.int .i64 0) := (blk_cell BK346.out 1).trans rfl; have hcz47_2 : wr.cell? ⟨gb346, 2, none⟩ = some (.string (a0.extract 0 (x4_1 : Int).toNat)) := (blk_cell BK346.out 2).trans rfl; have hfz47_0 := blk_frozen BK346.out 0; have hfz47_1 := blk_frozen BK346.out 1; have hfz47_2 := blk_frozen BK346.out 2) | ((with_reducible refine gate_callee (f := 16) rfl ?_); refine goesL_ (some 52) rfl rfl Tryd.func16 (by kernel_rfl) rfl #[.agg #[.int .i64 x347000_3, .int .i64 0, .string (a0.extract 0 (x4_1 : Int).toNat)]] rfl (by (try simp only [List.map_toArray, List.map_cons, List.map_nil]); first | done | rfl | (simp only [List.length_drop, List.length_take]; rfl)) ?_; (with_reducible refine (ancepsref11_Nucleus.calls x347000_3 0 (a0.extract 0 (x4_1 : Int).toNat) true _ A34.out).mono ?_); rintro e w48 ⟨rfl, hb⟩; refine ⟨_, rfl, ?_⟩; have n0_ := Aside0.mk (blk_below (g := gb345) (o := .cells #[.int .i64 0, .int .i64 0, .string (⟨#[]⟩ : ByteArray)] 23 (0, 0)) (by (with_reducible repeat (first | refine blk_drewN ?_ _ | refine blk_drew ?_ | refine blk_alloc ?_ _)); exact BK345.out) hb); have n1_ := Aside0.mk (blk_below (g := gb346) (o := .cells #[.int .i64 x347000_3, .int .i64 0, .string (a0.extract 0 (x4_1 : Int).toNat)] 23 (0, 0)) (by (with_reducible repeat (first | refine blk_drewN ?_ _ | refine blk_drew ?_ | refine blk_alloc ?_ _)); exact BK346.out) hb); have n2_ := Aside0.mk (below_step (by repeat (first | (with_reducible first | exact HB.out | apply below_alloc | apply pw_below_drewN | apply below_drew1 | refine below_set ?_ GE345.out | refine below_set ?_ GE346.out) | exact HB.out)) hb); clear BK345; clear BK346; clear HB; have BK345 := n0_; have BK346 := n1_; have HB := n2_; clear n0_ n1_ n2_; (try clear hb); (try clear hb2); (try clear hk); (try clear hi); have p39 : 0 ≤ (0 : Int) := (by omega); have q39 : 0 < ji36.size := (by have : (0 : Int) < (ji36.size : Int) := of_decide_eq_true (by first | (with_reducible assumption) | assumption); omega); have hx39 : ∀ h : 0 < ji36.size, ((ji36[0]'h).toNat : Int) = bt ji36 0 := bt_at ji36 0; clear p39; have qi39 : (0 < (ji36.size : Int)) = True := eq_true (of_decide_eq_true (by first | (with_reducible assumption) | assumption)); replace q39 := eq_true q39; have p41 : 0 ≤ (0 : Int) := (by omega); have q41 : 0 < ji36.size := (by have : (0 : Int) < (ji36.size : Int) := of_decide_eq_true (by first | (with_reducible assumption) | assumption); omega); have hx41 : ∀ h : 0 < ji36.size, ((ji36[0]'h).toNat : Int) = bt ji36 0 := bt_at ji36 0; clear p41; have qi41 : (0 < (ji36.size : Int)) = True := eq_true (of_decide_eq_true (by first | (with_reducible assumption) | assumption)); replace q41 := eq_true q41; have p43 : 0 ≤ (0 : Int) := (by omega); have q43 : 0 < ji36.size := (by have : (0 : Int) < (ji36.size : Int) := of_decide_eq_true (by first | (with_reducible assumption) | assumption); omega); have hx43 : ∀ h : 0 < ji36.size, ((ji36[0]'h).toNat : Int) = bt ji36 0 := bt_at ji36 0; clear p43; have qi43 : (0 < (ji36.size : Int)) = True := eq_true (of_decide_eq_true (by first | (with_reducible assumption) | assumption)); replace q43 := eq_true q43; have hcz49_0 : w48.cell? ⟨gb346, 0, none⟩ = some (.int .i64 x347000_3) := (blk_cell BK346.out 0).trans rfl; have hcz49_1 : w48.cell? ⟨gb346, 1, none⟩ = some (.int .i64 0) := (blk_cell BK346.out 1).trans rfl; have hcz49_2 : w48.cell? ⟨gb346, 2, none⟩ = some (.string (a0.extract 0 (x4_1 : Int).toNat)) := (blk_cell BK346.out 2).trans rfl; have hfz49_0 := blk_frozen BK346.out 0; have hfz49_1 := blk_frozen BK346.out 1; have hfz49_2 := blk_frozen BK346.out 2))
                                  have n0_ : Aside0 ((w48.setCell ⟨gb346, 1, none⟩ (.int .i64 (wrap64 ((wrap64 (bt (ji36) 0)) - 48)))).heap[gb345]? = some (.cells #[.int .i64 0, .int .i64 0, .string (⟨#[]⟩ : ByteArray)] 23 (0, 0))) := ⟨by (with_reducible repeat (first | refine blk_drewN ?_ _ | refine blk_drew ?_ | refine blk_alloc ?_ _)); refine blk_far ?_ NB345_346.out _; (with_reducible repeat (first | refine blk_drewN ?_ _ | refine blk_drew ?_ | refine blk_alloc ?_ _)); exact BK345.out⟩
                                  have n1_ : Aside0 ((w48.setCell ⟨gb346, 1, none⟩ (.int .i64 (wrap64 ((wrap64 (bt (ji36) 0)) - 48)))).heap[gb346]? = some (.cells #[.int .i64 x347000_3, .int .i64 (wrap64 ((wrap64 (bt (ji36) 0)) - 48)), .string (a0.extract 0 (x4_1 : Int).toNat)] 23 (0, 0))) := ⟨by (with_reducible repeat (first | refine blk_drewN ?_ _ | refine blk_drew ?_ | refine blk_alloc ?_ _)); refine blk_put (cs := #[.int .i64 x347000_3, .int .i64 0, .string (a0.extract 0 (x4_1 : Int).toNat)]) ?_ 1 _ rfl; (with_reducible repeat (first | refine blk_drewN ?_ _ | refine blk_drew ?_ | refine blk_alloc ?_ _)); exact BK346.out⟩
                                  have n2_ : Aside0 (Below w.heap.size w (w48.setCell ⟨gb346, 1, none⟩ (.int .i64 (wrap64 ((wrap64 (bt (ji36) 0)) - 48))))) := ⟨by repeat (first | (with_reducible first | exact HB.out | apply below_alloc | apply pw_below_drewN | apply below_drew1 | refine below_set ?_ GE345.out | refine below_set ?_ GE346.out) | exact HB.out)⟩
                                  (try clear BK345)
                                  (try clear BK346)
                                  (try clear HB)
                                  generalize (w48.setCell ⟨gb346, 1, none⟩ (.int .i64 (wrap64 ((wrap64 (bt (ji36) 0)) - 48)))) = w50 at n0_ n1_ n2_ ⊢
                                  have BK345 := n0_
                                  have BK346 := n1_
                                  have HB := n2_
                                  clear n0_ n1_ n2_
                                  have n0_ := Aside0.mk (blk_drew BK345.out)
                                  have n1_ := Aside0.mk (blk_drew BK346.out)
                                  have n2_ := Aside0.mk (below_drew1 HB.out)
                                  clear BK345
                                  clear BK346
                                  clear HB
                                  have BK345 := n0_
                                  have BK346 := n1_
                                  have HB := n2_
                                  clear n0_ n1_ n2_
                                  refine start_ (n := 10) (S := fun w' => w'.cell? ⟨gb346, 0, none⟩ = some (.int .i64 x347000_3) ∧ w'.cell? ⟨gb346, 1, none⟩ = some (.int .i64 (wrap64 ((wrap64 (bt (ji36) 0)) - 48))) ∧ w'.cell? ⟨gb346, 2, none⟩ = some (.string (a0.extract 0 (x4_1 : Int).toNat))) (ds := []) #[false, false, false, false, false, false, false, false, false, false] (by kernel_rfl) rfl rfl ⟨(blk_cell BK346.out 0).trans rfl, (blk_cell BK346.out 1).trans rfl, (blk_cell BK346.out 2).trans rfl⟩ (fun hHeld => ?_); refine with_tabW ancepsref11_one.tab19 ancepsref11_one.bits19 (fun HT_ HW_ => ?_)
                                  generalize w50.drew = w51 at BK345 BK346 HB hHeld ⊢
                                  refine pure_ (i := 1) (N := some 74) (v := ?_) (a' := ?_) #[false, true, false, false, false, false, false, false, false, false] rfl rfl (any_of HT_.out (by kernel_rfl)) (fun _ _ _ h => h) (Or.inl ⟨by rfl, ?_⟩) ?_ ?_
                                  rotate_left
                                  · intro w'
                                    go_simp
                                    with_reducible rfl
                                  rotate_left
                                  · simp only [Act.put, List.setIfInBounds_toArray, List.set_cons_zero, List.set_cons_succ, i64_w, i32_w]
                                    rfl
                                  refine pure_ (i := 2) (N := some 75) (v := ?_) (a' := ?_) #[false, true, true, false, false, false, false, false, false, false] rfl rfl (any_of HT_.out (by kernel_rfl)) (fun _ _ _ h => h) (Or.inl ⟨by rfl, ?_⟩) ?_ ?_
                                  rotate_left
                                  · intro w'
                                    go_simp
                                    with_reducible rfl
                                  rotate_left
                                  · simp only [Act.put, List.setIfInBounds_toArray, List.set_cons_zero, List.set_cons_succ, i64_w, i32_w]
                                    rfl
                                  refine pure_ (i := 3) (N := some 76) (v := ?_) (a' := ?_) #[false, true, true, true, false, false, false, false, false, false] rfl rfl (any_of HT_.out (by kernel_rfl)) (fun _ _ _ h => h) (Or.inl ⟨by rfl, ?_⟩) ?_ ?_
                                  rotate_left
                                  · intro w'
                                    go_simp
                                    with_reducible rfl
                                  rotate_left
                                  · simp only [Act.put, List.setIfInBounds_toArray, List.set_cons_zero, List.set_cons_succ, i64_w, i32_w]
                                    rfl
                                  refine take_ (i := 0) (N := some 73) (v := ?_) (a' := ?_) #[true, true, true, true, false, false, false, false, false, false] rfl rfl (take_ofW HT_.out HW_.out (by kernel_rfl)) (fun _ _ _ h => h) (Or.inl ⟨by rfl, ?_⟩) hHeld ?_ ?_
                                  rotate_left
                                  · rintro w' ⟨s0, s1, s2⟩
                                    go_simp
                                    with_reducible rfl
                                  rotate_left
                                  · simp only [Act.put, List.setIfInBounds_toArray, List.set_cons_zero, List.set_cons_succ, i64_w, i32_w]
                                    rfl
                                  refine take_ (i := 4) (N := some 77) (v := ?_) (a' := ?_) #[true, true, true, true, true, false, false, false, false, false] rfl rfl (take_ofW HT_.out HW_.out (by kernel_rfl)) (fun _ _ _ h => h) (Or.inl ⟨by rfl, ?_⟩) hHeld ?_ ?_
                                  rotate_left
                                  · rintro w' ⟨s0, s1, s2⟩
                                    go_simp
                                    with_reducible rfl
                                  rotate_left
                                  · simp only [Act.put, List.setIfInBounds_toArray, List.set_cons_zero, List.set_cons_succ, i64_w, i32_w]
                                    rfl
                                  refine one_ (i := 5) (N := some 78) #[true, true, true, true, true, true, false, false, false, false] rfl rfl (one_of HT_.out (by kernel_rfl)) (by decide) (fun K hK => ?_)
                                  refine goes_ Tryd.func14 (by kernel_rfl) rfl #[.agg #[.int .i64 x347000_3, .int .i64 (wrap64 ((wrap64 (bt (ji36) 0)) - 48)), .string (a0.extract 0 (x4_1 : Int).toNat)]] (by rfl) rfl rfl (by (try simp only [List.map_toArray, List.map_cons, List.map_nil]); first | done | (simp only [hji36]; rfl) | rfl | (simp only [List.length_drop, List.length_take]; rfl)) ?_
                                  with_reducible refine (ancepsref11_Valid.calls k3 x347000_3 (wrap64 ((wrap64 (bt (ji36) 0)) - 48)) (a0.extract 0 (x4_1 : Int).toNat) t350 _ A45.out).mono ?_
                                  rintro e w52 ⟨rfl, hb⟩
                                  refine ⟨_, rfl, ?_⟩
                                  have n0_ := Aside0.mk (blk_below (g := gb345) (o := .cells #[.int .i64 0, .int .i64 0, .string (⟨#[]⟩ : ByteArray)] 23 (0, 0)) (by (with_reducible repeat (first | refine blk_drewN ?_ _ | refine blk_drew ?_ | refine blk_alloc ?_ _)); exact BK345.out) hb)
                                  have n1_ := Aside0.mk (blk_below (g := gb346) (o := .cells #[.int .i64 x347000_3, .int .i64 (wrap64 ((wrap64 (bt (ji36) 0)) - 48)), .string (a0.extract 0 (x4_1 : Int).toNat)] 23 (0, 0)) (by (with_reducible repeat (first | refine blk_drewN ?_ _ | refine blk_drew ?_ | refine blk_alloc ?_ _)); exact BK346.out) hb)
                                  have n2_ := Aside0.mk (below_step (by repeat (first | (with_reducible first | exact HB.out | apply below_alloc | apply pw_below_drewN | apply below_drew1 | refine below_set ?_ GE345.out | refine below_set ?_ GE346.out) | exact HB.out)) hb)
                                  clear BK345
                                  clear BK346
                                  clear HB
                                  have BK345 := n0_
                                  have BK346 := n1_
                                  have HB := n2_
                                  clear n0_ n1_ n2_
                                  (try clear hb)
                                  (try clear hb2)
                                  (try clear hk)
                                  (try clear hi)
                                  refine hK.out _ _ ⟨(blk_cell BK346.out 0).trans rfl, (blk_cell BK346.out 1).trans rfl, (blk_cell BK346.out 2).trans rfl⟩ (fun hHeld => ?_)
                                  clear hK K
                                  refine norm_ (a' := ?_) ?_ ?_
                                  rotate_left
                                  · show Act.put _ (some 78) _ = _
                                    simp only [Act.put, List.setIfInBounds_toArray, List.set_cons_zero, List.set_cons_succ, i64_w, i32_w]
                                    rfl
                                  refine pure_ (i := 6) (N := some 79) (v := ?_) (a' := ?_) #[true, true, true, true, true, true, true, false, false, false] rfl rfl (any_of HT_.out (by kernel_rfl)) (fun _ _ _ h => h) (Or.inl ⟨by rfl, ?_⟩) ?_ ?_
                                  rotate_left
                                  · intro w'
                                    go_simp
                                    with_reducible rfl
                                  rotate_left
                                  · simp only [Act.put, List.setIfInBounds_toArray, List.set_cons_zero, List.set_cons_succ, i64_w, i32_w]
                                    rfl
                                  refine pure_ (i := 7) (N := some 80) (v := ?_) (a' := ?_) #[true, true, true, true, true, true, true, true, false, false] rfl rfl (any_of HT_.out (by kernel_rfl)) (fun _ _ _ h => h) (Or.inl ⟨by rfl, ?_⟩) ?_ ?_
                                  rotate_left
                                  · intro w'
                                    go_simp
                                    with_reducible rfl
                                  rotate_left
                                  · simp only [Act.put, List.setIfInBounds_toArray, List.set_cons_zero, List.set_cons_succ, i64_w, i32_w]
                                    rfl
                                  refine one_ (i := 8) (N := none) #[true, true, true, true, true, true, true, true, true, false] rfl rfl (one_of HT_.out (by kernel_rfl)) (by decide) (fun K hK => ?_)
                                  have hs53 : w52.cell? ⟨gb345, 0, none⟩ = some (.int .i64 0) := (blk_cell BK345.out 0).trans rfl
                                  have hfs53 := blk_frozen BK345.out 0
                                  have hns53_1 := NB346_345.out
                                  have hms53_1 := NB345_346.out
                                  have hs54 : w52.cell? ⟨gb345, 1, none⟩ = some (.int .i64 0) := (blk_cell BK345.out 1).trans rfl
                                  have hfs54 := blk_frozen BK345.out 1
                                  have hns54_1 := NB346_345.out
                                  have hms54_1 := NB345_346.out
                                  have hs55 : w52.cell? ⟨gb345, 2, none⟩ = some (.string (⟨#[]⟩ : ByteArray)) := (blk_cell BK345.out 2).trans rfl
                                  have hfs55 := blk_frozen BK345.out 2
                                  have hns55_1 := NB346_345.out
                                  have hms55_1 := NB345_346.out
                                  refine skip_ (w1 := ?_) (by rfl) rfl ?_ ?_
                                  rotate_left
                                  · go_simp
                                    rfl
                                  refine hK.out _ _ ⟨((cell_far (p := ⟨gb345, _, none⟩) NB346_345.out _).trans (((cell_far (p := ⟨gb345, _, none⟩) NB346_345.out _).trans (((cell_far (p := ⟨gb345, _, none⟩) NB346_345.out _).trans (hHeld.1)))))), ((cell_far (p := ⟨gb345, _, none⟩) NB346_345.out _).trans (((cell_far (p := ⟨gb345, _, none⟩) NB346_345.out _).trans (((cell_far (p := ⟨gb345, _, none⟩) NB346_345.out _).trans (hHeld.2.1)))))), ((cell_far (p := ⟨gb345, _, none⟩) NB346_345.out _).trans (((cell_far (p := ⟨gb345, _, none⟩) NB346_345.out _).trans (((cell_far (p := ⟨gb345, _, none⟩) NB346_345.out _).trans (hHeld.2.2))))))⟩ (fun hHeld => ?_)
                                  clear hK K
                                  refine pure_ (i := 9) (N := some 3) (v := ?_) (a' := ?_) #[true, true, true, true, true, true, true, true, true, true] rfl rfl (any_of HT_.out (by kernel_rfl)) (fun _ _ _ h => h) (Or.inl ⟨by rfl, ?_⟩) ?_ ?_
                                  rotate_left
                                  · intro w'
                                    go_simp
                                    with_reducible rfl
                                  rotate_left
                                  · simp only [Act.put, List.setIfInBounds_toArray, List.set_cons_zero, List.set_cons_succ, i64_w, i32_w]
                                    rfl
                                  refine done_ (done_of HT_.out (by kernel_rfl)) ?_
                                  try go_wp2
                                  refine bodyPost_ret (results_ct rfl _ _ gb345 23 #[.int .i64 x347000_3, .int .i64 (wrap64 ((wrap64 (bt (ji36) 0)) - 48)), .string (a0.extract 0 (x4_1 : Int).toNat)] (0, 0) _ rfl (by (with_reducible repeat (first | refine blk_drewN ?_ _ | refine blk_drew ?_ | refine blk_alloc ?_ _)); refine blk_put (cs := #[.int .i64 x347000_3, .int .i64 (wrap64 ((wrap64 (bt (ji36) 0)) - 48)), .string (⟨#[]⟩ : ByteArray)]) ?_ 2 _ rfl; (with_reducible repeat (first | refine blk_drewN ?_ _ | refine blk_drew ?_ | refine blk_alloc ?_ _)); refine blk_put (cs := #[.int .i64 x347000_3, .int .i64 0, .string (⟨#[]⟩ : ByteArray)]) ?_ 1 _ rfl; (with_reducible repeat (first | refine blk_drewN ?_ _ | refine blk_drew ?_ | refine blk_alloc ?_ _)); refine blk_put (cs := #[.int .i64 0, .int .i64 0, .string (⟨#[]⟩ : ByteArray)]) ?_ 0 _ rfl; (with_reducible repeat (first | refine blk_drewN ?_ _ | refine blk_drew ?_ | refine blk_alloc ?_ _)); exact BK345.out) Tryd.underlying23 rfl (by kernel_rfl)) rfl ?_
                                  exact ⟨by first | rfl | (simp [errW_none, errW_some] <;> rfl) | (simp only [← hji36]; first | rfl | (simp [errW_none, errW_some] <;> rfl)) | (simp [*, errW_none, errW_some] <;> rfl), by repeat (first | (with_reducible first | exact HB.out | apply below_alloc | apply pw_below_drewN | apply below_drew1 | refine below_set ?_ GE345.out | refine below_set ?_ GE346.out) | exact HB.out)⟩
                                · rw [if_neg c42] at H
                                  have c42b0 : decide ((bt (ji36) 0) ≤ 51) = false := decide_eq_false c42
                                  clear c42
                                  by_cases c56 : (ji36).toList = ([] : List UInt8)
                                  · rw [if_pos c56] at H
                                    have c56b0 : ((ji36).toList == ([] : List UInt8)) = true := beq_iff_eq.mpr c56
                                    have c56b1 : ((ji36).toList != ([] : List UInt8)) = false := bne_eq_false_iff_eq.mpr c56
                                    clear c56
                                    replace H := Option.bind_eq_some_iff.mp H
                                    obtain ⟨t351, A570, H⟩ := H
                                    replace H : (some (x347000_3, 0, (a0.extract 0 (x4_1 : Int).toNat), (t351 == 0))) = some (r1, r2, r3, r4) := H
                                    have A57 := Aside0.mk A570
                                    clear A570
                                    simp only [Option.some.injEq, Prod.mk.injEq] at H
                                    obtain ⟨rfl, rfl, rfl, rfl⟩ := H
                                    try go_wp2_with (first | ((with_reducible refine gate_callee (f := 61) rfl ?_); refine goesL_ (some 36) rfl rfl Tryd.func61 (by kernel_rfl) rfl #[] rfl (by (try simp only [List.map_toArray, List.map_cons, List.map_nil]); first | done | rfl | (simp only [List.length_drop, List.length_take]; rfl)) ?_; (with_reducible refine (ancepsref11_letters.calls  t347 _ A20.out).mono ?_); rintro e w' ⟨rfl, ⟨nd, rfl⟩⟩; refine ⟨_, rfl, ?_⟩; (try (rw [drewN_self wr]; generalize hq_ : World.drewN wr _ = wr; have n0_ : Aside0 (wr.heap[gb345]? = some (.cells #[.int .i64 0, .int .i64 0, .string (⟨#[]⟩ : ByteArray)] 23 (0, 0))) := ⟨by rw [← hq_]; exact (by (with_reducible repeat (first | refine blk_drewN ?_ _ | refine blk_drew ?_ | refine blk_alloc ?_ _)); exact BK345.out)⟩; have n1_ : Aside0 (wr.heap[gb346]? = some (.cells #[.int .i64 x347000_3, .int .i64 0, .string (a0.extract 0 (x4_1 : Int).toNat)] 23 (0, 0))) := ⟨by rw [← hq_]; exact (by (with_reducible repeat (first | refine blk_drewN ?_ _ | refine blk_drew ?_ | refine blk_alloc ?_ _)); exact BK346.out)⟩; have n2_ : Aside0 (Below w.heap.size w wr) := ⟨by rw [← hq_]; exact (by repeat (first | (with_reducible first | exact HB.out | apply below_alloc | apply pw_below_drewN | apply below_drew1 | refine below_set ?_ GE345.out | refine below_set ?_ GE346.out) | exact HB.out))⟩; clear BK345 BK346 HB hq_; have BK345 := n0_; have BK346 := n1_; have HB := n2_; clear n0_ n1_ n2_)); have hnb58 := NB346_345.out; have hnc58 := NB345_346.out; have hcz59_0 : wr.cell? ⟨gb346, 0, none⟩ = some (.int .i64 x347000_3) := (blk_cell BK346.out 0).trans rfl; have hcz59_1 : wr.cell? ⟨gb346, 1, none⟩ = some (.int .i64 0) := (blk_cell BK346.out 1).trans rfl; have hcz59_2 : wr.cell? ⟨gb346, 2, none⟩ = some (.string (a0.extract 0 (x4_1 : Int).toNat)) := (blk_cell BK346.out 2).trans rfl; have hfz59_0 := blk_frozen BK346.out 0; have hfz59_1 := blk_frozen BK346.out 1; have hfz59_2 := blk_frozen BK346.out 2) | ((with_reducible refine gate_callee (f := 16) rfl ?_); refine goesL_ (some 52) rfl rfl Tryd.func16 (by kernel_rfl) rfl #[.agg #[.int .i64 x347000_3, .int .i64 0, .string (a0.extract 0 (x4_1 : Int).toNat)]] rfl (by (try simp only [List.map_toArray, List.map_cons, List.map_nil]); first | done | rfl | (simp only [List.length_drop, List.length_take]; rfl)) ?_; (with_reducible refine (ancepsref11_Nucleus.calls x347000_3 0 (a0.extract 0 (x4_1 : Int).toNat) true _ A34.out).mono ?_); rintro e w60 ⟨rfl, hb⟩; refine ⟨_, rfl, ?_⟩; have n0_ := Aside0.mk (blk_below (g := gb345) (o := .cells #[.int .i64 0, .int .i64 0, .string (⟨#[]⟩ : ByteArray)] 23 (0, 0)) (by (with_reducible repeat (first | refine blk_drewN ?_ _ | refine blk_drew ?_ | refine blk_alloc ?_ _)); exact BK345.out) hb); have n1_ := Aside0.mk (blk_below (g := gb346) (o := .cells #[.int .i64 x347000_3, .int .i64 0, .string (a0.extract 0 (x4_1 : Int).toNat)] 23 (0, 0)) (by (with_reducible repeat (first | refine blk_drewN ?_ _ | refine blk_drew ?_ | refine blk_alloc ?_ _)); exact BK346.out) hb); have n2_ := Aside0.mk (below_step (by repeat (first | (with_reducible first | exact HB.out | apply below_alloc | apply pw_below_drewN | apply below_drew1 | refine below_set ?_ GE345.out | refine below_set ?_ GE346.out) | exact HB.out)) hb); clear BK345; clear BK346; clear HB; have BK345 := n0_; have BK346 := n1_; have HB := n2_; clear n0_ n1_ n2_; (try clear hb); (try clear hb2); (try clear hk); (try clear hi); have p39 : 0 ≤ (0 : Int) := (by omega); have q39 : 0 < ji36.size := (by have : (0 : Int) < (ji36.size : Int) := of_decide_eq_true (by first | (with_reducible assumption) | assumption); omega); have hx39 : ∀ h : 0 < ji36.size, ((ji36[0]'h).toNat : Int) = bt ji36 0 := bt_at ji36 0; clear p39; have qi39 : (0 < (ji36.size : Int)) = True := eq_true (of_decide_eq_true (by first | (with_reducible assumption) | assumption)); replace q39 := eq_true q39; have p41 : 0 ≤ (0 : Int) := (by omega); have q41 : 0 < ji36.size := (by have : (0 : Int) < (ji36.size : Int) := of_decide_eq_true (by first | (with_reducible assumption) | assumption); omega); have hx41 : ∀ h : 0 < ji36.size, ((ji36[0]'h).toNat : Int) = bt ji36 0 := bt_at ji36 0; clear p41; have qi41 : (0 < (ji36.size : Int)) = True := eq_true (of_decide_eq_true (by first | (with_reducible assumption) | assumption)); replace q41 := eq_true q41))
                                    have n0_ := Aside0.mk (blk_drew BK345.out)
                                    have n1_ := Aside0.mk (blk_drew BK346.out)
                                    have n2_ := Aside0.mk (below_drew1 HB.out)
                                    clear BK345
                                    clear BK346
                                    clear HB
                                    have BK345 := n0_
                                    have BK346 := n1_
                                    have HB := n2_
                                    clear n0_ n1_ n2_
                                    refine start_ (n := 10) (S := fun w' => w'.cell? ⟨gb346, 0, none⟩ = some (.int .i64 x347000_3) ∧ w'.cell? ⟨gb346, 1, none⟩ = some (.int .i64 0) ∧ w'.cell? ⟨gb346, 2, none⟩ = some (.string (a0.extract 0 (x4_1 : Int).toNat))) (ds := []) #[false, false, false, false, false, false, false, false, false, false] (by kernel_rfl) rfl rfl ⟨(blk_cell BK346.out 0).trans rfl, (blk_cell BK346.out 1).trans rfl, (blk_cell BK346.out 2).trans rfl⟩ (fun hHeld => ?_); refine with_tabW ancepsref11_one.tab19 ancepsref11_one.bits19 (fun HT_ HW_ => ?_)
                                    generalize w60.drew = w61 at BK345 BK346 HB hHeld ⊢
                                    refine pure_ (i := 1) (N := some 74) (v := ?_) (a' := ?_) #[false, true, false, false, false, false, false, false, false, false] rfl rfl (any_of HT_.out (by kernel_rfl)) (fun _ _ _ h => h) (Or.inl ⟨by rfl, ?_⟩) ?_ ?_
                                    rotate_left
                                    · intro w'
                                      go_simp
                                      with_reducible rfl
                                    rotate_left
                                    · simp only [Act.put, List.setIfInBounds_toArray, List.set_cons_zero, List.set_cons_succ, i64_w, i32_w]
                                      rfl
                                    refine pure_ (i := 2) (N := some 75) (v := ?_) (a' := ?_) #[false, true, true, false, false, false, false, false, false, false] rfl rfl (any_of HT_.out (by kernel_rfl)) (fun _ _ _ h => h) (Or.inl ⟨by rfl, ?_⟩) ?_ ?_
                                    rotate_left
                                    · intro w'
                                      go_simp
                                      with_reducible rfl
                                    rotate_left
                                    · simp only [Act.put, List.setIfInBounds_toArray, List.set_cons_zero, List.set_cons_succ, i64_w, i32_w]
                                      rfl
                                    refine pure_ (i := 3) (N := some 76) (v := ?_) (a' := ?_) #[false, true, true, true, false, false, false, false, false, false] rfl rfl (any_of HT_.out (by kernel_rfl)) (fun _ _ _ h => h) (Or.inl ⟨by rfl, ?_⟩) ?_ ?_
                                    rotate_left
                                    · intro w'
                                      go_simp
                                      with_reducible rfl
                                    rotate_left
                                    · simp only [Act.put, List.setIfInBounds_toArray, List.set_cons_zero, List.set_cons_succ, i64_w, i32_w]
                                      rfl
                                    refine take_ (i := 0) (N := some 73) (v := ?_) (a' := ?_) #[true, true, true, true, false, false, false, false, false, false] rfl rfl (take_ofW HT_.out HW_.out (by kernel_rfl)) (fun _ _ _ h => h) (Or.inl ⟨by rfl, ?_⟩) hHeld ?_ ?_
                                    rotate_left
                                    · rintro w' ⟨s0, s1, s2⟩
                                      go_simp
                                      with_reducible rfl
                                    rotate_left
                                    · simp only [Act.put, List.setIfInBounds_toArray, List.set_cons_zero, List.set_cons_succ, i64_w, i32_w]
                                      rfl
                                    refine take_ (i := 4) (N := some 77) (v := ?_) (a' := ?_) #[true, true, true, true, true, false, false, false, false, false] rfl rfl (take_ofW HT_.out HW_.out (by kernel_rfl)) (fun _ _ _ h => h) (Or.inl ⟨by rfl, ?_⟩) hHeld ?_ ?_
                                    rotate_left
                                    · rintro w' ⟨s0, s1, s2⟩
                                      go_simp
                                      with_reducible rfl
                                    rotate_left
                                    · simp only [Act.put, List.setIfInBounds_toArray, List.set_cons_zero, List.set_cons_succ, i64_w, i32_w]
                                      rfl
                                    refine one_ (i := 5) (N := some 78) #[true, true, true, true, true, true, false, false, false, false] rfl rfl (one_of HT_.out (by kernel_rfl)) (by decide) (fun K hK => ?_)
                                    refine goes_ Tryd.func14 (by kernel_rfl) rfl #[.agg #[.int .i64 x347000_3, .int .i64 0, .string (a0.extract 0 (x4_1 : Int).toNat)]] (by rfl) rfl rfl (by (try simp only [List.map_toArray, List.map_cons, List.map_nil]); first | done | rfl | (simp only [List.length_drop, List.length_take]; rfl)) ?_
                                    with_reducible refine (ancepsref11_Valid.calls k3 x347000_3 0 (a0.extract 0 (x4_1 : Int).toNat) t351 _ A57.out).mono ?_
                                    rintro e w62 ⟨rfl, hb⟩
                                    refine ⟨_, rfl, ?_⟩
                                    have n0_ := Aside0.mk (blk_below (g := gb345) (o := .cells #[.int .i64 0, .int .i64 0, .string (⟨#[]⟩ : ByteArray)] 23 (0, 0)) (by (with_reducible repeat (first | refine blk_drewN ?_ _ | refine blk_drew ?_ | refine blk_alloc ?_ _)); exact BK345.out) hb)
                                    have n1_ := Aside0.mk (blk_below (g := gb346) (o := .cells #[.int .i64 x347000_3, .int .i64 0, .string (a0.extract 0 (x4_1 : Int).toNat)] 23 (0, 0)) (by (with_reducible repeat (first | refine blk_drewN ?_ _ | refine blk_drew ?_ | refine blk_alloc ?_ _)); exact BK346.out) hb)
                                    have n2_ := Aside0.mk (below_step (by repeat (first | (with_reducible first | exact HB.out | apply below_alloc | apply pw_below_drewN | apply below_drew1 | refine below_set ?_ GE345.out | refine below_set ?_ GE346.out) | exact HB.out)) hb)
                                    clear BK345
                                    clear BK346
                                    clear HB
                                    have BK345 := n0_
                                    have BK346 := n1_
                                    have HB := n2_
                                    clear n0_ n1_ n2_
                                    (try clear hb)
                                    (try clear hb2)
                                    (try clear hk)
                                    (try clear hi)
                                    refine hK.out _ _ ⟨(blk_cell BK346.out 0).trans rfl, (blk_cell BK346.out 1).trans rfl, (blk_cell BK346.out 2).trans rfl⟩ (fun hHeld => ?_)
                                    clear hK K
                                    refine norm_ (a' := ?_) ?_ ?_
                                    rotate_left
                                    · show Act.put _ (some 78) _ = _
                                      simp only [Act.put, List.setIfInBounds_toArray, List.set_cons_zero, List.set_cons_succ, i64_w, i32_w]
                                      rfl
                                    refine pure_ (i := 6) (N := some 79) (v := ?_) (a' := ?_) #[true, true, true, true, true, true, true, false, false, false] rfl rfl (any_of HT_.out (by kernel_rfl)) (fun _ _ _ h => h) (Or.inl ⟨by rfl, ?_⟩) ?_ ?_
                                    rotate_left
                                    · intro w'
                                      go_simp
                                      with_reducible rfl
                                    rotate_left
                                    · simp only [Act.put, List.setIfInBounds_toArray, List.set_cons_zero, List.set_cons_succ, i64_w, i32_w]
                                      rfl
                                    refine pure_ (i := 7) (N := some 80) (v := ?_) (a' := ?_) #[true, true, true, true, true, true, true, true, false, false] rfl rfl (any_of HT_.out (by kernel_rfl)) (fun _ _ _ h => h) (Or.inl ⟨by rfl, ?_⟩) ?_ ?_
                                    rotate_left
                                    · intro w'
                                      go_simp
                                      with_reducible rfl
                                    rotate_left
                                    · simp only [Act.put, List.setIfInBounds_toArray, List.set_cons_zero, List.set_cons_succ, i64_w, i32_w]
                                      rfl
                                    refine one_ (i := 8) (N := none) #[true, true, true, true, true, true, true, true, true, false] rfl rfl (one_of HT_.out (by kernel_rfl)) (by decide) (fun K hK => ?_)
                                    have hs63 : w62.cell? ⟨gb345, 0, none⟩ = some (.int .i64 0) := (blk_cell BK345.out 0).trans rfl
                                    have hfs63 := blk_frozen BK345.out 0
                                    have hns63_1 := NB346_345.out
                                    have hms63_1 := NB345_346.out
                                    have hs64 : w62.cell? ⟨gb345, 1, none⟩ = some (.int .i64 0) := (blk_cell BK345.out 1).trans rfl
                                    have hfs64 := blk_frozen BK345.out 1
                                    have hns64_1 := NB346_345.out
                                    have hms64_1 := NB345_346.out
                                    have hs65 : w62.cell? ⟨gb345, 2, none⟩ = some (.string (⟨#[]⟩ : ByteArray)) := (blk_cell BK345.out 2).trans rfl
                                    have hfs65 := blk_frozen BK345.out 2
                                    have hns65_1 := NB346_345.out
                                    have hms65_1 := NB345_346.out
                                    refine skip_ (w1 := ?_) (by rfl) rfl ?_ ?_
                                    rotate_left
                                    · go_simp
                                      rfl
                                    refine hK.out _ _ ⟨((cell_far (p := ⟨gb345, _, none⟩) NB346_345.out _).trans (((cell_far (p := ⟨gb345, _, none⟩) NB346_345.out _).trans (((cell_far (p := ⟨gb345, _, none⟩) NB346_345.out _).trans (hHeld.1)))))), ((cell_far (p := ⟨gb345, _, none⟩) NB346_345.out _).trans (((cell_far (p := ⟨gb345, _, none⟩) NB346_345.out _).trans (((cell_far (p := ⟨gb345, _, none⟩) NB346_345.out _).trans (hHeld.2.1)))))), ((cell_far (p := ⟨gb345, _, none⟩) NB346_345.out _).trans (((cell_far (p := ⟨gb345, _, none⟩) NB346_345.out _).trans (((cell_far (p := ⟨gb345, _, none⟩) NB346_345.out _).trans (hHeld.2.2))))))⟩ (fun hHeld => ?_)
                                    clear hK K
                                    refine pure_ (i := 9) (N := some 3) (v := ?_) (a' := ?_) #[true, true, true, true, true, true, true, true, true, true] rfl rfl (any_of HT_.out (by kernel_rfl)) (fun _ _ _ h => h) (Or.inl ⟨by rfl, ?_⟩) ?_ ?_
                                    rotate_left
                                    · intro w'
                                      go_simp
                                      with_reducible rfl
                                    rotate_left
                                    · simp only [Act.put, List.setIfInBounds_toArray, List.set_cons_zero, List.set_cons_succ, i64_w, i32_w]
                                      rfl
                                    refine done_ (done_of HT_.out (by kernel_rfl)) ?_
                                    try go_wp2
                                    refine bodyPost_ret (results_ct rfl _ _ gb345 23 #[.int .i64 x347000_3, .int .i64 0, .string (a0.extract 0 (x4_1 : Int).toNat)] (0, 0) _ rfl (by (with_reducible repeat (first | refine blk_drewN ?_ _ | refine blk_drew ?_ | refine blk_alloc ?_ _)); refine blk_put (cs := #[.int .i64 x347000_3, .int .i64 0, .string (⟨#[]⟩ : ByteArray)]) ?_ 2 _ rfl; (with_reducible repeat (first | refine blk_drewN ?_ _ | refine blk_drew ?_ | refine blk_alloc ?_ _)); refine blk_put (cs := #[.int .i64 x347000_3, .int .i64 0, .string (⟨#[]⟩ : ByteArray)]) ?_ 1 _ rfl; (with_reducible repeat (first | refine blk_drewN ?_ _ | refine blk_drew ?_ | refine blk_alloc ?_ _)); refine blk_put (cs := #[.int .i64 0, .int .i64 0, .string (⟨#[]⟩ : ByteArray)]) ?_ 0 _ rfl; (with_reducible repeat (first | refine blk_drewN ?_ _ | refine blk_drew ?_ | refine blk_alloc ?_ _)); exact BK345.out) Tryd.underlying23 rfl (by kernel_rfl)) rfl ?_
                                    exact ⟨by first | rfl | (simp [errW_none, errW_some] <;> rfl) | (simp only [← hji36]; first | rfl | (simp [errW_none, errW_some] <;> rfl)) | (simp [*, errW_none, errW_some] <;> rfl), by repeat (first | (with_reducible first | exact HB.out | apply below_alloc | apply pw_below_drewN | apply below_drew1 | refine below_set ?_ GE345.out | refine below_set ?_ GE346.out) | exact HB.out)⟩
                                  · rw [if_neg c56] at H
                                    have c56b0 : ((ji36).toList == ([] : List UInt8)) = false := beq_eq_false_iff_ne.mpr c56
                                    have c56b1 : ((ji36).toList != ([] : List UInt8)) = true := bne_iff_ne.mpr c56
                                    simp only [Option.some.injEq, Prod.mk.injEq] at H
                                    obtain ⟨rfl, rfl, rfl, rfl⟩ := H
                                    try go_wp2_with (first | ((with_reducible refine gate_callee (f := 61) rfl ?_); refine goesL_ (some 36) rfl rfl Tryd.func61 (by kernel_rfl) rfl #[] rfl (by (try simp only [List.map_toArray, List.map_cons, List.map_nil]); first | done | rfl | (simp only [List.length_drop, List.length_take]; rfl)) ?_; (with_reducible refine (ancepsref11_letters.calls  t347 _ A20.out).mono ?_); rintro e w' ⟨rfl, ⟨nd, rfl⟩⟩; refine ⟨_, rfl, ?_⟩; (try (rw [drewN_self wr]; generalize hq_ : World.drewN wr _ = wr; have n0_ : Aside0 (wr.heap[gb345]? = some (.cells #[.int .i64 0, .int .i64 0, .string (⟨#[]⟩ : ByteArray)] 23 (0, 0))) := ⟨by rw [← hq_]; exact (by (with_reducible repeat (first | refine blk_drewN ?_ _ | refine blk_drew ?_ | refine blk_alloc ?_ _)); exact BK345.out)⟩; have n1_ : Aside0 (wr.heap[gb346]? = some (.cells #[.int .i64 x347000_3, .int .i64 0, .string (a0.extract 0 (x4_1 : Int).toNat)] 23 (0, 0))) := ⟨by rw [← hq_]; exact (by (with_reducible repeat (first | refine blk_drewN ?_ _ | refine blk_drew ?_ | refine blk_alloc ?_ _)); exact BK346.out)⟩; have n2_ : Aside0 (Below w.heap.size w wr) := ⟨by rw [← hq_]; exact (by repeat (first | (with_reducible first | exact HB.out | apply below_alloc | apply pw_below_drewN | apply below_drew1 | refine below_set ?_ GE345.out | refine below_set ?_ GE346.out) | exact HB.out))⟩; clear BK345 BK346 HB hq_; have BK345 := n0_; have BK346 := n1_; have HB := n2_; clear n0_ n1_ n2_)); have hnb66 := NB346_345.out; have hnc66 := NB345_346.out; have hcz67_0 : wr.cell? ⟨gb346, 0, none⟩ = some (.int .i64 x347000_3) := (blk_cell BK346.out 0).trans rfl; have hcz67_1 : wr.cell? ⟨gb346, 1, none⟩ = some (.int .i64 0) := (blk_cell BK346.out 1).trans rfl; have hcz67_2 : wr.cell? ⟨gb346, 2, none⟩ = some (.string (a0.extract 0 (x4_1 : Int).toNat)) := (blk_cell BK346.out 2).trans rfl; have hfz67_0 := blk_frozen BK346.out 0; have hfz67_1 := blk_frozen BK346.out 1; have hfz67_2 := blk_frozen BK346.out 2) | ((with_reducible refine gate_callee (f := 16) rfl ?_); refine goesL_ (some 52) rfl rfl Tryd.func16 (by kernel_rfl) rfl #[.agg #[.int .i64 x347000_3, .int .i64 0, .string (a0.extract 0 (x4_1 : Int).toNat)]] rfl (by (try simp only [List.map_toArray, List.map_cons, List.map_nil]); first | done | rfl | (simp only [List.length_drop, List.length_take]; rfl)) ?_; (with_reducible refine (ancepsref11_Nucleus.calls x347000_3 0 (a0.extract 0 (x4_1 : Int).toNat) true _ A34.out).mono ?_); rintro e w68 ⟨rfl, hb⟩; refine ⟨_, rfl, ?_⟩; have n0_ := Aside0.mk (blk_below (g := gb345) (o := .cells #[.int .i64 0, .int .i64 0, .string (⟨#[]⟩ : ByteArray)] 23 (0, 0)) (by (with_reducible repeat (first | refine blk_drewN ?_ _ | refine blk_drew ?_ | refine blk_alloc ?_ _)); exact BK345.out) hb); have n1_ := Aside0.mk (blk_below (g := gb346) (o := .cells #[.int .i64 x347000_3, .int .i64 0, .string (a0.extract 0 (x4_1 : Int).toNat)] 23 (0, 0)) (by (with_reducible repeat (first | refine blk_drewN ?_ _ | refine blk_drew ?_ | refine blk_alloc ?_ _)); exact BK346.out) hb); have n2_ := Aside0.mk (below_step (by repeat (first | (with_reducible first | exact HB.out | apply below_alloc | apply pw_below_drewN | apply below_drew1 | refine below_set ?_ GE345.out | refine below_set ?_ GE346.out) | exact HB.out)) hb); clear BK345; clear BK346; clear HB; have BK345 := n0_; have BK346 := n1_; have HB := n2_; clear n0_ n1_ n2_; (try clear hb); (try clear hb2); (try clear hk); (try clear hi); have p39 : 0 ≤ (0 : Int) := (by omega); have q39 : 0 < ji36.size := (by have : (0 : Int) < (ji36.size : Int) := of_decide_eq_true (by first | (with_reducible assumption) | assumption); omega); have hx39 : ∀ h : 0 < ji36.size, ((ji36[0]'h).toNat : Int) = bt ji36 0 := bt_at ji36 0; clear p39; have qi39 : (0 < (ji36.size : Int)) = True := eq_true (of_decide_eq_true (by first | (with_reducible assumption) | assumption)); replace q39 := eq_true q39; have p41 : 0 ≤ (0 : Int) := (by omega); have q41 : 0 < ji36.size := (by have : (0 : Int) < (ji36.size : Int) := of_decide_eq_true (by first | (with_reducible assumption) | assumption); omega); have hx41 : ∀ h : 0 < ji36.size, ((ji36[0]'h).toNat : Int) = bt ji36 0 := bt_at ji36 0; clear p41; have qi41 : (0 < (ji36.size : Int)) = True := eq_true (of_decide_eq_true (by first | (with_reducible assumption) | assumption)); replace q41 := eq_true q41))
                                    have n0_ := Aside0.mk (blk_drew BK345.out)
                                    have n1_ := Aside0.mk (blk_drew BK346.out)
                                    have n2_ := Aside0.mk (below_drew1 HB.out)
                                    clear BK345
                                    clear BK346
                                    clear HB
                                    have BK345 := n0_
                                    have BK346 := n1_
                                    have HB := n2_
                                    clear n0_ n1_ n2_
                                    refine start_ (n := 10) (S := fun w' => w'.cell? ⟨gb346, 0, none⟩ = some (.int .i64 x347000_3) ∧ w'.cell? ⟨gb346, 1, none⟩ = some (.int .i64 0) ∧ w'.cell? ⟨gb346, 2, none⟩ = some (.string (a0.extract 0 (x4_1 : Int).toNat))) (ds := []) #[false, false, false, false, false, false, false, false, false, false] (by kernel_rfl) rfl rfl ⟨(blk_cell BK346.out 0).trans rfl, (blk_cell BK346.out 1).trans rfl, (blk_cell BK346.out 2).trans rfl⟩ (fun hHeld => ?_); refine with_tabW ancepsref11_one.tab19 ancepsref11_one.bits19 (fun HT_ HW_ => ?_)
                                    generalize w68.drew = w69 at BK345 BK346 HB hHeld ⊢
                                    refine pure_ (i := 1) (N := some 74) (v := ?_) (a' := ?_) #[false, true, false, false, false, false, false, false, false, false] rfl rfl (any_of HT_.out (by kernel_rfl)) (fun _ _ _ h => h) (Or.inl ⟨by rfl, ?_⟩) ?_ ?_
                                    rotate_left
                                    · intro w'
                                      go_simp
                                      with_reducible rfl
                                    rotate_left
                                    · simp only [Act.put, List.setIfInBounds_toArray, List.set_cons_zero, List.set_cons_succ, i64_w, i32_w]
                                      rfl
                                    refine pure_ (i := 2) (N := some 75) (v := ?_) (a' := ?_) #[false, true, true, false, false, false, false, false, false, false] rfl rfl (any_of HT_.out (by kernel_rfl)) (fun _ _ _ h => h) (Or.inl ⟨by rfl, ?_⟩) ?_ ?_
                                    rotate_left
                                    · intro w'
                                      go_simp
                                      with_reducible rfl
                                    rotate_left
                                    · simp only [Act.put, List.setIfInBounds_toArray, List.set_cons_zero, List.set_cons_succ, i64_w, i32_w]
                                      rfl
                                    refine pure_ (i := 3) (N := some 76) (v := ?_) (a' := ?_) #[false, true, true, true, false, false, false, false, false, false] rfl rfl (any_of HT_.out (by kernel_rfl)) (fun _ _ _ h => h) (Or.inl ⟨by rfl, ?_⟩) ?_ ?_
                                    rotate_left
                                    · intro w'
                                      go_simp
                                      with_reducible rfl
                                    rotate_left
                                    · simp only [Act.put, List.setIfInBounds_toArray, List.set_cons_zero, List.set_cons_succ, i64_w, i32_w]
                                      rfl
                                    refine pure_ (i := 4) (N := some 77) (v := undef) (a' := ?_) #[false, true, true, true, true, false, false, false, false, false] rfl rfl (any_of HT_.out (by kernel_rfl)) (fun _ _ _ h => h) (Or.inr ⟨by rfl, rfl⟩) ?_ ?_
                                    rotate_left
                                    · simp only [Act.put, List.setIfInBounds_toArray, List.set_cons_zero, List.set_cons_succ, i64_w, i32_w]
                                      rfl
                                    refine pure_ (i := 5) (N := some 78) (v := undef) (a' := ?_) #[false, true, true, true, true, true, false, false, false, false] rfl rfl (any_of HT_.out (by kernel_rfl)) (fun _ _ _ h => h) (Or.inr ⟨by rfl, rfl⟩) ?_ ?_
                                    rotate_left
                                    · simp only [Act.put, List.setIfInBounds_toArray, List.set_cons_zero, List.set_cons_succ, i64_w, i32_w]
                                      rfl
                                    refine pure_ (i := 6) (N := some 79) (v := undef) (a' := ?_) #[false, true, true, true, true, true, true, false, false, false] rfl rfl (any_of HT_.out (by kernel_rfl)) (fun _ _ _ h => h) (Or.inr ⟨by rfl, rfl⟩) ?_ ?_
                                    rotate_left
                                    · simp only [Act.put, List.setIfInBounds_toArray, List.set_cons_zero, List.set_cons_succ, i64_w, i32_w]
                                      rfl
                                    refine pure_ (i := 7) (N := some 80) (v := ?_) (a' := ?_) #[false, true, true, true, true, true, true, true, false, false] rfl rfl (any_of HT_.out (by kernel_rfl)) (fun _ _ _ h => h) (Or.inl ⟨by rfl, ?_⟩) ?_ ?_
                                    rotate_left
                                    · intro w'
                                      go_simp
                                      with_reducible rfl
                                    rotate_left
                                    · simp only [Act.put, List.setIfInBounds_toArray, List.set_cons_zero, List.set_cons_succ, i64_w, i32_w]
                                      rfl
                                    refine take_ (i := 0) (N := some 73) (v := ?_) (a' := ?_) #[true, true, true, true, true, true, true, true, false, false] rfl rfl (take_ofW HT_.out HW_.out (by kernel_rfl)) (fun _ _ _ h => h) (Or.inl ⟨by rfl, ?_⟩) hHeld ?_ ?_
                                    rotate_left
                                    · rintro w' ⟨s0, s1, s2⟩
                                      go_simp
                                      with_reducible rfl
                                    rotate_left
                                    · simp only [Act.put, List.setIfInBounds_toArray, List.set_cons_zero, List.set_cons_succ, i64_w, i32_w]
                                      rfl
                                    refine one_ (i := 8) (N := none) #[true, true, true, true, true, true, true, true, true, false] rfl rfl (one_of HT_.out (by kernel_rfl)) (by decide) (fun K hK => ?_)
                                    have hs70 : w69.cell? ⟨gb345, 0, none⟩ = some (.int .i64 0) := (blk_cell BK345.out 0).trans rfl
                                    have hfs70 := blk_frozen BK345.out 0
                                    have hns70_1 := NB346_345.out
                                    have hms70_1 := NB345_346.out
                                    have hs71 : w69.cell? ⟨gb345, 1, none⟩ = some (.int .i64 0) := (blk_cell BK345.out 1).trans rfl
                                    have hfs71 := blk_frozen BK345.out 1
                                    have hns71_1 := NB346_345.out
                                    have hms71_1 := NB345_346.out
                                    have hs72 : w69.cell? ⟨gb345, 2, none⟩ = some (.string (⟨#[]⟩ : ByteArray)) := (blk_cell BK345.out 2).trans rfl
                                    have hfs72 := blk_frozen BK345.out 2
                                    have hns72_1 := NB346_345.out
                                    have hms72_1 := NB345_346.out
                                    refine skip_ (w1 := ?_) (by rfl) rfl ?_ ?_
                                    rotate_left
                                    · go_simp
                                      rfl
                                    refine hK.out _ _ ⟨((cell_far (p := ⟨gb345, _, none⟩) NB346_345.out _).trans (((cell_far (p := ⟨gb345, _, none⟩) NB346_345.out _).trans (((cell_far (p := ⟨gb345, _, none⟩) NB346_345.out _).trans (hHeld.1)))))), ((cell_far (p := ⟨gb345, _, none⟩) NB346_345.out _).trans (((cell_far (p := ⟨gb345, _, none⟩) NB346_345.out _).trans (((cell_far (p := ⟨gb345, _, none⟩) NB346_345.out _).trans (hHeld.2.1)))))), ((cell_far (p := ⟨gb345, _, none⟩) NB346_345.out _).trans (((cell_far (p := ⟨gb345, _, none⟩) NB346_345.out _).trans (((cell_far (p := ⟨gb345, _, none⟩) NB346_345.out _).trans (hHeld.2.2))))))⟩ (fun hHeld => ?_)
                                    clear hK K
                                    refine pure_ (i := 9) (N := some 3) (v := ?_) (a' := ?_) #[true, true, true, true, true, true, true, true, true, true] rfl rfl (any_of HT_.out (by kernel_rfl)) (fun _ _ _ h => h) (Or.inl ⟨by rfl, ?_⟩) ?_ ?_
                                    rotate_left
                                    · intro w'
                                      go_simp
                                      with_reducible rfl
                                    rotate_left
                                    · simp only [Act.put, List.setIfInBounds_toArray, List.set_cons_zero, List.set_cons_succ, i64_w, i32_w]
                                      rfl
                                    refine done_ (done_of HT_.out (by kernel_rfl)) ?_
                                    try go_wp2
                                    refine bodyPost_ret (results_ct rfl _ _ gb345 23 #[.int .i64 x347000_3, .int .i64 0, .string (a0.extract 0 (x4_1 : Int).toNat)] (0, 0) _ rfl (by (with_reducible repeat (first | refine blk_drewN ?_ _ | refine blk_drew ?_ | refine blk_alloc ?_ _)); refine blk_put (cs := #[.int .i64 x347000_3, .int .i64 0, .string (⟨#[]⟩ : ByteArray)]) ?_ 2 _ rfl; (with_reducible repeat (first | refine blk_drewN ?_ _ | refine blk_drew ?_ | refine blk_alloc ?_ _)); refine blk_put (cs := #[.int .i64 x347000_3, .int .i64 0, .string (⟨#[]⟩ : ByteArray)]) ?_ 1 _ rfl; (with_reducible repeat (first | refine blk_drewN ?_ _ | refine blk_drew ?_ | refine blk_alloc ?_ _)); refine blk_put (cs := #[.int .i64 0, .int .i64 0, .string (⟨#[]⟩ : ByteArray)]) ?_ 0 _ rfl; (with_reducible repeat (first | refine blk_drewN ?_ _ | refine blk_drew ?_ | refine blk_alloc ?_ _)); exact BK345.out) Tryd.underlying23 rfl (by kernel_rfl)) rfl ?_
                                    exact ⟨by first | rfl | (simp [errW_none, errW_some] <;> rfl) | (simp only [← hji36]; first | rfl | (simp [errW_none, errW_some] <;> rfl)) | (simp [*, errW_none, errW_some] <;> rfl), by repeat (first | (with_reducible first | exact HB.out | apply below_alloc | apply pw_below_drewN | apply below_drew1 | refine below_set ?_ GE345.out | refine below_set ?_ GE346.out) | exact HB.out)⟩
                              · rw [if_neg c40] at H
                                have c40b0 : decide (49 ≤ (bt (ji36) 0)) = false := decide_eq_false c40
                                clear c40
                                by_cases c73 : (ji36).toList = ([] : List UInt8)
                                · rw [if_pos c73] at H
                                  have c73b0 : ((ji36).toList == ([] : List UInt8)) = true := beq_iff_eq.mpr c73
                                  have c73b1 : ((ji36).toList != ([] : List UInt8)) = false := bne_eq_false_iff_eq.mpr c73
                                  clear c73
                                  replace H := Option.bind_eq_some_iff.mp H
                                  obtain ⟨t352, A740, H⟩ := H
                                  replace H : (some (x347000_3, 0, (a0.extract 0 (x4_1 : Int).toNat), (t352 == 0))) = some (r1, r2, r3, r4) := H
                                  have A74 := Aside0.mk A740
                                  clear A740
                                  simp only [Option.some.injEq, Prod.mk.injEq] at H
                                  obtain ⟨rfl, rfl, rfl, rfl⟩ := H
                                  try go_wp2_with (first | ((with_reducible refine gate_callee (f := 61) rfl ?_); refine goesL_ (some 36) rfl rfl Tryd.func61 (by kernel_rfl) rfl #[] rfl (by (try simp only [List.map_toArray, List.map_cons, List.map_nil]); first | done | rfl | (simp only [List.length_drop, List.length_take]; rfl)) ?_; (with_reducible refine (ancepsref11_letters.calls  t347 _ A20.out).mono ?_); rintro e w' ⟨rfl, ⟨nd, rfl⟩⟩; refine ⟨_, rfl, ?_⟩; (try (rw [drewN_self wr]; generalize hq_ : World.drewN wr _ = wr; have n0_ : Aside0 (wr.heap[gb345]? = some (.cells #[.int .i64 0, .int .i64 0, .string (⟨#[]⟩ : ByteArray)] 23 (0, 0))) := ⟨by rw [← hq_]; exact (by (with_reducible repeat (first | refine blk_drewN ?_ _ | refine blk_drew ?_ | refine blk_alloc ?_ _)); exact BK345.out)⟩; have n1_ : Aside0 (wr.heap[gb346]? = some (.cells #[.int .i64 x347000_3, .int .i64 0, .string (a0.extract 0 (x4_1 : Int).toNat)] 23 (0, 0))) := ⟨by rw [← hq_]; exact (by (with_reducible repeat (first | refine blk_drewN ?_ _ | refine blk_drew ?_ | refine blk_alloc ?_ _)); exact BK346.out)⟩; have n2_ : Aside0 (Below w.heap.size w wr) := ⟨by rw [← hq_]; exact (by repeat (first | (with_reducible first | exact HB.out | apply below_alloc | apply pw_below_drewN | apply below_drew1 | refine below_set ?_ GE345.out | refine below_set ?_ GE346.out) | exact HB.out))⟩; clear BK345 BK346 HB hq_; have BK345 := n0_; have BK346 := n1_; have HB := n2_; clear n0_ n1_ n2_)); have hnb75 := NB346_345.out; have hnc75 := NB345_346.out; have hcz76_0 : wr.cell? ⟨gb346, 0, none⟩ = some (.int .i64 x347000_3) := (blk_cell BK346.out 0).trans rfl; have hcz76_1 : wr.cell? ⟨gb346, 1, none⟩ = some (.int .i64 0) := (blk_cell BK346.out 1).trans rfl; have hcz76_2 : wr.cell? ⟨gb346, 2, none⟩ = some (.string (a0.extract 0 (x4_1 : Int).toNat)) := (blk_cell BK346.out 2).trans rfl; have hfz76_0 := blk_frozen BK346.out 0; have hfz76_1 := blk_frozen BK346.out 1; have hfz76_2 := blk_frozen BK346.out 2) | ((with_reducible refine gate_callee (f := 16) rfl ?_); refine goesL_ (some 52) rfl rfl Tryd.func16 (by kernel_rfl) rfl #[.agg #[.int .i64 x347000_3, .int .i64 0, .string (a0.extract 0 (x4_1 : Int).toNat)]] rfl (by (try simp only [List.map_toArray, List.map_cons, List.map_nil]); first | done | rfl | (simp only [List.length_drop, List.length_take]; rfl)) ?_; (with_reducible refine (ancepsref11_Nucleus.calls x347000_3 0 (a0.extract 0 (x4_1 : Int).toNat) true _ A34.out).mono ?_); rintro e w77 ⟨rfl, hb⟩; refine ⟨_, rfl, ?_⟩; have n0_ := Aside0.mk (blk_below (g := gb345) (o := .cells #[.int .i64 0, .int .i64 0, .string (⟨#[]⟩ : ByteArray)] 23 (0, 0)) (by (with_reducible repeat (first | refine blk_drewN ?_ _ | refine blk_drew ?_ | refine blk_alloc ?_ _)); exact BK345.out) hb); have n1_ := Aside0.mk (blk_below (g := gb346) (o := .cells #[.int .i64 x347000_3, .int .i64 0, .string (a0.extract 0 (x4_1 : Int).toNat)] 23 (0, 0)) (by (with_reducible repeat (first | refine blk_drewN ?_ _ | refine blk_drew ?_ | refine blk_alloc ?_ _)); exact BK346.out) hb); have n2_ := Aside0.mk (below_step (by repeat (first | (with_reducible first | exact HB.out | apply below_alloc | apply pw_below_drewN | apply below_drew1 | refine below_set ?_ GE345.out | refine below_set ?_ GE346.out) | exact HB.out)) hb); clear BK345; clear BK346; clear HB; have BK345 := n0_; have BK346 := n1_; have HB := n2_; clear n0_ n1_ n2_; (try clear hb); (try clear hb2); (try clear hk); (try clear hi); have p39 : 0 ≤ (0 : Int) := (by omega); have q39 : 0 < ji36.size := (by have : (0 : Int) < (ji36.size : Int) := of_decide_eq_true (by first | (with_reducible assumption) | assumption); omega); have hx39 : ∀ h : 0 < ji36.size, ((ji36[0]'h).toNat : Int) = bt ji36 0 := bt_at ji36 0; clear p39; have qi39 : (0 < (ji36.size : Int)) = True := eq_true (of_decide_eq_true (by first | (with_reducible assumption) | assumption)); replace q39 := eq_true q39))
                                  have n0_ := Aside0.mk (blk_drew BK345.out)
                                  have n1_ := Aside0.mk (blk_drew BK346.out)
                                  have n2_ := Aside0.mk (below_drew1 HB.out)
                                  clear BK345
                                  clear BK346
                                  clear HB
                                  have BK345 := n0_
                                  have BK346 := n1_
                                  have HB := n2_
                                  clear n0_ n1_ n2_
                                  refine start_ (n := 10) (S := fun w' => w'.cell? ⟨gb346, 0, none⟩ = some (.int .i64 x347000_3) ∧ w'.cell? ⟨gb346, 1, none⟩ = some (.int .i64 0) ∧ w'.cell? ⟨gb346, 2, none⟩ = some (.string (a0.extract 0 (x4_1 : Int).toNat))) (ds := []) #[false, false, false, false, false, false, false, false, false, false] (by kernel_rfl) rfl rfl ⟨(blk_cell BK346.out 0).trans rfl, (blk_cell BK346.out 1).trans rfl, (blk_cell BK346.out 2).trans rfl⟩ (fun hHeld => ?_); refine with_tabW ancepsref11_one.tab19 ancepsref11_one.bits19 (fun HT_ HW_ => ?_)
                                  generalize w77.drew = w78 at BK345 BK346 HB hHeld ⊢
                                  refine pure_ (i := 1) (N := some 74) (v := ?_) (a' := ?_) #[false, true, false, false, false, false, false, false, false, false] rfl rfl (any_of HT_.out (by kernel_rfl)) (fun _ _ _ h => h) (Or.inl ⟨by rfl, ?_⟩) ?_ ?_
                                  rotate_left
                                  · intro w'
                                    go_simp
                                    with_reducible rfl
                                  rotate_left
                                  · simp only [Act.put, List.setIfInBounds_toArray, List.set_cons_zero, List.set_cons_succ, i64_w, i32_w]
                                    rfl
                                  refine pure_ (i := 2) (N := some 75) (v := ?_) (a' := ?_) #[false, true, true, false, false, false, false, false, false, false] rfl rfl (any_of HT_.out (by kernel_rfl)) (fun _ _ _ h => h) (Or.inl ⟨by rfl, ?_⟩) ?_ ?_
                                  rotate_left
                                  · intro w'
                                    go_simp
                                    with_reducible rfl
                                  rotate_left
                                  · simp only [Act.put, List.setIfInBounds_toArray, List.set_cons_zero, List.set_cons_succ, i64_w, i32_w]
                                    rfl
                                  refine pure_ (i := 3) (N := some 76) (v := ?_) (a' := ?_) #[false, true, true, true, false, false, false, false, false, false] rfl rfl (any_of HT_.out (by kernel_rfl)) (fun _ _ _ h => h) (Or.inl ⟨by rfl, ?_⟩) ?_ ?_
                                  rotate_left
                                  · intro w'
                                    go_simp
                                    with_reducible rfl
                                  rotate_left
                                  · simp only [Act.put, List.setIfInBounds_toArray, List.set_cons_zero, List.set_cons_succ, i64_w, i32_w]
                                    rfl
                                  refine take_ (i := 0) (N := some 73) (v := ?_) (a' := ?_) #[true, true, true, true, false, false, false, false, false, false] rfl rfl (take_ofW HT_.out HW_.out (by kernel_rfl)) (fun _ _ _ h => h) (Or.inl ⟨by rfl, ?_⟩) hHeld ?_ ?_
                                  rotate_left
                                  · rintro w' ⟨s0, s1, s2⟩
                                    go_simp
                                    with_reducible rfl
                                  rotate_left
                                  · simp only [Act.put, List.setIfInBounds_toArray, List.set_cons_zero, List.set_cons_succ, i64_w, i32_w]
                                    rfl
                                  refine take_ (i := 4) (N := some 77) (v := ?_) (a' := ?_) #[true, true, true, true, true, false, false, false, false, false] rfl rfl (take_ofW HT_.out HW_.out (by kernel_rfl)) (fun _ _ _ h => h) (Or.inl ⟨by rfl, ?_⟩) hHeld ?_ ?_
                                  rotate_left
                                  · rintro w' ⟨s0, s1, s2⟩
                                    go_simp
                                    with_reducible rfl
                                  rotate_left
                                  · simp only [Act.put, List.setIfInBounds_toArray, List.set_cons_zero, List.set_cons_succ, i64_w, i32_w]
                                    rfl
                                  refine one_ (i := 5) (N := some 78) #[true, true, true, true, true, true, false, false, false, false] rfl rfl (one_of HT_.out (by kernel_rfl)) (by decide) (fun K hK => ?_)
                                  refine goes_ Tryd.func14 (by kernel_rfl) rfl #[.agg #[.int .i64 x347000_3, .int .i64 0, .string (a0.extract 0 (x4_1 : Int).toNat)]] (by rfl) rfl rfl (by (try simp only [List.map_toArray, List.map_cons, List.map_nil]); first | done | rfl | (simp only [List.length_drop, List.length_take]; rfl)) ?_
                                  with_reducible refine (ancepsref11_Valid.calls k3 x347000_3 0 (a0.extract 0 (x4_1 : Int).toNat) t352 _ A74.out).mono ?_
                                  rintro e w79 ⟨rfl, hb⟩
                                  refine ⟨_, rfl, ?_⟩
                                  have n0_ := Aside0.mk (blk_below (g := gb345) (o := .cells #[.int .i64 0, .int .i64 0, .string (⟨#[]⟩ : ByteArray)] 23 (0, 0)) (by (with_reducible repeat (first | refine blk_drewN ?_ _ | refine blk_drew ?_ | refine blk_alloc ?_ _)); exact BK345.out) hb)
                                  have n1_ := Aside0.mk (blk_below (g := gb346) (o := .cells #[.int .i64 x347000_3, .int .i64 0, .string (a0.extract 0 (x4_1 : Int).toNat)] 23 (0, 0)) (by (with_reducible repeat (first | refine blk_drewN ?_ _ | refine blk_drew ?_ | refine blk_alloc ?_ _)); exact BK346.out) hb)
                                  have n2_ := Aside0.mk (below_step (by repeat (first | (with_reducible first | exact HB.out | apply below_alloc | apply pw_below_drewN | apply below_drew1 | refine below_set ?_ GE345.out | refine below_set ?_ GE346.out) | exact HB.out)) hb)
                                  clear BK345
                                  clear BK346
                                  clear HB
                                  have BK345 := n0_
                                  have BK346 := n1_
                                  have HB := n2_
                                  clear n0_ n1_ n2_
                                  (try clear hb)
                                  (try clear hb2)
                                  (try clear hk)
                                  (try clear hi)
                                  refine hK.out _ _ ⟨(blk_cell BK346.out 0).trans rfl, (blk_cell BK346.out 1).trans rfl, (blk_cell BK346.out 2).trans rfl⟩ (fun hHeld => ?_)
                                  clear hK K
                                  refine norm_ (a' := ?_) ?_ ?_
                                  rotate_left
                                  · show Act.put _ (some 78) _ = _
                                    simp only [Act.put, List.setIfInBounds_toArray, List.set_cons_zero, List.set_cons_succ, i64_w, i32_w]
                                    rfl
                                  refine pure_ (i := 6) (N := some 79) (v := ?_) (a' := ?_) #[true, true, true, true, true, true, true, false, false, false] rfl rfl (any_of HT_.out (by kernel_rfl)) (fun _ _ _ h => h) (Or.inl ⟨by rfl, ?_⟩) ?_ ?_
                                  rotate_left
                                  · intro w'
                                    go_simp
                                    with_reducible rfl
                                  rotate_left
                                  · simp only [Act.put, List.setIfInBounds_toArray, List.set_cons_zero, List.set_cons_succ, i64_w, i32_w]
                                    rfl
                                  refine pure_ (i := 7) (N := some 80) (v := ?_) (a' := ?_) #[true, true, true, true, true, true, true, true, false, false] rfl rfl (any_of HT_.out (by kernel_rfl)) (fun _ _ _ h => h) (Or.inl ⟨by rfl, ?_⟩) ?_ ?_
                                  rotate_left
                                  · intro w'
                                    go_simp
                                    with_reducible rfl
                                  rotate_left
                                  · simp only [Act.put, List.setIfInBounds_toArray, List.set_cons_zero, List.set_cons_succ, i64_w, i32_w]
                                    rfl
                                  refine one_ (i := 8) (N := none) #[true, true, true, true, true, true, true, true, true, false] rfl rfl (one_of HT_.out (by kernel_rfl)) (by decide) (fun K hK => ?_)
                                  have hs80 : w79.cell? ⟨gb345, 0, none⟩ = some (.int .i64 0) := (blk_cell BK345.out 0).trans rfl
                                  have hfs80 := blk_frozen BK345.out 0
                                  have hns80_1 := NB346_345.out
                                  have hms80_1 := NB345_346.out
                                  have hs81 : w79.cell? ⟨gb345, 1, none⟩ = some (.int .i64 0) := (blk_cell BK345.out 1).trans rfl
                                  have hfs81 := blk_frozen BK345.out 1
                                  have hns81_1 := NB346_345.out
                                  have hms81_1 := NB345_346.out
                                  have hs82 : w79.cell? ⟨gb345, 2, none⟩ = some (.string (⟨#[]⟩ : ByteArray)) := (blk_cell BK345.out 2).trans rfl
                                  have hfs82 := blk_frozen BK345.out 2
                                  have hns82_1 := NB346_345.out
                                  have hms82_1 := NB345_346.out
                                  refine skip_ (w1 := ?_) (by rfl) rfl ?_ ?_
                                  rotate_left
                                  · go_simp
                                    rfl
                                  refine hK.out _ _ ⟨((cell_far (p := ⟨gb345, _, none⟩) NB346_345.out _).trans (((cell_far (p := ⟨gb345, _, none⟩) NB346_345.out _).trans (((cell_far (p := ⟨gb345, _, none⟩) NB346_345.out _).trans (hHeld.1)))))), ((cell_far (p := ⟨gb345, _, none⟩) NB346_345.out _).trans (((cell_far (p := ⟨gb345, _, none⟩) NB346_345.out _).trans (((cell_far (p := ⟨gb345, _, none⟩) NB346_345.out _).trans (hHeld.2.1)))))), ((cell_far (p := ⟨gb345, _, none⟩) NB346_345.out _).trans (((cell_far (p := ⟨gb345, _, none⟩) NB346_345.out _).trans (((cell_far (p := ⟨gb345, _, none⟩) NB346_345.out _).trans (hHeld.2.2))))))⟩ (fun hHeld => ?_)
                                  clear hK K
                                  refine pure_ (i := 9) (N := some 3) (v := ?_) (a' := ?_) #[true, true, true, true, true, true, true, true, true, true] rfl rfl (any_of HT_.out (by kernel_rfl)) (fun _ _ _ h => h) (Or.inl ⟨by rfl, ?_⟩) ?_ ?_
                                  rotate_left
                                  · intro w'
                                    go_simp
                                    with_reducible rfl
                                  rotate_left
                                  · simp only [Act.put, List.setIfInBounds_toArray, List.set_cons_zero, List.set_cons_succ, i64_w, i32_w]
                                    rfl
                                  refine done_ (done_of HT_.out (by kernel_rfl)) ?_
                                  try go_wp2
                                  refine bodyPost_ret (results_ct rfl _ _ gb345 23 #[.int .i64 x347000_3, .int .i64 0, .string (a0.extract 0 (x4_1 : Int).toNat)] (0, 0) _ rfl (by (with_reducible repeat (first | refine blk_drewN ?_ _ | refine blk_drew ?_ | refine blk_alloc ?_ _)); refine blk_put (cs := #[.int .i64 x347000_3, .int .i64 0, .string (⟨#[]⟩ : ByteArray)]) ?_ 2 _ rfl; (with_reducible repeat (first | refine blk_drewN ?_ _ | refine blk_drew ?_ | refine blk_alloc ?_ _)); refine blk_put (cs := #[.int .i64 x347000_3, .int .i64 0, .string (⟨#[]⟩ : ByteArray)]) ?_ 1 _ rfl; (with_reducible repeat (first | refine blk_drewN ?_ _ | refine blk_drew ?_ | refine blk_alloc ?_ _)); refine blk_put (cs := #[.int .i64 0, .int .i64 0, .string (⟨#[]⟩ : ByteArray)]) ?_ 0 _ rfl; (with_reducible repeat (first | refine blk_drewN ?_ _ | refine blk_drew ?_ | refine blk_alloc ?_ _)); exact BK345.out) Tryd.underlying23 rfl (by kernel_rfl)) rfl ?_
                                  exact ⟨by first | rfl | (simp [errW_none, errW_some] <;> rfl) | (simp only [← hji36]; first | rfl | (simp [errW_none, errW_some] <;> rfl)) | (simp [*, errW_none, errW_some] <;> rfl), by repeat (first | (with_reducible first | exact HB.out | apply below_alloc | apply pw_below_drewN | apply below_drew1 | refine below_set ?_ GE345.out | refine below_set ?_ GE346.out) | exact HB.out)⟩
                                · rw [if_neg c73] at H
                                  have c73b0 : ((ji36).toList == ([] : List UInt8)) = false := beq_eq_false_iff_ne.mpr c73
                                  have c73b1 : ((ji36).toList != ([] : List UInt8)) = true := bne_iff_ne.mpr c73
                                  simp only [Option.some.injEq, Prod.mk.injEq] at H
                                  obtain ⟨rfl, rfl, rfl, rfl⟩ := H
                                  try go_wp2_with (first | ((with_reducible refine gate_callee (f := 61) rfl ?_); refine goesL_ (some 36) rfl rfl Tryd.func61 (by kernel_rfl) rfl #[] rfl (by (try simp only [List.map_toArray, List.map_cons, List.map_nil]); first | done | rfl | (simp only [List.length_drop, List.length_take]; rfl)) ?_; (with_reducible refine (ancepsref11_letters.calls  t347 _ A20.out).mono ?_); rintro e w' ⟨rfl, ⟨nd, rfl⟩⟩; refine ⟨_, rfl, ?_⟩; (try (rw [drewN_self wr]; generalize hq_ : World.drewN wr _ = wr; have n0_ : Aside0 (wr.heap[gb345]? = some (.cells #[.int .i64 0, .int .i64 0, .string (⟨#[]⟩ : ByteArray)] 23 (0, 0))) := ⟨by rw [← hq_]; exact (by (with_reducible repeat (first | refine blk_drewN ?_ _ | refine blk_drew ?_ | refine blk_alloc ?_ _)); exact BK345.out)⟩; have n1_ : Aside0 (wr.heap[gb346]? = some (.cells #[.int .i64 x347000_3, .int .i64 0, .string (a0.extract 0 (x4_1 : Int).toNat)] 23 (0, 0))) := ⟨by rw [← hq_]; exact (by (with_reducible repeat (first | refine blk_drewN ?_ _ | refine blk_drew ?_ | refine blk_alloc ?_ _)); exact BK346.out)⟩; have n2_ : Aside0 (Below w.heap.size w wr) := ⟨by rw [← hq_]; exact (by repeat (first | (with_reducible first | exact HB.out | apply below_alloc | apply pw_below_drewN | apply below_drew1 | refine below_set ?_ GE345.out | refine below_set ?_ GE346.out) | exact HB.out))⟩; clear BK345 BK346 HB hq_; have BK345 := n0_; have BK346 := n1_; have HB := n2_; clear n0_ n1_ n2_)); have hnb83 := NB346_345.out; have hnc83 := NB345_346.out; have hcz84_0 : wr.cell? ⟨gb346, 0, none⟩ = some (.int .i64 x347000_3) := (blk_cell BK346.out 0).trans rfl; have hcz84_1 : wr.cell? ⟨gb346, 1, none⟩ = some (.int .i64 0) := (blk_cell BK346.out 1).trans rfl; have hcz84_2 : wr.cell? ⟨gb346, 2, none⟩ = some (.string (a0.extract 0 (x4_1 : Int).toNat)) := (blk_cell BK346.out 2).trans rfl; have hfz84_0 := blk_frozen BK346.out 0; have hfz84_1 := blk_frozen BK346.out 1; have hfz84_2 := blk_frozen BK346.out 2) | ((with_reducible refine gate_callee (f := 16) rfl ?_); refine goesL_ (some 52) rfl rfl Tryd.func16 (by kernel_rfl) rfl #[.agg #[.int .i64 x347000_3, .int .i64 0, .string (a0.extract 0 (x4_1 : Int).toNat)]] rfl (by (try simp only [List.map_toArray, List.map_cons, List.map_nil]); first | done | rfl | (simp only [List.length_drop, List.length_take]; rfl)) ?_; (with_reducible refine (ancepsref11_Nucleus.calls x347000_3 0 (a0.extract 0 (x4_1 : Int).toNat) true _ A34.out).mono ?_); rintro e w85 ⟨rfl, hb⟩; refine ⟨_, rfl, ?_⟩; have n0_ := Aside0.mk (blk_below (g := gb345) (o := .cells #[.int .i64 0, .int .i64 0, .string (⟨#[]⟩ : ByteArray)] 23 (0, 0)) (by (with_reducible repeat (first | refine blk_drewN ?_ _ | refine blk_drew ?_ | refine blk_alloc ?_ _)); exact BK345.out) hb); have n1_ := Aside0.mk (blk_below (g := gb346) (o := .cells #[.int .i64 x347000_3, .int .i64 0, .string (a0.extract 0 (x4_1 : Int).toNat)] 23 (0, 0)) (by (with_reducible repeat (first | refine blk_drewN ?_ _ | refine blk_drew ?_ | refine blk_alloc ?_ _)); exact BK346.out) hb); have n2_ := Aside0.mk (below_step (by repeat (first | (with_reducible first | exact HB.out | apply below_alloc | apply pw_below_drewN | apply below_drew1 | refine below_set ?_ GE345.out | refine below_set ?_ GE346.out) | exact HB.out)) hb); clear BK345; clear BK346; clear HB; have BK345 := n0_; have BK346 := n1_; have HB := n2_; clear n0_ n1_ n2_; (try clear hb); (try clear hb2); (try clear hk); (try clear hi); have p39 : 0 ≤ (0 : Int) := (by omega); have q39 : 0 < ji36.size := (by have : (0 : Int) < (ji36.size : Int) := of_decide_eq_true (by first | (with_reducible assumption) | assumption); omega); have hx39 : ∀ h : 0 < ji36.size, ((ji36[0]'h).toNat : Int) = bt ji36 0 := bt_at ji36 0; clear p39; have qi39 : (0 < (ji36.size : Int)) = True := eq_true (of_decide_eq_true (by first | (with_reducible assumption) | assumption)); replace q39 := eq_true q39))
                                  have n0_ := Aside0.mk (blk_drew BK345.out)
                                  have n1_ := Aside0.mk (blk_drew BK346.out)
                                  have n2_ := Aside0.mk (below_drew1 HB.out)
                                  clear BK345
                                  clear BK346
                                  clear HB
                                  have BK345 := n0_
                                  have BK346 := n1_
                                  have HB := n2_
                                  clear n0_ n1_ n2_
                                  refine start_ (n := 10) (S := fun w' => w'.cell? ⟨gb346, 0, none⟩ = some (.int .i64 x347000_3) ∧ w'.cell? ⟨gb346, 1, none⟩ = some (.int .i64 0) ∧ w'.cell? ⟨gb346, 2, none⟩ = some (.string (a0.extract 0 (x4_1 : Int).toNat))) (ds := []) #[false, false, false, false, false, false, false, false, false, false] (by kernel_rfl) rfl rfl ⟨(blk_cell BK346.out 0).trans rfl, (blk_cell BK346.out 1).trans rfl, (blk_cell BK346.out 2).trans rfl⟩ (fun hHeld => ?_); refine with_tabW ancepsref11_one.tab19 ancepsref11_one.bits19 (fun HT_ HW_ => ?_)
                                  generalize w85.drew = w86 at BK345 BK346 HB hHeld ⊢
                                  refine pure_ (i := 1) (N := some 74) (v := ?_) (a' := ?_) #[false, true, false, false, false, false, false, false, false, false] rfl rfl (any_of HT_.out (by kernel_rfl)) (fun _ _ _ h => h) (Or.inl ⟨by rfl, ?_⟩) ?_ ?_
                                  rotate_left
                                  · intro w'
                                    go_simp
                                    with_reducible rfl
                                  rotate_left
                                  · simp only [Act.put, List.setIfInBounds_toArray, List.set_cons_zero, List.set_cons_succ, i64_w, i32_w]
                                    rfl
                                  refine pure_ (i := 2) (N := some 75) (v := ?_) (a' := ?_) #[false, true, true, false, false, false, false, false, false, false] rfl rfl (any_of HT_.out (by kernel_rfl)) (fun _ _ _ h => h) (Or.inl ⟨by rfl, ?_⟩) ?_ ?_
                                  rotate_left
                                  · intro w'
                                    go_simp
                                    with_reducible rfl
                                  rotate_left
                                  · simp only [Act.put, List.setIfInBounds_toArray, List.set_cons_zero, List.set_cons_succ, i64_w, i32_w]
                                    rfl
                                  refine pure_ (i := 3) (N := some 76) (v := ?_) (a' := ?_) #[false, true, true, true, false, false, false, false, false, false] rfl rfl (any_of HT_.out (by kernel_rfl)) (fun _ _ _ h => h) (Or.inl ⟨by rfl, ?_⟩) ?_ ?_
                                  rotate_left
                                  · intro w'
                                    go_simp
                                    with_reducible rfl
                                  rotate_left
                                  · simp only [Act.put, List.setIfInBounds_toArray, List.set_cons_zero, List.set_cons_succ, i64_w, i32_w]
                                    rfl
                                  refine pure_ (i := 4) (N := some 77) (v := undef) (a' := ?_) #[false, true, true, true, true, false, false, false, false, false] rfl rfl (any_of HT_.out (by kernel_rfl)) (fun _ _ _ h => h) (Or.inr ⟨by rfl, rfl⟩) ?_ ?_
                                  rotate_left
                                  · simp only [Act.put, List.setIfInBounds_toArray, List.set_cons_zero, List.set_cons_succ, i64_w, i32_w]
                                    rfl
                                  refine pure_ (i := 5) (N := some 78) (v := undef) (a' := ?_) #[false, true, true, true, true, true, false, false, false, false] rfl rfl (any_of HT_.out (by kernel_rfl)) (fun _ _ _ h => h) (Or.inr ⟨by rfl, rfl⟩) ?_ ?_
                                  rotate_left
                                  · simp only [Act.put, List.setIfInBounds_toArray, List.set_cons_zero, List.set_cons_succ, i64_w, i32_w]
                                    rfl
                                  refine pure_ (i := 6) (N := some 79) (v := undef) (a' := ?_) #[false, true, true, true, true, true, true, false, false, false] rfl rfl (any_of HT_.out (by kernel_rfl)) (fun _ _ _ h => h) (Or.inr ⟨by rfl, rfl⟩) ?_ ?_
                                  rotate_left
                                  · simp only [Act.put, List.setIfInBounds_toArray, List.set_cons_zero, List.set_cons_succ, i64_w, i32_w]
                                    rfl
                                  refine pure_ (i := 7) (N := some 80) (v := ?_) (a' := ?_) #[false, true, true, true, true, true, true, true, false, false] rfl rfl (any_of HT_.out (by kernel_rfl)) (fun _ _ _ h => h) (Or.inl ⟨by rfl, ?_⟩) ?_ ?_
                                  rotate_left
                                  · intro w'
                                    go_simp
                                    with_reducible rfl
                                  rotate_left
                                  · simp only [Act.put, List.setIfInBounds_toArray, List.set_cons_zero, List.set_cons_succ, i64_w, i32_w]
                                    rfl
                                  refine take_ (i := 0) (N := some 73) (v := ?_) (a' := ?_) #[true, true, true, true, true, true, true, true, false, false] rfl rfl (take_ofW HT_.out HW_.out (by kernel_rfl)) (fun _ _ _ h => h) (Or.inl ⟨by rfl, ?_⟩) hHeld ?_ ?_
                                  rotate_left
                                  · rintro w' ⟨s0, s1, s2⟩
                                    go_simp
                                    with_reducible rfl
                                  rotate_left
                                  · simp only [Act.put, List.setIfInBounds_toArray, List.set_cons_zero, List.set_cons_succ, i64_w, i32_w]
                                    rfl
                                  refine one_ (i := 8) (N := none) #[true, true, true, true, true, true, true, true, true, false] rfl rfl (one_of HT_.out (by kernel_rfl)) (by decide) (fun K hK => ?_)
                                  have hs87 : w86.cell? ⟨gb345, 0, none⟩ = some (.int .i64 0) := (blk_cell BK345.out 0).trans rfl
                                  have hfs87 := blk_frozen BK345.out 0
                                  have hns87_1 := NB346_345.out
                                  have hms87_1 := NB345_346.out
                                  have hs88 : w86.cell? ⟨gb345, 1, none⟩ = some (.int .i64 0) := (blk_cell BK345.out 1).trans rfl
                                  have hfs88 := blk_frozen BK345.out 1
                                  have hns88_1 := NB346_345.out
                                  have hms88_1 := NB345_346.out
                                  have hs89 : w86.cell? ⟨gb345, 2, none⟩ = some (.string (⟨#[]⟩ : ByteArray)) := (blk_cell BK345.out 2).trans rfl
                                  have hfs89 := blk_frozen BK345.out 2
                                  have hns89_1 := NB346_345.out
                                  have hms89_1 := NB345_346.out
                                  refine skip_ (w1 := ?_) (by rfl) rfl ?_ ?_
                                  rotate_left
                                  · go_simp
                                    rfl
                                  refine hK.out _ _ ⟨((cell_far (p := ⟨gb345, _, none⟩) NB346_345.out _).trans (((cell_far (p := ⟨gb345, _, none⟩) NB346_345.out _).trans (((cell_far (p := ⟨gb345, _, none⟩) NB346_345.out _).trans (hHeld.1)))))), ((cell_far (p := ⟨gb345, _, none⟩) NB346_345.out _).trans (((cell_far (p := ⟨gb345, _, none⟩) NB346_345.out _).trans (((cell_far (p := ⟨gb345, _, none⟩) NB346_345.out _).trans (hHeld.2.1)))))), ((cell_far (p := ⟨gb345, _, none⟩) NB346_345.out _).trans (((cell_far (p := ⟨gb345, _, none⟩) NB346_345.out _).trans (((cell_far (p := ⟨gb345, _, none⟩) NB346_345.out _).trans (hHeld.2.2))))))⟩ (fun hHeld => ?_)
                                  clear hK K
                                  refine pure_ (i := 9) (N := some 3) (v := ?_) (a' := ?_) #[true, true, true, true, true, true, true, true, true, true] rfl rfl (any_of HT_.out (by kernel_rfl)) (fun _ _ _ h => h) (Or.inl ⟨by rfl, ?_⟩) ?_ ?_
                                  rotate_left
                                  · intro w'
                                    go_simp
                                    with_reducible rfl
                                  rotate_left
                                  · simp only [Act.put, List.setIfInBounds_toArray, List.set_cons_zero, List.set_cons_succ, i64_w, i32_w]
                                    rfl
                                  refine done_ (done_of HT_.out (by kernel_rfl)) ?_
                                  try go_wp2
                                  refine bodyPost_ret (results_ct rfl _ _ gb345 23 #[.int .i64 x347000_3, .int .i64 0, .string (a0.extract 0 (x4_1 : Int).toNat)] (0, 0) _ rfl (by (with_reducible repeat (first | refine blk_drewN ?_ _ | refine blk_drew ?_ | refine blk_alloc ?_ _)); refine blk_put (cs := #[.int .i64 x347000_3, .int .i64 0, .string (⟨#[]⟩ : ByteArray)]) ?_ 2 _ rfl; (with_reducible repeat (first | refine blk_drewN ?_ _ | refine blk_drew ?_ | refine blk_alloc ?_ _)); refine blk_put (cs := #[.int .i64 x347000_3, .int .i64 0, .string (⟨#[]⟩ : ByteArray)]) ?_ 1 _ rfl; (with_reducible repeat (first | refine blk_drewN ?_ _ | refine blk_drew ?_ | refine blk_alloc ?_ _)); refine blk_put (cs := #[.int .i64 0, .int .i64 0, .string (⟨#[]⟩ : ByteArray)]) ?_ 0 _ rfl; (with_reducible repeat (first | refine blk_drewN ?_ _ | refine blk_drew ?_ | refine blk_alloc ?_ _)); exact BK345.out) Tryd.underlying23 rfl (by kernel_rfl)) rfl ?_
                                  exact ⟨by first | rfl | (simp [errW_none, errW_some] <;> rfl) | (simp only [← hji36]; first | rfl | (simp [errW_none, errW_some] <;> rfl)) | (simp [*, errW_none, errW_some] <;> rfl), by repeat (first | (with_reducible first | exact HB.out | apply below_alloc | apply pw_below_drewN | apply below_drew1 | refine below_set ?_ GE345.out | refine below_set ?_ GE346.out) | exact HB.out)⟩
                            · rw [if_neg c38] at H
                              exact absurd H (by simp)
                          · rw [if_neg c37] at H
                            have c37b0 : (((ji36).size : Int) == 1) = false := beq_eq_false_iff_ne.mpr c37
                            have c37b1 : (((ji36).size : Int) != 1) = true := bne_iff_ne.mpr c37
                            by_cases c90 : (ji36).toList = ([] : List UInt8)
                            · rw [if_pos c90] at H
                              have c90b0 : ((ji36).toList == ([] : List UInt8)) = true := beq_iff_eq.mpr c90
                              have c90b1 : ((ji36).toList != ([] : List UInt8)) = false := bne_eq_false_iff_eq.mpr c90
                              clear c90
                              replace H := Option.bind_eq_some_iff.mp H
                              obtain ⟨t353, A910, H⟩ := H
                              replace H : (some (x347000_3, 0, (a0.extract 0 (x4_1 : Int).toNat), (t353 == 0))) = some (r1, r2, r3, r4) := H
                              have A91 := Aside0.mk A910
                              clear A910
                              simp only [Option.some.injEq, Prod.mk.injEq] at H
                              obtain ⟨rfl, rfl, rfl, rfl⟩ := H
                              try go_wp2_with (first | ((with_reducible refine gate_callee (f := 61) rfl ?_); refine goesL_ (some 36) rfl rfl Tryd.func61 (by kernel_rfl) rfl #[] rfl (by (try simp only [List.map_toArray, List.map_cons, List.map_nil]); first | done | rfl | (simp only [List.length_drop, List.length_take]; rfl)) ?_; (with_reducible refine (ancepsref11_letters.calls  t347 _ A20.out).mono ?_); rintro e w' ⟨rfl, ⟨nd, rfl⟩⟩; refine ⟨_, rfl, ?_⟩; (try (rw [drewN_self wr]; generalize hq_ : World.drewN wr _ = wr; have n0_ : Aside0 (wr.heap[gb345]? = some (.cells #[.int .i64 0, .int .i64 0, .string (⟨#[]⟩ : ByteArray)] 23 (0, 0))) := ⟨by rw [← hq_]; exact (by (with_reducible repeat (first | refine blk_drewN ?_ _ | refine blk_drew ?_ | refine blk_alloc ?_ _)); exact BK345.out)⟩; have n1_ : Aside0 (wr.heap[gb346]? = some (.cells #[.int .i64 x347000_3, .int .i64 0, .string (a0.extract 0 (x4_1 : Int).toNat)] 23 (0, 0))) := ⟨by rw [← hq_]; exact (by (with_reducible repeat (first | refine blk_drewN ?_ _ | refine blk_drew ?_ | refine blk_alloc ?_ _)); exact BK346.out)⟩; have n2_ : Aside0 (Below w.heap.size w wr) := ⟨by rw [← hq_]; exact (by repeat (first | (with_reducible first | exact HB.out | apply below_alloc | apply pw_below_drewN | apply below_drew1 | refine below_set ?_ GE345.out | refine below_set ?_ GE346.out) | exact HB.out))⟩; clear BK345 BK346 HB hq_; have BK345 := n0_; have BK346 := n1_; have HB := n2_; clear n0_ n1_ n2_)); have hnb92 := NB346_345.out; have hnc92 := NB345_346.out; have hcz93_0 : wr.cell? ⟨gb346, 0, none⟩ = some (.int .i64 x347000_3) := (blk_cell BK346.out 0).trans rfl; have hcz93_1 : wr.cell? ⟨gb346, 1, none⟩ = some (.int .i64 0) := (blk_cell BK346.out 1).trans rfl; have hcz93_2 : wr.cell? ⟨gb346, 2, none⟩ = some (.string (a0.extract 0 (x4_1 : Int).toNat)) := (blk_cell BK346.out 2).trans rfl; have hfz93_0 := blk_frozen BK346.out 0; have hfz93_1 := blk_frozen BK346.out 1; have hfz93_2 := blk_frozen BK346.out 2) | ((with_reducible refine gate_callee (f := 16) rfl ?_); refine goesL_ (some 52) rfl rfl Tryd.func16 (by kernel_rfl) rfl #[.agg #[.int .i64 x347000_3, .int .i64 0, .string (a0.extract 0 (x4_1 : Int).toNat)]] rfl (by (try simp only [List.map_toArray, List.map_cons, List.map_nil]); first | done | rfl | (simp only [List.length_drop, List.length_take]; rfl)) ?_; (with_reducible refine (ancepsref11_Nucleus.calls x347000_3 0 (a0.extract 0 (x4_1 : Int).toNat) true _ A34.out).mono ?_); rintro e w94 ⟨rfl, hb⟩; refine ⟨_, rfl, ?_⟩; have n0_ := Aside0.mk (blk_below (g := gb345) (o := .cells #[.int .i64 0, .int .i64 0, .string (⟨#[]⟩ : ByteArray)] 23 (0, 0)) (by (with_reducible repeat (first | refine blk_drewN ?_ _ | refine blk_drew ?_ | refine blk_alloc ?_ _)); exact BK345.out) hb); have n1_ := Aside0.mk (blk_below (g := gb346) (o := .cells #[.int .i64 x347000_3, .int .i64 0, .string (a0.extract 0 (x4_1 : Int).toNat)] 23 (0, 0)) (by (with_reducible repeat (first | refine blk_drewN ?_ _ | refine blk_drew ?_ | refine blk_alloc ?_ _)); exact BK346.out) hb); have n2_ := Aside0.mk (below_step (by repeat (first | (with_reducible first | exact HB.out | apply below_alloc | apply pw_below_drewN | apply below_drew1 | refine below_set ?_ GE345.out | refine below_set ?_ GE346.out) | exact HB.out)) hb); clear BK345; clear BK346; clear HB; have BK345 := n0_; have BK346 := n1_; have HB := n2_; clear n0_ n1_ n2_; (try clear hb); (try clear hb2); (try clear hk); (try clear hi)))
                              have n0_ := Aside0.mk (blk_drew BK345.out)
                              have n1_ := Aside0.mk (blk_drew BK346.out)
                              have n2_ := Aside0.mk (below_drew1 HB.out)
                              clear BK345
                              clear BK346
                              clear HB
                              have BK345 := n0_
                              have BK346 := n1_
                              have HB := n2_
                              clear n0_ n1_ n2_
                              refine start_ (n := 10) (S := fun w' => w'.cell? ⟨gb346, 0, none⟩ = some (.int .i64 x347000_3) ∧ w'.cell? ⟨gb346, 1, none⟩ = some (.int .i64 0) ∧ w'.cell? ⟨gb346, 2, none⟩ = some (.string (a0.extract 0 (x4_1 : Int).toNat))) (ds := []) #[false, false, false, false, false, false, false, false, false, false] (by kernel_rfl) rfl rfl ⟨(blk_cell BK346.out 0).trans rfl, (blk_cell BK346.out 1).trans rfl, (blk_cell BK346.out 2).trans rfl⟩ (fun hHeld => ?_); refine with_tabW ancepsref11_one.tab19 ancepsref11_one.bits19 (fun HT_ HW_ => ?_)
                              generalize w94.drew = w95 at BK345 BK346 HB hHeld ⊢
                              refine pure_ (i := 1) (N := some 74) (v := ?_) (a' := ?_) #[false, true, false, false, false, false, false, false, false, false] rfl rfl (any_of HT_.out (by kernel_rfl)) (fun _ _ _ h => h) (Or.inl ⟨by rfl, ?_⟩) ?_ ?_
                              rotate_left
                              · intro w'
                                go_simp
                                with_reducible rfl
                              rotate_left
                              · simp only [Act.put, List.setIfInBounds_toArray, List.set_cons_zero, List.set_cons_succ, i64_w, i32_w]
                                rfl
                              refine pure_ (i := 2) (N := some 75) (v := ?_) (a' := ?_) #[false, true, true, false, false, false, false, false, false, false] rfl rfl (any_of HT_.out (by kernel_rfl)) (fun _ _ _ h => h) (Or.inl ⟨by rfl, ?_⟩) ?_ ?_
                              rotate_left
                              · intro w'
                                go_simp
                                with_reducible rfl
                              rotate_left
                              · simp only [Act.put, List.setIfInBounds_toArray, List.set_cons_zero, List.set_cons_succ, i64_w, i32_w]
                                rfl
                              refine pure_ (i := 3) (N := some 76) (v := ?_) (a' := ?_) #[false, true, true, true, false, false, false, false, false, false] rfl rfl (any_of HT_.out (by kernel_rfl)) (fun _ _ _ h => h) (Or.inl ⟨by rfl, ?_⟩) ?_ ?_
                              rotate_left
                              · intro w'
                                go_simp
                                with_reducible rfl
                              rotate_left
                              · simp only [Act.put, List.setIfInBounds_toArray, List.set_cons_zero, List.set_cons_succ, i64_w, i32_w]
                                rfl
                              refine take_ (i := 0) (N := some 73) (v := ?_) (a' := ?_) #[true, true, true, true, false, false, false, false, false, false] rfl rfl (take_ofW HT_.out HW_.out (by kernel_rfl)) (fun _ _ _ h => h) (Or.inl ⟨by rfl, ?_⟩) hHeld ?_ ?_
                              rotate_left
                              · rintro w' ⟨s0, s1, s2⟩
                                go_simp
                                with_reducible rfl
                              rotate_left
                              · simp only [Act.put, List.setIfInBounds_toArray, List.set_cons_zero, List.set_cons_succ, i64_w, i32_w]
                                rfl
                              refine take_ (i := 4) (N := some 77) (v := ?_) (a' := ?_) #[true, true, true, true, true, false, false, false, false, false] rfl rfl (take_ofW HT_.out HW_.out (by kernel_rfl)) (fun _ _ _ h => h) (Or.inl ⟨by rfl, ?_⟩) hHeld ?_ ?_
                              rotate_left
                              · rintro w' ⟨s0, s1, s2⟩
                                go_simp
                                with_reducible rfl
                              rotate_left
                              · simp only [Act.put, List.setIfInBounds_toArray, List.set_cons_zero, List.set_cons_succ, i64_w, i32_w]
                                rfl
                              refine one_ (i := 5) (N := some 78) #[true, true, true, true, true, true, false, false, false, false] rfl rfl (one_of HT_.out (by kernel_rfl)) (by decide) (fun K hK => ?_)
                              refine goes_ Tryd.func14 (by kernel_rfl) rfl #[.agg #[.int .i64 x347000_3, .int .i64 0, .string (a0.extract 0 (x4_1 : Int).toNat)]] (by rfl) rfl rfl (by (try simp only [List.map_toArray, List.map_cons, List.map_nil]); first | done | rfl | (simp only [List.length_drop, List.length_take]; rfl)) ?_
                              with_reducible refine (ancepsref11_Valid.calls k3 x347000_3 0 (a0.extract 0 (x4_1 : Int).toNat) t353 _ A91.out).mono ?_
                              rintro e w96 ⟨rfl, hb⟩
                              refine ⟨_, rfl, ?_⟩
                              have n0_ := Aside0.mk (blk_below (g := gb345) (o := .cells #[.int .i64 0, .int .i64 0, .string (⟨#[]⟩ : ByteArray)] 23 (0, 0)) (by (with_reducible repeat (first | refine blk_drewN ?_ _ | refine blk_drew ?_ | refine blk_alloc ?_ _)); exact BK345.out) hb)
                              have n1_ := Aside0.mk (blk_below (g := gb346) (o := .cells #[.int .i64 x347000_3, .int .i64 0, .string (a0.extract 0 (x4_1 : Int).toNat)] 23 (0, 0)) (by (with_reducible repeat (first | refine blk_drewN ?_ _ | refine blk_drew ?_ | refine blk_alloc ?_ _)); exact BK346.out) hb)
                              have n2_ := Aside0.mk (below_step (by repeat (first | (with_reducible first | exact HB.out | apply below_alloc | apply pw_below_drewN | apply below_drew1 | refine below_set ?_ GE345.out | refine below_set ?_ GE346.out) | exact HB.out)) hb)
                              clear BK345
                              clear BK346
                              clear HB
                              have BK345 := n0_
                              have BK346 := n1_
                              have HB := n2_
                              clear n0_ n1_ n2_
                              (try clear hb)
                              (try clear hb2)
                              (try clear hk)
                              (try clear hi)
                              refine hK.out _ _ ⟨(blk_cell BK346.out 0).trans rfl, (blk_cell BK346.out 1).trans rfl, (blk_cell BK346.out 2).trans rfl⟩ (fun hHeld => ?_)
                              clear hK K
                              refine norm_ (a' := ?_) ?_ ?_
                              rotate_left
                              · show Act.put _ (some 78) _ = _
                                simp only [Act.put, List.setIfInBounds_toArray, List.set_cons_zero, List.set_cons_succ, i64_w, i32_w]
                                rfl
                              refine pure_ (i := 6) (N := some 79) (v := ?_) (a' := ?_) #[true, true, true, true, true, true, true, false, false, false] rfl rfl (any_of HT_.out (by kernel_rfl)) (fun _ _ _ h => h) (Or.inl ⟨by rfl, ?_⟩) ?_ ?_
                              rotate_left
                              · intro w'
                                go_simp
                                with_reducible rfl
                              rotate_left
                              · simp only [Act.put, List.setIfInBounds_toArray, List.set_cons_zero, List.set_cons_succ, i64_w, i32_w]
                                rfl
                              refine pure_ (i := 7) (N := some 80) (v := ?_) (a' := ?_) #[true, true, true, true, true, true, true, true, false, false] rfl rfl (any_of HT_.out (by kernel_rfl)) (fun _ _ _ h => h) (Or.inl ⟨by rfl, ?_⟩) ?_ ?_
                              rotate_left
                              · intro w'
                                go_simp
                                with_reducible rfl
                              rotate_left
                              · simp only [Act.put, List.setIfInBounds_toArray, List.set_cons_zero, List.set_cons_succ, i64_w, i32_w]
                                rfl
                              refine one_ (i := 8) (N := none) #[true, true, true, true, true, true, true, true, true, false] rfl rfl (one_of HT_.out (by kernel_rfl)) (by decide) (fun K hK => ?_)
                              have hs97 : w96.cell? ⟨gb345, 0, none⟩ = some (.int .i64 0) := (blk_cell BK345.out 0).trans rfl
                              have hfs97 := blk_frozen BK345.out 0
                              have hns97_1 := NB346_345.out
                              have hms97_1 := NB345_346.out
                              have hs98 : w96.cell? ⟨gb345, 1, none⟩ = some (.int .i64 0) := (blk_cell BK345.out 1).trans rfl
                              have hfs98 := blk_frozen BK345.out 1
                              have hns98_1 := NB346_345.out
                              have hms98_1 := NB345_346.out
                              have hs99 : w96.cell? ⟨gb345, 2, none⟩ = some (.string (⟨#[]⟩ : ByteArray)) := (blk_cell BK345.out 2).trans rfl
                              have hfs99 := blk_frozen BK345.out 2
                              have hns99_1 := NB346_345.out
                              have hms99_1 := NB345_346.out
                              refine skip_ (w1 := ?_) (by rfl) rfl ?_ ?_
                              rotate_left
                              · go_simp
                                rfl
                              refine hK.out _ _ ⟨((cell_far (p := ⟨gb345, _, none⟩) NB346_345.out _).trans (((cell_far (p := ⟨gb345, _, none⟩) NB346_345.out _).trans (((cell_far (p := ⟨gb345, _, none⟩) NB346_345.out _).trans (hHeld.1)))))), ((cell_far (p := ⟨gb345, _, none⟩) NB346_345.out _).trans (((cell_far (p := ⟨gb345, _, none⟩) NB346_345.out _).trans (((cell_far (p := ⟨gb345, _, none⟩) NB346_345.out _).trans (hHeld.2.1)))))), ((cell_far (p := ⟨gb345, _, none⟩) NB346_345.out _).trans (((cell_far (p := ⟨gb345, _, none⟩) NB346_345.out _).trans (((cell_far (p := ⟨gb345, _, none⟩) NB346_345.out _).trans (hHeld.2.2))))))⟩ (fun hHeld => ?_)
                              clear hK K
                              refine pure_ (i := 9) (N := some 3) (v := ?_) (a' := ?_) #[true, true, true, true, true, true, true, true, true, true] rfl rfl (any_of HT_.out (by kernel_rfl)) (fun _ _ _ h => h) (Or.inl ⟨by rfl, ?_⟩) ?_ ?_
                              rotate_left
                              · intro w'
                                go_simp
                                with_reducible rfl
                              rotate_left
                              · simp only [Act.put, List.setIfInBounds_toArray, List.set_cons_zero, List.set_cons_succ, i64_w, i32_w]
                                rfl
                              refine done_ (done_of HT_.out (by kernel_rfl)) ?_
                              try go_wp2
                              refine bodyPost_ret (results_ct rfl _ _ gb345 23 #[.int .i64 x347000_3, .int .i64 0, .string (a0.extract 0 (x4_1 : Int).toNat)] (0, 0) _ rfl (by (with_reducible repeat (first | refine blk_drewN ?_ _ | refine blk_drew ?_ | refine blk_alloc ?_ _)); refine blk_put (cs := #[.int .i64 x347000_3, .int .i64 0, .string (⟨#[]⟩ : ByteArray)]) ?_ 2 _ rfl; (with_reducible repeat (first | refine blk_drewN ?_ _ | refine blk_drew ?_ | refine blk_alloc ?_ _)); refine blk_put (cs := #[.int .i64 x347000_3, .int .i64 0, .string (⟨#[]⟩ : ByteArray)]) ?_ 1 _ rfl; (with_reducible repeat (first | refine blk_drewN ?_ _ | refine blk_drew ?_ | refine blk_alloc ?_ _)); refine blk_put (cs := #[.int .i64 0, .int .i64 0, .string (⟨#[]⟩ : ByteArray)]) ?_ 0 _ rfl; (with_reducible repeat (first | refine blk_drewN ?_ _ | refine blk_drew ?_ | refine blk_alloc ?_ _)); exact BK345.out) Tryd.underlying23 rfl (by kernel_rfl)) rfl ?_
                              exact ⟨by first | rfl | (simp [errW_none, errW_some] <;> rfl) | (simp only [← hji36]; first | rfl | (simp [errW_none, errW_some] <;> rfl)) | (simp [*, errW_none, errW_some] <;> rfl), by repeat (first | (with_reducible first | exact HB.out | apply below_alloc | apply pw_below_drewN | apply below_drew1 | refine below_set ?_ GE345.out | refine below_set ?_ GE346.out) | exact HB.out)⟩
                            · rw [if_neg c90] at H
                              have c90b0 : ((ji36).toList == ([] : List UInt8)) = false := beq_eq_false_iff_ne.mpr c90
                              have c90b1 : ((ji36).toList != ([] : List UInt8)) = true := bne_iff_ne.mpr c90
                              simp only [Option.some.injEq, Prod.mk.injEq] at H
                              obtain ⟨rfl, rfl, rfl, rfl⟩ := H
                              try go_wp2_with (first | ((with_reducible refine gate_callee (f := 61) rfl ?_); refine goesL_ (some 36) rfl rfl Tryd.func61 (by kernel_rfl) rfl #[] rfl (by (try simp only [List.map_toArray, List.map_cons, List.map_nil]); first | done | rfl | (simp only [List.length_drop, List.length_take]; rfl)) ?_; (with_reducible refine (ancepsref11_letters.calls  t347 _ A20.out).mono ?_); rintro e w' ⟨rfl, ⟨nd, rfl⟩⟩; refine ⟨_, rfl, ?_⟩; (try (rw [drewN_self wr]; generalize hq_ : World.drewN wr _ = wr; have n0_ : Aside0 (wr.heap[gb345]? = some (.cells #[.int .i64 0, .int .i64 0, .string (⟨#[]⟩ : ByteArray)] 23 (0, 0))) := ⟨by rw [← hq_]; exact (by (with_reducible repeat (first | refine blk_drewN ?_ _ | refine blk_drew ?_ | refine blk_alloc ?_ _)); exact BK345.out)⟩; have n1_ : Aside0 (wr.heap[gb346]? = some (.cells #[.int .i64 x347000_3, .int .i64 0, .string (a0.extract 0 (x4_1 : Int).toNat)] 23 (0, 0))) := ⟨by rw [← hq_]; exact (by (with_reducible repeat (first | refine blk_drewN ?_ _ | refine blk_drew ?_ | refine blk_alloc ?_ _)); exact BK346.out)⟩; have n2_ : Aside0 (Below w.heap.size w wr) := ⟨by rw [← hq_]; exact (by repeat (first | (with_reducible first | exact HB.out | apply below_alloc | apply pw_below_drewN | apply below_drew1 | refine below_set ?_ GE345.out | refine below_set ?_ GE346.out) | exact HB.out))⟩; clear BK345 BK346 HB hq_; have BK345 := n0_; have BK346 := n1_; have HB := n2_; clear n0_ n1_ n2_)); have hnb100 := NB346_345.out; have hnc100 := NB345_346.out; have hcz101_0 : wr.cell? ⟨gb346, 0, none⟩ = some (.int .i64 x347000_3) := (blk_cell BK346.out 0).trans rfl; have hcz101_1 : wr.cell? ⟨gb346, 1, none⟩ = some (.int .i64 0) := (blk_cell BK346.out 1).trans rfl; have hcz101_2 : wr.cell? ⟨gb346, 2, none⟩ = some (.string (a0.extract 0 (x4_1 : Int).toNat)) := (blk_cell BK346.out 2).trans rfl; have hfz101_0 := blk_frozen BK346.out 0; have hfz101_1 := blk_frozen BK346.out 1; have hfz101_2 := blk_frozen BK346.out 2) | ((with_reducible refine gate_callee (f := 16) rfl ?_); refine goesL_ (some 52) rfl rfl Tryd.func16 (by kernel_rfl) rfl #[.agg #[.int .i64 x347000_3, .int .i64 0, .string (a0.extract 0 (x4_1 : Int).toNat)]] rfl (by (try simp only [List.map_toArray, List.map_cons, List.map_nil]); first | done | rfl | (simp only [List.length_drop, List.length_take]; rfl)) ?_; (with_reducible refine (ancepsref11_Nucleus.calls x347000_3 0 (a0.extract 0 (x4_1 : Int).toNat) true _ A34.out).mono ?_); rintro e w102 ⟨rfl, hb⟩; refine ⟨_, rfl, ?_⟩; have n0_ := Aside0.mk (blk_below (g := gb345) (o := .cells #[.int .i64 0, .int .i64 0, .string (⟨#[]⟩ : ByteArray)] 23 (0, 0)) (by (with_reducible repeat (first | refine blk_drewN ?_ _ | refine blk_drew ?_ | refine blk_alloc ?_ _)); exact BK345.out) hb); have n1_ := Aside0.mk (blk_below (g := gb346) (o := .cells #[.int .i64 x347000_3, .int .i64 0, .string (a0.extract 0 (x4_1 : Int).toNat)] 23 (0, 0)) (by (with_reducible repeat (first | refine blk_drewN ?_ _ | refine blk_drew ?_ | refine blk_alloc ?_ _)); exact BK346.out) hb); have n2_ := Aside0.mk (below_step (by repeat (first | (with_reducible first | exact HB.out | apply below_alloc | apply pw_below_drewN | apply below_drew1 | refine below_set ?_ GE345.out | refine below_set ?_ GE346.out) | exact HB.out)) hb); clear BK345; clear BK346; clear HB; have BK345 := n0_; have BK346 := n1_; have HB := n2_; clear n0_ n1_ n2_; (try clear hb); (try clear hb2); (try clear hk); (try clear hi)))
                              have n0_ := Aside0.mk (blk_drew BK345.out)
                              have n1_ := Aside0.mk (blk_drew BK346.out)
                              have n2_ := Aside0.mk (below_drew1 HB.out)
                              clear BK345
                              clear BK346
                              clear HB
                              have BK345 := n0_
                              have BK346 := n1_
                              have HB := n2_
                              clear n0_ n1_ n2_
                              refine start_ (n := 10) (S := fun w' => w'.cell? ⟨gb346, 0, none⟩ = some (.int .i64 x347000_3) ∧ w'.cell? ⟨gb346, 1, none⟩ = some (.int .i64 0) ∧ w'.cell? ⟨gb346, 2, none⟩ = some (.string (a0.extract 0 (x4_1 : Int).toNat))) (ds := []) #[false, false, false, false, false, false, false, false, false, false] (by kernel_rfl) rfl rfl ⟨(blk_cell BK346.out 0).trans rfl, (blk_cell BK346.out 1).trans rfl, (blk_cell BK346.out 2).trans rfl⟩ (fun hHeld => ?_); refine with_tabW ancepsref11_one.tab19 ancepsref11_one.bits19 (fun HT_ HW_ => ?_)
                              generalize w102.drew = w103 at BK345 BK346 HB hHeld ⊢
                              refine pure_ (i := 1) (N := some 74) (v := ?_) (a' := ?_) #[false, true, false, false, false, false, false, false, false, false] rfl rfl (any_of HT_.out (by kernel_rfl)) (fun _ _ _ h => h) (Or.inl ⟨by rfl, ?_⟩) ?_ ?_
                              rotate_left
                              · intro w'
                                go_simp
                                with_reducible rfl
                              rotate_left
                              · simp only [Act.put, List.setIfInBounds_toArray, List.set_cons_zero, List.set_cons_succ, i64_w, i32_w]
                                rfl
                              refine pure_ (i := 2) (N := some 75) (v := ?_) (a' := ?_) #[false, true, true, false, false, false, false, false, false, false] rfl rfl (any_of HT_.out (by kernel_rfl)) (fun _ _ _ h => h) (Or.inl ⟨by rfl, ?_⟩) ?_ ?_
                              rotate_left
                              · intro w'
                                go_simp
                                with_reducible rfl
                              rotate_left
                              · simp only [Act.put, List.setIfInBounds_toArray, List.set_cons_zero, List.set_cons_succ, i64_w, i32_w]
                                rfl
                              refine pure_ (i := 3) (N := some 76) (v := ?_) (a' := ?_) #[false, true, true, true, false, false, false, false, false, false] rfl rfl (any_of HT_.out (by kernel_rfl)) (fun _ _ _ h => h) (Or.inl ⟨by rfl, ?_⟩) ?_ ?_
                              rotate_left
                              · intro w'
                                go_simp
                                with_reducible rfl
                              rotate_left
                              · simp only [Act.put, List.setIfInBounds_toArray, List.set_cons_zero, List.set_cons_succ, i64_w, i32_w]
                                rfl
                              refine pure_ (i := 4) (N := some 77) (v := undef) (a' := ?_) #[false, true, true, true, true, false, false, false, false, false] rfl rfl (any_of HT_.out (by kernel_rfl)) (fun _ _ _ h => h) (Or.inr ⟨by rfl, rfl⟩) ?_ ?_
                              rotate_left
                              · simp only [Act.put, List.setIfInBounds_toArray, List.set_cons_zero, List.set_cons_succ, i64_w, i32_w]
                                rfl
                              refine pure_ (i := 5) (N := some 78) (v := undef) (a' := ?_) #[false, true, true, true, true, true, false, false, false, false] rfl rfl (any_of HT_.out (by kernel_rfl)) (fun _ _ _ h => h) (Or.inr ⟨by rfl, rfl⟩) ?_ ?_
                              rotate_left
                              · simp only [Act.put, List.setIfInBounds_toArray, List.set_cons_zero, List.set_cons_succ, i64_w, i32_w]
                                rfl
                              refine pure_ (i := 6) (N := some 79) (v := undef) (a' := ?_) #[false, true, true, true, true, true, true, false, false, false] rfl rfl (any_of HT_.out (by kernel_rfl)) (fun _ _ _ h => h) (Or.inr ⟨by rfl, rfl⟩) ?_ ?_
                              rotate_left
                              · simp only [Act.put, List.setIfInBounds_toArray, List.set_cons_zero, List.set_cons_succ, i64_w, i32_w]
                                rfl
                              refine pure_ (i := 7) (N := some 80) (v := ?_) (a' := ?_) #[false, true, true, true, true, true, true, true, false, false] rfl rfl (any_of HT_.out (by kernel_rfl)) (fun _ _ _ h => h) (Or.inl ⟨by rfl, ?_⟩) ?_ ?_
                              rotate_left
                              · intro w'
                                go_simp
                                with_reducible rfl
                              rotate_left
                              · simp only [Act.put, List.setIfInBounds_toArray, List.set_cons_zero, List.set_cons_succ, i64_w, i32_w]
                                rfl
                              refine take_ (i := 0) (N := some 73) (v := ?_) (a' := ?_) #[true, true, true, true, true, true, true, true, false, false] rfl rfl (take_ofW HT_.out HW_.out (by kernel_rfl)) (fun _ _ _ h => h) (Or.inl ⟨by rfl, ?_⟩) hHeld ?_ ?_
                              rotate_left
                              · rintro w' ⟨s0, s1, s2⟩
                                go_simp
                                with_reducible rfl
                              rotate_left
                              · simp only [Act.put, List.setIfInBounds_toArray, List.set_cons_zero, List.set_cons_succ, i64_w, i32_w]
                                rfl
                              refine one_ (i := 8) (N := none) #[true, true, true, true, true, true, true, true, true, false] rfl rfl (one_of HT_.out (by kernel_rfl)) (by decide) (fun K hK => ?_)
                              have hs104 : w103.cell? ⟨gb345, 0, none⟩ = some (.int .i64 0) := (blk_cell BK345.out 0).trans rfl
                              have hfs104 := blk_frozen BK345.out 0
                              have hns104_1 := NB346_345.out
                              have hms104_1 := NB345_346.out
                              have hs105 : w103.cell? ⟨gb345, 1, none⟩ = some (.int .i64 0) := (blk_cell BK345.out 1).trans rfl
                              have hfs105 := blk_frozen BK345.out 1
                              have hns105_1 := NB346_345.out
                              have hms105_1 := NB345_346.out
                              have hs106 : w103.cell? ⟨gb345, 2, none⟩ = some (.string (⟨#[]⟩ : ByteArray)) := (blk_cell BK345.out 2).trans rfl
                              have hfs106 := blk_frozen BK345.out 2
                              have hns106_1 := NB346_345.out
                              have hms106_1 := NB345_346.out
                              refine skip_ (w1 := ?_) (by rfl) rfl ?_ ?_
                              rotate_left
                              · go_simp
                                rfl
                              refine hK.out _ _ ⟨((cell_far (p := ⟨gb345, _, none⟩) NB346_345.out _).trans (((cell_far (p := ⟨gb345, _, none⟩) NB346_345.out _).trans (((cell_far (p := ⟨gb345, _, none⟩) NB346_345.out _).trans (hHeld.1)))))), ((cell_far (p := ⟨gb345, _, none⟩) NB346_345.out _).trans (((cell_far (p := ⟨gb345, _, none⟩) NB346_345.out _).trans (((cell_far (p := ⟨gb345, _, none⟩) NB346_345.out _).trans (hHeld.2.1)))))), ((cell_far (p := ⟨gb345, _, none⟩) NB346_345.out _).trans (((cell_far (p := ⟨gb345, _, none⟩) NB346_345.out _).trans (((cell_far (p := ⟨gb345, _, none⟩) NB346_345.out _).trans (hHeld.2.2))))))⟩ (fun hHeld => ?_)
                              clear hK K
                              refine pure_ (i := 9) (N := some 3) (v := ?_) (a' := ?_) #[true, true, true, true, true, true, true, true, true, true] rfl rfl (any_of HT_.out (by kernel_rfl)) (fun _ _ _ h => h) (Or.inl ⟨by rfl, ?_⟩) ?_ ?_
                              rotate_left
                              · intro w'
                                go_simp
                                with_reducible rfl
                              rotate_left
                              · simp only [Act.put, List.setIfInBounds_toArray, List.set_cons_zero, List.set_cons_succ, i64_w, i32_w]
                                rfl
                              refine done_ (done_of HT_.out (by kernel_rfl)) ?_
                              try go_wp2
                              refine bodyPost_ret (results_ct rfl _ _ gb345 23 #[.int .i64 x347000_3, .int .i64 0, .string (a0.extract 0 (x4_1 : Int).toNat)] (0, 0) _ rfl (by (with_reducible repeat (first | refine blk_drewN ?_ _ | refine blk_drew ?_ | refine blk_alloc ?_ _)); refine blk_put (cs := #[.int .i64 x347000_3, .int .i64 0, .string (⟨#[]⟩ : ByteArray)]) ?_ 2 _ rfl; (with_reducible repeat (first | refine blk_drewN ?_ _ | refine blk_drew ?_ | refine blk_alloc ?_ _)); refine blk_put (cs := #[.int .i64 x347000_3, .int .i64 0, .string (⟨#[]⟩ : ByteArray)]) ?_ 1 _ rfl; (with_reducible repeat (first | refine blk_drewN ?_ _ | refine blk_drew ?_ | refine blk_alloc ?_ _)); refine blk_put (cs := #[.int .i64 0, .int .i64 0, .string (⟨#[]⟩ : ByteArray)]) ?_ 0 _ rfl; (with_reducible repeat (first | refine blk_drewN ?_ _ | refine blk_drew ?_ | refine blk_alloc ?_ _)); exact BK345.out) Tryd.underlying23 rfl (by kernel_rfl)) rfl ?_
                              exact ⟨by first | rfl | (simp [errW_none, errW_some] <;> rfl) | (simp only [← hji36]; first | rfl | (simp [errW_none, errW_some] <;> rfl)) | (simp [*, errW_none, errW_some] <;> rfl), by repeat (first | (with_reducible first | exact HB.out | apply below_alloc | apply pw_below_drewN | apply below_drew1 | refine below_set ?_ GE345.out | refine below_set ?_ GE346.out) | exact HB.out)⟩
                        · replace c35 := Bool.eq_false_iff.mpr c35
                          subst c35
                          have H1 : (if (x5_7.extract 1 x5_7.size).toList = ([] : List UInt8) then ((ancepsref11_Valid.f k3 x347000_3 0 (a0.extract 0 (x4_1 : Int).toNat)).bind fun t354 => (some (x347000_3, 0, (a0.extract 0 (x4_1 : Int).toNat), (t354 == 0)))) else (some (x347000_3, 0, (a0.extract 0 (x4_1 : Int).toNat), false))) = some (r1, r2, r3, r4) := by rw [if_neg (show ¬ (false = true) by decide)] at H; exact H
                          clear H
                          have H := H1
                          clear H1
                          by_cases c107 : (x5_7.extract 1 x5_7.size).toList = ([] : List UInt8)
                          · rw [if_pos c107] at H
                            have c107b0 : ((x5_7.extract 1 x5_7.size).toList == ([] : List UInt8)) = true := beq_iff_eq.mpr c107
                            have c107b1 : ((x5_7.extract 1 x5_7.size).toList != ([] : List UInt8)) = false := bne_eq_false_iff_eq.mpr c107
                            clear c107
                            replace H := Option.bind_eq_some_iff.mp H
                            obtain ⟨t354, A1080, H⟩ := H
                            replace H : (some (x347000_3, 0, (a0.extract 0 (x4_1 : Int).toNat), (t354 == 0))) = some (r1, r2, r3, r4) := H
                            have A108 := Aside0.mk A1080
                            clear A1080
                            simp only [Option.some.injEq, Prod.mk.injEq] at H
                            obtain ⟨rfl, rfl, rfl, rfl⟩ := H
                            try go_wp2_with (first | ((with_reducible refine gate_callee (f := 61) rfl ?_); refine goesL_ (some 36) rfl rfl Tryd.func61 (by kernel_rfl) rfl #[] rfl (by (try simp only [List.map_toArray, List.map_cons, List.map_nil]); first | done | rfl | (simp only [List.length_drop, List.length_take]; rfl)) ?_; (with_reducible refine (ancepsref11_letters.calls  t347 _ A20.out).mono ?_); rintro e w' ⟨rfl, ⟨nd, rfl⟩⟩; refine ⟨_, rfl, ?_⟩; (try (rw [drewN_self wr]; generalize hq_ : World.drewN wr _ = wr; have n0_ : Aside0 (wr.heap[gb345]? = some (.cells #[.int .i64 0, .int .i64 0, .string (⟨#[]⟩ : ByteArray)] 23 (0, 0))) := ⟨by rw [← hq_]; exact (by (with_reducible repeat (first | refine blk_drewN ?_ _ | refine blk_drew ?_ | refine blk_alloc ?_ _)); exact BK345.out)⟩; have n1_ : Aside0 (wr.heap[gb346]? = some (.cells #[.int .i64 x347000_3, .int .i64 0, .string (a0.extract 0 (x4_1 : Int).toNat)] 23 (0, 0))) := ⟨by rw [← hq_]; exact (by (with_reducible repeat (first | refine blk_drewN ?_ _ | refine blk_drew ?_ | refine blk_alloc ?_ _)); exact BK346.out)⟩; have n2_ : Aside0 (Below w.heap.size w wr) := ⟨by rw [← hq_]; exact (by repeat (first | (with_reducible first | exact HB.out | apply below_alloc | apply pw_below_drewN | apply below_drew1 | refine below_set ?_ GE345.out | refine below_set ?_ GE346.out) | exact HB.out))⟩; clear BK345 BK346 HB hq_; have BK345 := n0_; have BK346 := n1_; have HB := n2_; clear n0_ n1_ n2_)); have hnb109 := NB346_345.out; have hnc109 := NB345_346.out; have hcz110_0 : wr.cell? ⟨gb346, 0, none⟩ = some (.int .i64 x347000_3) := (blk_cell BK346.out 0).trans rfl; have hcz110_1 : wr.cell? ⟨gb346, 1, none⟩ = some (.int .i64 0) := (blk_cell BK346.out 1).trans rfl; have hcz110_2 : wr.cell? ⟨gb346, 2, none⟩ = some (.string (a0.extract 0 (x4_1 : Int).toNat)) := (blk_cell BK346.out 2).trans rfl; have hfz110_0 := blk_frozen BK346.out 0; have hfz110_1 := blk_frozen BK346.out 1; have hfz110_2 := blk_frozen BK346.out 2) | ((with_reducible refine gate_callee (f := 16) rfl ?_); refine goesL_ (some 52) rfl rfl Tryd.func16 (by kernel_rfl) rfl #[.agg #[.int .i64 x347000_3, .int .i64 0, .string (a0.extract 0 (x4_1 : Int).toNat)]] rfl (by (try simp only [List.map_toArray, List.map_cons, List.map_nil]); first | done | rfl | (simp only [List.length_drop, List.length_take]; rfl)) ?_; (with_reducible refine (ancepsref11_Nucleus.calls x347000_3 0 (a0.extract 0 (x4_1 : Int).toNat) false _ A34.out).mono ?_); rintro e w111 ⟨rfl, hb⟩; refine ⟨_, rfl, ?_⟩; have n0_ := Aside0.mk (blk_below (g := gb345) (o := .cells #[.int .i64 0, .int .i64 0, .string (⟨#[]⟩ : ByteArray)] 23 (0, 0)) (by (with_reducible repeat (first | refine blk_drewN ?_ _ | refine blk_drew ?_ | refine blk_alloc ?_ _)); exact BK345.out) hb); have n1_ := Aside0.mk (blk_below (g := gb346) (o := .cells #[.int .i64 x347000_3, .int .i64 0, .string (a0.extract 0 (x4_1 : Int).toNat)] 23 (0, 0)) (by (with_reducible repeat (first | refine blk_drewN ?_ _ | refine blk_drew ?_ | refine blk_alloc ?_ _)); exact BK346.out) hb); have n2_ := Aside0.mk (below_step (by repeat (first | (with_reducible first | exact HB.out | apply below_alloc | apply pw_below_drewN | apply below_drew1 | refine below_set ?_ GE345.out | refine below_set ?_ GE346.out) | exact HB.out)) hb); clear BK345; clear BK346; clear HB; have BK345 := n0_; have BK346 := n1_; have HB := n2_; clear n0_ n1_ n2_; (try clear hb); (try clear hb2); (try clear hk); (try clear hi)))
                            have n0_ := Aside0.mk (blk_drew BK345.out)
                            have n1_ := Aside0.mk (blk_drew BK346.out)
                            have n2_ := Aside0.mk (below_drew1 HB.out)
                            clear BK345
                            clear BK346
                            clear HB
                            have BK345 := n0_
                            have BK346 := n1_
                            have HB := n2_
                            clear n0_ n1_ n2_
                            refine start_ (n := 10) (S := fun w' => w'.cell? ⟨gb346, 0, none⟩ = some (.int .i64 x347000_3) ∧ w'.cell? ⟨gb346, 1, none⟩ = some (.int .i64 0) ∧ w'.cell? ⟨gb346, 2, none⟩ = some (.string (a0.extract 0 (x4_1 : Int).toNat))) (ds := []) #[false, false, false, false, false, false, false, false, false, false] (by kernel_rfl) rfl rfl ⟨(blk_cell BK346.out 0).trans rfl, (blk_cell BK346.out 1).trans rfl, (blk_cell BK346.out 2).trans rfl⟩ (fun hHeld => ?_); refine with_tabW ancepsref11_one.tab19 ancepsref11_one.bits19 (fun HT_ HW_ => ?_)
                            generalize w111.drew = w112 at BK345 BK346 HB hHeld ⊢
                            refine pure_ (i := 1) (N := some 74) (v := ?_) (a' := ?_) #[false, true, false, false, false, false, false, false, false, false] rfl rfl (any_of HT_.out (by kernel_rfl)) (fun _ _ _ h => h) (Or.inl ⟨by rfl, ?_⟩) ?_ ?_
                            rotate_left
                            · intro w'
                              go_simp
                              with_reducible rfl
                            rotate_left
                            · simp only [Act.put, List.setIfInBounds_toArray, List.set_cons_zero, List.set_cons_succ, i64_w, i32_w]
                              rfl
                            refine pure_ (i := 2) (N := some 75) (v := ?_) (a' := ?_) #[false, true, true, false, false, false, false, false, false, false] rfl rfl (any_of HT_.out (by kernel_rfl)) (fun _ _ _ h => h) (Or.inl ⟨by rfl, ?_⟩) ?_ ?_
                            rotate_left
                            · intro w'
                              go_simp
                              with_reducible rfl
                            rotate_left
                            · simp only [Act.put, List.setIfInBounds_toArray, List.set_cons_zero, List.set_cons_succ, i64_w, i32_w]
                              rfl
                            refine pure_ (i := 3) (N := some 76) (v := ?_) (a' := ?_) #[false, true, true, true, false, false, false, false, false, false] rfl rfl (any_of HT_.out (by kernel_rfl)) (fun _ _ _ h => h) (Or.inl ⟨by rfl, ?_⟩) ?_ ?_
                            rotate_left
                            · intro w'
                              go_simp
                              with_reducible rfl
                            rotate_left
                            · simp only [Act.put, List.setIfInBounds_toArray, List.set_cons_zero, List.set_cons_succ, i64_w, i32_w]
                              rfl
                            refine take_ (i := 0) (N := some 73) (v := ?_) (a' := ?_) #[true, true, true, true, false, false, false, false, false, false] rfl rfl (take_ofW HT_.out HW_.out (by kernel_rfl)) (fun _ _ _ h => h) (Or.inl ⟨by rfl, ?_⟩) hHeld ?_ ?_
                            rotate_left
                            · rintro w' ⟨s0, s1, s2⟩
                              go_simp
                              with_reducible rfl
                            rotate_left
                            · simp only [Act.put, List.setIfInBounds_toArray, List.set_cons_zero, List.set_cons_succ, i64_w, i32_w]
                              rfl
                            refine take_ (i := 4) (N := some 77) (v := ?_) (a' := ?_) #[true, true, true, true, true, false, false, false, false, false] rfl rfl (take_ofW HT_.out HW_.out (by kernel_rfl)) (fun _ _ _ h => h) (Or.inl ⟨by rfl, ?_⟩) hHeld ?_ ?_
                            rotate_left
                            · rintro w' ⟨s0, s1, s2⟩
                              go_simp
                              with_reducible rfl
                            rotate_left
                            · simp only [Act.put, List.setIfInBounds_toArray, List.set_cons_zero, List.set_cons_succ, i64_w, i32_w]
                              rfl
                            refine one_ (i := 5) (N := some 78) #[true, true, true, true, true, true, false, false, false, false] rfl rfl (one_of HT_.out (by kernel_rfl)) (by decide) (fun K hK => ?_)
                            refine goes_ Tryd.func14 (by kernel_rfl) rfl #[.agg #[.int .i64 x347000_3, .int .i64 0, .string (a0.extract 0 (x4_1 : Int).toNat)]] (by rfl) rfl rfl (by (try simp only [List.map_toArray, List.map_cons, List.map_nil]); first | done | rfl | (simp only [List.length_drop, List.length_take]; rfl)) ?_
                            with_reducible refine (ancepsref11_Valid.calls k3 x347000_3 0 (a0.extract 0 (x4_1 : Int).toNat) t354 _ A108.out).mono ?_
                            rintro e w113 ⟨rfl, hb⟩
                            refine ⟨_, rfl, ?_⟩
                            have n0_ := Aside0.mk (blk_below (g := gb345) (o := .cells #[.int .i64 0, .int .i64 0, .string (⟨#[]⟩ : ByteArray)] 23 (0, 0)) (by (with_reducible repeat (first | refine blk_drewN ?_ _ | refine blk_drew ?_ | refine blk_alloc ?_ _)); exact BK345.out) hb)
                            have n1_ := Aside0.mk (blk_below (g := gb346) (o := .cells #[.int .i64 x347000_3, .int .i64 0, .string (a0.extract 0 (x4_1 : Int).toNat)] 23 (0, 0)) (by (with_reducible repeat (first | refine blk_drewN ?_ _ | refine blk_drew ?_ | refine blk_alloc ?_ _)); exact BK346.out) hb)
                            have n2_ := Aside0.mk (below_step (by repeat (first | (with_reducible first | exact HB.out | apply below_alloc | apply pw_below_drewN | apply below_drew1 | refine below_set ?_ GE345.out | refine below_set ?_ GE346.out) | exact HB.out)) hb)
                            clear BK345
                            clear BK346
                            clear HB
                            have BK345 := n0_
                            have BK346 := n1_
                            have HB := n2_
                            clear n0_ n1_ n2_
                            (try clear hb)
                            (try clear hb2)
                            (try clear hk)
                            (try clear hi)
                            refine hK.out _ _ ⟨(blk_cell BK346.out 0).trans rfl, (blk_cell BK346.out 1).trans rfl, (blk_cell BK346.out 2).trans rfl⟩ (fun hHeld => ?_)
                            clear hK K
                            refine norm_ (a' := ?_) ?_ ?_
                            rotate_left
                            · show Act.put _ (some 78) _ = _
                              simp only [Act.put, List.setIfInBounds_toArray, List.set_cons_zero, List.set_cons_succ, i64_w, i32_w]
                              rfl
                            refine pure_ (i := 6) (N := some 79) (v := ?_) (a' := ?_) #[true, true, true, true, true, true, true, false, false, false] rfl rfl (any_of HT_.out (by kernel_rfl)) (fun _ _ _ h => h) (Or.inl ⟨by rfl, ?_⟩) ?_ ?_
                            rotate_left
                            · intro w'
                              go_simp
                              with_reducible rfl
                            rotate_left
                            · simp only [Act.put, List.setIfInBounds_toArray, List.set_cons_zero, List.set_cons_succ, i64_w, i32_w]
                              rfl
                            refine pure_ (i := 7) (N := some 80) (v := ?_) (a' := ?_) #[true, true, true, true, true, true, true, true, false, false] rfl rfl (any_of HT_.out (by kernel_rfl)) (fun _ _ _ h => h) (Or.inl ⟨by rfl, ?_⟩) ?_ ?_
                            rotate_left
                            · intro w'
                              go_simp
                              with_reducible rfl
                            rotate_left
                            · simp only [Act.put, List.setIfInBounds_toArray, List.set_cons_zero, List.set_cons_succ, i64_w, i32_w]
                              rfl
                            refine one_ (i := 8) (N := none) #[true, true, true, true, true, true, true, true, true, false] rfl rfl (one_of HT_.out (by kernel_rfl)) (by decide) (fun K hK => ?_)
                            have hs114 : w113.cell? ⟨gb345, 0, none⟩ = some (.int .i64 0) := (blk_cell BK345.out 0).trans rfl
                            have hfs114 := blk_frozen BK345.out 0
                            have hns114_1 := NB346_345.out
                            have hms114_1 := NB345_346.out
                            have hs115 : w113.cell? ⟨gb345, 1, none⟩ = some (.int .i64 0) := (blk_cell BK345.out 1).trans rfl
                            have hfs115 := blk_frozen BK345.out 1
                            have hns115_1 := NB346_345.out
                            have hms115_1 := NB345_346.out
                            have hs116 : w113.cell? ⟨gb345, 2, none⟩ = some (.string (⟨#[]⟩ : ByteArray)) := (blk_cell BK345.out 2).trans rfl
                            have hfs116 := blk_frozen BK345.out 2
                            have hns116_1 := NB346_345.out
                            have hms116_1 := NB345_346.out
                            refine skip_ (w1 := ?_) (by rfl) rfl ?_ ?_
                            rotate_left
                            · go_simp
                              rfl
                            refine hK.out _ _ ⟨((cell_far (p := ⟨gb345, _, none⟩) NB346_345.out _).trans (((cell_far (p := ⟨gb345, _, none⟩) NB346_345.out _).trans (((cell_far (p := ⟨gb345, _, none⟩) NB346_345.out _).trans (hHeld.1)))))), ((cell_far (p := ⟨gb345, _, none⟩) NB346_345.out _).trans (((cell_far (p := ⟨gb345, _, none⟩) NB346_345.out _).trans (((cell_far (p := ⟨gb345, _, none⟩) NB346_345.out _).trans (hHeld.2.1)))))), ((cell_far (p := ⟨gb345, _, none⟩) NB346_345.out _).trans (((cell_far (p := ⟨gb345, _, none⟩) NB346_345.out _).trans (((cell_far (p := ⟨gb345, _, none⟩) NB346_345.out _).trans (hHeld.2.2))))))⟩ (fun hHeld => ?_)
                            clear hK K
                            refine pure_ (i := 9) (N := some 3) (v := ?_) (a' := ?_) #[true, true, true, true, true, true, true, true, true, true] rfl rfl (any_of HT_.out (by kernel_rfl)) (fun _ _ _ h => h) (Or.inl ⟨by rfl, ?_⟩) ?_ ?_
                            rotate_left
                            · intro w'
                              go_simp
                              with_reducible rfl
                            rotate_left
                            · simp only [Act.put, List.setIfInBounds_toArray, List.set_cons_zero, List.set_cons_succ, i64_w, i32_w]
                              rfl
                            refine done_ (done_of HT_.out (by kernel_rfl)) ?_
                            try go_wp2
                            refine bodyPost_ret (results_ct rfl _ _ gb345 23 #[.int .i64 x347000_3, .int .i64 0, .string (a0.extract 0 (x4_1 : Int).toNat)] (0, 0) _ rfl (by (with_reducible repeat (first | refine blk_drewN ?_ _ | refine blk_drew ?_ | refine blk_alloc ?_ _)); refine blk_put (cs := #[.int .i64 x347000_3, .int .i64 0, .string (⟨#[]⟩ : ByteArray)]) ?_ 2 _ rfl; (with_reducible repeat (first | refine blk_drewN ?_ _ | refine blk_drew ?_ | refine blk_alloc ?_ _)); refine blk_put (cs := #[.int .i64 x347000_3, .int .i64 0, .string (⟨#[]⟩ : ByteArray)]) ?_ 1 _ rfl; (with_reducible repeat (first | refine blk_drewN ?_ _ | refine blk_drew ?_ | refine blk_alloc ?_ _)); refine blk_put (cs := #[.int .i64 0, .int .i64 0, .string (⟨#[]⟩ : ByteArray)]) ?_ 0 _ rfl; (with_reducible repeat (first | refine blk_drewN ?_ _ | refine blk_drew ?_ | refine blk_alloc ?_ _)); exact BK345.out) Tryd.underlying23 rfl (by kernel_rfl)) rfl ?_
                            exact ⟨by first | rfl | (simp [errW_none, errW_some] <;> rfl) | (simp [*, errW_none, errW_some] <;> rfl), by repeat (first | (with_reducible first | exact HB.out | apply below_alloc | apply pw_below_drewN | apply below_drew1 | refine below_set ?_ GE345.out | refine below_set ?_ GE346.out) | exact HB.out)⟩
                          · rw [if_neg c107] at H
                            have c107b0 : ((x5_7.extract 1 x5_7.size).toList == ([] : List UInt8)) = false := beq_eq_false_iff_ne.mpr c107
                            have c107b1 : ((x5_7.extract 1 x5_7.size).toList != ([] : List UInt8)) = true := bne_iff_ne.mpr c107
                            simp only [Option.some.injEq, Prod.mk.injEq] at H
                            obtain ⟨rfl, rfl, rfl, rfl⟩ := H
                            try go_wp2_with (first | ((with_reducible refine gate_callee (f := 61) rfl ?_); refine goesL_ (some 36) rfl rfl Tryd.func61 (by kernel_rfl) rfl #[] rfl (by (try simp only [List.map_toArray, List.map_cons, List.map_nil]); first | done | rfl | (simp only [List.length_drop, List.length_take]; rfl)) ?_; (with_reducible refine (ancepsref11_letters.calls  t347 _ A20.out).mono ?_); rintro e w' ⟨rfl, ⟨nd, rfl⟩⟩; refine ⟨_, rfl, ?_⟩; (try (rw [drewN_self wr]; generalize hq_ : World.drewN wr _ = wr; have n0_ : Aside0 (wr.heap[gb345]? = some (.cells #[.int .i64 0, .int .i64 0, .string (⟨#[]⟩ : ByteArray)] 23 (0, 0))) := ⟨by rw [← hq_]; exact (by (with_reducible repeat (first | refine blk_drewN ?_ _ | refine blk_drew ?_ | refine blk_alloc ?_ _)); exact BK345.out)⟩; have n1_ : Aside0 (wr.heap[gb346]? = some (.cells #[.int .i64 x347000_3, .int .i64 0, .string (a0.extract 0 (x4_1 : Int).toNat)] 23 (0, 0))) := ⟨by rw [← hq_]; exact (by (with_reducible repeat (first | refine blk_drewN ?_ _ | refine blk_drew ?_ | refine blk_alloc ?_ _)); exact BK346.out)⟩; have n2_ : Aside0 (Below w.heap.size w wr) := ⟨by rw [← hq_]; exact (by repeat (first | (with_reducible first | exact HB.out | apply below_alloc | apply pw_below_drewN | apply below_drew1 | refine below_set ?_ GE345.out | refine below_set ?_ GE346.out) | exact HB.out))⟩; clear BK345 BK346 HB hq_; have BK345 := n0_; have BK346 := n1_; have HB := n2_; clear n0_ n1_ n2_)); have hnb117 := NB346_345.out; have hnc117 := NB345_346.out; have hcz118_0 : wr.cell? ⟨gb346, 0, none⟩ = some (.int .i64 x347000_3) := (blk_cell BK346.out 0).trans rfl; have hcz118_1 : wr.cell? ⟨gb346, 1, none⟩ = some (.int .i64 0) := (blk_cell BK346.out 1).trans rfl; have hcz118_2 : wr.cell? ⟨gb346, 2, none⟩ = some (.string (a0.extract 0 (x4_1 : Int).toNat)) := (blk_cell BK346.out 2).trans rfl; have hfz118_0 := blk_frozen BK346.out 0; have hfz118_1 := blk_frozen BK346.out 1; have hfz118_2 := blk_frozen BK346.out 2) | ((with_reducible refine gate_callee (f := 16) rfl ?_); refine goesL_ (some 52) rfl rfl Tryd.func16 (by kernel_rfl) rfl #[.agg #[.int .i64 x347000_3, .int .i64 0, .string (a0.extract 0 (x4_1 : Int).toNat)]] rfl (by (try simp only [List.map_toArray, List.map_cons, List.map_nil]); first | done | rfl | (simp only [List.length_drop, List.length_take]; rfl)) ?_; (with_reducible refine (ancepsref11_Nucleus.calls x347000_3 0 (a0.extract 0 (x4_1 : Int).toNat) false _ A34.out).mono ?_); rintro e w119 ⟨rfl, hb⟩; refine ⟨_, rfl, ?_⟩; have n0_ := Aside0.mk (blk_below (g := gb345) (o := .cells #[.int .i64 0, .int .i64 0, .string (⟨#[]⟩ : ByteArray)] 23 (0, 0)) (by (with_reducible repeat (first | refine blk_drewN ?_ _ | refine blk_drew ?_ | refine blk_alloc ?_ _)); exact BK345.out) hb); have n1_ := Aside0.mk (blk_below (g := gb346) (o := .cells #[.int .i64 x347000_3, .int .i64 0, .string (a0.extract 0 (x4_1 : Int).toNat)] 23 (0, 0)) (by (with_reducible repeat (first | refine blk_drewN ?_ _ | refine blk_drew ?_ | refine blk_alloc ?_ _)); exact BK346.out) hb); have n2_ := Aside0.mk (below_step (by repeat (first | (with_reducible first | exact HB.out | apply below_alloc | apply pw_below_drewN | apply below_drew1 | refine below_set ?_ GE345.out | refine below_set ?_ GE346.out) | exact HB.out)) hb); clear BK345; clear BK346; clear HB; have BK345 := n0_; have BK346 := n1_; have HB := n2_; clear n0_ n1_ n2_; (try clear hb); (try clear hb2); (try clear hk); (try clear hi)))
                            have n0_ := Aside0.mk (blk_drew BK345.out)
                            have n1_ := Aside0.mk (blk_drew BK346.out)
                            have n2_ := Aside0.mk (below_drew1 HB.out)
                            clear BK345
                            clear BK346
                            clear HB
                            have BK345 := n0_
                            have BK346 := n1_
                            have HB := n2_
                            clear n0_ n1_ n2_
                            refine start_ (n := 10) (S := fun w' => w'.cell? ⟨gb346, 0, none⟩ = some (.int .i64 x347000_3) ∧ w'.cell? ⟨gb346, 1, none⟩ = some (.int .i64 0) ∧ w'.cell? ⟨gb346, 2, none⟩ = some (.string (a0.extract 0 (x4_1 : Int).toNat))) (ds := []) #[false, false, false, false, false, false, false, false, false, false] (by kernel_rfl) rfl rfl ⟨(blk_cell BK346.out 0).trans rfl, (blk_cell BK346.out 1).trans rfl, (blk_cell BK346.out 2).trans rfl⟩ (fun hHeld => ?_); refine with_tabW ancepsref11_one.tab19 ancepsref11_one.bits19 (fun HT_ HW_ => ?_)
                            generalize w119.drew = w120 at BK345 BK346 HB hHeld ⊢
                            refine pure_ (i := 1) (N := some 74) (v := ?_) (a' := ?_) #[false, true, false, false, false, false, false, false, false, false] rfl rfl (any_of HT_.out (by kernel_rfl)) (fun _ _ _ h => h) (Or.inl ⟨by rfl, ?_⟩) ?_ ?_
                            rotate_left
                            · intro w'
                              go_simp
                              with_reducible rfl
                            rotate_left
                            · simp only [Act.put, List.setIfInBounds_toArray, List.set_cons_zero, List.set_cons_succ, i64_w, i32_w]
                              rfl
                            refine pure_ (i := 2) (N := some 75) (v := ?_) (a' := ?_) #[false, true, true, false, false, false, false, false, false, false] rfl rfl (any_of HT_.out (by kernel_rfl)) (fun _ _ _ h => h) (Or.inl ⟨by rfl, ?_⟩) ?_ ?_
                            rotate_left
                            · intro w'
                              go_simp
                              with_reducible rfl
                            rotate_left
                            · simp only [Act.put, List.setIfInBounds_toArray, List.set_cons_zero, List.set_cons_succ, i64_w, i32_w]
                              rfl
                            refine pure_ (i := 3) (N := some 76) (v := ?_) (a' := ?_) #[false, true, true, true, false, false, false, false, false, false] rfl rfl (any_of HT_.out (by kernel_rfl)) (fun _ _ _ h => h) (Or.inl ⟨by rfl, ?_⟩) ?_ ?_
                            rotate_left
                            · intro w'
                              go_simp
                              with_reducible rfl
                            rotate_left
                            · simp only [Act.put, List.setIfInBounds_toArray, List.set_cons_zero, List.set_cons_succ, i64_w, i32_w]
                              rfl
                            refine pure_ (i := 4) (N := some 77) (v := undef) (a' := ?_) #[false, true, true, true, true, false, false, false, false, false] rfl rfl (any_of HT_.out (by kernel_rfl)) (fun _ _ _ h => h) (Or.inr ⟨by rfl, rfl⟩) ?_ ?_
                            rotate_left
                            · simp only [Act.put, List.setIfInBounds_toArray, List.set_cons_zero, List.set_cons_succ, i64_w, i32_w]
                              rfl
                            refine pure_ (i := 5) (N := some 78) (v := undef) (a' := ?_) #[false, true, true, true, true, true, false, false, false, false] rfl rfl (any_of HT_.out (by kernel_rfl)) (fun _ _ _ h => h) (Or.inr ⟨by rfl, rfl⟩) ?_ ?_
                            rotate_left
                            · simp only [Act.put, List.setIfInBounds_toArray, List.set_cons_zero, List.set_cons_succ, i64_w, i32_w]
                              rfl
                            refine pure_ (i := 6) (N := some 79) (v := undef) (a' := ?_) #[false, true, true, true, true, true, true, false, false, false] rfl rfl (any_of HT_.out (by kernel_rfl)) (fun _ _ _ h => h) (Or.inr ⟨by rfl, rfl⟩) ?_ ?_
                            rotate_left
                            · simp only [Act.put, List.setIfInBounds_toArray, List.set_cons_zero, List.set_cons_succ, i64_w, i32_w]
                              rfl
                            refine pure_ (i := 7) (N := some 80) (v := ?_) (a' := ?_) #[false, true, true, true, true, true, true, true, false, false] rfl rfl (any_of HT_.out (by kernel_rfl)) (fun _ _ _ h => h) (Or.inl ⟨by rfl, ?_⟩) ?_ ?_
                            rotate_left
                            · intro w'
                              go_simp
                              with_reducible rfl
                            rotate_left
                            · simp only [Act.put, List.setIfInBounds_toArray, List.set_cons_zero, List.set_cons_succ, i64_w, i32_w]
                              rfl
                            refine take_ (i := 0) (N := some 73) (v := ?_) (a' := ?_) #[true, true, true, true, true, true, true, true, false, false] rfl rfl (take_ofW HT_.out HW_.out (by kernel_rfl)) (fun _ _ _ h => h) (Or.inl ⟨by rfl, ?_⟩) hHeld ?_ ?_
                            rotate_left
                            · rintro w' ⟨s0, s1, s2⟩
                              go_simp
                              with_reducible rfl
                            rotate_left
                            · simp only [Act.put, List.setIfInBounds_toArray, List.set_cons_zero, List.set_cons_succ, i64_w, i32_w]
                              rfl
                            refine one_ (i := 8) (N := none) #[true, true, true, true, true, true, true, true, true, false] rfl rfl (one_of HT_.out (by kernel_rfl)) (by decide) (fun K hK => ?_)
                            have hs121 : w120.cell? ⟨gb345, 0, none⟩ = some (.int .i64 0) := (blk_cell BK345.out 0).trans rfl
                            have hfs121 := blk_frozen BK345.out 0
                            have hns121_1 := NB346_345.out
                            have hms121_1 := NB345_346.out
                            have hs122 : w120.cell? ⟨gb345, 1, none⟩ = some (.int .i64 0) := (blk_cell BK345.out 1).trans rfl
                            have hfs122 := blk_frozen BK345.out 1
                            have hns122_1 := NB346_345.out
                            have hms122_1 := NB345_346.out
                            have hs123 : w120.cell? ⟨gb345, 2, none⟩ = some (.string (⟨#[]⟩ : ByteArray)) := (blk_cell BK345.out 2).trans rfl
                            have hfs123 := blk_frozen BK345.out 2
                            have hns123_1 := NB346_345.out
                            have hms123_1 := NB345_346.out
                            refine skip_ (w1 := ?_) (by rfl) rfl ?_ ?_
                            rotate_left
                            · go_simp
                              rfl
                            refine hK.out _ _ ⟨((cell_far (p := ⟨gb345, _, none⟩) NB346_345.out _).trans (((cell_far (p := ⟨gb345, _, none⟩) NB346_345.out _).trans (((cell_far (p := ⟨gb345, _, none⟩) NB346_345.out _).trans (hHeld.1)))))), ((cell_far (p := ⟨gb345, _, none⟩) NB346_345.out _).trans (((cell_far (p := ⟨gb345, _, none⟩) NB346_345.out _).trans (((cell_far (p := ⟨gb345, _, none⟩) NB346_345.out _).trans (hHeld.2.1)))))), ((cell_far (p := ⟨gb345, _, none⟩) NB346_345.out _).trans (((cell_far (p := ⟨gb345, _, none⟩) NB346_345.out _).trans (((cell_far (p := ⟨gb345, _, none⟩) NB346_345.out _).trans (hHeld.2.2))))))⟩ (fun hHeld => ?_)
                            clear hK K
                            refine pure_ (i := 9) (N := some 3) (v := ?_) (a' := ?_) #[true, true, true, true, true, true, true, true, true, true] rfl rfl (any_of HT_.out (by kernel_rfl)) (fun _ _ _ h => h) (Or.inl ⟨by rfl, ?_⟩) ?_ ?_
                            rotate_left
                            · intro w'
                              go_simp
                              with_reducible rfl
                            rotate_left
                            · simp only [Act.put, List.setIfInBounds_toArray, List.set_cons_zero, List.set_cons_succ, i64_w, i32_w]
                              rfl
                            refine done_ (done_of HT_.out (by kernel_rfl)) ?_
                            try go_wp2
                            refine bodyPost_ret (results_ct rfl _ _ gb345 23 #[.int .i64 x347000_3, .int .i64 0, .string (a0.extract 0 (x4_1 : Int).toNat)] (0, 0) _ rfl (by (with_reducible repeat (first | refine blk_drewN ?_ _ | refine blk_drew ?_ | refine blk_alloc ?_ _)); refine blk_put (cs := #[.int .i64 x347000_3, .int .i64 0, .string (⟨#[]⟩ : ByteArray)]) ?_ 2 _ rfl; (with_reducible repeat (first | refine blk_drewN ?_ _ | refine blk_drew ?_ | refine blk_alloc ?_ _)); refine blk_put (cs := #[.int .i64 x347000_3, .int .i64 0, .string (⟨#[]⟩ : ByteArray)]) ?_ 1 _ rfl; (with_reducible repeat (first | refine blk_drewN ?_ _ | refine blk_drew ?_ | refine blk_alloc ?_ _)); refine blk_put (cs := #[.int .i64 0, .int .i64 0, .string (⟨#[]⟩ : ByteArray)]) ?_ 0 _ rfl; (with_reducible repeat (first | refine blk_drewN ?_ _ | refine blk_drew ?_ | refine blk_alloc ?_ _)); exact BK345.out) Tryd.underlying23 rfl (by kernel_rfl)) rfl ?_
                            exact ⟨by first | rfl | (simp [errW_none, errW_some] <;> rfl) | (simp [*, errW_none, errW_some] <;> rfl), by repeat (first | (with_reducible first | exact HB.out | apply below_alloc | apply pw_below_drewN | apply below_drew1 | refine below_set ?_ GE345.out | refine below_set ?_ GE346.out) | exact HB.out)⟩
                      · rw [if_neg c33] at H
                        exact absurd H (by simp)
              · rw [if_neg c16] at H
                exact absurd H (by simp)
            · rw [if_neg c15] at H
              exact absurd H (by simp)

end Go.Proofs.YtnjiniegpjfemaaDoor.X
